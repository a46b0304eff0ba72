/- What the proof of JsonApart stands on, part 4: cut and merged by a program out of this session's texts. -/
import Derived.Test.YthhmmaihbjhhgaaDoorKP3
import Derived.Test.YthhmmaihbjhhgaaDoorProg
import Derived.Below
import Derived.Deep.Draws
import Derived.Deep.AppendLies
import Derived.Maps.AppendAt
import Derived.OwnWalk
import Derived.Laws.BytesArg
import Derived.Laws.MakeOwn
import Derived.Laws.OwnMore
import Derived.Deep.OwnRows
import Derived.Tactics
import Derived.Lib.ConvBytes
import Derived.Laws.Slices
import Derived.WalkKit
import Derived.KernelRfl
import Derived.RowKit3
import Derived.Deep.LoopGhost
import Derived.Deep.QuietTactic
import Derived.BigQuiet
import Derived.WideLaws
import Derived.Deep.DeepCutAuto
import Derived.Deep.CutBlock
import Derived.Deep.RegionHeld3
import Derived.Laws.Rows
import Derived.Lib.AppendStr
import Derived.ArgAppend
import Derived.Laws.IdiomCopy
import Derived.OrdersHeld
import Derived.Laws.BitsLemmas
import Derived.RowKit
import Derived.Lib.FrozenHead2
import Derived.Lib.OthersKept
import Derived.Lib.AppendZeros
set_option linter.unusedVariables false
set_option linter.unusedSimpArgs false
namespace Go.Proofs.YthhmmaihbjhhgaaDoor.Giv
open Go.RowKit Go.Proofs.YthhmmaihbjhhgaaDoorW.PrintWords Go.Proofs.YthhmmaihbjhhgaaDoorW.PrintLast Go.Proofs.YthhmmaihbjhhgaaDoorW.PrintMore
open Go.Proofs.YthhmmaihbjhhgaaDoor.U1 Go.Proofs.YthhmmaihbjhhgaaDoor.Q1 Go.Proofs.YthhmmaihbjhhgaaDoor.J0 Go.Proofs.YthhmmaihbjhhgaaDoor.J1
set_option maxHeartbeats 8000000 in
set_option maxRecDepth 100000 in
theorem members_shut (w0 W : World) (g : Nat) (s : ByteArray) (p : Nat) (v : Value) (out : List S59) (x : S59) (e : Nat) (hR : Rd W g s p v) (hO : Out w0 W g v out) (hB : Below w0.heap.size w0 W) (hg : w0.heap.size ≤ g) (hp : p ≤ s.size) (hs : s.size ≤ 4611686018427387904)
    (ht : (takesP s p e).1 = true) :
    Calls Tryd.prog 87 #[.pointer (some ⟨g, 0, none⟩), itemV x, .int .u8 (e : Int)] W fun ev W' => ev = .returned (.int .i64 0) ∧ Left w0 W W' g s (takesP s p e).2 v out := by
  have HR := Aside0.mk hR
  have HO := Aside0.mk hO
  have HB := Aside0.mk hB
  have HG := Aside0.mk hg
  have HS := Aside0.mk hs
  have HPs := Aside0.mk hp
  clear hR hB hg hs hO hp
  unfold itemV
  go_enter Tryd.func87, Tryd.ntmps87
  go_wp2_with fail
  obtain ⟨b, hb⟩ : ∃ b, W.heap.size = b := ⟨_, rfl⟩
  have HM := Aside0.mk (MS.start (x := x) (W.alloc (.cells #[.int .i64 x.f0, .int .i64 x.f1, .string x.f2, .string x.f3, .int .i64 x.f4] 59)) HR.out HO.out HB.out HG.out hb rfl)
  rw [hb]
  generalize W.alloc (.cells #[.int .i64 x.f0, .int .i64 x.f1, .string x.f2, .string x.f3, .int .i64 x.f4] 59) = W1 at HM ⊢
  clear hb HR HO HB
  go_wp2_with (go_at_call 101; refine (takes_calls w0 W1 g s p v e HM.out.rd HM.out.below HG.out HPs.out HS.out).mono ?_; rintro ev w1 ⟨rfl, hR1, hB1, hK1⟩; have HM1 := Aside0.mk (HM.out.quiet hR1 hB1 hK1); clear hR1 hB1 hK1)
  go_ret
  exact ⟨rfl, HM1.out.left⟩
theorem members_calls (w0 : World) (g : Nat) (s : ByteArray) (k : Nat) (hg : w0.heap.size ≤ g) (hs : s.size ≤ 4611686018427387904) (hj : JTabs w0) (hIH : ∀ j, j < k → VC w0 g s j)
    (W : World) (p : Nat) (v : Value) (out : List S59) (x : S59) (e : Nat) (r : Res) (h : membersF k s p out x e = some r) (hR : Rd W g s p v) (hO : Out w0 W g v out) (hB : Below w0.heap.size w0 W) (hp : p ≤ s.size) :
    Calls Tryd.prog 87 #[.pointer (some ⟨g, 0, none⟩), itemV x, .int .u8 (e : Int)] W fun ev W' => ev = .returned (.int .i64 r.1) ∧ Left w0 W W' g s r.2.1 v r.2.2 := by
  cases k with
  | zero => simp [membersF] at h
  | succ k =>
    rw [membersF] at h
    by_cases ht : (takesP s p e).1 = true
    · rw [if_pos ht] at h
      cases h
      exact members_shut w0 W g s p v _ x e hR hO hB hg hp hs ht
    · rw [if_neg ht] at h
      exact members_loop w0 W g s p v out x e k r hR hO hB hg hp hs hj (fun j hjk => hIH j (by omega)) (Bool.eq_false_iff.2 ht) h
theorem value_calls (w0 : World) (g : Nat) (s : ByteArray) (hg : w0.heap.size ≤ g) (hs : s.size ≤ 4611686018427387904) (hj : JTabs w0) : ∀ k, VC w0 g s k := by
  intro k
  induction k using Nat.strongRecOn with
  | _ k ih =>
    intro W p v out x r h hR hO hB hp
    cases k with
    | zero => simp [valueF] at h
    | succ k =>
      have hM := fun (W1 : World) (p1 : Nat) (v1 : Value) (o1 : List S59) (y : S59) (e : Nat) (r1 : Res) (h1 : membersF k s p1 o1 y e = some r1) (hR1 : Rd W1 g s p1 v1) (hO1 : Out w0 W1 g v1 o1) (hB1 : Below w0.heap.size w0 W1) (hp1 : p1 ≤ s.size) =>
        members_calls w0 g s k hg hs hj (fun j hjk => ih j (by omega)) W1 p1 v1 o1 y e r1 h1 hR1 hO1 hB1 hp1
      rw [valueF] at h
      by_cases h91 : nextC s p = 91
      · rw [if_pos h91] at h
        by_cases hd : 64 ≤ x.f0
        · rw [if_pos hd] at h
          cases h
          exact value_deep91 w0 W g s p v _ x hR hO hB hg hp hs hj h91 hd
        · rw [if_neg hd] at h
          by_cases hl : (out.length + 1) * 56 ≤ 140737488355328 ∧ skipP s p < s.size
          · rw [if_pos hl] at h
            exact value_open91 w0 W g s p v out x hR hO hB hg hp hs hj h91 (by omega) hl.1 hl.2 r.1 r.2.1 r.2.2 (fun W1 v1 a b c => hM W1 _ v1 _ _ 93 r h a b c (by omega))
          · rw [if_neg hl] at h; cases h
      · rw [if_neg h91] at h
        by_cases h123 : nextC s p = 123
        · rw [if_pos h123] at h
          by_cases hd : 64 ≤ x.f0
          · rw [if_pos hd] at h
            cases h
            exact value_deep123 w0 W g s p v _ x hR hO hB hg hp hs hj h123 hd
          · rw [if_neg hd] at h
            by_cases hl : (out.length + 1) * 56 ≤ 140737488355328 ∧ skipP s p < s.size
            · rw [if_pos hl] at h
              exact value_open123 w0 W g s p v out x hR hO hB hg hp hs hj h123 (by omega) hl.1 hl.2 r.1 r.2.1 r.2.2 (fun W1 v1 a b c => hM W1 _ v1 _ _ 125 r h a b c (by omega))
            · rw [if_neg hl] at h; cases h
        · rw [if_neg h123] at h
          by_cases h34 : nextC s p = 34
          · rw [if_pos h34] at h
            obtain ⟨⟨t, m1, er⟩, hq, h⟩ := Option.bind_eq_some_iff.1 h
            simp only at h
            by_cases hl : 0 ≤ m1 ∧ (skipP s p : Int) + m1 ≤ s.size ∧ (out.length + 1) * 56 ≤ 140737488355328
            · rw [if_pos hl] at h
              obtain ⟨m, rfl⟩ : ∃ m : Nat, m1 = m := ⟨m1.toNat, by omega⟩
              rw [Int.toNat_natCast] at h
              by_cases he : er = 0
              · rw [if_pos he] at h
                subst he
                cases h
                exact value_text w0 W g s p v out x hR hO hB hg hp hs hj hl.2.2 k t m h34 hq (by omega)
              · rw [if_neg he] at h
                cases h
                exact value_text_err w0 W g s p v _ x hR hO hB hg hp hs hj k t m er h34 hq (by omega) he
            · rw [if_neg hl] at h; cases h
          · rw [if_neg h34] at h
            by_cases hl : (out.length + 1) * 56 ≤ 140737488355328
            · rw [if_pos hl] at h
              by_cases hn : nextC s p = 45 ∨ (48 ≤ nextC s p ∧ nextC s p ≤ 57)
              · rw [if_pos hn] at h
                obtain ⟨⟨n, er, q⟩, hN⟩ : ∃ y, numberS s (skipP s p) = y := ⟨_, rfl⟩
                rw [hN] at h
                simp only at h
                by_cases he : er = 0
                · rw [if_pos he] at h
                  subst he
                  cases h
                  rcases hn with hn | hn
                  · exact value_num_a w0 W g s p v out x hR hO hB hg hp hs hj hl n q hn hN
                  · exact value_num_b w0 W g s p v out x hR hO hB hg hp hs hj hl n q hn hN
                · rw [if_neg he] at h
                  cases h
                  rcases hn with hn | hn
                  · exact value_num_err_a w0 W g s p v _ x hR hO hB hg hp hs hj n er q hn hN he
                  · exact value_num_err_b w0 W g s p v _ x hR hO hB hg hp hs hj n er q hn hN he
              · rw [if_neg hn] at h
                cases h
                by_cases h48 : nextC s p < 48
                · exact value_word1 w0 W g s p v out x hR hO hB hg hp hs hj hl h91 h123 h34 (by omega) h48
                · exact value_word2 w0 W g s p v out x hR hO hB hg hp hs hj hl h91 h123 h34 (by omega) (by omega)
            · rw [if_neg hl] at h; cases h
def z0 : S59 := ⟨0, 0, ⟨#[]⟩, ⟨#[]⟩, 0⟩
def json_Parse.f (k : Nat) (s : ByteArray) : Option (List S59 × Int) := if s.size ≤ 4611686018427387904 then (valueF k s 0 [] z0).bind fun r => if r.2.1 ≤ s.size then (if r.1 = 0 then (if skipP s r.2.1 < s.size then some ([], 80) else some (r.2.2, 0)) else some ([], r.1)) else none else none
set_option maxHeartbeats 8000000 in
set_option maxRecDepth 100000 in
theorem parse_err (k : Nat) (s : ByteArray) (er : Int) (q : Nat) (out : List S59) (w : World) (ht : JTabs w) (hs : s.size ≤ 4611686018427387904) (h : valueF k s 0 [] z0 = some (er, q, out)) (he : er ≠ 0) :
    Calls Tryd.prog 46 #[.string s] w fun e w' => ∃ v0_ : Value, e = .returned (.tuple #[v0_, .int .i64 er]) ∧ Kd.R k59 59 w' w.heap.size (fun _ => True) v0_ [] ∧ Below w.heap.size w w' := by
  have JT := Aside0.mk ht
  have HS := Aside0.mk hs
  have FV := Aside0.mk h
  have hmf : ∀ (fn : Fn) (first cap : Array Value) (w : World), (Instr.makeFunc fn first cap).run Tryd.prog w = .ok (.func fn first cap) w := fun _ _ _ _ => rfl
  have n1 : (er == 0) = false := beq_eq_false_iff_ne.mpr he
  have n2 : (er != 0) = true := bne_iff_ne.mpr he
  clear he h hs ht
  go_enter Tryd.func46, Tryd.ntmps46
  go_wp2_with fail
  have HR : Aside0 (Rd (w.alloc (.cells #[.string s, .int .i64 0, .slice none 0 0] 94)) w.heap.size s 0 (.slice none 0 0)) := ⟨heap_alloc_new _ _⟩
  have HB : Aside0 (Below w.heap.size w (w.alloc (.cells #[.string s, .int .i64 0, .slice none 0 0] 94))) := ⟨below_alloc (Below.refl _ _) _⟩
  obtain ⟨g, hg⟩ : ∃ g, w.heap.size = g := ⟨_, rfl⟩
  have HG : Aside0 (w.heap.size ≤ g) := ⟨by omega⟩
  generalize w.alloc (.cells #[.string s, .int .i64 0, .slice none 0 0] 94) = w1 at HR HB ⊢
  have HR : Aside0 (Rd w1 g s 0 (.slice none 0 0)) := ⟨by rw [← hg]; exact HR.out⟩
  rw [show (({ block := w.heap.size, off := 0 } : Addr)) = { block := g, off := 0 } by rw [hg]]
  clear hg
  go_wp2_with (first
    | (go_at_call 69; refine (value_calls w g s HG.out HS.out JT.out k w1 0 (.slice none 0 0) [] z0 _ FV.out HR.out (Kd.R_nil _ _ _ _ _) HB.out (Nat.zero_le _)).mono ?_; rintro e w2 ⟨rfl, ⟨v2, hR2, hO2, hA2⟩, hB2, hK2⟩; obtain ⟨A2, c2, rfl⟩ := Kd.R_slice hO2; have HR2 := Aside0.mk hR2; have HO2 := Aside0.mk hO2; have HB2 := Aside0.mk hB2; clear hR2 hO2 hA2 hB2 hK2))
  go_ret2
  exact ⟨_, rfl, Kd.R_nil _ _ _ _ _, HB2.out⟩
set_option maxHeartbeats 8000000 in
set_option maxRecDepth 100000 in
theorem parse_more (k : Nat) (s : ByteArray) (er : Int) (q : Nat) (out : List S59) (w : World) (ht : JTabs w) (hs : s.size ≤ 4611686018427387904) (h : valueF k s 0 [] z0 = some (er, q, out)) (hq : q ≤ s.size) (he : er = 0) (hm : skipP s q < s.size) :
    Calls Tryd.prog 46 #[.string s] w fun e w' => ∃ v0_ : Value, e = .returned (.tuple #[v0_, .int .i64 80]) ∧ Kd.R k59 59 w' w.heap.size (fun _ => True) v0_ [] ∧ Below w.heap.size w w' := by
  have JT := Aside0.mk ht
  have HS := Aside0.mk hs
  have FV := Aside0.mk h
  have hmf : ∀ (fn : Fn) (first cap : Array Value) (w : World), (Instr.makeFunc fn first cap).run Tryd.prog w = .ok (.func fn first cap) w := fun _ _ _ _ => rfl
  subst he
  have HQ := Aside0.mk hq
  have n1 : decide ((skipP s q : Int) < (s.size : Int)) = true := decide_eq_true (by omega)
  have n2 : (skipP s q < s.size) = True := eq_true hm
  clear h hs ht hq hm
  go_enter Tryd.func46, Tryd.ntmps46
  go_wp2_with fail
  have HR : Aside0 (Rd (w.alloc (.cells #[.string s, .int .i64 0, .slice none 0 0] 94)) w.heap.size s 0 (.slice none 0 0)) := ⟨heap_alloc_new _ _⟩
  have HB : Aside0 (Below w.heap.size w (w.alloc (.cells #[.string s, .int .i64 0, .slice none 0 0] 94))) := ⟨below_alloc (Below.refl _ _) _⟩
  obtain ⟨g, hg⟩ : ∃ g, w.heap.size = g := ⟨_, rfl⟩
  have HG : Aside0 (w.heap.size ≤ g) := ⟨by omega⟩
  generalize w.alloc (.cells #[.string s, .int .i64 0, .slice none 0 0] 94) = w1 at HR HB ⊢
  have HR : Aside0 (Rd w1 g s 0 (.slice none 0 0)) := ⟨by rw [← hg]; exact HR.out⟩
  rw [show (({ block := w.heap.size, off := 0 } : Addr)) = { block := g, off := 0 } by rw [hg]]
  clear hg
  go_wp2_with (first
    | (go_at_call 69; refine (value_calls w g s HG.out HS.out JT.out k w1 0 (.slice none 0 0) [] z0 _ FV.out HR.out (Kd.R_nil _ _ _ _ _) HB.out (Nat.zero_le _)).mono ?_; rintro e w2 ⟨rfl, ⟨v2, hR2, hO2, hA2⟩, hB2, hK2⟩; obtain ⟨A2, c2, rfl⟩ := Kd.R_slice hO2; have HR2 := Aside0.mk hR2; have HO2 := Aside0.mk hO2; have HB2 := Aside0.mk hB2; clear hR2 hO2 hA2 hB2 hK2)
    | (go_at_call 70; refine (next_calls w w2 g s q _ HR2.out HB2.out HG.out HQ.out HS.out).mono ?_; rintro e w3 ⟨rfl, hR3, hB3, hK3⟩; have HR3 := Aside0.mk hR3; have HB3 := Aside0.mk hB3; have HO3 := Aside0.mk (Kd.R_keep HO2.out hK3 (fun _ h => h)); have hd1 := rd_cell1 hR3; have hd2 := rd_cell2 hR3; clear hR3 hB3 hK3))
  go_ret2
  exact ⟨_, rfl, Kd.R_nil _ _ _ _ _, HB3.out⟩
set_option maxHeartbeats 8000000 in
set_option maxRecDepth 100000 in
theorem parse_ok (k : Nat) (s : ByteArray) (er : Int) (q : Nat) (out : List S59) (w : World) (ht : JTabs w) (hs : s.size ≤ 4611686018427387904) (h : valueF k s 0 [] z0 = some (er, q, out)) (hq : q ≤ s.size) (he : er = 0) (hm : ¬ skipP s q < s.size) :
    Calls Tryd.prog 46 #[.string s] w fun e w' => ∃ v0_ : Value, e = .returned (.tuple #[v0_, .int .i64 0]) ∧ Kd.R k59 59 w' w.heap.size (fun _ => True) v0_ out ∧ Below w.heap.size w w' := by
  have JT := Aside0.mk ht
  have HS := Aside0.mk hs
  have FV := Aside0.mk h
  have hmf : ∀ (fn : Fn) (first cap : Array Value) (w : World), (Instr.makeFunc fn first cap).run Tryd.prog w = .ok (.func fn first cap) w := fun _ _ _ _ => rfl
  subst he
  have HQ := Aside0.mk hq
  have n1 : decide ((skipP s q : Int) < (s.size : Int)) = false := decide_eq_false (by omega)
  have n2 : (skipP s q < s.size) = False := eq_false hm
  clear h hs ht hq hm
  go_enter Tryd.func46, Tryd.ntmps46
  go_wp2_with fail
  have HR : Aside0 (Rd (w.alloc (.cells #[.string s, .int .i64 0, .slice none 0 0] 94)) w.heap.size s 0 (.slice none 0 0)) := ⟨heap_alloc_new _ _⟩
  have HB : Aside0 (Below w.heap.size w (w.alloc (.cells #[.string s, .int .i64 0, .slice none 0 0] 94))) := ⟨below_alloc (Below.refl _ _) _⟩
  obtain ⟨g, hg⟩ : ∃ g, w.heap.size = g := ⟨_, rfl⟩
  have HG : Aside0 (w.heap.size ≤ g) := ⟨by omega⟩
  generalize w.alloc (.cells #[.string s, .int .i64 0, .slice none 0 0] 94) = w1 at HR HB ⊢
  have HR : Aside0 (Rd w1 g s 0 (.slice none 0 0)) := ⟨by rw [← hg]; exact HR.out⟩
  rw [show (({ block := w.heap.size, off := 0 } : Addr)) = { block := g, off := 0 } by rw [hg]]
  clear hg
  go_wp2_with (first
    | (go_at_call 69; refine (value_calls w g s HG.out HS.out JT.out k w1 0 (.slice none 0 0) [] z0 _ FV.out HR.out (Kd.R_nil _ _ _ _ _) HB.out (Nat.zero_le _)).mono ?_; rintro e w2 ⟨rfl, ⟨v2, hR2, hO2, hA2⟩, hB2, hK2⟩; obtain ⟨A2, c2, rfl⟩ := Kd.R_slice hO2; have HR2 := Aside0.mk hR2; have HO2 := Aside0.mk hO2; have HB2 := Aside0.mk hB2; clear hR2 hO2 hA2 hB2 hK2)
    | (go_at_call 70; refine (next_calls w w2 g s q _ HR2.out HB2.out HG.out HQ.out HS.out).mono ?_; rintro e w3 ⟨rfl, hR3, hB3, hK3⟩; have HR3 := Aside0.mk hR3; have HB3 := Aside0.mk hB3; have HO3 := Aside0.mk (Kd.R_keep HO2.out hK3 (fun _ h => h)); have hd1 := rd_cell1 hR3; have hd2 := rd_cell2 hR3; clear hR3 hB3 hK3))
  go_ret2
  exact ⟨_, rfl, Kd.R_mono HO3.out (fun _ _ => trivial), HB3.out⟩
theorem json_Parse.calls (k : Nat) (a0 : ByteArray) (r1 : List S59) (r2 : Int) (w : World) (h : json_Parse.f k a0 = some (r1, r2)) (ht : JTabs w := by first | assumption | (refine JTabs.step (by assumption) ?_; repeat (first | exact Aside0.out (by assumption) | apply below_alloc | apply pw_below_drewN | apply below_drew1 | exact Below.refl _ _))) :
    Calls Tryd.prog 46 #[.string a0] w fun e w' => ∃ v0_ : Value, e = .returned (.tuple #[v0_, .int .i64 r2]) ∧ Kd.R k59 59 w' w.heap.size (fun _ => True) v0_ r1 ∧ Below w.heap.size w w' := by
  unfold json_Parse.f at h
  by_cases hs : a0.size ≤ 4611686018427387904
  · rw [if_pos hs] at h
    obtain ⟨⟨er, q, out⟩, hv, h⟩ := Option.bind_eq_some_iff.1 h
    simp only at h
    by_cases hq : q ≤ a0.size
    · rw [if_pos hq] at h
      by_cases he : er = 0
      · rw [if_pos he] at h
        by_cases hm : skipP a0 q < a0.size
        · rw [if_pos hm] at h; cases h
          exact parse_more k a0 er q out w ht hs hv hq he hm
        · rw [if_neg hm] at h; cases h
          exact parse_ok k a0 er q _ w ht hs hv hq he hm
      · rw [if_neg he] at h; cases h
        exact parse_err k a0 _ q out w ht hs hv he
    · rw [if_neg hq] at h; cases h
  · rw [if_neg hs] at h; cases h
end Go.Proofs.YthhmmaihbjhhgaaDoor.Giv
namespace Go.Proofs.YthhmmaihbjhhgaaDoor.Q2
open Go.Proofs.YthhmmaihbjhhgaaDoor.Giv Go.Proofs.YthhmmaihbjhhgaaDoor.U1 Go.Proofs.YthhmmaihbjhhgaaDoor.Q1 Go.RowKit Go.Proofs.YthhmmaihbjhhgaaDoorW.PrintWords Go.Proofs.YthhmmaihbjhhgaaDoorW.PrintLast Go.Proofs.YthhmmaihbjhhgaaDoorW.PrintMore
attribute [local go_sem] max2_int min2_int max_two min_two max_three min_three max_four min_four   -- for this text's walks alone
set_option linter.unusedVariables false
set_option linter.unusedSimpArgs false
def errW : Option Int → Value
  | none => .nilIface
  | some c => .iface 0 (.int .i64 c)
theorem errW_none : errW none = .nilIface := rfl
theorem errW_some (c : Int) : errW (some c) = .iface 0 (.int .i64 c) := rfl
end Go.Proofs.YthhmmaihbjhhgaaDoor.Q2
namespace Go.Proofs.YthhmmaihbjhhgaaDoor.Giv
open Go.RowKit Go.Proofs.YthhmmaihbjhhgaaDoorW.PrintWords Go.Proofs.YthhmmaihbjhhgaaDoorW.PrintLast Go.Proofs.YthhmmaihbjhhgaaDoorW.PrintMore
open Go.Proofs.YthhmmaihbjhhgaaDoor.U1 Go.Proofs.YthhmmaihbjhhgaaDoor.Q1 Go.Proofs.YthhmmaihbjhhgaaDoor.Q2
theorem refValid (k : Nat) (s : ByteArray) (hk : s.size + 12 < k) (hs : s.size ≤ 1073741824) : cracknelref05_Valid.f k s = some (Lib.validD s.data.toList) := by
  unfold cracknelref05_Valid.f
  rw [refRunes k s hk hs, Option.bind_some]
  unfold runesS
  by_cases h : Lib.validD s.data.toList = true
  · rw [if_pos h, h]
  · rw [if_neg h, Bool.eq_false_iff.2 h]
/-- a hexadecimal digit's number, or -1 -/
def hv (n : Nat) : Int := if 48 ≤ n ∧ n ≤ 57 then (n : Int) - 48 else if 97 ≤ n ∧ n ≤ 102 then (n : Int) - 87 else if 65 ≤ n ∧ n ≤ 70 then (n : Int) - 55 else -1
/-- the number of four digits at a list's beginning; -1: there are none -/
def digN (l : List UInt8) : Int :=
  if l.length < 4 then -1 else if hv (l.getD 0 0).toNat < 0 ∨ hv (l.getD 1 0).toNat < 0 ∨ hv (l.getD 2 0).toNat < 0 ∨ hv (l.getD 3 0).toNat < 0 then -1
  else ((hv (l.getD 0 0).toNat * 16 + hv (l.getD 1 0).toNat) * 16 + hv (l.getD 2 0).toNat) * 16 + hv (l.getD 3 0).toNat
/-- what stands behind a u: a number, and how many bytes; -1: none -/
def numL (l : List UInt8) : Int × Int :=
  if digN l < 55296 ∨ 57344 ≤ digN l then (digN l, 4)
  else if 56320 ≤ digN l ∨ l.length < 6 ∨ (l.getD 4 0).toNat ≠ 92 ∨ (l.getD 5 0).toNat ≠ 117 then (-1, 0)
  else if digN (l.drop 6) < 56320 ∨ 57344 ≤ digN (l.drop 6) then (-1, 0)
  else (65536 + (digN l - 55296) * 1024 + digN (l.drop 6) - 56320, 10)
/-- what a sign behind a backslash means; 0: none -/
def meanB (n : Nat) : UInt8 := if n = 98 then 8 else if n = 116 then 9 else if n = 110 then 10 else if n = 102 then 12 else if n = 114 then 13 else 0
/-- a piece that begins with a backslash: its bytes, how many it has, its error -/
def escL (l : List UInt8) : List UInt8 × Int × Int :=
  if l.length < 2 then ([], 0, 73)
  else if meanB (l.getD 1 0).toNat ≠ 0 then ([meanB (l.getD 1 0).toNat], 2, 0)
  else if (l.getD 1 0).toNat = 34 ∨ (l.getD 1 0).toNat = 92 ∨ (l.getD 1 0).toNat = 47 then ([l.getD 1 0], 2, 0)
  else if (l.getD 1 0).toNat = 117 then (if letterB (numL (l.drop 2)).1 = true then (enc (numL (l.drop 2)).1, 2 + (numL (l.drop 2)).2, 0) else ([], 0, 73))
  else ([], 0, 73)
/-- a piece that is a letter -/
def plainL (l : List UInt8) : List UInt8 × Int × Int := match tk l with | none => ([], 0, 74) | some (_, n) => (l.take n, (n : Int), 0)
def oneL (l : List UInt8) : List UInt8 × Int × Int := if (l.getD 0 0).toNat = 92 then escL l else plainL l
/-- what stands behind the first mark: its bytes, how many were read, the error; none: the fuel has ended -/
def readL : Nat → List UInt8 → Option (List UInt8 × Int × Int)
  | 0, _ => none
  | n + 1, l => if l = [] then some ([], 0, 71) else if (l.getD 0 0).toNat = 34 then some ([], 1, 0) else if (l.getD 0 0).toNat < 32 then some ([], 0, 72)
    else if (oneL l).2.2 = 0 then (readL n (l.drop (oneL l).2.1.toNat)).map fun q => if q.2.2 = 0 then ((oneL l).1 ++ q.1, (oneL l).2.1 + q.2.1, 0) else ([], 0, q.2.2) else some ([], 0, (oneL l).2.2)
end Go.Proofs.YthhmmaihbjhhgaaDoor.Giv
namespace Go.Proofs.YthhmmaihbjhhgaaDoor.Giv
open Go.RowKit Go.Proofs.YthhmmaihbjhhgaaDoorW.PrintWords Go.Proofs.YthhmmaihbjhhgaaDoorW.PrintLast Go.Proofs.YthhmmaihbjhhgaaDoorW.PrintMore
open Go.Proofs.YthhmmaihbjhhgaaDoor.U1 Go.Proofs.YthhmmaihbjhhgaaDoor.Q1 Go.Proofs.YthhmmaihbjhhgaaDoor.Q2
theorem enc_ascii (n : Nat) (h : n < 128) : enc (n : Int) = [n.toUInt8] ∧ letterB (n : Int) = true := by
  constructor
  · unfold enc Lib.encodeRune
    rw [Lib.encodeRuneZ, if_pos (by omega)]
    simp
  · rw [letter_iff]; omega
set_option maxRecDepth 100000 in
theorem hv_hexN : ∀ a : Nat, a < 16 → hv (hexN a).toNat = a := by decide +kernel
theorem one_plain (n : Nat) (h : letterB (n : Int) = true) (h92 : ((enc (n : Int)).getD 0 0).toNat ≠ 92) (x : List UInt8) : oneL (enc (n : Int) ++ x) = (enc (n : Int), ((enc (n : Int)).length : Int), 0) := by
  unfold oneL
  have hg : (enc (n : Int) ++ x).getD 0 0 = (enc (n : Int)).getD 0 0 := getD_app _ _ 0 (enc_len_pos _)
  rw [hg, if_neg h92]
  unfold plainL
  rw [tk_enc n h x]
  simp
theorem one_ascii (c : Nat) (hc : c < 128) (x : List UInt8) : oneL (pieceN c ++ x) = ([c.toUInt8], ((pieceN c).length : Int), 0) := by
  have he := enc_ascii c hc
  have short : ∀ (a : UInt8) (b : UInt8), meanB a.toNat = b → b ≠ 0 → oneL ([92, a] ++ x) = ([b], 2, 0) := by
    intro a b h1 h2
    unfold oneL escL
    rw [if_pos (by rfl), if_neg (by simp)]
    simp only [List.cons_append, List.nil_append, List.getD_cons_succ, List.getD_cons_zero]
    rw [h1, if_pos h2]
  unfold pieceN
  by_cases c8 : c = 8
  · subst c8; exact short 98 8 (by decide) (by decide)
  · rw [if_neg c8]
    by_cases c9 : c = 9
    · subst c9; exact short 116 9 (by decide) (by decide)
    · rw [if_neg c9]
      by_cases c10 : c = 10
      · subst c10; exact short 110 10 (by decide) (by decide)
      · rw [if_neg c10]
        by_cases c12 : c = 12
        · subst c12; exact short 102 12 (by decide) (by decide)
        · rw [if_neg c12]
          by_cases c13 : c = 13
          · subst c13; exact short 114 13 (by decide) (by decide)
          · rw [if_neg c13]
            by_cases cq : c = 34 ∨ c = 92
            · rw [if_pos cq]
              unfold oneL escL
              rw [if_pos (by rfl), if_neg (by simp)]
              simp only [List.cons_append, List.nil_append, List.getD_cons_succ, List.getD_cons_zero]
              rw [u8 c (by omega)]
              rcases cq with rfl | rfl
              · rw [if_neg (by decide), if_pos (by decide)]; rfl
              · rw [if_neg (by decide), if_pos (by decide)]; rfl
            · rw [if_neg cq]
              by_cases c32 : c < 32
              · rw [if_pos c32]
                unfold oneL escL
                rw [if_pos (by rfl), if_neg (by simp)]
                simp only [List.cons_append, List.nil_append, List.getD_cons_succ, List.getD_cons_zero]
                rw [if_neg (by decide), if_neg (by decide), if_pos (by decide)]
                have hd : digN (48 :: 48 :: hexN (c / 16) :: hexN (c % 16) :: x) = (c : Int) := by
                  unfold digN
                  rw [if_neg (by simp)]
                  simp only [List.getD_cons_succ, List.getD_cons_zero]
                  rw [hv_hexN _ (by omega), hv_hexN _ (by omega), show hv (48 : UInt8).toNat = 0 by decide, if_neg (by omega)]
                  omega
                have hn : numL (48 :: 48 :: hexN (c / 16) :: hexN (c % 16) :: x) = ((c : Int), 4) := by
                  unfold numL
                  rw [hd, if_pos (by omega)]
                simp only [List.drop_succ_cons, List.drop_zero]
                rw [hn]
                simp only
                rw [if_pos he.2, he.1]
                rfl
              · rw [if_neg c32]
                have := one_plain c he.2 (by rw [he.1]; simp only [List.getD_cons_zero]; rw [u8 c (by omega)]; omega) x
                rw [he.1] at this
                exact this
theorem encN_high (n : Nat) (h : 128 ≤ n) : ∀ x ∈ encN n, 128 ≤ x := by
  unfold encN
  rw [if_neg (by omega)]
  split
  · intro x hx; simp at hx; omega
  · split
    · intro x hx; simp at hx; omega
    · intro x hx; simp at hx; omega
theorem enc_high (n : Nat) (h : letterB (n : Int) = true) (h8 : 128 ≤ n) : ∀ x ∈ enc (n : Int), 128 ≤ x.toNat := by
  obtain ⟨e, hb⟩ := enc_N n h
  intro x hx
  rw [e] at hx
  obtain ⟨y, hy, rfl⟩ := List.mem_map.1 hx
  rw [u8 y (hb y hy)]
  exact encN_high n h8 y hy
theorem pieceN_high (c : UInt8) (h : 128 ≤ c.toNat) : pieceN c.toNat = [c] := by
  unfold pieceN
  rw [if_neg (by omega), if_neg (by omega), if_neg (by omega), if_neg (by omega), if_neg (by omega), if_neg (by omega), if_neg (by omega)]
  congr 1
  exact UInt8.toNat_inj.1 (u8 _ (UInt8.toNat_lt _))
theorem inner_high : ∀ l : List UInt8, (∀ x ∈ l, 128 ≤ x.toNat) → inner l = l
  | [], _ => rfl
  | c :: l, h => by rw [inner, pieceN_high c (h c (List.mem_cons_self ..)), inner_high l (fun x hx => h x (List.mem_cons_of_mem _ hx))]; rfl
set_option maxRecDepth 100000 in
theorem pieceN_first : ∀ c : Nat, c < 256 → ((pieceN c).getD 0 0).toNat ≠ 34 ∧ 32 ≤ ((pieceN c).getD 0 0).toNat ∧ 1 ≤ (pieceN c).length := by decide +kernel
/-- a letter as it stands in quotes is read as it -/
theorem one_letter (n : Nat) (h : letterB (n : Int) = true) (x : List UInt8) : oneL (inner (enc (n : Int)) ++ x) = (enc (n : Int), ((inner (enc (n : Int))).length : Int), 0)
    ∧ ((inner (enc (n : Int)) ++ x).getD 0 0).toNat ≠ 34 ∧ 32 ≤ ((inner (enc (n : Int)) ++ x).getD 0 0).toNat ∧ 1 ≤ (inner (enc (n : Int))).length := by
  by_cases c : n < 128
  · have he := (enc_ascii n c).1
    have hi : inner (enc (n : Int)) = pieceN n := by rw [he, inner, inner, List.append_nil, u8 n (by omega)]
    obtain ⟨f1, f2, f3⟩ := pieceN_first n (by omega)
    rw [hi, getD_app _ _ 0 f3]
    refine ⟨?_, f1, f2, f3⟩
    rw [one_ascii n c x, he]
  · have hh := enc_high n h (by omega)
    have hi := inner_high _ hh
    have hp := enc_len_pos (n : Int)
    have hm : (enc (n : Int)).getD 0 0 ∈ enc (n : Int) := by
      rw [List.getD_eq_getElem?_getD, List.getElem?_eq_getElem hp]
      exact List.getElem_mem hp
    have := hh _ hm
    rw [hi, getD_app _ _ 0 hp]
    exact ⟨one_plain n h (by omega) x, by omega, by omega, hp⟩
theorem inner_encs (r : Int) (xs : List Int) (x : List UInt8) : inner (encs (r :: xs)) ++ x = inner (enc r) ++ (inner (encs xs) ++ x) := by
  rw [encs, inner_app, List.append_assoc]
/-- what stands in quotes is read as it was, whatever is behind it -/
theorem readL_inner (x : List UInt8) : ∀ (xs : List Int) (n : Nat), (∀ y ∈ xs, letterB y = true) → xs.length < n → readL n (inner (encs xs) ++ 34 :: x) = some (encs xs, ((inner (encs xs)).length : Int) + 1, 0)
  | [], n, h, hn => by
    obtain ⟨n, rfl⟩ : ∃ m, n = m + 1 := ⟨n - 1, by omega⟩
    rw [readL]
    rfl
  | r :: xs, n, h, hn => by
    rw [List.length_cons] at hn
    obtain ⟨n, rfl⟩ : ∃ m, n = m + 1 := ⟨n - 1, by omega⟩
    have hr := h r (List.mem_cons_self ..)
    obtain ⟨h0, _, _⟩ := (letter_iff r).1 hr
    obtain ⟨c, rfl⟩ : ∃ m : Nat, r = m := ⟨r.toNat, by omega⟩
    obtain ⟨f0, f1, f2, f3⟩ := one_letter c hr (inner (encs xs) ++ 34 :: x)
    have ih := readL_inner x xs n (fun y hy => h y (List.mem_cons_of_mem _ hy)) (by omega)
    rw [inner_encs, readL, if_neg (fun e => by have := congrArg List.length e; rw [List.length_append, List.length_nil] at this; omega), if_neg f1, if_neg (by omega), f0]
    simp only
    rw [if_pos trivial, Int.toNat_natCast, List.drop_left, ih, Option.map_some]
    simp only
    rw [if_pos trivial, encs, inner_app, List.length_append]
    congr 3
theorem encs_ge : ∀ xs : List Int, xs.length ≤ (encs xs).length
  | [] => Nat.le_refl _
  | r :: xs => by
    have := encs_ge xs
    have := enc_len_pos r
    rw [encs, List.length_append, List.length_cons]; omega
theorem valid_xs (s : ByteArray) (h : Lib.validD s.data.toList = true) : ∃ xs : List Int, (∀ y ∈ xs, letterB y = true) ∧ encs xs = s.data.toList ∧ xs.length ≤ s.size := by
  rw [valid_lets _ _ (Nat.le_refl _)] at h
  obtain ⟨xs, hx⟩ := Option.isSome_iff_exists.1 h
  obtain ⟨a, b⟩ := of_lets _ _ xs (Nat.le_refl _) hx
  refine ⟨xs, a, b, ?_⟩
  have := encs_ge xs
  rw [b, data_length] at this
  exact this
theorem quoted_len (l : List UInt8) : (quoted l).length = (inner l).length + 2 := by
  unfold quoted; simp
theorem writeS_yes (s : ByteArray) (h : Lib.validD s.data.toList = true) : writeS s = (⟨(quoted s.data.toList).toArray⟩, true) := by unfold writeS; rw [if_pos h]
theorem inner_size (s : ByteArray) : (inner s.data.toList).length ≤ 6 * s.size := by
  have := inner_len s.data.toList
  rw [data_length] at this; exact this
end Go.Proofs.YthhmmaihbjhhgaaDoor.Giv
namespace Go.Proofs.YthhmmaihbjhhgaaDoor.Giv
open Go.RowKit Go.Proofs.YthhmmaihbjhhgaaDoorW.PrintWords Go.Proofs.YthhmmaihbjhhgaaDoorW.PrintLast Go.Proofs.YthhmmaihbjhhgaaDoorW.PrintMore
open Go.Proofs.YthhmmaihbjhhgaaDoor.U1 Go.Proofs.YthhmmaihbjhhgaaDoor.Q1 Go.Proofs.YthhmmaihbjhhgaaDoor.J0 Go.Proofs.YthhmmaihbjhhgaaDoor.J1
abbrev B := List UInt8
/-- behind blanks -/
def sk (l : B) : B := l.drop (skips l)
/-- the byte behind blanks -/
def hd (l : B) : Nat := ((sk l).getD 0 0).toNat
/-- does a byte stand behind blanks? and what is left then -/
def tk1 (l : B) (c : Nat) : Bool × B := if hd l = c ∧ sk l ≠ [] then (true, (sk l).drop 1) else (false, sk l)
/-- a text in quotes: its bytes, what is left, its error -/
def rq (l : B) : B × B × Int := match readL (l.length + 1) (l.drop 1) with
  | some q => if q.2.2 = 0 then (q.1, l.drop (q.2.1.toNat + 1), 0) else ([], [], q.2.2)
  | none => ([], [], 71)
/-- a text's number -/
def rn (t : B) : Int × Bool := readN ⟨t.toArray⟩
def row (d : Nat) (k : Int) (key t : ByteArray) (n : Int) : S59 := ⟨(d : Int), k, key, t, n⟩
def e0 : ByteArray := ⟨#[]⟩
def en (ob : Bool) : Nat := if ob then 125 else 93
/-- a key: it, what is left, its error -/
def pk (l : B) (keys : List ByteArray) : ByteArray × B × Int :=
  if hd l = 34 then (if (rq (sk l)).2.2 = 0 then (if hasB ⟨(rq (sk l)).1.toArray⟩ keys = true then (e0, [], 82) else if (tk1 (rq (sk l)).2.1 58).1 = true then (⟨(rq (sk l)).1.toArray⟩, (tk1 (rq (sk l)).2.1 58).2, 0) else (e0, [], 80)) else (e0, [], (rq (sk l)).2.2))
  else (e0, [], 80)
def wd (l : B) (d : Nat) (key : ByteArray) : Int × B × List S59 :=
  if [110, 117, 108, 108] <+: l then (0, l.drop 4, [row d 1 key e0 0])
  else if [102, 97, 108, 115, 101] <+: l then (0, l.drop 5, [row d 2 key e0 0])
  else if [116, 114, 117, 101] <+: l then (0, l.drop 4, [row d 3 key e0 0])
  else (80, [], [])
/-- what stands behind a member's value: the end, or further members (L) -/
def cont (L : B → Int × B × List S59) (l : B) (ob : Bool) : Int × B × List S59 :=
  if (tk1 l (en ob)).1 = true then (0, (tk1 l (en ob)).2, []) else if (tk1 (tk1 l (en ob)).2 44).1 = true then L (tk1 (tk1 l (en ob)).2 44).2 else (80, [], [])
def pma (L : B → Int × B × List S59) (V : Int × B × List S59) (ob : Bool) : Int × B × List S59 :=
  if V.1 = 0 then ((cont L V.2.1 ob).1, (cont L V.2.1 ob).2.1, V.2.2 ++ (cont L V.2.1 ob).2.2) else (V.1, [], [])
def kindOf (ob : Bool) : Int := if ob then 7 else 6
mutual
/-- a value: the error (below 0: the fuel has ended), what is left, its rows -/
def pv : Nat → B → Nat → ByteArray → Int × B × List S59
  | 0, _, _, _ => (-1, [], [])
  | n + 1, l, d, key =>
    if hd l = 91 then (if 64 ≤ d then (81, [], []) else ((pms n ((sk l).drop 1) d false).1, (pms n ((sk l).drop 1) d false).2.1, row d 6 key e0 0 :: (pms n ((sk l).drop 1) d false).2.2))
    else if hd l = 123 then (if 64 ≤ d then (81, [], []) else ((pms n ((sk l).drop 1) d true).1, (pms n ((sk l).drop 1) d true).2.1, row d 7 key e0 0 :: (pms n ((sk l).drop 1) d true).2.2))
    else if hd l = 34 then (if (rq (sk l)).2.2 = 0 then (0, (rq (sk l)).2.1, [row d 5 key ⟨(rq (sk l)).1.toArray⟩ 0]) else ((rq (sk l)).2.2, [], []))
    else if hd l = 45 ∨ (48 ≤ hd l ∧ hd l ≤ 57) then (if (rn ((sk l).take (numsL (sk l)))).2 = true then (0, (sk l).drop (numsL (sk l)), [row d 4 key e0 (rn ((sk l).take (numsL (sk l)))).1]) else (83, [], []))
    else wd (sk l) d key
/-- members of an array or object that was begun at a depth -/
def pms : Nat → B → Nat → Bool → Int × B × List S59
  | 0, _, _, _ => (-1, [], [])
  | n + 1, l, d, ob => if (tk1 l (en ob)).1 = true then (0, (tk1 l (en ob)).2, []) else pml n (tk1 l (en ob)).2 d ob []
/-- one member, and those behind it -/
def pml : Nat → B → Nat → Bool → List ByteArray → Int × B × List S59
  | 0, _, _, _, _ => (-1, [], [])
  | n + 1, l, d, ob, keys =>
    if ob = true then (if (pk l keys).2.2 = 0 then pma (fun x => pml n x d ob (keys ++ [(pk l keys).1])) (pv n (pk l keys).2.1 (d + 1) (pk l keys).1) ob else ((pk l keys).2.2, [], []))
    else pma (fun x => pml n x d ob keys) (pv n l (d + 1) e0) ob
end
end Go.Proofs.YthhmmaihbjhhgaaDoor.Giv
namespace Go.Proofs.YthhmmaihbjhhgaaDoor.Giv
open Go.RowKit
theorem dig8 (d : Nat) (h : d < 10) : (UInt8.ofNat (48 + d)).toNat = 48 + d := by simp; omega
theorem dec_step (u : Nat) (h : ¬ u < 10) : Lib.decDigits u = Lib.decDigits (u / 10) ++ [UInt8.ofNat (48 + u % 10)] := by
  rw [Lib.decDigits, dif_neg h]
theorem digits_all (n : Nat) : ∀ x ∈ Lib.decDigits n, 48 ≤ x.toNat ∧ x.toNat ≤ 57 := by
  induction n using Nat.strongRecOn with
  | _ u ih =>
    intro x hx
    by_cases h : u < 10
    · rw [Lib.decDigits_one h] at hx
      obtain rfl := List.mem_singleton.1 hx
      rw [dig8 u h]; omega
    · rw [dec_step u h] at hx
      rcases List.mem_append.1 hx with hx | hx
      · exact ih (u / 10) (by omega) x hx
      · obtain rfl := List.mem_singleton.1 hx
        rw [dig8 _ (by omega)]; omega
theorem digits_ne (n : Nat) : Lib.decDigits n ≠ [] := by
  intro e
  have := congrArg List.length e
  rw [Lib.decDigits_length] at this
  have h2 := Lib.nDigits_pos n
  simp at this; omega
theorem nd_le : ∀ (k u : Nat), u < 10 ^ (k + 1) → Lib.nDigits u ≤ k + 1
  | 0, u, h => by rw [Lib.nDigits_small (by simpa using h)]; omega
  | k + 1, u, h => by
    by_cases c : u < 10
    · rw [Lib.nDigits_small c]; omega
    · rw [Nat.pow_succ] at h
      rw [Lib.nDigits_big c]
      have := nd_le k (u / 10) (by omega)
      omega
theorem parse_dec (u : Nat) : u < 18446744073709551616 → ∀ r, Lib.parseUint10 0 (Lib.decDigits u ++ r) = Lib.parseUint10 u r := by
  induction u using Nat.strongRecOn with
  | _ u ih =>
    intro hu r
    by_cases h : u < 10
    · rw [Lib.decDigits_one h, List.cons_append, List.nil_append, Lib.parseUint10, dig8 u h, if_pos (by omega), if_neg (by omega), if_neg (by omega)]
      congr 1; omega
    · rw [dec_step u h, List.append_assoc, ih (u / 10) (by omega) (by omega), List.cons_append, List.nil_append, Lib.parseUint10, dig8 _ (by omega), if_pos (by omega), if_neg (by omega), if_neg (by omega)]
      congr 1; omega
theorem mag_dec (u : Nat) (h : u < 18446744073709551616) : Lib.parseMag (Lib.decDigits u) = .ok u := by
  unfold Lib.parseMag
  rw [if_neg (digits_ne u)]
  have := parse_dec u h []
  rw [List.append_nil] at this
  rw [this]; rfl
theorem atoi_itoa (n : Int) (h : -9223372036854775808 ≤ n ∧ n ≤ 9223372036854775807) : Lib.atoiAll (Lib.itoa n) = .ok n := by
  unfold Lib.itoa
  by_cases c : n < 0
  · rw [if_pos c, Lib.atoiAll_minus, mag_dec _ (by omega)]
    simp only [Lib.signed]
    rw [if_neg (by omega)]
    congr 1; omega
  · rw [if_neg c]
    obtain ⟨x, r, hx⟩ : ∃ x r, Lib.decDigits n.toNat = x :: r := by
      cases hd : Lib.decDigits n.toNat with
      | nil => exact absurd hd (digits_ne _)
      | cons x r => exact ⟨x, r, rfl⟩
    have := digits_all n.toNat x (by rw [hx]; exact List.mem_cons_self)
    have hm := mag_dec n.toNat (by omega)
    rw [hx] at hm ⊢
    rw [Lib.atoiAll_plain x r (by omega) (by omega), hm]
    simp only [Lib.signless]
    rw [if_neg (by omega)]
    congr 1; omega
theorem itoa_len (n : Int) (h : -9223372036854775808 ≤ n ∧ n ≤ 9223372036854775807) : (Lib.itoa n).length ≤ 20 := by
  unfold Lib.itoa
  split
  · rw [List.length_cons, Lib.decDigits_length]
    have := nd_le 18 n.natAbs (by omega)
    omega
  · rw [Lib.decDigits_length]
    have := nd_le 18 n.toNat (by omega)
    omega
theorem readN_itoa (n : Int) (h : -9223372036854775808 ≤ n ∧ n ≤ 9223372036854775807) : readN (itoaS n) = (n, true) := by
  unfold readN
  have h1 := itoa_len n h
  have h2 : (itoaS n).size = (Lib.itoa n).length := by show (Lib.itoa n).toArray.size = _; rw [List.size_toArray]
  rw [if_neg (by omega)]
  rw [show (itoaS n).data.toList = Lib.itoa n from rfl, atoi_itoa n h]
  simp only [if_true]
end Go.Proofs.YthhmmaihbjhhgaaDoor.Giv
namespace Go.Proofs.YthhmmaihbjhhgaaDoor.Giv
open Go.RowKit Go.Proofs.YthhmmaihbjhhgaaDoorW.PrintWords Go.Proofs.YthhmmaihbjhhgaaDoorW.PrintLast Go.Proofs.YthhmmaihbjhhgaaDoorW.PrintMore
open Go.Proofs.YthhmmaihbjhhgaaDoor.U1 Go.Proofs.YthhmmaihbjhhgaaDoor.Q1 Go.Proofs.YthhmmaihbjhhgaaDoor.J0 Go.Proofs.YthhmmaihbjhhgaaDoor.J1
/-- what is spoken of: a value at a depth, with a key; an open item's further members: their depth, has it keys, which were there, is none ahead -/
inductive Node | v (d : Nat) (key : ByteArray) | m (d : Nat) (ob : Bool) (keys : List ByteArray) (fst : Bool)
abbrev I64 (n : Int) : Prop := -9223372036854775808 ≤ n ∧ n ≤ 9223372036854775807
def sepa (fst : Bool) : B := if fst then [] else [44]
/-- rows, and their text -/
inductive JV : Node → List S59 → B → Prop
  | null (d key) : JV (.v d key) [row d 1 key e0 0] [110, 117, 108, 108]
  | fls (d key) : JV (.v d key) [row d 2 key e0 0] [102, 97, 108, 115, 101]
  | tru (d key) : JV (.v d key) [row d 3 key e0 0] [116, 114, 117, 101]
  | num (d key) (n : Int) (h : I64 n) : JV (.v d key) [row d 4 key e0 n] (Lib.itoa n)
  | str (d key) (t : ByteArray) (h : Lib.validD t.data.toList = true) : JV (.v d key) [row d 5 key t 0] (quoted t.data.toList)
  | arr (d key) (rows : List S59) (t : B) (h : d < 64) (hm : JV (.m (d + 1) false [] true) rows t) : JV (.v d key) (row d 6 key e0 0 :: rows) (91 :: (t ++ [93]))
  | obj (d key) (rows : List S59) (t : B) (h : d < 64) (hm : JV (.m (d + 1) true [] true) rows t) : JV (.v d key) (row d 7 key e0 0 :: rows) (123 :: (t ++ [125]))
  | none (d ob keys fst) : JV (.m d ob keys fst) [] []
  | elem (d keys fst) (rows : List S59) (t : B) (rows' : List S59) (t' : B) (hv : JV (.v d e0) rows t) (hm : JV (.m d false keys false) rows' t') : JV (.m d false keys fst) (rows ++ rows') (sepa fst ++ (t ++ t'))
  | memb (d keys fst) (key : ByteArray) (hk : Lib.validD key.data.toList = true) (hn : key ∉ keys) (rows : List S59) (t : B) (rows' : List S59) (t' : B) (hv : JV (.v d key) rows t) (hm : JV (.m d true (keys ++ [key]) false) rows' t') : JV (.m d true keys fst) (rows ++ rows') (sepa fst ++ (quoted key.data.toList ++ (58 :: (t ++ t'))))
def notblank (l : B) : Prop := blank (l.getD 0 0).toNat = false
theorem sk_id {l : B} (h : notblank l) : sk l = l := by
  unfold sk
  cases l with
  | nil => rfl
  | cons c l =>
    have h2 : blank c.toNat = false := h
    rw [skips, if_neg (by rw [h2]; decide)]; rfl
theorem hd_id {l : B} (h : notblank l) : hd l = (l.getD 0 0).toNat := by unfold hd; rw [sk_id h]
theorem tk1_yes (c : UInt8) (l : B) (h : blank c.toNat = false) : tk1 (c :: l) c.toNat = (true, l) := by
  have hn : notblank (c :: l) := h
  unfold tk1
  rw [hd_id hn, sk_id hn, if_pos ⟨rfl, List.cons_ne_nil _ _⟩]; rfl
theorem tk1_no (l : B) (c : Nat) (h : notblank l) (hc : (l.getD 0 0).toNat ≠ c) : tk1 l c = (false, l) := by
  unfold tk1
  rw [hd_id h, sk_id h, if_neg (fun x => hc x.1)]
/-- how a value's text begins -/
def starts (n : Nat) : Prop := n = 110 ∨ n = 102 ∨ n = 116 ∨ n = 45 ∨ (48 ≤ n ∧ n ≤ 57) ∨ n = 34 ∨ n = 91 ∨ n = 123
theorem starts_not {n : Nat} (h : starts n) : blank n = false ∧ n ≠ 93 ∧ n ≠ 125 ∧ n ≠ 44 := by
  unfold starts at h
  refine ⟨?_, by omega, by omega, by omega⟩
  unfold blank
  simp; omega
theorem itoa_first (n : Int) : ∃ c r, Lib.itoa n = c :: r ∧ starts c.toNat ∧ (c.toNat = 45 ∨ (48 ≤ c.toNat ∧ c.toNat ≤ 57)) := by
  unfold Lib.itoa
  split
  · exact ⟨45, _, rfl, by unfold starts; decide, Or.inl rfl⟩
  · cases h : Lib.decDigits n.toNat with
    | nil => exact absurd h (digits_ne _)
    | cons c r =>
      have := digits_all n.toNat c (by rw [h]; exact List.mem_cons_self)
      exact ⟨c, r, rfl, by unfold starts; omega, Or.inr this⟩
theorem itoa_numB (n : Int) : ∀ x ∈ Lib.itoa n, numB x.toNat = true := by
  intro x hx
  unfold Lib.itoa at hx
  have key : ∀ m : Nat, x ∈ Lib.decDigits m → numB x.toNat = true := by
    intro m hm
    have := digits_all m x hm
    unfold numB; simp; omega
  split at hx
  · rcases List.mem_cons.1 hx with rfl | hx
    · decide
    · exact key _ hx
  · exact key _ hx
theorem nums_all : ∀ (a : B) (x : B), (∀ y ∈ a, numB y.toNat = true) → numB (x.getD 0 0).toNat = false → numsL (a ++ x) = a.length
  | [], [], _, _ => rfl
  | [], c :: x, _, h => by
    have h2 : numB c.toNat = false := h
    rw [List.nil_append, numsL, if_neg (by rw [h2]; decide)]; rfl
  | c :: a, x, ha, h => by
    rw [List.cons_append, numsL, if_pos (ha c List.mem_cons_self), nums_all a x (fun y hy => ha y (List.mem_cons_of_mem _ hy)) h]; rfl
theorem rn_itoa (n : Int) (h : I64 n) : rn (Lib.itoa n) = (n, true) := readN_itoa n h
theorem JV.first {K : Node} {rows : List S59} {t : B} (h : JV K rows t) : match K with
    | .v _ _ => ∃ c r, t = c :: r ∧ starts c.toNat
    | .m _ _ _ fst => t = [] ∨ (fst = false ∧ ∃ r, t = 44 :: r) ∨ (fst = true ∧ ∃ c r, t = c :: r ∧ starts c.toNat) := by
  induction h with
  | null => exact ⟨_, _, rfl, by unfold starts; decide⟩
  | fls => exact ⟨_, _, rfl, by unfold starts; decide⟩
  | tru => exact ⟨_, _, rfl, by unfold starts; decide⟩
  | num d key n h => obtain ⟨c, r, h1, h2, _⟩ := itoa_first n; exact ⟨c, r, h1, h2⟩
  | str d key t h => exact ⟨34, _, rfl, by unfold starts; decide⟩
  | arr => exact ⟨_, _, rfl, by unfold starts; decide⟩
  | obj => exact ⟨_, _, rfl, by unfold starts; decide⟩
  | none => exact Or.inl rfl
  | elem d keys fst rows t rows' t' hv hm iv im =>
    obtain ⟨c, r, h1, h2⟩ := iv
    cases fst with
    | true => exact Or.inr (Or.inr ⟨rfl, c, r ++ t', by rw [h1]; rfl, h2⟩)
    | false => exact Or.inr (Or.inl ⟨rfl, _, rfl⟩)
  | memb d keys fst key hk hn rows t rows' t' hv hm iv im =>
    cases fst with
    | true => exact Or.inr (Or.inr ⟨rfl, 34, _, rfl, by unfold starts; decide⟩)
    | false => exact Or.inr (Or.inl ⟨rfl, _, rfl⟩)
theorem pieceN_pos (c : UInt8) : 1 ≤ (pieceN c.toNat).length := (pieceN_first c.toNat (UInt8.toNat_lt _)).2.2
theorem inner_ge : ∀ a : B, a.length ≤ (inner a).length
  | [] => Nat.le_refl _
  | c :: a => by
    have := inner_ge a
    have := pieceN_pos c
    rw [inner, List.length_append, List.length_cons]; omega
theorem rq_quoted (t : ByteArray) (h : Lib.validD t.data.toList = true) (x : B) : rq (quoted t.data.toList ++ x) = (t.data.toList, x, 0) := by
  obtain ⟨xs, h1, h2, h3⟩ := valid_xs t h
  have hl : (quoted t.data.toList ++ x).length = (inner t.data.toList).length + 2 + x.length := by rw [List.length_append, quoted_len]
  have h4 := encs_ge xs
  have h5 : t.data.toList.length ≤ (inner t.data.toList).length := inner_ge _
  unfold rq
  have hd2 : (quoted t.data.toList ++ x).drop 1 = inner (encs xs) ++ 34 :: x := by
    unfold quoted; rw [h2]; simp
  rw [hd2, readL_inner x xs _ h1 (by rw [hl, ← h2] at *; omega)]
  simp only [if_pos]
  refine Prod.ext h2 (Prod.ext ?_ rfl)
  simp only
  rw [show (((inner (encs xs)).length : Int) + 1).toNat + 1 = (quoted t.data.toList).length by rw [quoted_len, h2]; omega]
  rw [List.drop_append_of_le_length (Nat.le_refl _)]
  simp
/-- a text behind which a number has ended -/
def headok (l : B) : Prop := numB (l.getD 0 0).toNat = false
theorem wd_null (x : B) (d key) : wd ([110, 117, 108, 108] ++ x) d key = (0, x, [row d 1 key e0 0]) := by
  unfold wd
  rw [if_pos (List.prefix_append _ _)]; rfl
theorem wd_false (x : B) (d key) : wd ([102, 97, 108, 115, 101] ++ x) d key = (0, x, [row d 2 key e0 0]) := by
  unfold wd
  rw [if_neg (by rintro ⟨y, hy⟩; simp at hy), if_pos (List.prefix_append _ _)]; rfl
theorem wd_true (x : B) (d key) : wd ([116, 114, 117, 101] ++ x) d key = (0, x, [row d 3 key e0 0]) := by
  unfold wd
  rw [if_neg (by rintro ⟨y, hy⟩; simp at hy), if_neg (by rintro ⟨y, hy⟩; simp at hy), if_pos (List.prefix_append _ _)]; rfl
theorem starts_notblank {c : UInt8} {r : B} (h : starts c.toNat) : notblank (c :: r) := (starts_not h).1
theorem pv_word (n : Nat) (c : UInt8) (r : B) (d key) (h : starts c.toNat) (h1 : c.toNat = 110 ∨ c.toNat = 102 ∨ c.toNat = 116) : pv (n + 1) (c :: r) d key = wd (c :: r) d key := by
  have hn : notblank (c :: r) := starts_notblank h
  have hh : hd (c :: r) = c.toNat := hd_id hn
  rw [pv, hh, sk_id hn, if_neg (by omega), if_neg (by omega), if_neg (by omega), if_neg (by omega)]
theorem pv_num (n : Nat) (v : Int) (x : B) (d key) (h : I64 v) (hx : headok x) : pv (n + 1) (Lib.itoa v ++ x) d key = (0, x, [row d 4 key e0 v]) := by
  obtain ⟨c, r, h1, h2, h3⟩ := itoa_first v
  have hn : notblank (Lib.itoa v ++ x) := by rw [h1]; exact starts_notblank h2
  have hh : hd (Lib.itoa v ++ x) = c.toNat := by rw [hd_id hn, h1]; rfl
  have hl := nums_all (Lib.itoa v) x (itoa_numB v) hx
  rw [pv, hh, sk_id hn, if_neg (by omega), if_neg (by omega), if_neg (by omega), if_pos h3, hl, List.take_left, List.drop_left, rn_itoa v h, if_pos rfl]
theorem pv_str (n : Nat) (t : ByteArray) (x : B) (d key) (h : Lib.validD t.data.toList = true) : pv (n + 1) (quoted t.data.toList ++ x) d key = (0, x, [row d 5 key t 0]) := by
  have hn : notblank (quoted t.data.toList ++ x) := (rfl : blank 34 = false)
  have hh : hd (quoted t.data.toList ++ x) = 34 := by rw [hd_id hn]; rfl
  rw [pv, hh, sk_id hn, if_neg (by omega), if_neg (by omega), if_pos rfl, rq_quoted t h x, if_pos rfl]
theorem pk_quoted (key : ByteArray) (keys : List ByteArray) (x : B) (h : Lib.validD key.data.toList = true) (hn : key ∉ keys) : pk (quoted key.data.toList ++ (58 :: x)) keys = (key, x, 0) := by
  have hb : notblank (quoted key.data.toList ++ (58 :: x)) := (rfl : blank 34 = false)
  have hh : hd (quoted key.data.toList ++ (58 :: x)) = 34 := by rw [hd_id hb]; rfl
  have ht : tk1 (58 :: x) 58 = (true, x) := tk1_yes 58 x rfl
  have hk : ¬ hasB key keys = true := fun e => hn ((hasB_iff key keys).1 e)
  unfold pk
  rw [hh, if_pos rfl, sk_id hb, rq_quoted key h, if_pos rfl, if_neg hk, ht]; rfl
theorem pv_open (n : Nat) (x : B) (d : Nat) (key) (ob : Bool) (hd' : d < 64) (r : B) (rows : List S59) (h : pms n x d ob = (0, r, rows)) : pv (n + 1) ((if ob then 123 else 91) :: x) d key = (0, r, row d (kindOf ob) key e0 0 :: rows) := by
  cases ob with
  | true =>
    have hn : notblank (123 :: x) := (rfl : blank 123 = false)
    have hh : hd (123 :: x) = 123 := by rw [hd_id hn]; rfl
    rw [if_pos rfl, pv, hh, sk_id hn, if_neg (by omega), if_pos rfl, if_neg (by omega)]
    rw [show ((123 : UInt8) :: x).drop 1 = x from rfl, h]; rfl
  | false =>
    have hn : notblank (91 :: x) := (rfl : blank 91 = false)
    have hh : hd (91 :: x) = 91 := by rw [hd_id hn]; rfl
    rw [if_neg (by decide), pv, hh, sk_id hn, if_pos rfl, if_neg (by omega)]
    rw [show ((91 : UInt8) :: x).drop 1 = x from rfl, h]; rfl
def enB (ob : Bool) : UInt8 := if ob then 125 else 93
theorem enB_to (ob : Bool) : (enB ob).toNat = en ob := by cases ob <;> rfl
theorem enB_ok (ob : Bool) (x : B) : headok (enB ob :: x) := by cases ob <;> rfl
theorem tk1_end (ob : Bool) (x : B) : tk1 (enB ob :: x) (en ob) = (true, x) := by
  rw [← enB_to]
  exact tk1_yes _ _ (by cases ob <;> rfl)
/-- what the parser makes of a text that is a value's, or members' -/
def CP : Node → List S59 → B → Prop
  | .v d key, rows, t => d ≤ 64 → ∀ (rest : B) (n : Nat), headok rest → 3 * (t.length + rest.length) + 1 ≤ n → pv n (t ++ rest) d key = (0, rest, rows)
  | .m d ob keys fst, rows, t => d ≤ 64 → ∀ (rest : B) (n D : Nat), d = D + 1 →
    (fst = true → keys = [] → 3 * (t.length + rest.length) + 6 ≤ n → pms n (t ++ (enB ob :: rest)) D ob = (0, rest, rows)) ∧
    (fst = false → 3 * (t.length + rest.length) + 2 ≤ n → cont (fun x => pml n x D ob keys) (t ++ (enB ob :: rest)) ob = (0, rest, rows))
theorem cont_end (L : B → Int × B × List S59) (ob : Bool) (x : B) : cont L (enB ob :: x) ob = (0, x, []) := by
  unfold cont
  rw [tk1_end]; rfl
theorem cont_more (L : B → Int × B × List S59) (ob : Bool) (x : B) : cont L (44 :: x) ob = L x := by
  have h1 : tk1 (44 :: x) (en ob) = (false, 44 :: x) := tk1_no (44 :: x) (en ob) (rfl : blank 44 = false) (show (44 : Nat) ≠ en ob by cases ob <;> decide)
  have h2 : tk1 (44 :: x) 44 = (true, x) := tk1_yes 44 x rfl
  unfold cont
  rw [h1, if_neg Bool.false_ne_true]
  simp only
  rw [h2, if_pos rfl]
theorem pma_ok (L : B → Int × B × List S59) (ob : Bool) (x y : B) (rows rows' : List S59) (h : cont L x ob = (0, y, rows')) : pma L (0, x, rows) ob = (0, y, rows ++ rows') := by
  unfold pma
  rw [if_pos rfl]
  simp only
  rw [h]
theorem tail_ok {K : Node} {rows : List S59} {t : B} (h : JV K rows t) : match K with
    | .v _ _ => True
    | .m _ ob _ fst => fst = false → ∀ rest, headok (t ++ (enB ob :: rest)) := by
  have hf := h.first
  cases K with
  | v d key => trivial
  | m d ob keys fst =>
    rintro rfl rest
    rcases hf with rfl | ⟨_, r, rfl⟩ | ⟨e, _⟩
    · exact enB_ok ob rest
    · exact (rfl : numB 44 = false)
    · cases e
/-- one member and what is behind it, by the loop -/
theorem pml_elem (n D : Nat) (keys : List ByteArray) (t t' rest : B) (rows rows' : List S59) (hv : pv n (t ++ (t' ++ (93 :: rest))) (D + 1) e0 = (0, t' ++ (93 :: rest), rows)) (hm : cont (fun x => pml n x D false keys) (t' ++ (93 :: rest)) false = (0, rest, rows')) :
    pml (n + 1) (t ++ (t' ++ (93 :: rest))) D false keys = (0, rest, rows ++ rows') := by
  rw [pml, if_neg (by decide), hv]
  exact pma_ok _ _ _ _ _ _ hm
theorem pml_memb (n D : Nat) (keys : List ByteArray) (key : ByteArray) (hk : Lib.validD key.data.toList = true) (hn : key ∉ keys) (t t' rest : B) (rows rows' : List S59) (hv : pv n (t ++ (t' ++ (125 :: rest))) (D + 1) key = (0, t' ++ (125 :: rest), rows)) (hm : cont (fun x => pml n x D true (keys ++ [key])) (t' ++ (125 :: rest)) true = (0, rest, rows')) :
    pml (n + 1) (quoted key.data.toList ++ (58 :: (t ++ (t' ++ (125 :: rest))))) D true keys = (0, rest, rows ++ rows') := by
  rw [pml, if_pos rfl, pk_quoted key keys _ hk hn, if_pos rfl]
  simp only
  rw [hv]
  exact pma_ok _ _ _ _ _ _ hm
theorem sep_true (x : B) : sepa true ++ x = x := rfl
theorem sep_false (x : B) : sepa false ++ x = 44 :: x := rfl
theorem JV.parse {K : Node} {rows : List S59} {t : B} (h : JV K rows t) : CP K rows t := by
  induction h with
  | null d key =>
    intro _ rest n _ hn
    obtain ⟨n, rfl⟩ : ∃ m, n = m + 1 := ⟨n - 1, by omega⟩
    exact (pv_word n 110 _ d key (by unfold starts; decide) (by decide)).trans (wd_null rest d key)
  | fls d key =>
    intro _ rest n _ hn
    obtain ⟨n, rfl⟩ : ∃ m, n = m + 1 := ⟨n - 1, by omega⟩
    exact (pv_word n 102 _ d key (by unfold starts; decide) (by decide)).trans (wd_false rest d key)
  | tru d key =>
    intro _ rest n _ hn
    obtain ⟨n, rfl⟩ : ∃ m, n = m + 1 := ⟨n - 1, by omega⟩
    exact (pv_word n 116 _ d key (by unfold starts; decide) (by decide)).trans (wd_true rest d key)
  | num d key v h =>
    intro _ rest n hr hn
    obtain ⟨n, rfl⟩ : ∃ m, n = m + 1 := ⟨n - 1, by omega⟩
    exact pv_num n v rest d key h hr
  | str d key t h =>
    intro _ rest n hr hn
    obtain ⟨n, rfl⟩ : ∃ m, n = m + 1 := ⟨n - 1, by omega⟩
    exact pv_str n t rest d key h
  | arr d key rows t h hm im =>
    intro _ rest n hr hn
    simp only [List.length_cons, List.length_append, List.length_nil] at hn
    obtain ⟨n, rfl⟩ : ∃ m, n = m + 1 := ⟨n - 1, by omega⟩
    have h1 := (im (by omega) rest n d rfl).1 rfl rfl (by omega)
    have h2 := pv_open n (t ++ (93 :: rest)) d key false h rest rows h1
    rw [List.cons_append, List.append_assoc]
    exact h2
  | obj d key rows t h hm im =>
    intro _ rest n hr hn
    simp only [List.length_cons, List.length_append, List.length_nil] at hn
    obtain ⟨n, rfl⟩ : ∃ m, n = m + 1 := ⟨n - 1, by omega⟩
    have h1 := (im (by omega) rest n d rfl).1 rfl rfl (by omega)
    have h2 := pv_open n (t ++ (125 :: rest)) d key true h rest rows h1
    rw [List.cons_append, List.append_assoc]
    exact h2
  | none d ob keys fst =>
    intro _ rest n D hD
    refine ⟨fun _ _ hn => ?_, fun _ _ => cont_end _ ob rest⟩
    obtain ⟨n, rfl⟩ : ∃ m, n = m + 1 := ⟨n - 1, by omega⟩
    rw [List.nil_append, pms, tk1_end]; rfl
  | elem d keys fst rows t rows' t' hv hm iv im =>
    intro hd' rest n D hD
    subst hD
    have hf := hv.first
    obtain ⟨c, r, rfl, hc⟩ := hf
    have hc2 := starts_not hc
    refine ⟨fun hf hk hn => ?_, fun hf hn => ?_⟩
    · subst hf; subst hk
      rw [sep_true] at hn ⊢
      simp only [List.length_append] at hn
      obtain ⟨n, rfl⟩ : ∃ m, n = m + 1 + 1 := ⟨n - 2, by omega⟩
      rw [pms, List.append_assoc, tk1_no ((c :: r) ++ (t' ++ (enB false :: rest))) (en false) hc2.1 (show c.toNat ≠ en false from hc2.2.1), if_neg Bool.false_ne_true]
      have h1 := (im hd' rest n D rfl).2 rfl (by omega)
      have h2 := iv hd' (t' ++ (93 :: rest)) n (tail_ok hm rfl rest) (by simp only [List.length_append, List.length_cons] at *; omega)
      exact pml_elem n D [] (c :: r) t' rest rows rows' h2 h1
    · subst hf
      rw [sep_false] at hn ⊢
      simp only [List.length_append, List.length_cons] at hn
      obtain ⟨n, rfl⟩ : ∃ m, n = m + 1 := ⟨n - 1, by omega⟩
      rw [List.cons_append, cont_more]
      have h1 := (im hd' rest n D rfl).2 rfl (by omega)
      have h2 := iv hd' (t' ++ (93 :: rest)) n (tail_ok hm rfl rest) (by simp only [List.length_append, List.length_cons] at *; omega)
      rw [List.append_assoc]
      exact pml_elem n D keys (c :: r) t' rest rows rows' h2 h1
  | memb d keys fst key hk hn rows t rows' t' hv hm iv im =>
    intro hd' rest n D hD
    subst hD
    have e : (quoted key.data.toList ++ (58 :: (t ++ t'))) ++ (enB true :: rest) = quoted key.data.toList ++ (58 :: (t ++ (t' ++ (125 :: rest)))) := by
      show _ ++ (125 :: rest) = _
      simp
    have hq := quoted_len key.data.toList
    refine ⟨fun hf hk0 hn0 => ?_, fun hf hn0 => ?_⟩
    · subst hf; subst hk0
      rw [sep_true] at hn0 ⊢
      simp only [List.length_append, List.length_cons] at hn0
      obtain ⟨n, rfl⟩ : ∃ m, n = m + 1 + 1 := ⟨n - 2, by omega⟩
      rw [e, pms, tk1_no (quoted key.data.toList ++ (58 :: (t ++ (t' ++ (125 :: rest))))) (en true) (rfl : blank 34 = false) (show (34 : Nat) ≠ en true by decide), if_neg Bool.false_ne_true]
      have h1 := (im hd' rest n D rfl).2 rfl (by omega)
      have h2 := iv hd' (t' ++ (125 :: rest)) n (tail_ok hm rfl rest) (by simp only [List.length_append, List.length_cons]; omega)
      exact pml_memb n D [] key hk hn t t' rest rows rows' h2 h1
    · subst hf
      rw [sep_false] at hn0 ⊢
      simp only [List.length_append, List.length_cons] at hn0
      obtain ⟨n, rfl⟩ : ∃ m, n = m + 1 := ⟨n - 1, by omega⟩
      rw [List.cons_append, cont_more, e]
      have h1 := (im hd' rest n D rfl).2 rfl (by omega)
      have h2 := iv hd' (t' ++ (125 :: rest)) n (tail_ok hm rfl rest) (by simp only [List.length_append, List.length_cons]; omega)
      exact pml_memb n D keys key hk hn t t' rest rows rows' h2 h1
end Go.Proofs.YthhmmaihbjhhgaaDoor.Giv
namespace Go.Proofs.YthhmmaihbjhhgaaDoor.Giv
open Go.RowKit Go.Proofs.YthhmmaihbjhhgaaDoorW.PrintWords Go.Proofs.YthhmmaihbjhhgaaDoorW.PrintLast Go.Proofs.YthhmmaihbjhhgaaDoorW.PrintMore
open Go.Proofs.YthhmmaihbjhhgaaDoor.U1 Go.Proofs.YthhmmaihbjhhgaaDoor.Q1 Go.Proofs.YthhmmaihbjhhgaaDoor.J0 Go.Proofs.YthhmmaihbjhhgaaDoor.J1
set_option linter.unusedSimpArgs false
/-- a level's block: its kind and its keys' row -/
abbrev Lv (W : World) (g : Nat) (kind : Int) (kv : Value) : Prop := W.heap[g]? = some (.cells #[.int .i64 kind, kv] 85 (0, 0))
abbrev Keys (w0 W : World) (g : Nat) (kv : Value) (keys : List ByteArray) : Prop := Kd.R Kd.string 9 W w0.heap.size (fun j => j ≠ g) kv keys
structure LvLeft (w0 W W' : World) (g : Nat) (kind : Int) (kv : Value) (keys' : List ByteArray) : Prop where
  left : ∃ kv', Lv W' g kind kv' ∧ Keys w0 W' g kv' keys' ∧ (kv'.ownBlock = kv.ownBlock ∨ ∃ b, kv'.ownBlock = some b ∧ W.heap.size ≤ b)
  below : Below w0.heap.size w0 W'
  keep : KeepBut W W' g kv.ownBlock
theorem LvLeft.pre {w0 W w1 W' : World} {g : Nat} {kind : Int} {kv : Value} {keys : List ByteArray} (hk : KeepBut W w1 g none) (h : LvLeft w0 w1 W' g kind kv keys) : LvLeft w0 W W' g kind kv keys :=
  ⟨by obtain ⟨v', a, b, c⟩ := h.left; exact ⟨v', a, b, c.imp id (fun ⟨k, e, hk2⟩ => ⟨k, e, Nat.le_trans hk.1 hk2⟩)⟩, h.below, (keep_wide hk).trans h.keep (.inl rfl)⟩
theorem lv_cell0 {W : World} {g : Nat} {kind : Int} {kv : Value} (h : Lv W g kind kv) : W.cell? ⟨g, 0, none⟩ = some (.int .i64 kind) := (blk_cell h 0).trans rfl
theorem lv_cell1 {W : World} {g : Nat} {kind : Int} {kv : Value} (h : Lv W g kind kv) : W.cell? ⟨g, 1, none⟩ = some kv := (blk_cell h 1).trans rfl
theorem lv_below {W W' : World} {g : Nat} {kind : Int} {kv : Value} (h : Lv W g kind kv) (hb : Below W.heap.size W W') : Lv W' g kind kv := (hb.block g (blk_lt h)).trans h
theorem itm_cell2 {W : World} {b : Nat} {x : S59} (h : Itm W b x) : W.cell? ⟨b, 2, none⟩ = some (.string x.f2) := (blk_cell h 2).trans rfl
theorem keep_key {w1 : World} {g b : Nat} {kind : Int} {kv : Value} {x : S59} (hR : Lv w1 g kind kv) (hI : Itm w1 b x) (o : Obj) : (w1.drew.alloc o).cell? ⟨g, 1, none⟩ = some kv ∧ (w1.drew.alloc o).cell? ⟨b, 2, none⟩ = some (.string x.f2) := by
  have h1 : g < w1.drew.heap.size := blk_lt hR
  have h2 : b < w1.drew.heap.size := blk_lt hI
  exact ⟨(World.cell?_alloc_lt w1.drew o ⟨g, 1, none⟩ h1).trans (lv_cell1 hR), (World.cell?_alloc_lt w1.drew o ⟨b, 2, none⟩ h2).trans (itm_cell2 hI)⟩
theorem push_key {ops : Array Oper} {o : Oper} {a : Act} {Kc : Act → World → Prop} {Q : Exit → Act → World → Prop} (sl xl : Operand) {w0 W : World} {g : Nat} {kind : Int} {kv : Value} {keys : List ByteArray} {t : ByteArray}
    (hw : Region.wanted o (yielded ops a.tmps) = true) (ho : o.op = .call { callee := .builtin .append, args := #[sl, xl], argTypes := #[83, 83] }) (hs : a.eval sl = kv) (hx : a.eval xl = .slice (some ⟨W.heap.size, 0, none⟩) 1 1)
    (hR : Lv W g kind kv) (hO : Keys w0 W g kv keys) (hB : Below w0.heap.size w0 W) (hg : w0.heap.size ≤ g) (hl : (keys.length + 1) * 16 ≤ 140737488355328)
    (h : ∀ (As : Option Addr) (N2 cc : Nat) (w2 : World), Lv w2 g kind kv → LvLeft w0 W (w2.setCell ⟨g, 1, none⟩ (.slice As N2 cc)) g kind kv (keys ++ [t]) → Kc (a.put o.dst (.slice As N2 cc)) w2) :
    if Region.wanted o (yielded ops a.tmps) = true then Oper.wp Tryd.prog o a (W.drew.alloc (.cells #[.string t] 9)) Kc Q else Kc (a.put o.dst undef) (W.drew.alloc (.cells #[.string t] 9)) := by
  have h1 := blk_lt hR
  have hO' : Kd.R Kd.string 9 W.drew w0.heap.size (fun j => j ≠ g) kv keys := Kd.R_move hO (fun _ _ => rfl)
  refine Kd.R_append_step Kd.string (w0 := w0) (W := W.drew) w0.heap.size hw sl xl 83 9 (.string ⟨#[]⟩) 16 ho Tryd.underlying83 info9 rfl (by decide) (by decide) kv keys t [.string t] (fun j => j ≠ g) (fun _ => False) hs hx rfl (fun _ h => h.elim) (fun k hk => ?_) hO' (below_drew1 hB) hB.size hl ?_
  · have hk3 : W.heap.size ≤ k := hk
    omega
  intro v2 w2 hO2 hB2 hG2 hA2
  obtain ⟨As, cc, hv2⟩ := Kd.R_slice hO2
  subst hv2
  have hR2 : Lv w2 g kind kv := (hG2.block g h1 (fun e => hO.1 g e.symm rfl)).trans hR
  exact h _ _ _ _ hR2 ⟨⟨_, blk_set hR2 1 _, Kd.R_far hO2 (fun _ h => h) _, hA2⟩, below_set hB2 hg, KeepBut.set_ (KeepBut.of_grown (w := W) ⟨hG2.os, hG2.tape, hG2.output, hG2.size, hG2.block⟩ g) 1 _⟩
set_option maxHeartbeats 8000000 in
set_option maxRecDepth 100000 in
theorem member_no (w0 W : World) (g : Nat) (kind : Int) (A : Option Addr) (c : Nat) (keys : List ByteArray) (x : S59) (hR : Lv W g kind (.slice A keys.length c)) (hO : Keys w0 W g (.slice A keys.length c) keys) (hB : Below w0.heap.size w0 W) (hg : w0.heap.size ≤ g) (hj : Tabs w0) (hk : kind ≠ 7) :
    Calls Tryd.prog 64 #[.pointer (some ⟨g, 0, none⟩), itemV x] W fun e W' => e = .returned (.bool x.f2.toList.isEmpty) ∧ LvLeft w0 W W' g kind (.slice A keys.length c) keys := by
  have HR := Aside0.mk hR
  have HO := Aside0.mk hO
  have HB := Aside0.mk hB
  have HG := Aside0.mk hg
  have JT := Aside0.mk hj
  have n1 : (kind == 7) = false := beq_eq_false_iff_ne.mpr hk
  have n2 : (kind != 7) = true := bne_iff_ne.mpr hk
  clear hR hO hB hg hj hk
  have hgW := blk_lt HR.out
  have HA : Aside0 (Below W.heap.size W (W.alloc (.cells #[.int .i64 x.f0, .int .i64 x.f1, .string x.f2, .string x.f3, .int .i64 x.f4] 59))) := ⟨below_alloc (Below.refl _ _) _⟩
  have HR := Aside0.mk (lv_below HR.out HA.out)
  have HO := Aside0.mk (Kd.R_below HO.out HA.out)
  have HK := Aside0.mk (KeepBut.of_below HA.out g none)
  have HB := Aside0.mk (below_step HB.out HA.out)
  have HI : Aside0 (Itm (W.alloc (.cells #[.int .i64 x.f0, .int .i64 x.f1, .string x.f2, .string x.f3, .int .i64 x.f4] 59)) W.heap.size x) := ⟨heap_alloc_new _ _⟩
  have hc0 := lv_cell0 HR.out
  unfold itemV
  go_enter Tryd.func64, Tryd.ntmps64
  go_wp2_with fail
  obtain ⟨b, hb⟩ : ∃ b, W.heap.size = b := ⟨_, rfl⟩
  have hne1 : ¬ b = g := by omega
  rw [hb] at HI
  rw [hb]
  clear hc0
  generalize W.alloc (.cells #[.int .i64 x.f0, .int .i64 x.f1, .string x.f2, .string x.f3, .int .i64 x.f4] 59) = w1 at HA HI HR HO HK HB ⊢
  clear HA hb
  go_ret
  exact ⟨rfl, LvLeft.pre HK.out ⟨⟨_, HR.out, HO.out, .inl rfl⟩, HB.out, KeepBut.refl _ _ _⟩⟩
set_option maxHeartbeats 8000000 in
set_option maxRecDepth 100000 in
theorem member_bad (w0 W : World) (g : Nat) (kind : Int) (A : Option Addr) (c : Nat) (keys : List ByteArray) (x : S59) (hR : Lv W g kind (.slice A keys.length c)) (hO : Keys w0 W g (.slice A keys.length c) keys) (hB : Below w0.heap.size w0 W) (hg : w0.heap.size ≤ g) (hj : Tabs w0) (hk : kind = 7) (hv : utf_Valid.f x.f2 = some false) :
    Calls Tryd.prog 64 #[.pointer (some ⟨g, 0, none⟩), itemV x] W fun e W' => e = .returned (.bool false) ∧ LvLeft w0 W W' g kind (.slice A keys.length c) keys := by
  have HR := Aside0.mk hR
  have HO := Aside0.mk hO
  have HB := Aside0.mk hB
  have HG := Aside0.mk hg
  have JT := Aside0.mk hj
  subst hk
  have n1 : ((7 : Int) == 7) = true := rfl
  have FV := Aside0.mk hv
  clear hR hO hB hg hj hv
  have hgW := blk_lt HR.out
  have HA : Aside0 (Below W.heap.size W (W.alloc (.cells #[.int .i64 x.f0, .int .i64 x.f1, .string x.f2, .string x.f3, .int .i64 x.f4] 59))) := ⟨below_alloc (Below.refl _ _) _⟩
  have HR := Aside0.mk (lv_below HR.out HA.out)
  have HO := Aside0.mk (Kd.R_below HO.out HA.out)
  have HK := Aside0.mk (KeepBut.of_below HA.out g none)
  have HB := Aside0.mk (below_step HB.out HA.out)
  have HI : Aside0 (Itm (W.alloc (.cells #[.int .i64 x.f0, .int .i64 x.f1, .string x.f2, .string x.f3, .int .i64 x.f4] 59)) W.heap.size x) := ⟨heap_alloc_new _ _⟩
  have hc0 := lv_cell0 HR.out
  unfold itemV
  go_enter Tryd.func64, Tryd.ntmps64
  go_wp2_with fail
  obtain ⟨b, hb⟩ : ∃ b, W.heap.size = b := ⟨_, rfl⟩
  have hne1 : ¬ b = g := by omega
  rw [hb] at HI
  rw [hb]
  clear hc0
  generalize W.alloc (.cells #[.int .i64 x.f0, .int .i64 x.f1, .string x.f2, .string x.f3, .int .i64 x.f4] 59) = w1 at HA HI HR HO HK HB ⊢
  clear HA hb
  refine wp_region_held_drew (S := fun w' => w'.cell? ⟨g, 1, none⟩ = some (.slice A keys.length c) ∧ w'.cell? ⟨b, 2, none⟩ = some (.string x.f2) ∧ Lv w' g 7 (.slice A keys.length c) ∧ Itm w' b x ∧ Keys w0 w' g (.slice A keys.length c) keys ∧ Below w0.heap.size w0 w' ∧ KeepBut w1 w' g none) (by kernel_rfl) ⟨lv_cell1 HR.out, itm_cell2 HI.out, HR.out, HI.out, Kd.R_move HO.out (fun _ _ => rfl), below_drew1 HB.out, KeepBut.refl _ _ _⟩ (fun hHeld => ?_)
  refine wpAnyH_take (i := 0) (oi := { dst := some 13, op := _, type := _, pos := _, after := _, guard := _ }) (v := ?_) rfl (by kernel_rfl) (by kernel_rfl) (by kernel_rfl) (fun _ _ _ h => h) (Or.inl ⟨by rfl, ?_⟩) (by assumption) ?_
  rotate_left
  · intro w hSw
    (try dsimp only at hSw)
    have hl0 := hSw.1
    have hl1 := hSw.2.1
    clear hSw
    go_simp
    (try with_reducible rfl)
  (try simp only [Act.put, List.setIfInBounds_toArray, List.set_cons_zero, List.set_cons_succ])
  refine wpAnyH_take (i := 1) (oi := { dst := some 14, op := _, type := _, pos := _, after := _, guard := _ }) (v := ?_) rfl (by kernel_rfl) (by kernel_rfl) (by kernel_rfl) (fun _ _ _ h => h) (Or.inl ⟨by rfl, ?_⟩) (by assumption) ?_
  rotate_left
  · intro w hSw
    (try dsimp only at hSw)
    have hl0 := hSw.1
    have hl1 := hSw.2.1
    clear hSw
    go_simp
    (try with_reducible rfl)
  (try simp only [Act.put, List.setIfInBounds_toArray, List.set_cons_zero, List.set_cons_succ])
  refine wpAnyH_ready (rs := [2]) (by kernel_rfl) (by simp) ?_
  refine AllReadyH.cons (o := { dst := some 15, op := _, type := _, pos := _, after := _, guard := _ }) rfl (fun K hK => ?_) AllReadyH.nil
  go_simp
  (go_at_call 30; refine (utf_Valid.calls x.f2 _ _ FV.out (JT.out.step hHeld.2.2.2.2.2.1)).mono ?_; rintro e w2 ⟨rfl, hbv⟩); go_wp2_with fail
  refine hK.out _ _ ?_ (fun hHeld => ?_)
  · exact ⟨lv_cell1 (lv_below hHeld.2.2.1 hbv), itm_cell2 ((hbv.block b (blk_lt hHeld.2.2.2.1)).trans hHeld.2.2.2.1), lv_below hHeld.2.2.1 hbv, (hbv.block b (blk_lt hHeld.2.2.2.1)).trans hHeld.2.2.2.1, Kd.R_below hHeld.2.2.2.2.1 hbv, hHeld.2.2.2.2.2.1.trans (hbv.mono hHeld.2.2.2.2.2.1.size), hHeld.2.2.2.2.2.2.trans (KeepBut.of_below hbv g none) (.inl rfl)⟩
  clear hK K
  (try simp only [Act.put, List.setIfInBounds_toArray, List.set_cons_zero, List.set_cons_succ])
  refine wpAnyH_take (i := 3) (oi := { dst := some 16, op := _, type := _, pos := _, after := _, guard := _ }) (v := ?_) rfl (by kernel_rfl) (by kernel_rfl) (by kernel_rfl) (fun _ _ _ h => h) (Or.inl ⟨by rfl, ?_⟩) (by assumption) ?_
  rotate_left
  · intro w hSw
    (try dsimp only at hSw)
    have hl0 := hSw.1
    have hl1 := hSw.2.1
    clear hSw
    go_simp
    (try with_reducible rfl)
  (try simp only [Act.put, List.setIfInBounds_toArray, List.set_cons_zero, List.set_cons_succ])
  refine wpAnyH_take (i := 4) (oi := { dst := some 17, op := _, type := _, pos := _, after := _, guard := _ }) (v := ?_) rfl (by kernel_rfl) (by kernel_rfl) (by kernel_rfl) (fun _ _ _ h => h) (Or.inl ⟨by rfl, ?_⟩) (by assumption) ?_
  rotate_left
  · intro w hSw
    (try dsimp only at hSw)
    have hl0 := hSw.1
    have hl1 := hSw.2.1
    clear hSw
    go_simp
    (try with_reducible rfl)
  (try simp only [Act.put, List.setIfInBounds_toArray, List.set_cons_zero, List.set_cons_succ])
  refine wpAnyH_take (i := 5) (oi := { dst := some 18, op := _, type := _, pos := _, after := _, guard := _ }) (v := undef) rfl (by kernel_rfl) (by kernel_rfl) (by kernel_rfl) (fun _ _ _ h => h) (Or.inr ⟨by rfl, rfl⟩) (by assumption) ?_
  (try simp only [Act.put, List.setIfInBounds_toArray, List.set_cons_zero, List.set_cons_succ])
  refine wpAnyH_take (i := 6) (oi := { dst := some 19, op := _, type := _, pos := _, after := _, guard := _ }) (v := undef) rfl (by kernel_rfl) (by kernel_rfl) (by kernel_rfl) (fun _ _ _ h => h) (Or.inr ⟨by rfl, rfl⟩) (by assumption) ?_
  (try simp only [Act.put, List.setIfInBounds_toArray, List.set_cons_zero, List.set_cons_succ])
  refine wpAnyH_take (i := 7) (oi := { dst := some 20, op := _, type := _, pos := _, after := _, guard := _ }) (v := undef) rfl (by kernel_rfl) (by kernel_rfl) (by kernel_rfl) (fun _ _ _ h => h) (Or.inr ⟨by rfl, rfl⟩) (by assumption) ?_
  (try simp only [Act.put, List.setIfInBounds_toArray, List.set_cons_zero, List.set_cons_succ])
  refine wpAnyH_take (i := 8) (oi := { dst := some 21, op := _, type := _, pos := _, after := _, guard := _ }) (v := undef) rfl (by kernel_rfl) (by kernel_rfl) (by kernel_rfl) (fun _ _ _ h => h) (Or.inr ⟨by rfl, rfl⟩) (by assumption) ?_
  (try simp only [Act.put, List.setIfInBounds_toArray, List.set_cons_zero, List.set_cons_succ])
  refine wpAnyH_take (i := 9) (oi := { dst := some 22, op := _, type := _, pos := _, after := _, guard := _ }) (v := undef) rfl (by kernel_rfl) (by kernel_rfl) (by kernel_rfl) (fun _ _ _ h => h) (Or.inr ⟨by rfl, rfl⟩) (by assumption) ?_
  (try simp only [Act.put, List.setIfInBounds_toArray, List.set_cons_zero, List.set_cons_succ])
  refine wpAnyH_take (i := 10) (oi := { dst := some 23, op := _, type := _, pos := _, after := _, guard := _ }) (v := undef) rfl (by kernel_rfl) (by kernel_rfl) (by kernel_rfl) (fun _ _ _ h => h) (Or.inr ⟨by rfl, rfl⟩) (by assumption) ?_
  (try simp only [Act.put, List.setIfInBounds_toArray, List.set_cons_zero, List.set_cons_succ])
  refine wpAnyH_take (i := 11) (oi := { dst := some 24, op := _, type := _, pos := _, after := _, guard := _ }) (v := undef) rfl (by kernel_rfl) (by kernel_rfl) (by kernel_rfl) (fun _ _ _ h => h) (Or.inr ⟨by rfl, rfl⟩) (by assumption) ?_
  (try simp only [Act.put, List.setIfInBounds_toArray, List.set_cons_zero, List.set_cons_succ])
  refine wpAnyH_take (i := 12) (oi := { dst := some 25, op := _, type := _, pos := _, after := _, guard := _ }) (v := ?_) rfl (by kernel_rfl) (by kernel_rfl) (by kernel_rfl) (fun _ _ _ h => h) (Or.inl ⟨by rfl, ?_⟩) (by assumption) ?_
  rotate_left
  · intro w hSw
    (try dsimp only at hSw)
    have hl0 := hSw.1
    have hl1 := hSw.2.1
    clear hSw
    go_simp
    (try with_reducible rfl)
  (try simp only [Act.put, List.setIfInBounds_toArray, List.set_cons_zero, List.set_cons_succ])
  refine wpAnyH_done (by kernel_rfl) ?_ _
  have HL := Aside0.mk hHeld
  clear hHeld
  go_wp2_with fail
  go_ret
  exact ⟨rfl, LvLeft.pre (HK.out.trans HL.out.2.2.2.2.2.2 (.inl rfl)) ⟨⟨_, HL.out.2.2.1, HL.out.2.2.2.2.1, .inl rfl⟩, HL.out.2.2.2.2.2.1, KeepBut.refl _ _ _⟩⟩
set_option maxHeartbeats 8000000 in
set_option maxRecDepth 100000 in
theorem member_twice (w0 W : World) (g : Nat) (kind : Int) (A : Option Addr) (c : Nat) (keys : List ByteArray) (x : S59) (hR : Lv W g kind (.slice A keys.length c)) (hO : Keys w0 W g (.slice A keys.length c) keys) (hB : Below w0.heap.size w0 W) (hg : w0.heap.size ≤ g) (hj : Tabs w0) (hk : kind = 7) (hv : utf_Valid.f x.f2 = some true) (hh : hasB x.f2 keys = true) :
    Calls Tryd.prog 64 #[.pointer (some ⟨g, 0, none⟩), itemV x] W fun e W' => e = .returned (.bool false) ∧ LvLeft w0 W W' g kind (.slice A keys.length c) keys := by
  have HR := Aside0.mk hR
  have HO := Aside0.mk hO
  have HB := Aside0.mk hB
  have HG := Aside0.mk hg
  have JT := Aside0.mk hj
  subst hk
  have n1 : ((7 : Int) == 7) = true := rfl
  have FV := Aside0.mk hv
  have HC := Aside0.mk (Kd.R_reads' hO).2.1
  have HLn := (Kd.R_reads' hO).2.2.2.1
  have FC : Aside0 (slices_Contains_string_string.f (keys.length + 1) keys x.f2 = some true) := ⟨by rw [contains_f _ _ _ (by omega) HLn, hh]⟩
  clear hh HLn
  clear hR hO hB hg hj hv
  have hgW := blk_lt HR.out
  have HA : Aside0 (Below W.heap.size W (W.alloc (.cells #[.int .i64 x.f0, .int .i64 x.f1, .string x.f2, .string x.f3, .int .i64 x.f4] 59))) := ⟨below_alloc (Below.refl _ _) _⟩
  have HR := Aside0.mk (lv_below HR.out HA.out)
  have HO := Aside0.mk (Kd.R_below HO.out HA.out)
  have HK := Aside0.mk (KeepBut.of_below HA.out g none)
  have HB := Aside0.mk (below_step HB.out HA.out)
  have HI : Aside0 (Itm (W.alloc (.cells #[.int .i64 x.f0, .int .i64 x.f1, .string x.f2, .string x.f3, .int .i64 x.f4] 59)) W.heap.size x) := ⟨heap_alloc_new _ _⟩
  have hc0 := lv_cell0 HR.out
  unfold itemV
  go_enter Tryd.func64, Tryd.ntmps64
  go_wp2_with fail
  obtain ⟨b, hb⟩ : ∃ b, W.heap.size = b := ⟨_, rfl⟩
  have hne1 : ¬ b = g := by omega
  rw [hb] at HI
  rw [hb]
  clear hc0
  generalize W.alloc (.cells #[.int .i64 x.f0, .int .i64 x.f1, .string x.f2, .string x.f3, .int .i64 x.f4] 59) = w1 at HA HI HR HO HK HB ⊢
  clear HA hb
  refine wp_region_held_drew (S := fun w' => w'.cell? ⟨g, 1, none⟩ = some (.slice A keys.length c) ∧ w'.cell? ⟨b, 2, none⟩ = some (.string x.f2) ∧ Lv w' g 7 (.slice A keys.length c) ∧ Itm w' b x ∧ Keys w0 w' g (.slice A keys.length c) keys ∧ Below w0.heap.size w0 w' ∧ KeepBut w1 w' g none) (by kernel_rfl) ⟨lv_cell1 HR.out, itm_cell2 HI.out, HR.out, HI.out, Kd.R_move HO.out (fun _ _ => rfl), below_drew1 HB.out, KeepBut.refl _ _ _⟩ (fun hHeld => ?_)
  refine wpAnyH_take (i := 0) (oi := { dst := some 13, op := _, type := _, pos := _, after := _, guard := _ }) (v := ?_) rfl (by kernel_rfl) (by kernel_rfl) (by kernel_rfl) (fun _ _ _ h => h) (Or.inl ⟨by rfl, ?_⟩) (by assumption) ?_
  rotate_left
  · intro w hSw
    (try dsimp only at hSw)
    have hl0 := hSw.1
    have hl1 := hSw.2.1
    clear hSw
    go_simp
    (try with_reducible rfl)
  (try simp only [Act.put, List.setIfInBounds_toArray, List.set_cons_zero, List.set_cons_succ])
  refine wpAnyH_take (i := 1) (oi := { dst := some 14, op := _, type := _, pos := _, after := _, guard := _ }) (v := ?_) rfl (by kernel_rfl) (by kernel_rfl) (by kernel_rfl) (fun _ _ _ h => h) (Or.inl ⟨by rfl, ?_⟩) (by assumption) ?_
  rotate_left
  · intro w hSw
    (try dsimp only at hSw)
    have hl0 := hSw.1
    have hl1 := hSw.2.1
    clear hSw
    go_simp
    (try with_reducible rfl)
  (try simp only [Act.put, List.setIfInBounds_toArray, List.set_cons_zero, List.set_cons_succ])
  refine wpAnyH_ready (rs := [2]) (by kernel_rfl) (by simp) ?_
  refine AllReadyH.cons (o := { dst := some 15, op := _, type := _, pos := _, after := _, guard := _ }) rfl (fun K hK => ?_) AllReadyH.nil
  go_simp
  (go_at_call 30; refine (utf_Valid.calls x.f2 _ _ FV.out (JT.out.step hHeld.2.2.2.2.2.1)).mono ?_; rintro e w2 ⟨rfl, hbv⟩); go_wp2_with fail
  refine hK.out _ _ ?_ (fun hHeld => ?_)
  · exact ⟨lv_cell1 (lv_below hHeld.2.2.1 hbv), itm_cell2 ((hbv.block b (blk_lt hHeld.2.2.2.1)).trans hHeld.2.2.2.1), lv_below hHeld.2.2.1 hbv, (hbv.block b (blk_lt hHeld.2.2.2.1)).trans hHeld.2.2.2.1, Kd.R_below hHeld.2.2.2.2.1 hbv, hHeld.2.2.2.2.2.1.trans (hbv.mono hHeld.2.2.2.2.2.1.size), hHeld.2.2.2.2.2.2.trans (KeepBut.of_below hbv g none) (.inl rfl)⟩
  clear hK K
  (try simp only [Act.put, List.setIfInBounds_toArray, List.set_cons_zero, List.set_cons_succ])
  refine wpAnyH_take (i := 3) (oi := { dst := some 16, op := _, type := _, pos := _, after := _, guard := _ }) (v := ?_) rfl (by kernel_rfl) (by kernel_rfl) (by kernel_rfl) (fun _ _ _ h => h) (Or.inl ⟨by rfl, ?_⟩) (by assumption) ?_
  rotate_left
  · intro w hSw
    (try dsimp only at hSw)
    have hl0 := hSw.1
    have hl1 := hSw.2.1
    clear hSw
    go_simp
    (try with_reducible rfl)
  (try simp only [Act.put, List.setIfInBounds_toArray, List.set_cons_zero, List.set_cons_succ])
  refine wpAnyH_take (i := 4) (oi := { dst := some 17, op := _, type := _, pos := _, after := _, guard := _ }) (v := ?_) rfl (by kernel_rfl) (by kernel_rfl) (by kernel_rfl) (fun _ _ _ h => h) (Or.inl ⟨by rfl, ?_⟩) (by assumption) ?_
  rotate_left
  · intro w hSw
    (try dsimp only at hSw)
    have hl0 := hSw.1
    have hl1 := hSw.2.1
    clear hSw
    go_simp
    (try with_reducible rfl)
  (try simp only [Act.put, List.setIfInBounds_toArray, List.set_cons_zero, List.set_cons_succ])
  refine wpAnyH_take (i := 5) (oi := { dst := some 18, op := _, type := _, pos := _, after := _, guard := _ }) (v := ?_) rfl (by kernel_rfl) (by kernel_rfl) (by kernel_rfl) (fun _ _ _ h => h) (Or.inl ⟨by rfl, ?_⟩) (by assumption) ?_
  rotate_left
  · intro w hSw
    (try dsimp only at hSw)
    have hl0 := hSw.1
    have hl1 := hSw.2.1
    clear hSw
    go_simp
    (try with_reducible rfl)
  (try simp only [Act.put, List.setIfInBounds_toArray, List.set_cons_zero, List.set_cons_succ])
  refine wpAnyH_take (i := 6) (oi := { dst := some 19, op := _, type := _, pos := _, after := _, guard := _ }) (v := ?_) rfl (by kernel_rfl) (by kernel_rfl) (by kernel_rfl) (fun _ _ _ h => h) (Or.inl ⟨by rfl, ?_⟩) (by assumption) ?_
  rotate_left
  · intro w hSw
    (try dsimp only at hSw)
    have hl0 := hSw.1
    have hl1 := hSw.2.1
    clear hSw
    go_simp
    (try with_reducible rfl)
  (try simp only [Act.put, List.setIfInBounds_toArray, List.set_cons_zero, List.set_cons_succ])
  refine wpAnyH_take (i := 7) (oi := { dst := some 20, op := _, type := _, pos := _, after := _, guard := _ }) (v := ?_) rfl (by kernel_rfl) (by kernel_rfl) (by kernel_rfl) (fun _ _ _ h => h) (Or.inl ⟨by rfl, ?_⟩) (by assumption) ?_
  rotate_left
  · intro w hSw
    (try dsimp only at hSw)
    have hl0 := hSw.1
    have hl1 := hSw.2.1
    clear hSw
    go_simp
    (try with_reducible rfl)
  (try simp only [Act.put, List.setIfInBounds_toArray, List.set_cons_zero, List.set_cons_succ])
  refine wpAnyH_take (i := 8) (oi := { dst := some 21, op := _, type := _, pos := _, after := _, guard := _ }) (v := ?_) rfl (by kernel_rfl) (by kernel_rfl) (by kernel_rfl) (fun _ _ _ h => h) (Or.inl ⟨by rfl, ?_⟩) (by assumption) ?_
  rotate_left
  · intro w hSw
    (try dsimp only at hSw)
    have hl0 := hSw.1
    have hl1 := hSw.2.1
    clear hSw
    go_simp
    (try with_reducible rfl)
  (try simp only [Act.put, List.setIfInBounds_toArray, List.set_cons_zero, List.set_cons_succ])
  refine wpAnyH_take (i := 9) (oi := { dst := some 22, op := _, type := _, pos := _, after := _, guard := _ }) (v := ?_) rfl (by kernel_rfl) (by kernel_rfl) (by kernel_rfl) (fun _ _ _ h => h) (Or.inl ⟨by rfl, ?_⟩) (by assumption) ?_
  rotate_left
  · intro w hSw
    (try dsimp only at hSw)
    have hl0 := hSw.1
    have hl1 := hSw.2.1
    clear hSw
    go_simp
    (try with_reducible rfl)
  (try simp only [Act.put, List.setIfInBounds_toArray, List.set_cons_zero, List.set_cons_succ])
  refine wpAnyH_take (i := 10) (oi := { dst := some 23, op := _, type := _, pos := _, after := _, guard := _ }) (v := ?_) rfl (by kernel_rfl) (by kernel_rfl) (by kernel_rfl) (fun _ _ _ h => h) (Or.inl ⟨by rfl, ?_⟩) (by assumption) ?_
  rotate_left
  · intro w hSw
    (try dsimp only at hSw)
    have hl0 := hSw.1
    have hl1 := hSw.2.1
    clear hSw
    go_simp
    (try with_reducible rfl)
  (try simp only [Act.put, List.setIfInBounds_toArray, List.set_cons_zero, List.set_cons_succ])
  refine wpAnyH_ready (rs := [11]) (by kernel_rfl) (by simp) ?_
  refine AllReadyH.cons (o := { dst := some 24, op := _, type := _, pos := _, after := _, guard := _ }) rfl (fun K hK => ?_) AllReadyH.nil
  go_simp
  (go_at_call 86; refine (slices_Contains_string_string.calls (keys.length + 1) A c keys x.f2 _ _ (Kd.R_reads' hHeld.2.2.2.2.1).2.2 HC.out FC.out).mono ?_; rintro e w3 ⟨rfl, ⟨nd, rfl⟩⟩; have hbv := pw_below_drewN (Below.refl w2.heap.size w2) nd); go_wp2_with fail
  refine hK.out _ _ ?_ (fun hHeld => ?_)
  · exact ⟨lv_cell1 (lv_below hHeld.2.2.1 hbv), itm_cell2 ((hbv.block b (blk_lt hHeld.2.2.2.1)).trans hHeld.2.2.2.1), lv_below hHeld.2.2.1 hbv, (hbv.block b (blk_lt hHeld.2.2.2.1)).trans hHeld.2.2.2.1, Kd.R_below hHeld.2.2.2.2.1 hbv, hHeld.2.2.2.2.2.1.trans (hbv.mono hHeld.2.2.2.2.2.1.size), hHeld.2.2.2.2.2.2.trans (KeepBut.of_below hbv g none) (.inl rfl)⟩
  clear hK K
  (try simp only [Act.put, List.setIfInBounds_toArray, List.set_cons_zero, List.set_cons_succ])
  refine wpAnyH_take (i := 12) (oi := { dst := some 25, op := _, type := _, pos := _, after := _, guard := _ }) (v := ?_) rfl (by kernel_rfl) (by kernel_rfl) (by kernel_rfl) (fun _ _ _ h => h) (Or.inl ⟨by rfl, ?_⟩) (by assumption) ?_
  rotate_left
  · intro w hSw
    (try dsimp only at hSw)
    have hl0 := hSw.1
    have hl1 := hSw.2.1
    clear hSw
    go_simp
    (try with_reducible rfl)
  (try simp only [Act.put, List.setIfInBounds_toArray, List.set_cons_zero, List.set_cons_succ])
  refine wpAnyH_done (by kernel_rfl) ?_ _
  have HL := Aside0.mk hHeld
  clear hHeld
  go_wp2_with fail
  go_ret
  exact ⟨rfl, LvLeft.pre (HK.out.trans HL.out.2.2.2.2.2.2 (.inl rfl)) ⟨⟨_, HL.out.2.2.1, HL.out.2.2.2.2.1, .inl rfl⟩, HL.out.2.2.2.2.2.1, KeepBut.refl _ _ _⟩⟩
set_option maxHeartbeats 8000000 in
set_option maxRecDepth 100000 in
theorem member_yes (w0 W : World) (g : Nat) (kind : Int) (A : Option Addr) (c : Nat) (keys : List ByteArray) (x : S59) (hR : Lv W g kind (.slice A keys.length c)) (hO : Keys w0 W g (.slice A keys.length c) keys) (hB : Below w0.heap.size w0 W) (hg : w0.heap.size ≤ g) (hj : Tabs w0) (hk : kind = 7) (hv : utf_Valid.f x.f2 = some true) (hh : hasB x.f2 keys = false) (hl : (keys.length + 1) * 16 ≤ 140737488355328) :
    Calls Tryd.prog 64 #[.pointer (some ⟨g, 0, none⟩), itemV x] W fun e W' => e = .returned (.bool true) ∧ LvLeft w0 W W' g kind (.slice A keys.length c) (keys ++ [x.f2]) := by
  have HR := Aside0.mk hR
  have HO := Aside0.mk hO
  have HB := Aside0.mk hB
  have HG := Aside0.mk hg
  have JT := Aside0.mk hj
  subst hk
  have n1 : ((7 : Int) == 7) = true := rfl
  have FV := Aside0.mk hv
  have HKL := Aside0.mk hl
  have HC := Aside0.mk (Kd.R_reads' hO).2.1
  have HLn := (Kd.R_reads' hO).2.2.2.1
  have FC : Aside0 (slices_Contains_string_string.f (keys.length + 1) keys x.f2 = some false) := ⟨by rw [contains_f _ _ _ (by omega) HLn, hh]⟩
  clear hh HLn
  clear hR hO hB hg hj hv hl
  have hgW := blk_lt HR.out
  have HA : Aside0 (Below W.heap.size W (W.alloc (.cells #[.int .i64 x.f0, .int .i64 x.f1, .string x.f2, .string x.f3, .int .i64 x.f4] 59))) := ⟨below_alloc (Below.refl _ _) _⟩
  have HR := Aside0.mk (lv_below HR.out HA.out)
  have HO := Aside0.mk (Kd.R_below HO.out HA.out)
  have HK := Aside0.mk (KeepBut.of_below HA.out g none)
  have HB := Aside0.mk (below_step HB.out HA.out)
  have HI : Aside0 (Itm (W.alloc (.cells #[.int .i64 x.f0, .int .i64 x.f1, .string x.f2, .string x.f3, .int .i64 x.f4] 59)) W.heap.size x) := ⟨heap_alloc_new _ _⟩
  have hc0 := lv_cell0 HR.out
  unfold itemV
  go_enter Tryd.func64, Tryd.ntmps64
  go_wp2_with fail
  obtain ⟨b, hb⟩ : ∃ b, W.heap.size = b := ⟨_, rfl⟩
  have hne1 : ¬ b = g := by omega
  rw [hb] at HI
  rw [hb]
  clear hc0
  generalize W.alloc (.cells #[.int .i64 x.f0, .int .i64 x.f1, .string x.f2, .string x.f3, .int .i64 x.f4] 59) = w1 at HA HI HR HO HK HB ⊢
  clear HA hb
  refine wp_region_held_drew (S := fun w' => w'.cell? ⟨g, 1, none⟩ = some (.slice A keys.length c) ∧ w'.cell? ⟨b, 2, none⟩ = some (.string x.f2) ∧ Lv w' g 7 (.slice A keys.length c) ∧ Itm w' b x ∧ Keys w0 w' g (.slice A keys.length c) keys ∧ Below w0.heap.size w0 w' ∧ KeepBut w1 w' g none) (by kernel_rfl) ⟨lv_cell1 HR.out, itm_cell2 HI.out, HR.out, HI.out, Kd.R_move HO.out (fun _ _ => rfl), below_drew1 HB.out, KeepBut.refl _ _ _⟩ (fun hHeld => ?_)
  refine wpAnyH_take (i := 0) (oi := { dst := some 13, op := _, type := _, pos := _, after := _, guard := _ }) (v := ?_) rfl (by kernel_rfl) (by kernel_rfl) (by kernel_rfl) (fun _ _ _ h => h) (Or.inl ⟨by rfl, ?_⟩) (by assumption) ?_
  rotate_left
  · intro w hSw
    (try dsimp only at hSw)
    have hl0 := hSw.1
    have hl1 := hSw.2.1
    clear hSw
    go_simp
    (try with_reducible rfl)
  (try simp only [Act.put, List.setIfInBounds_toArray, List.set_cons_zero, List.set_cons_succ])
  refine wpAnyH_take (i := 1) (oi := { dst := some 14, op := _, type := _, pos := _, after := _, guard := _ }) (v := ?_) rfl (by kernel_rfl) (by kernel_rfl) (by kernel_rfl) (fun _ _ _ h => h) (Or.inl ⟨by rfl, ?_⟩) (by assumption) ?_
  rotate_left
  · intro w hSw
    (try dsimp only at hSw)
    have hl0 := hSw.1
    have hl1 := hSw.2.1
    clear hSw
    go_simp
    (try with_reducible rfl)
  (try simp only [Act.put, List.setIfInBounds_toArray, List.set_cons_zero, List.set_cons_succ])
  refine wpAnyH_ready (rs := [2]) (by kernel_rfl) (by simp) ?_
  refine AllReadyH.cons (o := { dst := some 15, op := _, type := _, pos := _, after := _, guard := _ }) rfl (fun K hK => ?_) AllReadyH.nil
  go_simp
  (go_at_call 30; refine (utf_Valid.calls x.f2 _ _ FV.out (JT.out.step hHeld.2.2.2.2.2.1)).mono ?_; rintro e w2 ⟨rfl, hbv⟩); go_wp2_with fail
  refine hK.out _ _ ?_ (fun hHeld => ?_)
  · exact ⟨lv_cell1 (lv_below hHeld.2.2.1 hbv), itm_cell2 ((hbv.block b (blk_lt hHeld.2.2.2.1)).trans hHeld.2.2.2.1), lv_below hHeld.2.2.1 hbv, (hbv.block b (blk_lt hHeld.2.2.2.1)).trans hHeld.2.2.2.1, Kd.R_below hHeld.2.2.2.2.1 hbv, hHeld.2.2.2.2.2.1.trans (hbv.mono hHeld.2.2.2.2.2.1.size), hHeld.2.2.2.2.2.2.trans (KeepBut.of_below hbv g none) (.inl rfl)⟩
  clear hK K
  (try simp only [Act.put, List.setIfInBounds_toArray, List.set_cons_zero, List.set_cons_succ])
  refine wpAnyH_take (i := 3) (oi := { dst := some 16, op := _, type := _, pos := _, after := _, guard := _ }) (v := ?_) rfl (by kernel_rfl) (by kernel_rfl) (by kernel_rfl) (fun _ _ _ h => h) (Or.inl ⟨by rfl, ?_⟩) (by assumption) ?_
  rotate_left
  · intro w hSw
    (try dsimp only at hSw)
    have hl0 := hSw.1
    have hl1 := hSw.2.1
    clear hSw
    go_simp
    (try with_reducible rfl)
  (try simp only [Act.put, List.setIfInBounds_toArray, List.set_cons_zero, List.set_cons_succ])
  refine wpAnyH_take (i := 4) (oi := { dst := some 17, op := _, type := _, pos := _, after := _, guard := _ }) (v := ?_) rfl (by kernel_rfl) (by kernel_rfl) (by kernel_rfl) (fun _ _ _ h => h) (Or.inl ⟨by rfl, ?_⟩) (by assumption) ?_
  rotate_left
  · intro w hSw
    (try dsimp only at hSw)
    have hl0 := hSw.1
    have hl1 := hSw.2.1
    clear hSw
    go_simp
    (try with_reducible rfl)
  (try simp only [Act.put, List.setIfInBounds_toArray, List.set_cons_zero, List.set_cons_succ])
  refine wpAnyH_take (i := 5) (oi := { dst := some 18, op := _, type := _, pos := _, after := _, guard := _ }) (v := ?_) rfl (by kernel_rfl) (by kernel_rfl) (by kernel_rfl) (fun _ _ _ h => h) (Or.inl ⟨by rfl, ?_⟩) (by assumption) ?_
  rotate_left
  · intro w hSw
    (try dsimp only at hSw)
    have hl0 := hSw.1
    have hl1 := hSw.2.1
    clear hSw
    go_simp
    (try with_reducible rfl)
  (try simp only [Act.put, List.setIfInBounds_toArray, List.set_cons_zero, List.set_cons_succ])
  refine wpAnyH_take (i := 6) (oi := { dst := some 19, op := _, type := _, pos := _, after := _, guard := _ }) (v := ?_) rfl (by kernel_rfl) (by kernel_rfl) (by kernel_rfl) (fun _ _ _ h => h) (Or.inl ⟨by rfl, ?_⟩) (by assumption) ?_
  rotate_left
  · intro w hSw
    (try dsimp only at hSw)
    have hl0 := hSw.1
    have hl1 := hSw.2.1
    clear hSw
    go_simp
    (try with_reducible rfl)
  (try simp only [Act.put, List.setIfInBounds_toArray, List.set_cons_zero, List.set_cons_succ])
  refine wpAnyH_take (i := 7) (oi := { dst := some 20, op := _, type := _, pos := _, after := _, guard := _ }) (v := ?_) rfl (by kernel_rfl) (by kernel_rfl) (by kernel_rfl) (fun _ _ _ h => h) (Or.inl ⟨by rfl, ?_⟩) (by assumption) ?_
  rotate_left
  · intro w hSw
    (try dsimp only at hSw)
    have hl0 := hSw.1
    have hl1 := hSw.2.1
    clear hSw
    go_simp
    (try with_reducible rfl)
  (try simp only [Act.put, List.setIfInBounds_toArray, List.set_cons_zero, List.set_cons_succ])
  refine wpAnyH_take (i := 8) (oi := { dst := some 21, op := _, type := _, pos := _, after := _, guard := _ }) (v := ?_) rfl (by kernel_rfl) (by kernel_rfl) (by kernel_rfl) (fun _ _ _ h => h) (Or.inl ⟨by rfl, ?_⟩) (by assumption) ?_
  rotate_left
  · intro w hSw
    (try dsimp only at hSw)
    have hl0 := hSw.1
    have hl1 := hSw.2.1
    clear hSw
    go_simp
    (try with_reducible rfl)
  (try simp only [Act.put, List.setIfInBounds_toArray, List.set_cons_zero, List.set_cons_succ])
  refine wpAnyH_take (i := 9) (oi := { dst := some 22, op := _, type := _, pos := _, after := _, guard := _ }) (v := ?_) rfl (by kernel_rfl) (by kernel_rfl) (by kernel_rfl) (fun _ _ _ h => h) (Or.inl ⟨by rfl, ?_⟩) (by assumption) ?_
  rotate_left
  · intro w hSw
    (try dsimp only at hSw)
    have hl0 := hSw.1
    have hl1 := hSw.2.1
    clear hSw
    go_simp
    (try with_reducible rfl)
  (try simp only [Act.put, List.setIfInBounds_toArray, List.set_cons_zero, List.set_cons_succ])
  refine wpAnyH_take (i := 10) (oi := { dst := some 23, op := _, type := _, pos := _, after := _, guard := _ }) (v := ?_) rfl (by kernel_rfl) (by kernel_rfl) (by kernel_rfl) (fun _ _ _ h => h) (Or.inl ⟨by rfl, ?_⟩) (by assumption) ?_
  rotate_left
  · intro w hSw
    (try dsimp only at hSw)
    have hl0 := hSw.1
    have hl1 := hSw.2.1
    clear hSw
    go_simp
    (try with_reducible rfl)
  (try simp only [Act.put, List.setIfInBounds_toArray, List.set_cons_zero, List.set_cons_succ])
  refine wpAnyH_ready (rs := [11]) (by kernel_rfl) (by simp) ?_
  refine AllReadyH.cons (o := { dst := some 24, op := _, type := _, pos := _, after := _, guard := _ }) rfl (fun K hK => ?_) AllReadyH.nil
  go_simp
  (go_at_call 86; refine (slices_Contains_string_string.calls (keys.length + 1) A c keys x.f2 _ _ (Kd.R_reads' hHeld.2.2.2.2.1).2.2 HC.out FC.out).mono ?_; rintro e w3 ⟨rfl, ⟨nd, rfl⟩⟩; have hbv := pw_below_drewN (Below.refl w2.heap.size w2) nd); go_wp2_with fail
  refine hK.out _ _ ?_ (fun hHeld => ?_)
  · exact ⟨lv_cell1 (lv_below hHeld.2.2.1 hbv), itm_cell2 ((hbv.block b (blk_lt hHeld.2.2.2.1)).trans hHeld.2.2.2.1), lv_below hHeld.2.2.1 hbv, (hbv.block b (blk_lt hHeld.2.2.2.1)).trans hHeld.2.2.2.1, Kd.R_below hHeld.2.2.2.2.1 hbv, hHeld.2.2.2.2.2.1.trans (hbv.mono hHeld.2.2.2.2.2.1.size), hHeld.2.2.2.2.2.2.trans (KeepBut.of_below hbv g none) (.inl rfl)⟩
  clear hK K
  (try simp only [Act.put, List.setIfInBounds_toArray, List.set_cons_zero, List.set_cons_succ])
  refine wpAnyH_take (i := 12) (oi := { dst := some 25, op := _, type := _, pos := _, after := _, guard := _ }) (v := ?_) rfl (by kernel_rfl) (by kernel_rfl) (by kernel_rfl) (fun _ _ _ h => h) (Or.inl ⟨by rfl, ?_⟩) (by assumption) ?_
  rotate_left
  · intro w hSw
    (try dsimp only at hSw)
    have hl0 := hSw.1
    have hl1 := hSw.2.1
    clear hSw
    go_simp
    (try with_reducible rfl)
  (try simp only [Act.put, List.setIfInBounds_toArray, List.set_cons_zero, List.set_cons_succ])
  refine wpAnyH_done (by kernel_rfl) ?_ _
  have HL := Aside0.mk hHeld
  clear hHeld
  go_wp2_with fail
  generalize w2.drewN nd = w4 at HL ⊢
  refine start_ (n := 12) (S := fun w' => w'.cell? ⟨g, 1, none⟩ = some (.slice A keys.length c) ∧ w'.cell? ⟨b, 2, none⟩ = some (.string x.f2)) (ds := [8, 11]) #[false, false, false, false, false, false, false, false, false, false, false, false] (by kernel_rfl) rfl rfl ⟨lv_cell1 HL.out.2.2.1, itm_cell2 HL.out.2.2.2.1⟩ (fun hHeld => ?_)
  refine pure_ (i := 0) (N := some 26) (v := ?_) (a' := ?_) #[true, false, false, false, false, false, false, false, false, false, false, false] rfl rfl (by kernel_rfl) (fun _ _ _ h => h) (Or.inl ⟨by rfl, ?_⟩) ?_ ?_
  rotate_left
  · intro w'
    go_simp
    (try with_reducible rfl)
  rotate_left
  · simp only [Act.put, List.setIfInBounds_toArray, List.set_cons_zero, List.set_cons_succ]
    rfl
  refine pure_ (i := 1) (N := some 27) (v := ?_) (a' := ?_) #[true, true, false, false, false, false, false, false, false, false, false, false] rfl rfl (by kernel_rfl) (fun _ _ _ h => h) (Or.inl ⟨by rfl, ?_⟩) ?_ ?_
  rotate_left
  · intro w'
    go_simp
    (try with_reducible rfl)
  rotate_left
  · simp only [Act.put, List.setIfInBounds_toArray, List.set_cons_zero, List.set_cons_succ]
    rfl
  refine pure_ (i := 2) (N := some 28) (v := ?_) (a' := ?_) #[true, true, true, false, false, false, false, false, false, false, false, false] rfl rfl (by kernel_rfl) (fun _ _ _ h => h) (Or.inl ⟨by rfl, ?_⟩) ?_ ?_
  rotate_left
  · intro w'
    go_simp
    (try with_reducible rfl)
  rotate_left
  · simp only [Act.put, List.setIfInBounds_toArray, List.set_cons_zero, List.set_cons_succ]
    rfl
  refine pure_ (i := 3) (N := some 29) (v := ?_) (a' := ?_) #[true, true, true, true, false, false, false, false, false, false, false, false] rfl rfl (by kernel_rfl) (fun _ _ _ h => h) (Or.inl ⟨by rfl, ?_⟩) ?_ ?_
  rotate_left
  · intro w'
    go_simp
    (try with_reducible rfl)
  rotate_left
  · simp only [Act.put, List.setIfInBounds_toArray, List.set_cons_zero, List.set_cons_succ]
    rfl
  refine take_ (i := 4) (N := some 30) (v := ?_) (a' := ?_) #[true, true, true, true, true, false, false, false, false, false, false, false] rfl rfl (by kernel_rfl) (fun _ _ _ h => h) (Or.inl ⟨by rfl, ?_⟩) (by assumption) ?_ ?_
  rotate_left
  · intro w hSw
    obtain ⟨hl0, hl1⟩ := hSw
    go_simp
    (try with_reducible rfl)
  rotate_left
  · simp only [Act.put, List.setIfInBounds_toArray, List.set_cons_zero, List.set_cons_succ]
    rfl
  refine pure_ (i := 5) (N := some 31) (v := ?_) (a' := ?_) #[true, true, true, true, true, true, false, false, false, false, false, false] rfl rfl (by kernel_rfl) (fun _ _ _ h => h) (Or.inl ⟨by rfl, ?_⟩) ?_ ?_
  rotate_left
  · intro w'
    go_simp
    (try with_reducible rfl)
  rotate_left
  · simp only [Act.put, List.setIfInBounds_toArray, List.set_cons_zero, List.set_cons_succ]
    rfl
  refine take_ (i := 6) (N := some 32) (v := ?_) (a' := ?_) #[true, true, true, true, true, true, true, false, false, false, false, false] rfl rfl (by kernel_rfl) (fun _ _ _ h => h) (Or.inl ⟨by rfl, ?_⟩) (by assumption) ?_ ?_
  rotate_left
  · intro w hSw
    obtain ⟨hl0, hl1⟩ := hSw
    go_simp
    (try with_reducible rfl)
  rotate_left
  · simp only [Act.put, List.setIfInBounds_toArray, List.set_cons_zero, List.set_cons_succ]
    rfl
  refine one_ (i := 7) (N := some 33) #[true, true, true, true, true, true, true, true, false, false, false, false] rfl rfl (by kernel_rfl) (by decide) (fun K hK => ?_)
  refine event_step (W := w4.drew) (v := .slice (some ⟨w4.heap.size, 0, none⟩) 1 1) (w1 := w4.drew.alloc (.cells #[.string x.f2] 9)) (by rfl) (by kernel_rfl) ?_
  refine hK.out _ _ ?_ (fun hHeld => ?_)
  · exact keep_key HL.out.2.2.1 HL.out.2.2.2.1 _
  clear hK K
  (try simp only [Act.put, List.setIfInBounds_toArray, List.set_cons_zero, List.set_cons_succ])
  refine last_ (i := 8) (N := some 34) #[true, true, true, true, true, true, true, true, true, false, false, false] rfl rfl (by kernel_rfl) (by decide) (fun K hK => ?_)
  refine push_key (.tmp 30) (.tmp 33) (by rfl) rfl rfl rfl HL.out.2.2.1 HL.out.2.2.2.2.1 HL.out.2.2.2.2.2.1 HG.out HKL.out ?_
  intro As N2 cc w2 hR2 hP2
  have hc2 := lv_cell1 hR2
  have hf2 := blk_frozen hR2 1
  have HP := Aside0.mk hP2
  clear hR2 hP2
  refine hK.out _ _ ?_
  clear hK K
  (try simp only [Act.put, List.setIfInBounds_toArray, List.set_cons_zero, List.set_cons_succ])
  refine pure_ (i := 9) (N := some 35) (v := ?_) (a' := ?_) #[true, true, true, true, true, true, true, true, true, true, false, false] rfl rfl (by kernel_rfl) (fun _ _ _ h => h) (Or.inl ⟨by rfl, ?_⟩) ?_ ?_
  rotate_left
  · intro w'
    go_simp
    (try with_reducible rfl)
  rotate_left
  · simp only [Act.put, List.setIfInBounds_toArray, List.set_cons_zero, List.set_cons_succ]
    rfl
  refine pure_ (i := 10) (N := some 36) (v := ?_) (a' := ?_) #[true, true, true, true, true, true, true, true, true, true, true, false] rfl rfl (by kernel_rfl) (fun _ _ _ h => h) (Or.inl ⟨by rfl, ?_⟩) ?_ ?_
  rotate_left
  · intro w'
    go_simp
    (try with_reducible rfl)
  rotate_left
  · simp only [Act.put, List.setIfInBounds_toArray, List.set_cons_zero, List.set_cons_succ]
    rfl
  refine last_ (i := 11) (N := none) #[true, true, true, true, true, true, true, true, true, true, true, true] rfl rfl (by kernel_rfl) (by decide) (fun K hK => ?_)
  go_simp
  refine hK.out _ _ ?_
  clear hK K
  (try simp only [Act.put, List.setIfInBounds_toArray, List.set_cons_zero, List.set_cons_succ])
  refine done_ (by kernel_rfl) ?_
  go_wp2_with fail
  go_ret
  exact ⟨rfl, LvLeft.pre (HK.out.trans HL.out.2.2.2.2.2.2 (.inl rfl)) HP.out⟩
/-- may an item stand in a level? and its keys then -/
def memberF (kind : Int) (keys : List ByteArray) (x : S59) : Option (Bool × List ByteArray) :=
  if kind = 7 then (utf_Valid.f x.f2).bind fun ok => if ok = true then (if hasB x.f2 keys = true then some (false, keys) else if (keys.length + 1) * 16 ≤ 140737488355328 then some (true, keys ++ [x.f2]) else none) else some (false, keys)
  else some (x.f2.toList.isEmpty, keys)
theorem member_calls (w0 W : World) (g : Nat) (kind : Int) (kv : Value) (keys : List ByteArray) (x : S59) (r : Bool × List ByteArray) (h : memberF kind keys x = some r) (hR : Lv W g kind kv) (hO : Keys w0 W g kv keys) (hB : Below w0.heap.size w0 W) (hg : w0.heap.size ≤ g) (hj : Tabs w0) :
    Calls Tryd.prog 64 #[.pointer (some ⟨g, 0, none⟩), itemV x] W fun e W' => e = .returned (.bool r.1) ∧ LvLeft w0 W W' g kind kv r.2 := by
  obtain ⟨A, c, rfl⟩ := Kd.R_slice hO
  unfold memberF at h
  by_cases hk : kind = 7
  · rw [if_pos hk] at h
    obtain ⟨ok, hv, h⟩ := Option.bind_eq_some_iff.1 h
    cases ok with
    | true =>
      rw [if_pos rfl] at h
      by_cases hh : hasB x.f2 keys = true
      · rw [if_pos hh] at h
        cases h
        exact member_twice w0 W g kind A c _ x hR hO hB hg hj hk hv hh
      · rw [if_neg hh] at h
        by_cases hl : (keys.length + 1) * 16 ≤ 140737488355328
        · rw [if_pos hl] at h
          cases h
          exact member_yes w0 W g kind A c keys x hR hO hB hg hj hk hv (Bool.eq_false_iff.2 hh) hl
        · rw [if_neg hl] at h; cases h
    | false =>
      rw [if_neg (by decide)] at h
      cases h
      exact member_bad w0 W g kind A c _ x hR hO hB hg hj hk hv
  · rw [if_neg hk] at h
    cases h
    exact member_no w0 W g kind A c _ x hR hO hB hg hj hk
end Go.Proofs.YthhmmaihbjhhgaaDoor.Giv
namespace Go.Proofs.YthhmmaihbjhhgaaDoor.Giv
open Go.RowKit Go.Proofs.YthhmmaihbjhhgaaDoorW.PrintWords Go.Proofs.YthhmmaihbjhhgaaDoorW.PrintLast Go.Proofs.YthhmmaihbjhhgaaDoorW.PrintMore
open Go.Proofs.YthhmmaihbjhhgaaDoor.U1 Go.Proofs.YthhmmaihbjhhgaaDoor.Q1 Go.Proofs.YthhmmaihbjhhgaaDoor.J0 Go.Proofs.YthhmmaihbjhhgaaDoor.J1
set_option linter.unusedSimpArgs false
/-- one level: its block, its kind, its keys' row and the keys -/
structure Level where
  g : Nat
  kind : Int
  kv : Value
  keys : List ByteArray
def kptr : Kd Nat := Kd.scalar (fun g => .pointer (some ⟨g, 0, none⟩)) (fun _ => rfl)
/-- what is open: the row of the levels' pointers, and the levels -/
structure Sk (w0 W : World) (ov : Value) (lv : List Level) : Prop where
  row : Kd.R kptr 82 W w0.heap.size (fun _ => True) ov (lv.map (·.g))
  each : ∀ l ∈ lv, w0.heap.size ≤ l.g ∧ Lv W l.g l.kind l.kv ∧ Keys w0 W l.g l.kv l.keys
  apart : lv.Pairwise (fun a b => a.g ≠ b.g ∧ ∀ k, a.kv.ownBlock = some k → b.kv.ownBlock ≠ some k)
  below : Below w0.heap.size w0 W
theorem typed_ne {W : World} {i j : Nat} {c1 c2 : Array Value} {t1 t2 : TypeId} (h1 : W.heap[i]? = some (.cells c1 t1 (0, 0))) (h2 : W.heap[j]? = some (.cells c2 t2 (0, 0))) (ht : t1 ≠ t2) : i ≠ j := by
  rintro rfl
  rw [h1] at h2
  injection h2 with h2
  injection h2 with _ h2
  exact ht h2
theorem Sk.quiet {w0 W W' : World} {ov : Value} {lv : List Level} (h : Sk w0 W ov lv) (hb : Below W.heap.size W W') : Sk w0 W' ov lv :=
  ⟨Kd.R_below h.row hb, fun l hl => ⟨(h.each l hl).1, lv_below (h.each l hl).2.1 hb, Kd.R_below (h.each l hl).2.2 hb⟩, h.apart, h.below.trans (hb.mono h.below.size)⟩
theorem Sk.take {w0 W : World} {A : Option Addr} {n c m : Nat} {lv : List Level} (h : Sk w0 W (.slice A n c) lv) (hm : m ≤ lv.length) : Sk w0 W (.slice A m c) (lv.take m) :=
  ⟨by rw [List.map_take]; exact Kd.R_take h.row (by rw [List.length_map]; exact hm), fun l hl => h.each l (List.mem_of_mem_take hl), h.apart.sublist (List.take_sublist m lv), h.below⟩
theorem Sk.top {w0 W W' : World} {ov : Value} {pre : List Level} {t : Level} {keys' : List ByteArray} (h : Sk w0 W ov (pre ++ [t])) (hl : LvLeft w0 W W' t.g t.kind t.kv keys') : ∃ kv', Sk w0 W' ov (pre ++ [⟨t.g, t.kind, kv', keys'⟩]) := by
  obtain ⟨⟨kv', hL, hK, hA⟩, hB, hkeep⟩ := hl
  have ht : t ∈ pre ++ [t] := List.mem_append_right _ List.mem_cons_self
  obtain ⟨htg, htL, htK⟩ := h.each t ht
  have hap := List.pairwise_append.1 h.apart
  have hpre : ∀ l ∈ pre, l.g ≠ t.g ∧ ∀ k, l.kv.ownBlock = some k → t.kv.ownBlock ≠ some k := fun l hl => hap.2.2 l hl t List.mem_cons_self
  have hty : ∀ k, t.kv.ownBlock = some k → ∃ cells, W.heap[k]? = some (.cells cells 9 (0, 0)) := fun k hk => Kd.R_typed htK k hk
  refine ⟨kv', ?_, ?_, ?_, hB⟩
  · have hm : (pre ++ [t]).map (·.g) = (pre ++ [(⟨t.g, t.kind, kv', keys'⟩ : Level)]).map (·.g) := by simp
    rw [← hm]
    refine Kd.R_mono (Kd.R_step (Kd.R_bound h.row) (fun k hk hlt => hkeep.2 k hlt ?_ ?_)) (fun _ _ => trivial)
    · obtain ⟨_, _, _, q, hq, cells, hc⟩ := hk
      have hq2 : q = 82 := by simpa [kptr, Kd.scalar] using hq
      subst hq2
      exact typed_ne hc htL (by decide)
    · intro e
      obtain ⟨_, _, _, q, hq, cells, hc⟩ := hk
      have hq2 : q = 82 := by simpa [kptr, Kd.scalar] using hq
      subst hq2
      obtain ⟨c2, hc2⟩ := hty k e.symm
      exact typed_ne hc hc2 (by decide) rfl
  · intro l hl
    rcases List.mem_append.1 hl with hl | hl
    · have hl2 := h.each l (List.mem_append_left _ hl)
      have hg2 := (hpre l hl).1
      have hgr : some l.g ≠ t.kv.ownBlock := by
        intro e
        obtain ⟨c2, hc2⟩ := hty l.g e.symm
        exact typed_ne hl2.2.1 hc2 (by decide) rfl
      refine ⟨hl2.1, (hkeep.2 l.g (blk_lt hl2.2.1) hg2 hgr).trans hl2.2.1, ?_⟩
      refine keys_flat (Kd.R_step (keys_flat hl2.2.2 (ok' := fun j => j ≠ l.g ∧ j ≠ t.g ∧ some j ≠ t.kv.ownBlock) (fun j hj hg => ⟨hg, ?_, fun e => (hpre l hl).2 j hj e.symm⟩)) (fun j hj hlt => hkeep.2 j hlt hj.2.1 hj.2.2)) (fun _ _ h => h.1)
      obtain ⟨c2, hc2⟩ := Kd.R_typed hl2.2.2 j hj
      exact typed_ne hc2 htL (by decide)
    · obtain rfl := List.mem_singleton.1 hl
      exact ⟨htg, hL, hK⟩
  · refine List.pairwise_append.2 ⟨hap.1, List.pairwise_singleton _ _, fun l hl b hb => ?_⟩
    obtain rfl := List.mem_singleton.1 hb
    refine ⟨(hpre l hl).1, fun k hk e => ?_⟩
    rcases hA with hA | ⟨b2, hA, hb2⟩
    · exact (hpre l hl).2 k hk (hA ▸ e)
    · have e2 : b2 = k := Option.some.inj (hA.symm.trans e)
      subst e2
      have := keys_lt (h.each l (List.mem_append_left _ hl)).2.2 hk
      omega
/-- what a further level's block and pointer are -/
theorem Sk.more {w0 W W' : World} {ov ov' : Value} {lv : List Level} {g : Nat} {kind : Int} (h : Sk w0 W ov lv) (hg : W.heap[g]? = some (.cells #[.int .i64 kind, .slice none 0 0] 85 (0, 0))) (hg0 : w0.heap.size ≤ g) (hn : ∀ l ∈ lv, l.g ≠ g)
    (hR : Kd.R kptr 82 W' w0.heap.size (fun _ => True) ov' (lv.map (·.g) ++ [g])) (hB : Below w0.heap.size w0 W') (hG : W.grownBy W' ov.ownBlock) : Sk w0 W' ov' (lv ++ [⟨g, kind, .slice none 0 0, []⟩]) := by
  have hty : ∀ k, ov.ownBlock = some k → ∃ cells, W.heap[k]? = some (.cells cells 82 (0, 0)) := fun k hk => Kd.R_typed h.row k hk
  have far : ∀ {k : Nat} {c : Array Value} {q : TypeId}, W.heap[k]? = some (.cells c q (0, 0)) → q ≠ 82 → some k ≠ ov.ownBlock := by
    intro k c q hk hq e
    obtain ⟨c2, hc2⟩ := hty k e.symm
    exact typed_ne hk hc2 hq rfl
  refine ⟨by rw [List.map_append]; exact hR, ?_, ?_, hB⟩
  · intro l hl
    rcases List.mem_append.1 hl with hl | hl
    · have hl2 := h.each l hl
      refine ⟨hl2.1, blk_grown hl2.2.1 hG (far hl2.2.1 (by decide)), ?_⟩
      refine keys_flat (Kd.R_grown (keys_flat hl2.2.2 (ok' := fun j => j ≠ l.g ∧ some j ≠ ov.ownBlock) (fun j hj hg => ⟨hg, ?_⟩)) hG (fun _ h => h.2)) (fun _ _ h => h.1)
      obtain ⟨c2, hc2⟩ := Kd.R_typed hl2.2.2 j hj
      exact far hc2 (by decide)
    · obtain rfl := List.mem_singleton.1 hl
      exact ⟨hg0, blk_grown hg hG (far hg (by decide)), Kd.R_nil _ _ _ _ _⟩
  · refine List.pairwise_append.2 ⟨h.apart, List.pairwise_singleton _ _, fun l hl b hb => ?_⟩
    obtain rfl := List.mem_singleton.1 hb
    exact ⟨hn l hl, fun k _ e => by simp [Value.ownBlock] at e⟩
/-- the pointer that stands at a place -/
theorem Sk.form {w0 W : World} {ov : Value} {lv : List Level} (h : Sk w0 W ov lv) (hp : 0 < lv.length) : ∃ G c, ov = .slice (some ⟨G, 0, none⟩) lv.length c ∧ lv.length ≤ c := by
  obtain ⟨G, c, e, _⟩ := Kd.R_form h.row (by rw [List.length_map]; exact hp)
  rw [List.length_map] at e
  subst e
  exact ⟨G, c, rfl, (Kd.R_reads' h.row).2.1⟩
theorem Sk.cell {w0 W : World} {G n c : Nat} {lv : List Level} (h : Sk w0 W (.slice (some ⟨G, 0, none⟩) n c) lv) (d : Nat) (l : Level) (hd : lv[d]? = some l) : W.cell? ⟨G, d, none⟩ = some (.pointer (some ⟨l.g, 0, none⟩)) := by
  obtain ⟨hlt, hg⟩ := List.getElem?_eq_some_iff.1 hd
  have hn := (Kd.R_reads' h.row).1
  subst hn
  have := (Kd.R_cell 0 h.row (d : Int) (by omega) (by rw [List.length_map]; omega)).1
  simp only [Int.toNat_natCast] at this
  rw [this, rdOf]
  simp [List.getD, List.getElem?_map, hd]
end Go.Proofs.YthhmmaihbjhhgaaDoor.Giv
namespace Go.Proofs.YthhmmaihbjhhgaaDoor.Giv
open Go.RowKit Go.Proofs.YthhmmaihbjhhgaaDoorW.PrintWords Go.Proofs.YthhmmaihbjhhgaaDoorW.PrintLast Go.Proofs.YthhmmaihbjhhgaaDoorW.PrintMore
open Go.Proofs.YthhmmaihbjhhgaaDoor.U1 Go.Proofs.YthhmmaihbjhhgaaDoor.Q1 Go.Proofs.YthhmmaihbjhhgaaDoor.J0 Go.Proofs.YthhmmaihbjhhgaaDoor.J1
set_option linter.unusedSimpArgs false
theorem heap_alloc_two (w : World) (o1 o2 : Obj) : ((w.alloc o1).alloc o2).heap[w.heap.size + 1]? = some o2 := by
  have := heap_alloc_new (w.alloc o1) o2
  simpa using this
set_option maxHeartbeats 8000000 in
set_option maxRecDepth 100000 in
theorem bare5 (x : S59) (w : World) (h5 : x.f1 = 5) : Calls Tryd.prog 63 #[itemV x] w fun e w' => e = .returned (itemV ⟨x.f0, x.f1, x.f2, x.f3, 0⟩) ∧ Below w.heap.size w w' := by
  have hu59 := Tryd.underlying59
  have c1 : (x.f1 == 5) = true := beq_iff_eq.mpr h5
  clear h5
  unfold itemV
  go_enter Tryd.func63, Tryd.ntmps63
  go_wp2_with fail
  refine bodyPost_ret (results_cell_row rfl _ _ (w.heap.size + 1) 59 #[.int .i64 x.f0, .int .i64 x.f1, .string x.f2, .string x.f3, .int .i64 0] (0, 0) _ rfl ?_ Tryd.underlying59 rfl (by kernel_rfl)) rfl ?_
  · exact blk_alloc (heap_alloc_two _ _ _) _
  exact ⟨rfl, ((below_alloc (Below.refl _ _) _).alloc (by simp) _).alloc (by simp; omega) _⟩
set_option maxHeartbeats 8000000 in
set_option maxRecDepth 100000 in
theorem bare4 (x : S59) (w : World) (h4 : x.f1 = 4) : Calls Tryd.prog 63 #[itemV x] w fun e w' => e = .returned (itemV ⟨x.f0, x.f1, x.f2, ⟨#[]⟩, x.f4⟩) ∧ Below w.heap.size w w' := by
  have hu59 := Tryd.underlying59
  have c1 : (x.f1 == 5) = false := by rw [h4]; rfl
  have c2 : (x.f1 == 4) = true := beq_iff_eq.mpr h4
  clear h4
  unfold itemV
  go_enter Tryd.func63, Tryd.ntmps63
  go_wp2_with fail
  refine bodyPost_ret (results_cell_row rfl _ _ (w.heap.size + 1) 59 #[.int .i64 x.f0, .int .i64 x.f1, .string x.f2, .string ⟨#[]⟩, .int .i64 x.f4] (0, 0) _ rfl ?_ Tryd.underlying59 rfl (by kernel_rfl)) rfl ?_
  · exact blk_alloc (heap_alloc_two _ _ _) _
  exact ⟨rfl, ((below_alloc (Below.refl _ _) _).alloc (by simp) _).alloc (by simp; omega) _⟩
set_option maxHeartbeats 8000000 in
set_option maxRecDepth 100000 in
theorem bare0 (x : S59) (w : World) (h5 : x.f1 ≠ 5) (h4 : x.f1 ≠ 4) : Calls Tryd.prog 63 #[itemV x] w fun e w' => e = .returned (itemV ⟨x.f0, x.f1, x.f2, ⟨#[]⟩, 0⟩) ∧ Below w.heap.size w w' := by
  have hu59 := Tryd.underlying59
  have c1 : (x.f1 == 5) = false := beq_eq_false_iff_ne.mpr h5
  have c2 : (x.f1 == 4) = false := beq_eq_false_iff_ne.mpr h4
  clear h4 h5
  unfold itemV
  go_enter Tryd.func63, Tryd.ntmps63
  go_wp2_with fail
  refine bodyPost_ret (results_cell_row rfl _ _ (w.heap.size + 1) 59 #[.int .i64 x.f0, .int .i64 x.f1, .string x.f2, .string ⟨#[]⟩, .int .i64 0] (0, 0) _ rfl ?_ Tryd.underlying59 rfl (by kernel_rfl)) rfl ?_
  · exact blk_alloc (heap_alloc_two _ _ _) _
  exact ⟨rfl, ((below_alloc (Below.refl _ _) _).alloc (by simp) _).alloc (by simp; omega) _⟩
/-- an item with just what its kind has -/
def bareI (x : S59) : S59 := if x.f1 = 5 then ⟨x.f0, x.f1, x.f2, x.f3, 0⟩ else if x.f1 = 4 then ⟨x.f0, x.f1, x.f2, ⟨#[]⟩, x.f4⟩ else ⟨x.f0, x.f1, x.f2, ⟨#[]⟩, 0⟩
theorem bare_calls (x : S59) (w : World) : Calls Tryd.prog 63 #[itemV x] w fun e w' => e = .returned (itemV (bareI x)) ∧ Below w.heap.size w w' := by
  unfold bareI
  split
  · next h => exact bare5 x w h
  · split
    · next h => exact bare4 x w h
    · next h1 h2 => exact bare0 x w h1 h2
set_option maxHeartbeats 8000000 in
set_option maxRecDepth 100000 in
theorem holds_calls (x : S59) (w : World) : Calls Tryd.prog 65 #[itemV x] w fun e w' => e = .returned (.bool (x.f1 == 6 || x.f1 == 7)) ∧ Below w.heap.size w w' := by
  have hu59 := Tryd.underlying59
  unfold itemV
  cases h6 : (x.f1 == 6) <;>
  · go_enter Tryd.func65, Tryd.ntmps65
    go_wp2_with fail
    go_ret
    exact ⟨rfl, below_alloc (Below.refl _ _) _⟩
end Go.Proofs.YthhmmaihbjhhgaaDoor.Giv
namespace Go.Proofs.YthhmmaihbjhhgaaDoor.Giv
open Go.RowKit Go.Proofs.YthhmmaihbjhhgaaDoorW.PrintWords Go.Proofs.YthhmmaihbjhhgaaDoorW.PrintLast Go.Proofs.YthhmmaihbjhhgaaDoorW.PrintMore
open Go.Proofs.YthhmmaihbjhhgaaDoor.U1 Go.Proofs.YthhmmaihbjhhgaaDoor.Q1 Go.Proofs.YthhmmaihbjhhgaaDoor.J0 Go.Proofs.YthhmmaihbjhhgaaDoor.J1
set_option linter.unusedSimpArgs false
/-- are two items the same? as the code asks it -/
def sameI (x y : S59) : Bool := x.f0 == y.f0 && (x.f1 == y.f1 && (x.f2.toList == y.f2.toList && (x.f3.toList == y.f3.toList && x.f4 == y.f4)))
theorem eqA59 (d : Nat) (w : World) (x y : S59) : (Op.equalIn (d + 2) 59 (itemV x) (itemV y)).run Tryd.prog w = .ok (sameI x y) w := by
  unfold itemV sameI
  refine eqA_of Tryd.underlying59 (by kernel_rfl) ?_
  refine eqf_cons (by rfl) (by go_simp; rfl) (by go_simp; rfl) (by go_simp) ?_
  refine eqf_cons (by rfl) (by go_simp; rfl) (by go_simp; rfl) (by go_simp) ?_
  refine eqf_cons (by rfl) (by go_simp; rfl) (by go_simp; rfl) (by go_simp) ?_
  refine eqf_cons (by rfl) (by go_simp; rfl) (by go_simp; rfl) (by go_simp) ?_
  exact eqf_last (by rfl) (by go_simp; rfl) (by go_simp; rfl) (by go_simp)
theorem neq59 (w : World) (x y : S59) : (binOp .neq 59 (itemV x) (itemV y)).run Tryd.prog w = .ok (.bool (!(sameI x y))) w := by
  have h := eqA59 9998 w x y
  unfold itemV at h ⊢
  rw [run_neq_struct, h]; rfl
abbrev LvS := Int × List ByteArray
def holdsI (x : S59) : Bool := x.f1 == 6 || x.f1 == 7
/-- Right, as it goes: is this the first item? what is open; what is left -/
def rightF : Bool → List LvS → List S59 → Option Bool
  | _, _, [] => some true
  | fst, open_, x :: l =>
    if x.f0 < 0 ∨ (open_.length : Int) ≤ x.f0 ∨ (x.f0 == 0) != fst then some false
    else if x.f1 < 1 ∨ 7 < x.f1 ∨ sameI x (bareI x) = false then some false
    else (utf_Valid.f x.f3).bind fun v3 => if v3 = false then some false
    else (memberF (open_.getD x.f0.toNat (0, [])).1 (open_.getD x.f0.toNat (0, [])).2 x).bind fun r => if r.1 = false then some false
    else if holdsI x = true then (if 64 ≤ x.f0 then some false else rightF false (open_.take x.f0.toNat ++ [((open_.getD x.f0.toNat (0, [])).1, r.2), (x.f1, [])]) l)
    else rightF false (open_.take x.f0.toNat ++ [((open_.getD x.f0.toNat (0, [])).1, r.2)]) l
theorem itm_below {W W' : World} {b : Nat} {x : S59} (h : Itm W b x) (hb : Below W.heap.size W W') : Itm W' b x := (hb.block b (blk_lt h)).trans h
theorem R_oneRow {α : Type} {enc : α → Value} {h1 : ∀ x, (enc x).oneCell' = true} (W : World) (e base : Nat) (ok : Nat → Prop) (x : α) (hb : base ≤ W.heap.size) (hok : ok W.heap.size) : (Kd.scalar enc h1).R e (W.alloc (.cells #[enc x] e)) base ok (.slice (some ⟨W.heap.size, 0, none⟩) 1 1) [x] := by
  refine ⟨fun k hk => ?_, [enc x], ?_, ⟨rfl, fun j p hj => ?_⟩⟩
  · have : W.heap.size = k := by simpa [Value.ownBlock] using hk
    subst this; exact hok
  · have h2 := World.ownsRow_lit (base := base) (e := e) (size := 1) W #[enc x] 1 hb (by simp [maxLen]) (by simp)
    show World.ownsRow _ base e 1 _ 1 _
    simpa using h2
  · cases j with
    | zero => simp at hj; subst hj; rfl
    | succ j => simp at hj
theorem Sk.one (w : World) : Sk w ((w.alloc (.cells #[.int .i64 6, .slice none 0 0] 85)).alloc (.cells #[.pointer (some ⟨w.heap.size, 0, none⟩)] 82)) (.slice (some ⟨w.heap.size + 1, 0, none⟩) 1 1) [⟨w.heap.size, 6, .slice none 0 0, []⟩] := by
  refine ⟨?_, ?_, List.pairwise_singleton _ _, (below_alloc (Below.refl _ _) _).alloc (by simp) _⟩
  · have h : Kd.R kptr 82 _ w.heap.size (fun _ => True) _ [w.heap.size] := R_oneRow (w.alloc (.cells #[.int .i64 6, .slice none 0 0] 85)) 82 w.heap.size (fun _ => True) w.heap.size (by simp) trivial
    have e : (w.alloc (.cells #[.int .i64 6, .slice none 0 0] 85)).heap.size = w.heap.size + 1 := by simp
    rw [e] at h
    exact h
  · intro l hl
    obtain rfl := List.mem_singleton.1 hl
    exact ⟨Nat.le_refl _, blk_alloc (heap_alloc_new _ _) _, Kd.R_nil _ _ _ _ _⟩
theorem guard_not {f n : Int} {b : Bool} (h : ¬ (f < 0 ∨ n ≤ f ∨ ((f == 0) != b) = true)) : ¬ f < 0 ∧ f < n ∧ (f == 0) = b := by
  refine ⟨fun x => h (.inl x), by omega, ?_⟩
  cases ha : (f == 0) <;> rw [ha] at h <;> cases b <;> first | rfl | exact absurd (.inr (.inr rfl)) h
theorem guard_yes {f n : Int} {b : Bool} (h : f < 0 ∨ n ≤ f ∨ ((f == 0) != b) = true) : f < 0 ∨ (¬ f < 0 ∧ n ≤ f) ∨ (¬ f < 0 ∧ ¬ n ≤ f ∧ (((f == 0) = true ∧ b = false) ∨ ((f == 0) = false ∧ b = true))) := by
  by_cases a : f < 0
  · exact .inl a
  · by_cases c : n ≤ f
    · exact .inr (.inl ⟨a, c⟩)
    · refine .inr (.inr ⟨a, c, ?_⟩)
      rcases h with h | h | h
      · exact absurd h a
      · exact absurd h c
      · cases ha : (f == 0) <;> rw [ha] at h <;> cases b <;> first | exact absurd h (by decide) | exact .inl ⟨rfl, rfl⟩ | exact .inr ⟨rfl, rfl⟩
theorem drop_T59 (l : List S59) (j : Nat) (h : j < l.length) : l.drop j = rd_T59 l (j : Int) :: l.drop (j + 1) := by
  rw [List.drop_eq_getElem_cons h]
  congr 1
  simp [rd_T59, List.getD, h]
theorem alloc_size (w : World) (o : Obj) : (w.alloc o).heap.size = w.heap.size + 1 := by simp
theorem info82 : (Tryd.prog.info? 82).map (fun i => (i.zero, i.size, i.bytes)) = some (some (.pointer none), 1, 8) := by kernel_rfl
theorem Sk.push {w0 W W' : World} {ov ov' : Value} {lv : List Level} (h : Sk w0 W ov lv) (k : Int) (hR : Kd.R kptr 82 W' w0.heap.size (fun _ => True) ov' (lv.map (·.g) ++ [W.heap.size])) (hB : Below w0.heap.size w0 W') (hG : (W.alloc (.cells #[.int .i64 k, .slice none 0 0] 85)).grownBy W' ov.ownBlock) : Sk w0 W' ov' (lv ++ [⟨W.heap.size, k, .slice none 0 0, []⟩]) :=
  (h.quiet (below_alloc (Below.refl _ _) _)).more (heap_alloc_new _ _) h.below.size (fun l hl e => by have := blk_lt (h.each l hl).2.1; omega) hR hB hG
theorem itm_push {w0 W W' : World} {ov : Value} {lv : List Level} {b : Nat} {x : S59} {o : Obj} (h : Sk w0 W ov lv) (hI : Itm W b x) (hG : (W.alloc o).grownBy W' ov.ownBlock) : Itm W' b x := by
  refine blk_grown (itm_below hI (below_alloc (Below.refl _ _) o)) hG (fun e => ?_)
  obtain ⟨c2, hc2⟩ := Kd.R_typed h.row b e.symm
  exact typed_ne hI hc2 (by decide) rfl
theorem itm_cells {w' : World} {b : Nat} {x : S59} (h : Itm w' b x) : w'.cell? ⟨b, 0, none⟩ = some (.int .i64 x.f0) ∧ w'.cell? ⟨b, 1, none⟩ = some (.int .i64 x.f1) ∧ w'.cell? ⟨b, 2, none⟩ = some (.string x.f2) ∧ w'.cell? ⟨b, 3, none⟩ = some (.string x.f3) ∧ w'.cell? ⟨b, 4, none⟩ = some (.int .i64 x.f4) :=
  ⟨(blk_cell h 0).trans rfl, (blk_cell h 1).trans rfl, (blk_cell h 2).trans rfl, (blk_cell h 3).trans rfl, (blk_cell h 4).trans rfl⟩
theorem itm_left {w0 W W' : World} {b g : Nat} {kind : Int} {kv : Value} {keys keys' : List ByteArray} {x : S59} (h : Itm W b x) (hL : Lv W g kind kv ∧ Keys w0 W g kv keys) (hk : LvLeft w0 W W' g kind kv keys') : Itm W' b x := by
  refine (hk.keep.2 b (blk_lt h) (typed_ne h hL.1 (by decide)) (fun e => ?_)).trans h
  obtain ⟨c2, hc2⟩ := Kd.R_typed hL.2 b e.symm
  exact typed_ne h hc2 (by decide) rfl
theorem neq_step (w : World) (x y : S59) (p q : Operand) (r s : Bool) (h : sameI x y = r) (hs : (!r) = s) : (((eqGuard .neq 59 p q (itemV x) (itemV y)).run Tryd.prog w).andThen fun _ w' => ((binOp .neq 59 (itemV x) (itemV y)).run Tryd.prog w').andThen fun a w' => Result.ok (Next.value a) w') = Result.ok (Next.value (.bool s)) w := by
  have hg : (eqGuard .neq 59 p q (itemV x) (itemV y)).run Tryd.prog w = .ok () w := by
    unfold itemV
    exact run_eqGuard_agg w .neq 59 p q _ _ (by kernel_rfl)
  rw [hg, Result.andThen_ok, neq59, Result.andThen_ok, h, hs]
theorem Sk.drew {w0 W : World} {ov : Value} {lv : List Level} (h : Sk w0 W ov lv) : Sk w0 W.drew ov lv := h.quiet (below_drew1 (Below.refl _ _))
theorem s8 {w w' : World} {b G d cc : Nat} {x : S59} {pre : List Level} {t : Level} (h : Itm w' b x ∧ Sk w w' (.slice (some ⟨G, 0, none⟩) (d + 1) cc) (pre.take d ++ [t])) : w'.cell? ⟨b, 0, none⟩ = some (.int .i64 x.f0) ∧ w'.cell? ⟨b, 1, none⟩ = some (.int .i64 x.f1) ∧ w'.cell? ⟨b, 2, none⟩ = some (.string x.f2) ∧ w'.cell? ⟨b, 3, none⟩ = some (.string x.f3) ∧ w'.cell? ⟨b, 4, none⟩ = some (.int .i64 x.f4) ∧ w'.cell? ⟨G, d, none⟩ = some (.pointer (some ⟨t.g, 0, none⟩)) := by
  have hn : d + 1 = (pre.take d ++ [t]).length := by have := (Kd.R_reads' h.2.row).1; simpa using this
  refine ⟨(blk_cell h.1 0).trans rfl, (blk_cell h.1 1).trans rfl, (blk_cell h.1 2).trans rfl, (blk_cell h.1 3).trans rfl, (blk_cell h.1 4).trans rfl, h.2.cell d t ?_⟩
  have h2 : (pre.take d).length = d := by simp only [List.length_append, List.length_singleton] at hn; omega
  rw [List.getElem?_append_right (by omega), h2, Nat.sub_self]; rfl
set_option maxHeartbeats 8000000 in
set_option maxRecDepth 100000 in
theorem right_walk (w : World) (A : Option Addr) (c : Nat) (l : List S59) (r : Bool) (hC : Kd.C k59 w A l.length l) (hc : l.length ≤ c) (hl : l.length * 56 ≤ 140737488355328) (ht : Tabs w) (h : rightF true [(6, [])] l = some r) :
    Calls Tryd.prog 42 #[.slice A l.length c] w fun e w' => e = .returned (.bool (r && decide (0 < l.length))) ∧ Below w.heap.size w w' := by
  have HC := Aside0.mk hC
  have HT := Aside0.mk ht
  have HF := Aside0.mk h
  have HL := Aside0.mk hl
  have HCC := Aside0.mk hc
  clear hC ht h hl hc
  go_enter Tryd.func42, Tryd.ntmps42
  go_wp2_with fail
  obtain ⟨w2, hw2⟩ : ∃ w2, (w.alloc (.cells #[.int .i64 6, .slice none 0 0] 85)).alloc (.cells #[.pointer (some ⟨w.heap.size, 0, none⟩)] 82) = w2 := ⟨_, rfl⟩
  have HS0 : Aside0 (Sk w w2 (.slice (some ⟨w.heap.size + 1, 0, none⟩) 1 1) [⟨w.heap.size, 6, .slice none 0 0, []⟩]) := ⟨hw2 ▸ Sk.one w⟩
  rw [hw2]
  clear hw2
  obtain ⟨v3, hv3⟩ : ∃ v3, Value.slice (some ⟨w.heap.size + 1, 0, none⟩) 1 1 = v3 := ⟨_, rfl⟩
  rw [hv3] at HS0
  rw [hv3]
  clear hv3
  go_loopg [3, 11] l.length (fun kq v3 v11 wr => ∃ (j : Nat) (lv : List Level), kq = l.length - j ∧ j ≤ l.length ∧ v11 = .int .i64 (j : Int) ∧ Aside0 (Sk w wr v3 lv) ∧ Aside0 (rightF (j == 0) (lv.map fun y => (y.kind, y.keys)) (l.drop j) = some r) ∧ Aside0 (1 ≤ lv.length ∧ lv.length ≤ 65))
  case atStart => exact ⟨0, _, rfl, Nat.zero_le _, rfl, HS0, HF, ⟨Nat.le_refl 1, (by decide : (1 : Nat) ≤ 65)⟩⟩
  case round =>
    clear HF HS0
    obtain ⟨j, lv, hkq, hjl, rfl, HS, HF, HLn⟩ := hrel
    by_cases hlt : j < l.length
    · obtain ⟨ad, hA, a0, a1, a2, a3, a4⟩ := at_T59 (Kd.C_below HC.out HS.out.below) (j : Int) (by omega) (by omega)
      subst hA
      have HX := Aside0.mk (drop_T59 l j hlt)
      obtain ⟨⟨f0, f1, f2, f3, f4⟩, hx⟩ : ∃ x, rd_T59 l (j : Int) = x := ⟨_, rfl⟩
      rw [hx] at a0 a1 a2 a3 a4 HX
      simp only [Int.toNat_natCast] at a0 a1 a2 a3 a4
      clear hx
      have hF := HF.out
      rw [HX.out, rightF] at hF
      simp only [List.length_map] at hF
      obtain ⟨hn1, hn65⟩ := HLn.out
      obtain ⟨G, cc, rfl, hcc⟩ := HS.out.form hn1
      clear HF
      have hgl : j < 9223372036854775807 := by have := HL.out; omega
      by_cases e1 : f0 < 0 ∨ (lv.length : Int) ≤ f0 ∨ ((f0 == 0) != (j == 0)) = true
      · rw [if_pos e1] at hF
        have HR := Aside0.mk (Option.some.inj hF)
        clear hF
        have hej : ((j : Int) == 0) = (j == 0) := by rw [Bool.eq_iff_iff]; simp
        rcases guard_yes e1 with e1 | ⟨e0, e1⟩ | ⟨e0, e1, ⟨e2, e3⟩ | ⟨e2, e3⟩⟩
        · go_wp2_with fail
          go_ret
          exact ⟨by rw [← HR.out]; rfl, HS.out.below.alloc (by have := HS.out.below.size; omega) _⟩
        · go_wp2_with fail
          go_ret
          exact ⟨by rw [← HR.out]; rfl, HS.out.below.alloc (by have := HS.out.below.size; omega) _⟩
        · rw [e3] at hej
          clear e3
          go_wp2_with fail
          go_ret
          exact ⟨by rw [← HR.out]; rfl, HS.out.below.alloc (by have := HS.out.below.size; omega) _⟩
        · rw [e3] at hej
          clear e3
          go_wp2_with fail
          go_ret
          exact ⟨by rw [← HR.out]; rfl, HS.out.below.alloc (by have := HS.out.below.size; omega) _⟩
      · rw [if_neg e1] at hF
        obtain ⟨h1, h2, h3⟩ : ¬ f0 < 0 ∧ f0 < (lv.length : Int) ∧ (f0 == 0) = (j == 0) := guard_not e1
        clear e1
        obtain ⟨d, rfl⟩ : ∃ d : Nat, f0 = d := ⟨f0.toNat, by omega⟩
        have hdl : d < lv.length := by omega
        have hej : ((j : Int) == 0) = ((d : Int) == 0) := by rw [h3, Bool.eq_iff_iff]; simp
        clear h1 h2
        obtain ⟨t, htd⟩ : ∃ t, lv[d]? = some t := ⟨_, List.getElem?_eq_getElem hdl⟩
        have htk : lv.take (d + 1) = lv.take d ++ [t] := by rw [List.take_add_one, htd]; rfl
        go_wp2_with fail
        have HI : Aside0 (Itm (wr.alloc (.cells #[.int .i64 (d : Int), .int .i64 f1, .string f2, .string f3, .int .i64 f4] 59)) wr.heap.size ⟨(d : Int), f1, f2, f3, f4⟩) := ⟨heap_alloc_new _ _⟩
        have HS3 : Aside0 (Sk w (wr.alloc (.cells #[.int .i64 (d : Int), .int .i64 f1, .string f2, .string f3, .int .i64 f4] 59)) (.slice (some ⟨G, 0, none⟩) (d + 1) cc) (lv.take d ++ [t])) := ⟨htk ▸ (HS.out.quiet (below_alloc (Below.refl _ _) _)).take hdl⟩
        obtain ⟨b, hb⟩ : ∃ b, wr.heap.size = b := ⟨_, rfl⟩
        rw [hb] at HI
        rw [hb]
        generalize wr.alloc (.cells #[.int .i64 (d : Int), .int .i64 f1, .string f2, .string f3, .int .i64 f4] 59) = w3 at HI HS3 ⊢
        have HB := Aside0.mk hb
        clear hb htk
        simp only [List.getD_eq_getElem?_getD, List.getElem?_map, Int.toNat_natCast, htd, Option.map_some, Option.getD_some, ← List.map_take] at hF
        have HTD := Aside0.mk htd
        clear htd
        by_cases k1 : f1 < 1
        · rw [if_pos (Or.inl k1)] at hF
          have HR := Aside0.mk (Option.some.inj hF)
          clear hF
          refine wp_region_held_drew (S := fun w' => Itm w' b ⟨(d : Int), f1, f2, f3, f4⟩ ∧ Sk w w' (.slice (some ⟨G, 0, none⟩) (d + 1) cc) (lv.take d ++ [t])) (by kernel_rfl) ⟨HI.out, HS3.out.drew⟩ (fun hHeld => ?_)
          refine wpAnyH_take (i := 0) (oi := { dst := some 39, op := _, type := _, pos := _, after := _, guard := _ }) (v := ?_) rfl (by kernel_rfl) (by kernel_rfl) (by kernel_rfl) (fun _ _ _ h => h) (Or.inl ⟨by rfl, ?_⟩) (by assumption) ?_
          rotate_left
          · intro w hSw
            (try dsimp only at hSw)
            have hm := s8 hSw
            obtain ⟨hm0, hm1, hm2, hm3, hm4, hmG⟩ := hm
            clear hSw
            go_simp
            (try with_reducible rfl)
          (try simp only [Act.put, List.setIfInBounds_toArray, List.set_cons_zero, List.set_cons_succ])
          refine wpAnyH_take (i := 1) (oi := { dst := some 40, op := _, type := _, pos := _, after := _, guard := _ }) (v := ?_) rfl (by kernel_rfl) (by kernel_rfl) (by kernel_rfl) (fun _ _ _ h => h) (Or.inl ⟨by rfl, ?_⟩) (by assumption) ?_
          rotate_left
          · intro w hSw
            (try dsimp only at hSw)
            have hm := s8 hSw
            obtain ⟨hm0, hm1, hm2, hm3, hm4, hmG⟩ := hm
            clear hSw
            go_simp
            (try with_reducible rfl)
          (try simp only [Act.put, List.setIfInBounds_toArray, List.set_cons_zero, List.set_cons_succ])
          refine wpAnyH_take (i := 2) (oi := { dst := some 41, op := _, type := _, pos := _, after := _, guard := _ }) (v := ?_) rfl (by kernel_rfl) (by kernel_rfl) (by kernel_rfl) (fun _ _ _ h => h) (Or.inl ⟨by rfl, ?_⟩) (by assumption) ?_
          rotate_left
          · intro w hSw
            (try dsimp only at hSw)
            have hm := s8 hSw
            obtain ⟨hm0, hm1, hm2, hm3, hm4, hmG⟩ := hm
            clear hSw
            go_simp
            (try with_reducible rfl)
          (try simp only [Act.put, List.setIfInBounds_toArray, List.set_cons_zero, List.set_cons_succ])
          refine wpAnyH_take (i := 3) (oi := { dst := some 42, op := _, type := _, pos := _, after := _, guard := _ }) (v := ?_) rfl (by kernel_rfl) (by kernel_rfl) (by kernel_rfl) (fun _ _ _ h => h) (Or.inl ⟨by rfl, ?_⟩) (by assumption) ?_
          rotate_left
          · intro w hSw
            (try dsimp only at hSw)
            have hm := s8 hSw
            obtain ⟨hm0, hm1, hm2, hm3, hm4, hmG⟩ := hm
            clear hSw
            go_simp
            (try with_reducible rfl)
          (try simp only [Act.put, List.setIfInBounds_toArray, List.set_cons_zero, List.set_cons_succ])
          refine wpAnyH_take (i := 4) (oi := { dst := some 43, op := _, type := _, pos := _, after := _, guard := _ }) (v := undef) rfl (by kernel_rfl) (by kernel_rfl) (by kernel_rfl) (fun _ _ _ h => h) (Or.inr ⟨by rfl, rfl⟩) (by assumption) ?_
          (try simp only [Act.put, List.setIfInBounds_toArray, List.set_cons_zero, List.set_cons_succ])
          refine wpAnyH_take (i := 5) (oi := { dst := some 44, op := _, type := _, pos := _, after := _, guard := _ }) (v := undef) rfl (by kernel_rfl) (by kernel_rfl) (by kernel_rfl) (fun _ _ _ h => h) (Or.inr ⟨by rfl, rfl⟩) (by assumption) ?_
          (try simp only [Act.put, List.setIfInBounds_toArray, List.set_cons_zero, List.set_cons_succ])
          refine wpAnyH_take (i := 6) (oi := { dst := some 45, op := _, type := _, pos := _, after := _, guard := _ }) (v := undef) rfl (by kernel_rfl) (by kernel_rfl) (by kernel_rfl) (fun _ _ _ h => h) (Or.inr ⟨by rfl, rfl⟩) (by assumption) ?_
          (try simp only [Act.put, List.setIfInBounds_toArray, List.set_cons_zero, List.set_cons_succ])
          refine wpAnyH_take (i := 7) (oi := { dst := some 46, op := _, type := _, pos := _, after := _, guard := _ }) (v := ?_) rfl (by kernel_rfl) (by kernel_rfl) (by kernel_rfl) (fun _ _ _ h => h) (Or.inl ⟨by rfl, ?_⟩) (by assumption) ?_
          rotate_left
          · intro w hSw
            (try dsimp only at hSw)
            have hm := s8 hSw
            obtain ⟨hm0, hm1, hm2, hm3, hm4, hmG⟩ := hm
            clear hSw
            go_simp
            (try with_reducible rfl)
          (try simp only [Act.put, List.setIfInBounds_toArray, List.set_cons_zero, List.set_cons_succ])
          refine wpAnyH_take (i := 8) (oi := { dst := some 47, op := _, type := _, pos := _, after := _, guard := _ }) (v := ?_) rfl (by kernel_rfl) (by kernel_rfl) (by kernel_rfl) (fun _ _ _ h => h) (Or.inl ⟨by rfl, ?_⟩) (by assumption) ?_
          rotate_left
          · intro w hSw
            (try dsimp only at hSw)
            have hm := s8 hSw
            obtain ⟨hm0, hm1, hm2, hm3, hm4, hmG⟩ := hm
            clear hSw
            go_simp
            (try with_reducible rfl)
          (try simp only [Act.put, List.setIfInBounds_toArray, List.set_cons_zero, List.set_cons_succ])
          refine wpAnyH_take (i := 9) (oi := { dst := some 48, op := _, type := _, pos := _, after := _, guard := _ }) (v := undef) rfl (by kernel_rfl) (by kernel_rfl) (by kernel_rfl) (fun _ _ _ h => h) (Or.inr ⟨by rfl, rfl⟩) (by assumption) ?_
          (try simp only [Act.put, List.setIfInBounds_toArray, List.set_cons_zero, List.set_cons_succ])
          refine wpAnyH_take (i := 10) (oi := { dst := some 49, op := _, type := _, pos := _, after := _, guard := _ }) (v := undef) rfl (by kernel_rfl) (by kernel_rfl) (by kernel_rfl) (fun _ _ _ h => h) (Or.inr ⟨by rfl, rfl⟩) (by assumption) ?_
          (try simp only [Act.put, List.setIfInBounds_toArray, List.set_cons_zero, List.set_cons_succ])
          refine wpAnyH_take (i := 11) (oi := { dst := some 50, op := _, type := _, pos := _, after := _, guard := _ }) (v := undef) rfl (by kernel_rfl) (by kernel_rfl) (by kernel_rfl) (fun _ _ _ h => h) (Or.inr ⟨by rfl, rfl⟩) (by assumption) ?_
          (try simp only [Act.put, List.setIfInBounds_toArray, List.set_cons_zero, List.set_cons_succ])
          refine wpAnyH_take (i := 12) (oi := { dst := some 51, op := _, type := _, pos := _, after := _, guard := _ }) (v := undef) rfl (by kernel_rfl) (by kernel_rfl) (by kernel_rfl) (fun _ _ _ h => h) (Or.inr ⟨by rfl, rfl⟩) (by assumption) ?_
          (try simp only [Act.put, List.setIfInBounds_toArray, List.set_cons_zero, List.set_cons_succ])
          refine wpAnyH_take (i := 13) (oi := { dst := some 52, op := _, type := _, pos := _, after := _, guard := _ }) (v := ?_) rfl (by kernel_rfl) (by kernel_rfl) (by kernel_rfl) (fun _ _ _ h => h) (Or.inl ⟨by rfl, ?_⟩) (by assumption) ?_
          rotate_left
          · intro w hSw
            (try dsimp only at hSw)
            have hm := s8 hSw
            obtain ⟨hm0, hm1, hm2, hm3, hm4, hmG⟩ := hm
            clear hSw
            go_simp
            (try with_reducible rfl)
          (try simp only [Act.put, List.setIfInBounds_toArray, List.set_cons_zero, List.set_cons_succ])
          refine wpAnyH_take (i := 14) (oi := { dst := some 53, op := _, type := _, pos := _, after := _, guard := _ }) (v := ?_) rfl (by kernel_rfl) (by kernel_rfl) (by kernel_rfl) (fun _ _ _ h => h) (Or.inl ⟨by rfl, ?_⟩) (by assumption) ?_
          rotate_left
          · intro w hSw
            (try dsimp only at hSw)
            have hm := s8 hSw
            obtain ⟨hm0, hm1, hm2, hm3, hm4, hmG⟩ := hm
            clear hSw
            go_simp
            (try with_reducible rfl)
          (try simp only [Act.put, List.setIfInBounds_toArray, List.set_cons_zero, List.set_cons_succ])
          refine wpAnyH_take (i := 15) (oi := { dst := some 54, op := _, type := _, pos := _, after := _, guard := _ }) (v := undef) rfl (by kernel_rfl) (by kernel_rfl) (by kernel_rfl) (fun _ _ _ h => h) (Or.inr ⟨by rfl, rfl⟩) (by assumption) ?_
          (try simp only [Act.put, List.setIfInBounds_toArray, List.set_cons_zero, List.set_cons_succ])
          refine wpAnyH_take (i := 16) (oi := { dst := some 55, op := _, type := _, pos := _, after := _, guard := _ }) (v := undef) rfl (by kernel_rfl) (by kernel_rfl) (by kernel_rfl) (fun _ _ _ h => h) (Or.inr ⟨by rfl, rfl⟩) (by assumption) ?_
          (try simp only [Act.put, List.setIfInBounds_toArray, List.set_cons_zero, List.set_cons_succ])
          refine wpAnyH_take (i := 17) (oi := { dst := some 56, op := _, type := _, pos := _, after := _, guard := _ }) (v := undef) rfl (by kernel_rfl) (by kernel_rfl) (by kernel_rfl) (fun _ _ _ h => h) (Or.inr ⟨by rfl, rfl⟩) (by assumption) ?_
          (try simp only [Act.put, List.setIfInBounds_toArray, List.set_cons_zero, List.set_cons_succ])
          refine wpAnyH_take (i := 18) (oi := { dst := some 57, op := _, type := _, pos := _, after := _, guard := _ }) (v := undef) rfl (by kernel_rfl) (by kernel_rfl) (by kernel_rfl) (fun _ _ _ h => h) (Or.inr ⟨by rfl, rfl⟩) (by assumption) ?_
          (try simp only [Act.put, List.setIfInBounds_toArray, List.set_cons_zero, List.set_cons_succ])
          refine wpAnyH_take (i := 19) (oi := { dst := some 58, op := _, type := _, pos := _, after := _, guard := _ }) (v := ?_) rfl (by kernel_rfl) (by kernel_rfl) (by kernel_rfl) (fun _ _ _ h => h) (Or.inl ⟨by rfl, ?_⟩) (by assumption) ?_
          rotate_left
          · intro w hSw
            (try dsimp only at hSw)
            have hm := s8 hSw
            obtain ⟨hm0, hm1, hm2, hm3, hm4, hmG⟩ := hm
            clear hSw
            go_simp
            (try with_reducible rfl)
          (try simp only [Act.put, List.setIfInBounds_toArray, List.set_cons_zero, List.set_cons_succ])
          refine wpAnyH_take (i := 20) (oi := { dst := some 59, op := _, type := _, pos := _, after := _, guard := _ }) (v := ?_) rfl (by kernel_rfl) (by kernel_rfl) (by kernel_rfl) (fun _ _ _ h => h) (Or.inl ⟨by rfl, ?_⟩) (by assumption) ?_
          rotate_left
          · intro w hSw
            (try dsimp only at hSw)
            have hm := s8 hSw
            obtain ⟨hm0, hm1, hm2, hm3, hm4, hmG⟩ := hm
            clear hSw
            go_simp
            (try with_reducible rfl)
          (try simp only [Act.put, List.setIfInBounds_toArray, List.set_cons_zero, List.set_cons_succ])
          refine wpAnyH_take (i := 21) (oi := { dst := some 60, op := _, type := _, pos := _, after := _, guard := _ }) (v := undef) rfl (by kernel_rfl) (by kernel_rfl) (by kernel_rfl) (fun _ _ _ h => h) (Or.inr ⟨by rfl, rfl⟩) (by assumption) ?_
          (try simp only [Act.put, List.setIfInBounds_toArray, List.set_cons_zero, List.set_cons_succ])
          refine wpAnyH_take (i := 22) (oi := { dst := some 61, op := _, type := _, pos := _, after := _, guard := _ }) (v := undef) rfl (by kernel_rfl) (by kernel_rfl) (by kernel_rfl) (fun _ _ _ h => h) (Or.inr ⟨by rfl, rfl⟩) (by assumption) ?_
          (try simp only [Act.put, List.setIfInBounds_toArray, List.set_cons_zero, List.set_cons_succ])
          refine wpAnyH_take (i := 23) (oi := { dst := some 62, op := _, type := _, pos := _, after := _, guard := _ }) (v := undef) rfl (by kernel_rfl) (by kernel_rfl) (by kernel_rfl) (fun _ _ _ h => h) (Or.inr ⟨by rfl, rfl⟩) (by assumption) ?_
          (try simp only [Act.put, List.setIfInBounds_toArray, List.set_cons_zero, List.set_cons_succ])
          refine wpAnyH_take (i := 24) (oi := { dst := some 63, op := _, type := _, pos := _, after := _, guard := _ }) (v := undef) rfl (by kernel_rfl) (by kernel_rfl) (by kernel_rfl) (fun _ _ _ h => h) (Or.inr ⟨by rfl, rfl⟩) (by assumption) ?_
          (try simp only [Act.put, List.setIfInBounds_toArray, List.set_cons_zero, List.set_cons_succ])
          refine wpAnyH_take (i := 25) (oi := { dst := some 64, op := _, type := _, pos := _, after := _, guard := _ }) (v := undef) rfl (by kernel_rfl) (by kernel_rfl) (by kernel_rfl) (fun _ _ _ h => h) (Or.inr ⟨by rfl, rfl⟩) (by assumption) ?_
          (try simp only [Act.put, List.setIfInBounds_toArray, List.set_cons_zero, List.set_cons_succ])
          refine wpAnyH_take (i := 26) (oi := { dst := some 65, op := _, type := _, pos := _, after := _, guard := _ }) (v := undef) rfl (by kernel_rfl) (by kernel_rfl) (by kernel_rfl) (fun _ _ _ h => h) (Or.inr ⟨by rfl, rfl⟩) (by assumption) ?_
          (try simp only [Act.put, List.setIfInBounds_toArray, List.set_cons_zero, List.set_cons_succ])
          refine wpAnyH_take (i := 27) (oi := { dst := some 66, op := _, type := _, pos := _, after := _, guard := _ }) (v := undef) rfl (by kernel_rfl) (by kernel_rfl) (by kernel_rfl) (fun _ _ _ h => h) (Or.inr ⟨by rfl, rfl⟩) (by assumption) ?_
          (try simp only [Act.put, List.setIfInBounds_toArray, List.set_cons_zero, List.set_cons_succ])
          refine wpAnyH_take (i := 28) (oi := { dst := some 67, op := _, type := _, pos := _, after := _, guard := _ }) (v := undef) rfl (by kernel_rfl) (by kernel_rfl) (by kernel_rfl) (fun _ _ _ h => h) (Or.inr ⟨by rfl, rfl⟩) (by assumption) ?_
          (try simp only [Act.put, List.setIfInBounds_toArray, List.set_cons_zero, List.set_cons_succ])
          refine wpAnyH_take (i := 29) (oi := { dst := some 68, op := _, type := _, pos := _, after := _, guard := _ }) (v := ?_) rfl (by kernel_rfl) (by kernel_rfl) (by kernel_rfl) (fun _ _ _ h => h) (Or.inl ⟨by rfl, ?_⟩) (by assumption) ?_
          rotate_left
          · intro w hSw
            (try dsimp only at hSw)
            have hm := s8 hSw
            obtain ⟨hm0, hm1, hm2, hm3, hm4, hmG⟩ := hm
            clear hSw
            go_simp
            (try with_reducible rfl)
          (try simp only [Act.put, List.setIfInBounds_toArray, List.set_cons_zero, List.set_cons_succ])
          refine wpAnyH_done (by kernel_rfl) ?_ _
          have HE := Aside0.mk hHeld
          clear hHeld
          go_wp2_with fail
          go_ret
          exact ⟨by rw [← HR.out]; rfl, HE.out.2.below⟩
        · by_cases k2 : 7 < f1
          · rw [if_pos (Or.inr (Or.inl k2))] at hF
            have HR := Aside0.mk (Option.some.inj hF)
            clear hF
            refine wp_region_held_drew (S := fun w' => Itm w' b ⟨(d : Int), f1, f2, f3, f4⟩ ∧ Sk w w' (.slice (some ⟨G, 0, none⟩) (d + 1) cc) (lv.take d ++ [t])) (by kernel_rfl) ⟨HI.out, HS3.out.drew⟩ (fun hHeld => ?_)
            refine wpAnyH_take (i := 0) (oi := { dst := some 39, op := _, type := _, pos := _, after := _, guard := _ }) (v := ?_) rfl (by kernel_rfl) (by kernel_rfl) (by kernel_rfl) (fun _ _ _ h => h) (Or.inl ⟨by rfl, ?_⟩) (by assumption) ?_
            rotate_left
            · intro w hSw
              (try dsimp only at hSw)
              have hm := s8 hSw
              obtain ⟨hm0, hm1, hm2, hm3, hm4, hmG⟩ := hm
              clear hSw
              go_simp
              (try with_reducible rfl)
            (try simp only [Act.put, List.setIfInBounds_toArray, List.set_cons_zero, List.set_cons_succ])
            refine wpAnyH_take (i := 1) (oi := { dst := some 40, op := _, type := _, pos := _, after := _, guard := _ }) (v := ?_) rfl (by kernel_rfl) (by kernel_rfl) (by kernel_rfl) (fun _ _ _ h => h) (Or.inl ⟨by rfl, ?_⟩) (by assumption) ?_
            rotate_left
            · intro w hSw
              (try dsimp only at hSw)
              have hm := s8 hSw
              obtain ⟨hm0, hm1, hm2, hm3, hm4, hmG⟩ := hm
              clear hSw
              go_simp
              (try with_reducible rfl)
            (try simp only [Act.put, List.setIfInBounds_toArray, List.set_cons_zero, List.set_cons_succ])
            refine wpAnyH_take (i := 2) (oi := { dst := some 41, op := _, type := _, pos := _, after := _, guard := _ }) (v := ?_) rfl (by kernel_rfl) (by kernel_rfl) (by kernel_rfl) (fun _ _ _ h => h) (Or.inl ⟨by rfl, ?_⟩) (by assumption) ?_
            rotate_left
            · intro w hSw
              (try dsimp only at hSw)
              have hm := s8 hSw
              obtain ⟨hm0, hm1, hm2, hm3, hm4, hmG⟩ := hm
              clear hSw
              go_simp
              (try with_reducible rfl)
            (try simp only [Act.put, List.setIfInBounds_toArray, List.set_cons_zero, List.set_cons_succ])
            refine wpAnyH_take (i := 3) (oi := { dst := some 42, op := _, type := _, pos := _, after := _, guard := _ }) (v := ?_) rfl (by kernel_rfl) (by kernel_rfl) (by kernel_rfl) (fun _ _ _ h => h) (Or.inl ⟨by rfl, ?_⟩) (by assumption) ?_
            rotate_left
            · intro w hSw
              (try dsimp only at hSw)
              have hm := s8 hSw
              obtain ⟨hm0, hm1, hm2, hm3, hm4, hmG⟩ := hm
              clear hSw
              go_simp
              (try with_reducible rfl)
            (try simp only [Act.put, List.setIfInBounds_toArray, List.set_cons_zero, List.set_cons_succ])
            refine wpAnyH_take (i := 4) (oi := { dst := some 43, op := _, type := _, pos := _, after := _, guard := _ }) (v := ?_) rfl (by kernel_rfl) (by kernel_rfl) (by kernel_rfl) (fun _ _ _ h => h) (Or.inl ⟨by rfl, ?_⟩) (by assumption) ?_
            rotate_left
            · intro w hSw
              (try dsimp only at hSw)
              have hm := s8 hSw
              obtain ⟨hm0, hm1, hm2, hm3, hm4, hmG⟩ := hm
              clear hSw
              go_simp
              (try with_reducible rfl)
            (try simp only [Act.put, List.setIfInBounds_toArray, List.set_cons_zero, List.set_cons_succ])
            refine wpAnyH_take (i := 5) (oi := { dst := some 44, op := _, type := _, pos := _, after := _, guard := _ }) (v := ?_) rfl (by kernel_rfl) (by kernel_rfl) (by kernel_rfl) (fun _ _ _ h => h) (Or.inl ⟨by rfl, ?_⟩) (by assumption) ?_
            rotate_left
            · intro w hSw
              (try dsimp only at hSw)
              have hm := s8 hSw
              obtain ⟨hm0, hm1, hm2, hm3, hm4, hmG⟩ := hm
              clear hSw
              go_simp
              (try with_reducible rfl)
            (try simp only [Act.put, List.setIfInBounds_toArray, List.set_cons_zero, List.set_cons_succ])
            refine wpAnyH_take (i := 6) (oi := { dst := some 45, op := _, type := _, pos := _, after := _, guard := _ }) (v := ?_) rfl (by kernel_rfl) (by kernel_rfl) (by kernel_rfl) (fun _ _ _ h => h) (Or.inl ⟨by rfl, ?_⟩) (by assumption) ?_
            rotate_left
            · intro w hSw
              (try dsimp only at hSw)
              have hm := s8 hSw
              obtain ⟨hm0, hm1, hm2, hm3, hm4, hmG⟩ := hm
              clear hSw
              go_simp
              (try with_reducible rfl)
            (try simp only [Act.put, List.setIfInBounds_toArray, List.set_cons_zero, List.set_cons_succ])
            refine wpAnyH_take (i := 7) (oi := { dst := some 46, op := _, type := _, pos := _, after := _, guard := _ }) (v := ?_) rfl (by kernel_rfl) (by kernel_rfl) (by kernel_rfl) (fun _ _ _ h => h) (Or.inl ⟨by rfl, ?_⟩) (by assumption) ?_
            rotate_left
            · intro w hSw
              (try dsimp only at hSw)
              have hm := s8 hSw
              obtain ⟨hm0, hm1, hm2, hm3, hm4, hmG⟩ := hm
              clear hSw
              go_simp
              (try with_reducible rfl)
            (try simp only [Act.put, List.setIfInBounds_toArray, List.set_cons_zero, List.set_cons_succ])
            refine wpAnyH_take (i := 8) (oi := { dst := some 47, op := _, type := _, pos := _, after := _, guard := _ }) (v := ?_) rfl (by kernel_rfl) (by kernel_rfl) (by kernel_rfl) (fun _ _ _ h => h) (Or.inl ⟨by rfl, ?_⟩) (by assumption) ?_
            rotate_left
            · intro w hSw
              (try dsimp only at hSw)
              have hm := s8 hSw
              obtain ⟨hm0, hm1, hm2, hm3, hm4, hmG⟩ := hm
              clear hSw
              go_simp
              (try with_reducible rfl)
            (try simp only [Act.put, List.setIfInBounds_toArray, List.set_cons_zero, List.set_cons_succ])
            refine wpAnyH_take (i := 9) (oi := { dst := some 48, op := _, type := _, pos := _, after := _, guard := _ }) (v := undef) rfl (by kernel_rfl) (by kernel_rfl) (by kernel_rfl) (fun _ _ _ h => h) (Or.inr ⟨by rfl, rfl⟩) (by assumption) ?_
            (try simp only [Act.put, List.setIfInBounds_toArray, List.set_cons_zero, List.set_cons_succ])
            refine wpAnyH_take (i := 10) (oi := { dst := some 49, op := _, type := _, pos := _, after := _, guard := _ }) (v := undef) rfl (by kernel_rfl) (by kernel_rfl) (by kernel_rfl) (fun _ _ _ h => h) (Or.inr ⟨by rfl, rfl⟩) (by assumption) ?_
            (try simp only [Act.put, List.setIfInBounds_toArray, List.set_cons_zero, List.set_cons_succ])
            refine wpAnyH_take (i := 11) (oi := { dst := some 50, op := _, type := _, pos := _, after := _, guard := _ }) (v := undef) rfl (by kernel_rfl) (by kernel_rfl) (by kernel_rfl) (fun _ _ _ h => h) (Or.inr ⟨by rfl, rfl⟩) (by assumption) ?_
            (try simp only [Act.put, List.setIfInBounds_toArray, List.set_cons_zero, List.set_cons_succ])
            refine wpAnyH_take (i := 12) (oi := { dst := some 51, op := _, type := _, pos := _, after := _, guard := _ }) (v := undef) rfl (by kernel_rfl) (by kernel_rfl) (by kernel_rfl) (fun _ _ _ h => h) (Or.inr ⟨by rfl, rfl⟩) (by assumption) ?_
            (try simp only [Act.put, List.setIfInBounds_toArray, List.set_cons_zero, List.set_cons_succ])
            refine wpAnyH_take (i := 13) (oi := { dst := some 52, op := _, type := _, pos := _, after := _, guard := _ }) (v := ?_) rfl (by kernel_rfl) (by kernel_rfl) (by kernel_rfl) (fun _ _ _ h => h) (Or.inl ⟨by rfl, ?_⟩) (by assumption) ?_
            rotate_left
            · intro w hSw
              (try dsimp only at hSw)
              have hm := s8 hSw
              obtain ⟨hm0, hm1, hm2, hm3, hm4, hmG⟩ := hm
              clear hSw
              go_simp
              (try with_reducible rfl)
            (try simp only [Act.put, List.setIfInBounds_toArray, List.set_cons_zero, List.set_cons_succ])
            refine wpAnyH_take (i := 14) (oi := { dst := some 53, op := _, type := _, pos := _, after := _, guard := _ }) (v := ?_) rfl (by kernel_rfl) (by kernel_rfl) (by kernel_rfl) (fun _ _ _ h => h) (Or.inl ⟨by rfl, ?_⟩) (by assumption) ?_
            rotate_left
            · intro w hSw
              (try dsimp only at hSw)
              have hm := s8 hSw
              obtain ⟨hm0, hm1, hm2, hm3, hm4, hmG⟩ := hm
              clear hSw
              go_simp
              (try with_reducible rfl)
            (try simp only [Act.put, List.setIfInBounds_toArray, List.set_cons_zero, List.set_cons_succ])
            refine wpAnyH_take (i := 15) (oi := { dst := some 54, op := _, type := _, pos := _, after := _, guard := _ }) (v := undef) rfl (by kernel_rfl) (by kernel_rfl) (by kernel_rfl) (fun _ _ _ h => h) (Or.inr ⟨by rfl, rfl⟩) (by assumption) ?_
            (try simp only [Act.put, List.setIfInBounds_toArray, List.set_cons_zero, List.set_cons_succ])
            refine wpAnyH_take (i := 16) (oi := { dst := some 55, op := _, type := _, pos := _, after := _, guard := _ }) (v := undef) rfl (by kernel_rfl) (by kernel_rfl) (by kernel_rfl) (fun _ _ _ h => h) (Or.inr ⟨by rfl, rfl⟩) (by assumption) ?_
            (try simp only [Act.put, List.setIfInBounds_toArray, List.set_cons_zero, List.set_cons_succ])
            refine wpAnyH_take (i := 17) (oi := { dst := some 56, op := _, type := _, pos := _, after := _, guard := _ }) (v := undef) rfl (by kernel_rfl) (by kernel_rfl) (by kernel_rfl) (fun _ _ _ h => h) (Or.inr ⟨by rfl, rfl⟩) (by assumption) ?_
            (try simp only [Act.put, List.setIfInBounds_toArray, List.set_cons_zero, List.set_cons_succ])
            refine wpAnyH_take (i := 18) (oi := { dst := some 57, op := _, type := _, pos := _, after := _, guard := _ }) (v := undef) rfl (by kernel_rfl) (by kernel_rfl) (by kernel_rfl) (fun _ _ _ h => h) (Or.inr ⟨by rfl, rfl⟩) (by assumption) ?_
            (try simp only [Act.put, List.setIfInBounds_toArray, List.set_cons_zero, List.set_cons_succ])
            refine wpAnyH_take (i := 19) (oi := { dst := some 58, op := _, type := _, pos := _, after := _, guard := _ }) (v := ?_) rfl (by kernel_rfl) (by kernel_rfl) (by kernel_rfl) (fun _ _ _ h => h) (Or.inl ⟨by rfl, ?_⟩) (by assumption) ?_
            rotate_left
            · intro w hSw
              (try dsimp only at hSw)
              have hm := s8 hSw
              obtain ⟨hm0, hm1, hm2, hm3, hm4, hmG⟩ := hm
              clear hSw
              go_simp
              (try with_reducible rfl)
            (try simp only [Act.put, List.setIfInBounds_toArray, List.set_cons_zero, List.set_cons_succ])
            refine wpAnyH_take (i := 20) (oi := { dst := some 59, op := _, type := _, pos := _, after := _, guard := _ }) (v := ?_) rfl (by kernel_rfl) (by kernel_rfl) (by kernel_rfl) (fun _ _ _ h => h) (Or.inl ⟨by rfl, ?_⟩) (by assumption) ?_
            rotate_left
            · intro w hSw
              (try dsimp only at hSw)
              have hm := s8 hSw
              obtain ⟨hm0, hm1, hm2, hm3, hm4, hmG⟩ := hm
              clear hSw
              go_simp
              (try with_reducible rfl)
            (try simp only [Act.put, List.setIfInBounds_toArray, List.set_cons_zero, List.set_cons_succ])
            refine wpAnyH_take (i := 21) (oi := { dst := some 60, op := _, type := _, pos := _, after := _, guard := _ }) (v := undef) rfl (by kernel_rfl) (by kernel_rfl) (by kernel_rfl) (fun _ _ _ h => h) (Or.inr ⟨by rfl, rfl⟩) (by assumption) ?_
            (try simp only [Act.put, List.setIfInBounds_toArray, List.set_cons_zero, List.set_cons_succ])
            refine wpAnyH_take (i := 22) (oi := { dst := some 61, op := _, type := _, pos := _, after := _, guard := _ }) (v := undef) rfl (by kernel_rfl) (by kernel_rfl) (by kernel_rfl) (fun _ _ _ h => h) (Or.inr ⟨by rfl, rfl⟩) (by assumption) ?_
            (try simp only [Act.put, List.setIfInBounds_toArray, List.set_cons_zero, List.set_cons_succ])
            refine wpAnyH_take (i := 23) (oi := { dst := some 62, op := _, type := _, pos := _, after := _, guard := _ }) (v := undef) rfl (by kernel_rfl) (by kernel_rfl) (by kernel_rfl) (fun _ _ _ h => h) (Or.inr ⟨by rfl, rfl⟩) (by assumption) ?_
            (try simp only [Act.put, List.setIfInBounds_toArray, List.set_cons_zero, List.set_cons_succ])
            refine wpAnyH_take (i := 24) (oi := { dst := some 63, op := _, type := _, pos := _, after := _, guard := _ }) (v := undef) rfl (by kernel_rfl) (by kernel_rfl) (by kernel_rfl) (fun _ _ _ h => h) (Or.inr ⟨by rfl, rfl⟩) (by assumption) ?_
            (try simp only [Act.put, List.setIfInBounds_toArray, List.set_cons_zero, List.set_cons_succ])
            refine wpAnyH_take (i := 25) (oi := { dst := some 64, op := _, type := _, pos := _, after := _, guard := _ }) (v := undef) rfl (by kernel_rfl) (by kernel_rfl) (by kernel_rfl) (fun _ _ _ h => h) (Or.inr ⟨by rfl, rfl⟩) (by assumption) ?_
            (try simp only [Act.put, List.setIfInBounds_toArray, List.set_cons_zero, List.set_cons_succ])
            refine wpAnyH_take (i := 26) (oi := { dst := some 65, op := _, type := _, pos := _, after := _, guard := _ }) (v := undef) rfl (by kernel_rfl) (by kernel_rfl) (by kernel_rfl) (fun _ _ _ h => h) (Or.inr ⟨by rfl, rfl⟩) (by assumption) ?_
            (try simp only [Act.put, List.setIfInBounds_toArray, List.set_cons_zero, List.set_cons_succ])
            refine wpAnyH_take (i := 27) (oi := { dst := some 66, op := _, type := _, pos := _, after := _, guard := _ }) (v := undef) rfl (by kernel_rfl) (by kernel_rfl) (by kernel_rfl) (fun _ _ _ h => h) (Or.inr ⟨by rfl, rfl⟩) (by assumption) ?_
            (try simp only [Act.put, List.setIfInBounds_toArray, List.set_cons_zero, List.set_cons_succ])
            refine wpAnyH_take (i := 28) (oi := { dst := some 67, op := _, type := _, pos := _, after := _, guard := _ }) (v := undef) rfl (by kernel_rfl) (by kernel_rfl) (by kernel_rfl) (fun _ _ _ h => h) (Or.inr ⟨by rfl, rfl⟩) (by assumption) ?_
            (try simp only [Act.put, List.setIfInBounds_toArray, List.set_cons_zero, List.set_cons_succ])
            refine wpAnyH_take (i := 29) (oi := { dst := some 68, op := _, type := _, pos := _, after := _, guard := _ }) (v := ?_) rfl (by kernel_rfl) (by kernel_rfl) (by kernel_rfl) (fun _ _ _ h => h) (Or.inl ⟨by rfl, ?_⟩) (by assumption) ?_
            rotate_left
            · intro w hSw
              (try dsimp only at hSw)
              have hm := s8 hSw
              obtain ⟨hm0, hm1, hm2, hm3, hm4, hmG⟩ := hm
              clear hSw
              go_simp
              (try with_reducible rfl)
            (try simp only [Act.put, List.setIfInBounds_toArray, List.set_cons_zero, List.set_cons_succ])
            refine wpAnyH_done (by kernel_rfl) ?_ _
            have HE := Aside0.mk hHeld
            clear hHeld
            go_wp2_with fail
            go_ret
            exact ⟨by rw [← HR.out]; rfl, HE.out.2.below⟩
          · by_cases k3 : sameI ⟨(d : Int), f1, f2, f3, f4⟩ (bareI ⟨(d : Int), f1, f2, f3, f4⟩) = false
            · rw [if_pos (Or.inr (Or.inr k3))] at hF
              have HR := Aside0.mk (Option.some.inj hF)
              clear hF
              refine wp_region_held_drew (S := fun w' => Itm w' b ⟨(d : Int), f1, f2, f3, f4⟩ ∧ Sk w w' (.slice (some ⟨G, 0, none⟩) (d + 1) cc) (lv.take d ++ [t])) (by kernel_rfl) ⟨HI.out, HS3.out.drew⟩ (fun hHeld => ?_)
              refine wpAnyH_take (i := 0) (oi := { dst := some 39, op := _, type := _, pos := _, after := _, guard := _ }) (v := ?_) rfl (by kernel_rfl) (by kernel_rfl) (by kernel_rfl) (fun _ _ _ h => h) (Or.inl ⟨by rfl, ?_⟩) (by assumption) ?_
              rotate_left
              · intro w hSw
                (try dsimp only at hSw)
                have hm := s8 hSw
                obtain ⟨hm0, hm1, hm2, hm3, hm4, hmG⟩ := hm
                clear hSw
                go_simp
                (try with_reducible rfl)
              (try simp only [Act.put, List.setIfInBounds_toArray, List.set_cons_zero, List.set_cons_succ])
              refine wpAnyH_take (i := 1) (oi := { dst := some 40, op := _, type := _, pos := _, after := _, guard := _ }) (v := ?_) rfl (by kernel_rfl) (by kernel_rfl) (by kernel_rfl) (fun _ _ _ h => h) (Or.inl ⟨by rfl, ?_⟩) (by assumption) ?_
              rotate_left
              · intro w hSw
                (try dsimp only at hSw)
                have hm := s8 hSw
                obtain ⟨hm0, hm1, hm2, hm3, hm4, hmG⟩ := hm
                clear hSw
                go_simp
                (try with_reducible rfl)
              (try simp only [Act.put, List.setIfInBounds_toArray, List.set_cons_zero, List.set_cons_succ])
              refine wpAnyH_take (i := 2) (oi := { dst := some 41, op := _, type := _, pos := _, after := _, guard := _ }) (v := ?_) rfl (by kernel_rfl) (by kernel_rfl) (by kernel_rfl) (fun _ _ _ h => h) (Or.inl ⟨by rfl, ?_⟩) (by assumption) ?_
              rotate_left
              · intro w hSw
                (try dsimp only at hSw)
                have hm := s8 hSw
                obtain ⟨hm0, hm1, hm2, hm3, hm4, hmG⟩ := hm
                clear hSw
                go_simp
                (try with_reducible rfl)
              (try simp only [Act.put, List.setIfInBounds_toArray, List.set_cons_zero, List.set_cons_succ])
              refine wpAnyH_take (i := 3) (oi := { dst := some 42, op := _, type := _, pos := _, after := _, guard := _ }) (v := ?_) rfl (by kernel_rfl) (by kernel_rfl) (by kernel_rfl) (fun _ _ _ h => h) (Or.inl ⟨by rfl, ?_⟩) (by assumption) ?_
              rotate_left
              · intro w hSw
                (try dsimp only at hSw)
                have hm := s8 hSw
                obtain ⟨hm0, hm1, hm2, hm3, hm4, hmG⟩ := hm
                clear hSw
                go_simp
                (try with_reducible rfl)
              (try simp only [Act.put, List.setIfInBounds_toArray, List.set_cons_zero, List.set_cons_succ])
              refine wpAnyH_take (i := 4) (oi := { dst := some 43, op := _, type := _, pos := _, after := _, guard := _ }) (v := ?_) rfl (by kernel_rfl) (by kernel_rfl) (by kernel_rfl) (fun _ _ _ h => h) (Or.inl ⟨by rfl, ?_⟩) (by assumption) ?_
              rotate_left
              · intro w hSw
                (try dsimp only at hSw)
                have hm := s8 hSw
                obtain ⟨hm0, hm1, hm2, hm3, hm4, hmG⟩ := hm
                clear hSw
                go_simp
                (try with_reducible rfl)
              (try simp only [Act.put, List.setIfInBounds_toArray, List.set_cons_zero, List.set_cons_succ])
              refine wpAnyH_take (i := 5) (oi := { dst := some 44, op := _, type := _, pos := _, after := _, guard := _ }) (v := ?_) rfl (by kernel_rfl) (by kernel_rfl) (by kernel_rfl) (fun _ _ _ h => h) (Or.inl ⟨by rfl, ?_⟩) (by assumption) ?_
              rotate_left
              · intro w hSw
                (try dsimp only at hSw)
                have hm := s8 hSw
                obtain ⟨hm0, hm1, hm2, hm3, hm4, hmG⟩ := hm
                clear hSw
                go_simp
                (try with_reducible rfl)
              (try simp only [Act.put, List.setIfInBounds_toArray, List.set_cons_zero, List.set_cons_succ])
              refine wpAnyH_take (i := 6) (oi := { dst := some 45, op := _, type := _, pos := _, after := _, guard := _ }) (v := ?_) rfl (by kernel_rfl) (by kernel_rfl) (by kernel_rfl) (fun _ _ _ h => h) (Or.inl ⟨by rfl, ?_⟩) (by assumption) ?_
              rotate_left
              · intro w hSw
                (try dsimp only at hSw)
                have hm := s8 hSw
                obtain ⟨hm0, hm1, hm2, hm3, hm4, hmG⟩ := hm
                clear hSw
                go_simp
                (try with_reducible rfl)
              (try simp only [Act.put, List.setIfInBounds_toArray, List.set_cons_zero, List.set_cons_succ])
              refine wpAnyH_take (i := 7) (oi := { dst := some 46, op := _, type := _, pos := _, after := _, guard := _ }) (v := ?_) rfl (by kernel_rfl) (by kernel_rfl) (by kernel_rfl) (fun _ _ _ h => h) (Or.inl ⟨by rfl, ?_⟩) (by assumption) ?_
              rotate_left
              · intro w hSw
                (try dsimp only at hSw)
                have hm := s8 hSw
                obtain ⟨hm0, hm1, hm2, hm3, hm4, hmG⟩ := hm
                clear hSw
                go_simp
                (try with_reducible rfl)
              (try simp only [Act.put, List.setIfInBounds_toArray, List.set_cons_zero, List.set_cons_succ])
              refine wpAnyH_take (i := 8) (oi := { dst := some 47, op := _, type := _, pos := _, after := _, guard := _ }) (v := ?_) rfl (by kernel_rfl) (by kernel_rfl) (by kernel_rfl) (fun _ _ _ h => h) (Or.inl ⟨by rfl, ?_⟩) (by assumption) ?_
              rotate_left
              · intro w hSw
                (try dsimp only at hSw)
                have hm := s8 hSw
                obtain ⟨hm0, hm1, hm2, hm3, hm4, hmG⟩ := hm
                clear hSw
                go_simp
                (try with_reducible rfl)
              (try simp only [Act.put, List.setIfInBounds_toArray, List.set_cons_zero, List.set_cons_succ])
              refine wpAnyH_take (i := 9) (oi := { dst := some 48, op := _, type := _, pos := _, after := _, guard := _ }) (v := ?_) rfl (by kernel_rfl) (by kernel_rfl) (by kernel_rfl) (fun _ _ _ h => h) (Or.inl ⟨by rfl, ?_⟩) (by assumption) ?_
              rotate_left
              · intro w hSw
                (try dsimp only at hSw)
                have hm := s8 hSw
                obtain ⟨hm0, hm1, hm2, hm3, hm4, hmG⟩ := hm
                clear hSw
                go_simp
                (try with_reducible rfl)
              (try simp only [Act.put, List.setIfInBounds_toArray, List.set_cons_zero, List.set_cons_succ])
              refine wpAnyH_take (i := 10) (oi := { dst := some 49, op := _, type := _, pos := _, after := _, guard := _ }) (v := ?_) rfl (by kernel_rfl) (by kernel_rfl) (by kernel_rfl) (fun _ _ _ h => h) (Or.inl ⟨by rfl, ?_⟩) (by assumption) ?_
              rotate_left
              · intro w hSw
                (try dsimp only at hSw)
                have hm := s8 hSw
                obtain ⟨hm0, hm1, hm2, hm3, hm4, hmG⟩ := hm
                clear hSw
                go_simp
                (try with_reducible rfl)
              (try simp only [Act.put, List.setIfInBounds_toArray, List.set_cons_zero, List.set_cons_succ])
              refine wpAnyH_ready (rs := [11]) (by kernel_rfl) (by simp) ?_
              refine AllReadyH.cons (o := { dst := some 50, op := _, type := _, pos := _, after := _, guard := _ }) rfl (fun K hK => ?_) AllReadyH.nil
              go_simp
              (go_at_call 63; refine (bare_calls ⟨(d : Int), f1, f2, f3, f4⟩ _).mono ?_; rintro e w4 ⟨rfl, hb4⟩); go_wp2_with fail
              refine hK.out _ _ ?_ (fun hHeld => ?_)
              · exact ⟨itm_below hHeld.1 hb4, hHeld.2.quiet hb4⟩
              clear hK K
              (try simp only [Act.put, List.setIfInBounds_toArray, List.set_cons_zero, List.set_cons_succ])
              refine wpAnyH_take (i := 12) (oi := { dst := some 51, op := _, type := _, pos := _, after := _, guard := _ }) (v := ?_) rfl (by kernel_rfl) (by kernel_rfl) (by kernel_rfl) (fun _ _ _ h => h) (Or.inl ⟨by rfl, ?_⟩) (by assumption) ?_
              rotate_left
              · intro w hSw
                (try dsimp only at hSw)
                have hm := s8 hSw
                obtain ⟨hm0, hm1, hm2, hm3, hm4, hmG⟩ := hm
                clear hSw
                go_simp
                exact neq_step w ⟨(d : Int), f1, f2, f3, f4⟩ (bareI ⟨(d : Int), f1, f2, f3, f4⟩) _ _ false true k3 rfl
              (try simp only [Act.put, List.setIfInBounds_toArray, List.set_cons_zero, List.set_cons_succ])
              refine wpAnyH_take (i := 13) (oi := { dst := some 52, op := _, type := _, pos := _, after := _, guard := _ }) (v := ?_) rfl (by kernel_rfl) (by kernel_rfl) (by kernel_rfl) (fun _ _ _ h => h) (Or.inl ⟨by rfl, ?_⟩) (by assumption) ?_
              rotate_left
              · intro w hSw
                (try dsimp only at hSw)
                have hm := s8 hSw
                obtain ⟨hm0, hm1, hm2, hm3, hm4, hmG⟩ := hm
                clear hSw
                go_simp
                (try with_reducible rfl)
              (try simp only [Act.put, List.setIfInBounds_toArray, List.set_cons_zero, List.set_cons_succ])
              refine wpAnyH_take (i := 14) (oi := { dst := some 53, op := _, type := _, pos := _, after := _, guard := _ }) (v := ?_) rfl (by kernel_rfl) (by kernel_rfl) (by kernel_rfl) (fun _ _ _ h => h) (Or.inl ⟨by rfl, ?_⟩) (by assumption) ?_
              rotate_left
              · intro w hSw
                (try dsimp only at hSw)
                have hm := s8 hSw
                obtain ⟨hm0, hm1, hm2, hm3, hm4, hmG⟩ := hm
                clear hSw
                go_simp
                (try with_reducible rfl)
              (try simp only [Act.put, List.setIfInBounds_toArray, List.set_cons_zero, List.set_cons_succ])
              refine wpAnyH_take (i := 15) (oi := { dst := some 54, op := _, type := _, pos := _, after := _, guard := _ }) (v := undef) rfl (by kernel_rfl) (by kernel_rfl) (by kernel_rfl) (fun _ _ _ h => h) (Or.inr ⟨by rfl, rfl⟩) (by assumption) ?_
              (try simp only [Act.put, List.setIfInBounds_toArray, List.set_cons_zero, List.set_cons_succ])
              refine wpAnyH_take (i := 16) (oi := { dst := some 55, op := _, type := _, pos := _, after := _, guard := _ }) (v := undef) rfl (by kernel_rfl) (by kernel_rfl) (by kernel_rfl) (fun _ _ _ h => h) (Or.inr ⟨by rfl, rfl⟩) (by assumption) ?_
              (try simp only [Act.put, List.setIfInBounds_toArray, List.set_cons_zero, List.set_cons_succ])
              refine wpAnyH_take (i := 17) (oi := { dst := some 56, op := _, type := _, pos := _, after := _, guard := _ }) (v := undef) rfl (by kernel_rfl) (by kernel_rfl) (by kernel_rfl) (fun _ _ _ h => h) (Or.inr ⟨by rfl, rfl⟩) (by assumption) ?_
              (try simp only [Act.put, List.setIfInBounds_toArray, List.set_cons_zero, List.set_cons_succ])
              refine wpAnyH_take (i := 18) (oi := { dst := some 57, op := _, type := _, pos := _, after := _, guard := _ }) (v := undef) rfl (by kernel_rfl) (by kernel_rfl) (by kernel_rfl) (fun _ _ _ h => h) (Or.inr ⟨by rfl, rfl⟩) (by assumption) ?_
              (try simp only [Act.put, List.setIfInBounds_toArray, List.set_cons_zero, List.set_cons_succ])
              refine wpAnyH_take (i := 19) (oi := { dst := some 58, op := _, type := _, pos := _, after := _, guard := _ }) (v := ?_) rfl (by kernel_rfl) (by kernel_rfl) (by kernel_rfl) (fun _ _ _ h => h) (Or.inl ⟨by rfl, ?_⟩) (by assumption) ?_
              rotate_left
              · intro w hSw
                (try dsimp only at hSw)
                have hm := s8 hSw
                obtain ⟨hm0, hm1, hm2, hm3, hm4, hmG⟩ := hm
                clear hSw
                go_simp
                (try with_reducible rfl)
              (try simp only [Act.put, List.setIfInBounds_toArray, List.set_cons_zero, List.set_cons_succ])
              refine wpAnyH_take (i := 20) (oi := { dst := some 59, op := _, type := _, pos := _, after := _, guard := _ }) (v := ?_) rfl (by kernel_rfl) (by kernel_rfl) (by kernel_rfl) (fun _ _ _ h => h) (Or.inl ⟨by rfl, ?_⟩) (by assumption) ?_
              rotate_left
              · intro w hSw
                (try dsimp only at hSw)
                have hm := s8 hSw
                obtain ⟨hm0, hm1, hm2, hm3, hm4, hmG⟩ := hm
                clear hSw
                go_simp
                (try with_reducible rfl)
              (try simp only [Act.put, List.setIfInBounds_toArray, List.set_cons_zero, List.set_cons_succ])
              refine wpAnyH_take (i := 21) (oi := { dst := some 60, op := _, type := _, pos := _, after := _, guard := _ }) (v := undef) rfl (by kernel_rfl) (by kernel_rfl) (by kernel_rfl) (fun _ _ _ h => h) (Or.inr ⟨by rfl, rfl⟩) (by assumption) ?_
              (try simp only [Act.put, List.setIfInBounds_toArray, List.set_cons_zero, List.set_cons_succ])
              refine wpAnyH_take (i := 22) (oi := { dst := some 61, op := _, type := _, pos := _, after := _, guard := _ }) (v := undef) rfl (by kernel_rfl) (by kernel_rfl) (by kernel_rfl) (fun _ _ _ h => h) (Or.inr ⟨by rfl, rfl⟩) (by assumption) ?_
              (try simp only [Act.put, List.setIfInBounds_toArray, List.set_cons_zero, List.set_cons_succ])
              refine wpAnyH_take (i := 23) (oi := { dst := some 62, op := _, type := _, pos := _, after := _, guard := _ }) (v := undef) rfl (by kernel_rfl) (by kernel_rfl) (by kernel_rfl) (fun _ _ _ h => h) (Or.inr ⟨by rfl, rfl⟩) (by assumption) ?_
              (try simp only [Act.put, List.setIfInBounds_toArray, List.set_cons_zero, List.set_cons_succ])
              refine wpAnyH_take (i := 24) (oi := { dst := some 63, op := _, type := _, pos := _, after := _, guard := _ }) (v := undef) rfl (by kernel_rfl) (by kernel_rfl) (by kernel_rfl) (fun _ _ _ h => h) (Or.inr ⟨by rfl, rfl⟩) (by assumption) ?_
              (try simp only [Act.put, List.setIfInBounds_toArray, List.set_cons_zero, List.set_cons_succ])
              refine wpAnyH_take (i := 25) (oi := { dst := some 64, op := _, type := _, pos := _, after := _, guard := _ }) (v := undef) rfl (by kernel_rfl) (by kernel_rfl) (by kernel_rfl) (fun _ _ _ h => h) (Or.inr ⟨by rfl, rfl⟩) (by assumption) ?_
              (try simp only [Act.put, List.setIfInBounds_toArray, List.set_cons_zero, List.set_cons_succ])
              refine wpAnyH_take (i := 26) (oi := { dst := some 65, op := _, type := _, pos := _, after := _, guard := _ }) (v := undef) rfl (by kernel_rfl) (by kernel_rfl) (by kernel_rfl) (fun _ _ _ h => h) (Or.inr ⟨by rfl, rfl⟩) (by assumption) ?_
              (try simp only [Act.put, List.setIfInBounds_toArray, List.set_cons_zero, List.set_cons_succ])
              refine wpAnyH_take (i := 27) (oi := { dst := some 66, op := _, type := _, pos := _, after := _, guard := _ }) (v := undef) rfl (by kernel_rfl) (by kernel_rfl) (by kernel_rfl) (fun _ _ _ h => h) (Or.inr ⟨by rfl, rfl⟩) (by assumption) ?_
              (try simp only [Act.put, List.setIfInBounds_toArray, List.set_cons_zero, List.set_cons_succ])
              refine wpAnyH_take (i := 28) (oi := { dst := some 67, op := _, type := _, pos := _, after := _, guard := _ }) (v := undef) rfl (by kernel_rfl) (by kernel_rfl) (by kernel_rfl) (fun _ _ _ h => h) (Or.inr ⟨by rfl, rfl⟩) (by assumption) ?_
              (try simp only [Act.put, List.setIfInBounds_toArray, List.set_cons_zero, List.set_cons_succ])
              refine wpAnyH_take (i := 29) (oi := { dst := some 68, op := _, type := _, pos := _, after := _, guard := _ }) (v := ?_) rfl (by kernel_rfl) (by kernel_rfl) (by kernel_rfl) (fun _ _ _ h => h) (Or.inl ⟨by rfl, ?_⟩) (by assumption) ?_
              rotate_left
              · intro w hSw
                (try dsimp only at hSw)
                have hm := s8 hSw
                obtain ⟨hm0, hm1, hm2, hm3, hm4, hmG⟩ := hm
                clear hSw
                go_simp
                (try with_reducible rfl)
              (try simp only [Act.put, List.setIfInBounds_toArray, List.set_cons_zero, List.set_cons_succ])
              refine wpAnyH_done (by kernel_rfl) ?_ _
              have HE := Aside0.mk hHeld
              clear hHeld
              go_wp2_with fail
              go_ret
              exact ⟨by rw [← HR.out]; rfl, HE.out.2.below⟩
            · rw [if_neg (by rintro (a | a | a) <;> first | exact k1 a | exact k2 a | exact k3 a)] at hF
              obtain ⟨v3, hv, hF⟩ := Option.bind_eq_some_iff.1 hF
              have FV := Aside0.mk hv
              clear hv
              have k3 := Bool.of_not_eq_false k3
              cases v3 with
              | false =>
                rw [if_pos rfl] at hF
                have HR := Aside0.mk (Option.some.inj hF)
                clear hF
                refine wp_region_held_drew (S := fun w' => Itm w' b ⟨(d : Int), f1, f2, f3, f4⟩ ∧ Sk w w' (.slice (some ⟨G, 0, none⟩) (d + 1) cc) (lv.take d ++ [t])) (by kernel_rfl) ⟨HI.out, HS3.out.drew⟩ (fun hHeld => ?_)
                refine wpAnyH_take (i := 0) (oi := { dst := some 39, op := _, type := _, pos := _, after := _, guard := _ }) (v := ?_) rfl (by kernel_rfl) (by kernel_rfl) (by kernel_rfl) (fun _ _ _ h => h) (Or.inl ⟨by rfl, ?_⟩) (by assumption) ?_
                rotate_left
                · intro w hSw
                  (try dsimp only at hSw)
                  have hm := s8 hSw
                  obtain ⟨hm0, hm1, hm2, hm3, hm4, hmG⟩ := hm
                  clear hSw
                  go_simp
                  (try with_reducible rfl)
                (try simp only [Act.put, List.setIfInBounds_toArray, List.set_cons_zero, List.set_cons_succ])
                refine wpAnyH_take (i := 1) (oi := { dst := some 40, op := _, type := _, pos := _, after := _, guard := _ }) (v := ?_) rfl (by kernel_rfl) (by kernel_rfl) (by kernel_rfl) (fun _ _ _ h => h) (Or.inl ⟨by rfl, ?_⟩) (by assumption) ?_
                rotate_left
                · intro w hSw
                  (try dsimp only at hSw)
                  have hm := s8 hSw
                  obtain ⟨hm0, hm1, hm2, hm3, hm4, hmG⟩ := hm
                  clear hSw
                  go_simp
                  (try with_reducible rfl)
                (try simp only [Act.put, List.setIfInBounds_toArray, List.set_cons_zero, List.set_cons_succ])
                refine wpAnyH_take (i := 2) (oi := { dst := some 41, op := _, type := _, pos := _, after := _, guard := _ }) (v := ?_) rfl (by kernel_rfl) (by kernel_rfl) (by kernel_rfl) (fun _ _ _ h => h) (Or.inl ⟨by rfl, ?_⟩) (by assumption) ?_
                rotate_left
                · intro w hSw
                  (try dsimp only at hSw)
                  have hm := s8 hSw
                  obtain ⟨hm0, hm1, hm2, hm3, hm4, hmG⟩ := hm
                  clear hSw
                  go_simp
                  (try with_reducible rfl)
                (try simp only [Act.put, List.setIfInBounds_toArray, List.set_cons_zero, List.set_cons_succ])
                refine wpAnyH_take (i := 3) (oi := { dst := some 42, op := _, type := _, pos := _, after := _, guard := _ }) (v := ?_) rfl (by kernel_rfl) (by kernel_rfl) (by kernel_rfl) (fun _ _ _ h => h) (Or.inl ⟨by rfl, ?_⟩) (by assumption) ?_
                rotate_left
                · intro w hSw
                  (try dsimp only at hSw)
                  have hm := s8 hSw
                  obtain ⟨hm0, hm1, hm2, hm3, hm4, hmG⟩ := hm
                  clear hSw
                  go_simp
                  (try with_reducible rfl)
                (try simp only [Act.put, List.setIfInBounds_toArray, List.set_cons_zero, List.set_cons_succ])
                refine wpAnyH_take (i := 4) (oi := { dst := some 43, op := _, type := _, pos := _, after := _, guard := _ }) (v := ?_) rfl (by kernel_rfl) (by kernel_rfl) (by kernel_rfl) (fun _ _ _ h => h) (Or.inl ⟨by rfl, ?_⟩) (by assumption) ?_
                rotate_left
                · intro w hSw
                  (try dsimp only at hSw)
                  have hm := s8 hSw
                  obtain ⟨hm0, hm1, hm2, hm3, hm4, hmG⟩ := hm
                  clear hSw
                  go_simp
                  (try with_reducible rfl)
                (try simp only [Act.put, List.setIfInBounds_toArray, List.set_cons_zero, List.set_cons_succ])
                refine wpAnyH_take (i := 5) (oi := { dst := some 44, op := _, type := _, pos := _, after := _, guard := _ }) (v := ?_) rfl (by kernel_rfl) (by kernel_rfl) (by kernel_rfl) (fun _ _ _ h => h) (Or.inl ⟨by rfl, ?_⟩) (by assumption) ?_
                rotate_left
                · intro w hSw
                  (try dsimp only at hSw)
                  have hm := s8 hSw
                  obtain ⟨hm0, hm1, hm2, hm3, hm4, hmG⟩ := hm
                  clear hSw
                  go_simp
                  (try with_reducible rfl)
                (try simp only [Act.put, List.setIfInBounds_toArray, List.set_cons_zero, List.set_cons_succ])
                refine wpAnyH_take (i := 6) (oi := { dst := some 45, op := _, type := _, pos := _, after := _, guard := _ }) (v := ?_) rfl (by kernel_rfl) (by kernel_rfl) (by kernel_rfl) (fun _ _ _ h => h) (Or.inl ⟨by rfl, ?_⟩) (by assumption) ?_
                rotate_left
                · intro w hSw
                  (try dsimp only at hSw)
                  have hm := s8 hSw
                  obtain ⟨hm0, hm1, hm2, hm3, hm4, hmG⟩ := hm
                  clear hSw
                  go_simp
                  (try with_reducible rfl)
                (try simp only [Act.put, List.setIfInBounds_toArray, List.set_cons_zero, List.set_cons_succ])
                refine wpAnyH_take (i := 7) (oi := { dst := some 46, op := _, type := _, pos := _, after := _, guard := _ }) (v := ?_) rfl (by kernel_rfl) (by kernel_rfl) (by kernel_rfl) (fun _ _ _ h => h) (Or.inl ⟨by rfl, ?_⟩) (by assumption) ?_
                rotate_left
                · intro w hSw
                  (try dsimp only at hSw)
                  have hm := s8 hSw
                  obtain ⟨hm0, hm1, hm2, hm3, hm4, hmG⟩ := hm
                  clear hSw
                  go_simp
                  (try with_reducible rfl)
                (try simp only [Act.put, List.setIfInBounds_toArray, List.set_cons_zero, List.set_cons_succ])
                refine wpAnyH_take (i := 8) (oi := { dst := some 47, op := _, type := _, pos := _, after := _, guard := _ }) (v := ?_) rfl (by kernel_rfl) (by kernel_rfl) (by kernel_rfl) (fun _ _ _ h => h) (Or.inl ⟨by rfl, ?_⟩) (by assumption) ?_
                rotate_left
                · intro w hSw
                  (try dsimp only at hSw)
                  have hm := s8 hSw
                  obtain ⟨hm0, hm1, hm2, hm3, hm4, hmG⟩ := hm
                  clear hSw
                  go_simp
                  (try with_reducible rfl)
                (try simp only [Act.put, List.setIfInBounds_toArray, List.set_cons_zero, List.set_cons_succ])
                refine wpAnyH_take (i := 9) (oi := { dst := some 48, op := _, type := _, pos := _, after := _, guard := _ }) (v := ?_) rfl (by kernel_rfl) (by kernel_rfl) (by kernel_rfl) (fun _ _ _ h => h) (Or.inl ⟨by rfl, ?_⟩) (by assumption) ?_
                rotate_left
                · intro w hSw
                  (try dsimp only at hSw)
                  have hm := s8 hSw
                  obtain ⟨hm0, hm1, hm2, hm3, hm4, hmG⟩ := hm
                  clear hSw
                  go_simp
                  (try with_reducible rfl)
                (try simp only [Act.put, List.setIfInBounds_toArray, List.set_cons_zero, List.set_cons_succ])
                refine wpAnyH_take (i := 10) (oi := { dst := some 49, op := _, type := _, pos := _, after := _, guard := _ }) (v := ?_) rfl (by kernel_rfl) (by kernel_rfl) (by kernel_rfl) (fun _ _ _ h => h) (Or.inl ⟨by rfl, ?_⟩) (by assumption) ?_
                rotate_left
                · intro w hSw
                  (try dsimp only at hSw)
                  have hm := s8 hSw
                  obtain ⟨hm0, hm1, hm2, hm3, hm4, hmG⟩ := hm
                  clear hSw
                  go_simp
                  (try with_reducible rfl)
                (try simp only [Act.put, List.setIfInBounds_toArray, List.set_cons_zero, List.set_cons_succ])
                refine wpAnyH_ready (rs := [11]) (by kernel_rfl) (by simp) ?_
                refine AllReadyH.cons (o := { dst := some 50, op := _, type := _, pos := _, after := _, guard := _ }) rfl (fun K hK => ?_) AllReadyH.nil
                go_simp
                (go_at_call 63; refine (bare_calls ⟨(d : Int), f1, f2, f3, f4⟩ _).mono ?_; rintro e w4 ⟨rfl, hb4⟩); go_wp2_with fail
                refine hK.out _ _ ?_ (fun hHeld => ?_)
                · exact ⟨itm_below hHeld.1 hb4, hHeld.2.quiet hb4⟩
                clear hK K
                (try simp only [Act.put, List.setIfInBounds_toArray, List.set_cons_zero, List.set_cons_succ])
                refine wpAnyH_take (i := 12) (oi := { dst := some 51, op := _, type := _, pos := _, after := _, guard := _ }) (v := ?_) rfl (by kernel_rfl) (by kernel_rfl) (by kernel_rfl) (fun _ _ _ h => h) (Or.inl ⟨by rfl, ?_⟩) (by assumption) ?_
                rotate_left
                · intro w hSw
                  (try dsimp only at hSw)
                  have hm := s8 hSw
                  obtain ⟨hm0, hm1, hm2, hm3, hm4, hmG⟩ := hm
                  clear hSw
                  go_simp
                  exact neq_step w ⟨(d : Int), f1, f2, f3, f4⟩ (bareI ⟨(d : Int), f1, f2, f3, f4⟩) _ _ true false k3 rfl
                (try simp only [Act.put, List.setIfInBounds_toArray, List.set_cons_zero, List.set_cons_succ])
                refine wpAnyH_take (i := 13) (oi := { dst := some 52, op := _, type := _, pos := _, after := _, guard := _ }) (v := ?_) rfl (by kernel_rfl) (by kernel_rfl) (by kernel_rfl) (fun _ _ _ h => h) (Or.inl ⟨by rfl, ?_⟩) (by assumption) ?_
                rotate_left
                · intro w hSw
                  (try dsimp only at hSw)
                  have hm := s8 hSw
                  obtain ⟨hm0, hm1, hm2, hm3, hm4, hmG⟩ := hm
                  clear hSw
                  go_simp
                  (try with_reducible rfl)
                (try simp only [Act.put, List.setIfInBounds_toArray, List.set_cons_zero, List.set_cons_succ])
                refine wpAnyH_take (i := 14) (oi := { dst := some 53, op := _, type := _, pos := _, after := _, guard := _ }) (v := ?_) rfl (by kernel_rfl) (by kernel_rfl) (by kernel_rfl) (fun _ _ _ h => h) (Or.inl ⟨by rfl, ?_⟩) (by assumption) ?_
                rotate_left
                · intro w hSw
                  (try dsimp only at hSw)
                  have hm := s8 hSw
                  obtain ⟨hm0, hm1, hm2, hm3, hm4, hmG⟩ := hm
                  clear hSw
                  go_simp
                  (try with_reducible rfl)
                (try simp only [Act.put, List.setIfInBounds_toArray, List.set_cons_zero, List.set_cons_succ])
                refine wpAnyH_take (i := 15) (oi := { dst := some 54, op := _, type := _, pos := _, after := _, guard := _ }) (v := ?_) rfl (by kernel_rfl) (by kernel_rfl) (by kernel_rfl) (fun _ _ _ h => h) (Or.inl ⟨by rfl, ?_⟩) (by assumption) ?_
                rotate_left
                · intro w hSw
                  (try dsimp only at hSw)
                  have hm := s8 hSw
                  obtain ⟨hm0, hm1, hm2, hm3, hm4, hmG⟩ := hm
                  clear hSw
                  go_simp
                  (try with_reducible rfl)
                (try simp only [Act.put, List.setIfInBounds_toArray, List.set_cons_zero, List.set_cons_succ])
                refine wpAnyH_take (i := 16) (oi := { dst := some 55, op := _, type := _, pos := _, after := _, guard := _ }) (v := ?_) rfl (by kernel_rfl) (by kernel_rfl) (by kernel_rfl) (fun _ _ _ h => h) (Or.inl ⟨by rfl, ?_⟩) (by assumption) ?_
                rotate_left
                · intro w hSw
                  (try dsimp only at hSw)
                  have hm := s8 hSw
                  obtain ⟨hm0, hm1, hm2, hm3, hm4, hmG⟩ := hm
                  clear hSw
                  go_simp
                  (try with_reducible rfl)
                (try simp only [Act.put, List.setIfInBounds_toArray, List.set_cons_zero, List.set_cons_succ])
                refine wpAnyH_ready (rs := [17]) (by kernel_rfl) (by simp) ?_
                refine AllReadyH.cons (o := { dst := some 56, op := _, type := _, pos := _, after := _, guard := _ }) rfl (fun K hK => ?_) AllReadyH.nil
                go_simp
                (go_at_call 30; refine (utf_Valid.calls f3 _ _ FV.out (HT.out.step hHeld.2.below)).mono ?_; rintro e w5 ⟨rfl, hb5⟩); go_wp2_with fail
                refine hK.out _ _ ?_ (fun hHeld => ?_)
                · exact ⟨itm_below hHeld.1 hb5, hHeld.2.quiet hb5⟩
                clear hK K
                (try simp only [Act.put, List.setIfInBounds_toArray, List.set_cons_zero, List.set_cons_succ])
                refine wpAnyH_take (i := 18) (oi := { dst := some 57, op := _, type := _, pos := _, after := _, guard := _ }) (v := ?_) rfl (by kernel_rfl) (by kernel_rfl) (by kernel_rfl) (fun _ _ _ h => h) (Or.inl ⟨by rfl, ?_⟩) (by assumption) ?_
                rotate_left
                · intro w hSw
                  (try dsimp only at hSw)
                  have hm := s8 hSw
                  obtain ⟨hm0, hm1, hm2, hm3, hm4, hmG⟩ := hm
                  clear hSw
                  go_simp
                  (try with_reducible rfl)
                (try simp only [Act.put, List.setIfInBounds_toArray, List.set_cons_zero, List.set_cons_succ])
                refine wpAnyH_take (i := 19) (oi := { dst := some 58, op := _, type := _, pos := _, after := _, guard := _ }) (v := ?_) rfl (by kernel_rfl) (by kernel_rfl) (by kernel_rfl) (fun _ _ _ h => h) (Or.inl ⟨by rfl, ?_⟩) (by assumption) ?_
                rotate_left
                · intro w hSw
                  (try dsimp only at hSw)
                  have hm := s8 hSw
                  obtain ⟨hm0, hm1, hm2, hm3, hm4, hmG⟩ := hm
                  clear hSw
                  go_simp
                  (try with_reducible rfl)
                (try simp only [Act.put, List.setIfInBounds_toArray, List.set_cons_zero, List.set_cons_succ])
                refine wpAnyH_take (i := 20) (oi := { dst := some 59, op := _, type := _, pos := _, after := _, guard := _ }) (v := ?_) rfl (by kernel_rfl) (by kernel_rfl) (by kernel_rfl) (fun _ _ _ h => h) (Or.inl ⟨by rfl, ?_⟩) (by assumption) ?_
                rotate_left
                · intro w hSw
                  (try dsimp only at hSw)
                  have hm := s8 hSw
                  obtain ⟨hm0, hm1, hm2, hm3, hm4, hmG⟩ := hm
                  clear hSw
                  go_simp
                  (try with_reducible rfl)
                (try simp only [Act.put, List.setIfInBounds_toArray, List.set_cons_zero, List.set_cons_succ])
                refine wpAnyH_take (i := 21) (oi := { dst := some 60, op := _, type := _, pos := _, after := _, guard := _ }) (v := undef) rfl (by kernel_rfl) (by kernel_rfl) (by kernel_rfl) (fun _ _ _ h => h) (Or.inr ⟨by rfl, rfl⟩) (by assumption) ?_
                (try simp only [Act.put, List.setIfInBounds_toArray, List.set_cons_zero, List.set_cons_succ])
                refine wpAnyH_take (i := 22) (oi := { dst := some 61, op := _, type := _, pos := _, after := _, guard := _ }) (v := undef) rfl (by kernel_rfl) (by kernel_rfl) (by kernel_rfl) (fun _ _ _ h => h) (Or.inr ⟨by rfl, rfl⟩) (by assumption) ?_
                (try simp only [Act.put, List.setIfInBounds_toArray, List.set_cons_zero, List.set_cons_succ])
                refine wpAnyH_take (i := 23) (oi := { dst := some 62, op := _, type := _, pos := _, after := _, guard := _ }) (v := undef) rfl (by kernel_rfl) (by kernel_rfl) (by kernel_rfl) (fun _ _ _ h => h) (Or.inr ⟨by rfl, rfl⟩) (by assumption) ?_
                (try simp only [Act.put, List.setIfInBounds_toArray, List.set_cons_zero, List.set_cons_succ])
                refine wpAnyH_take (i := 24) (oi := { dst := some 63, op := _, type := _, pos := _, after := _, guard := _ }) (v := undef) rfl (by kernel_rfl) (by kernel_rfl) (by kernel_rfl) (fun _ _ _ h => h) (Or.inr ⟨by rfl, rfl⟩) (by assumption) ?_
                (try simp only [Act.put, List.setIfInBounds_toArray, List.set_cons_zero, List.set_cons_succ])
                refine wpAnyH_take (i := 25) (oi := { dst := some 64, op := _, type := _, pos := _, after := _, guard := _ }) (v := undef) rfl (by kernel_rfl) (by kernel_rfl) (by kernel_rfl) (fun _ _ _ h => h) (Or.inr ⟨by rfl, rfl⟩) (by assumption) ?_
                (try simp only [Act.put, List.setIfInBounds_toArray, List.set_cons_zero, List.set_cons_succ])
                refine wpAnyH_take (i := 26) (oi := { dst := some 65, op := _, type := _, pos := _, after := _, guard := _ }) (v := undef) rfl (by kernel_rfl) (by kernel_rfl) (by kernel_rfl) (fun _ _ _ h => h) (Or.inr ⟨by rfl, rfl⟩) (by assumption) ?_
                (try simp only [Act.put, List.setIfInBounds_toArray, List.set_cons_zero, List.set_cons_succ])
                refine wpAnyH_take (i := 27) (oi := { dst := some 66, op := _, type := _, pos := _, after := _, guard := _ }) (v := undef) rfl (by kernel_rfl) (by kernel_rfl) (by kernel_rfl) (fun _ _ _ h => h) (Or.inr ⟨by rfl, rfl⟩) (by assumption) ?_
                (try simp only [Act.put, List.setIfInBounds_toArray, List.set_cons_zero, List.set_cons_succ])
                refine wpAnyH_take (i := 28) (oi := { dst := some 67, op := _, type := _, pos := _, after := _, guard := _ }) (v := undef) rfl (by kernel_rfl) (by kernel_rfl) (by kernel_rfl) (fun _ _ _ h => h) (Or.inr ⟨by rfl, rfl⟩) (by assumption) ?_
                (try simp only [Act.put, List.setIfInBounds_toArray, List.set_cons_zero, List.set_cons_succ])
                refine wpAnyH_take (i := 29) (oi := { dst := some 68, op := _, type := _, pos := _, after := _, guard := _ }) (v := ?_) rfl (by kernel_rfl) (by kernel_rfl) (by kernel_rfl) (fun _ _ _ h => h) (Or.inl ⟨by rfl, ?_⟩) (by assumption) ?_
                rotate_left
                · intro w hSw
                  (try dsimp only at hSw)
                  have hm := s8 hSw
                  obtain ⟨hm0, hm1, hm2, hm3, hm4, hmG⟩ := hm
                  clear hSw
                  go_simp
                  (try with_reducible rfl)
                (try simp only [Act.put, List.setIfInBounds_toArray, List.set_cons_zero, List.set_cons_succ])
                refine wpAnyH_done (by kernel_rfl) ?_ _
                have HE := Aside0.mk hHeld
                clear hHeld
                go_wp2_with fail
                go_ret
                exact ⟨by rw [← HR.out]; rfl, HE.out.2.below⟩
              | true =>
                rw [if_neg (by decide)] at hF
                obtain ⟨⟨mb, ks⟩, hm, hF⟩ := Option.bind_eq_some_iff.1 hF
                have FM := Aside0.mk hm
                clear hm
                refine start_ (n := 30) (S := fun w' => Itm w' b ⟨(d : Int), f1, f2, f3, f4⟩ ∧ Sk w w' (.slice (some ⟨G, 0, none⟩) (d + 1) cc) (lv.take d ++ [t])) (ds := [27]) #[false, false, false, false, false, false, false, false, false, false, false, false, false, false, false, false, false, false, false, false, false, false, false, false, false, false, false, false, false, false] (by kernel_rfl) rfl rfl ⟨HI.out, HS3.out.drew⟩ (fun hHeld => ?_)
                refine pure_ (i := 0) (N := some 39) (v := ?_) (a' := ?_) #[true, false, false, false, false, false, false, false, false, false, false, false, false, false, false, false, false, false, false, false, false, false, false, false, false, false, false, false, false, false] rfl rfl (by kernel_rfl) (fun _ _ _ h => h) (Or.inl ⟨by rfl, ?_⟩) ?_ ?_
                rotate_left
                · intro w'
                  go_simp
                  (try with_reducible rfl)
                rotate_left
                · simp only [Act.put, List.setIfInBounds_toArray, List.set_cons_zero, List.set_cons_succ]
                  rfl
                refine take_ (i := 1) (N := some 40) (v := ?_) (a' := ?_) #[true, true, false, false, false, false, false, false, false, false, false, false, false, false, false, false, false, false, false, false, false, false, false, false, false, false, false, false, false, false] rfl rfl (by kernel_rfl) (fun _ _ _ h => h) (Or.inl ⟨by rfl, ?_⟩) (by assumption) ?_ ?_
                rotate_left
                · intro w hSw
                  obtain ⟨hl0, hl1⟩ := hSw
                  have hm := s8 ⟨hl0, hl1⟩
                  obtain ⟨hm0, hm1, hm2, hm3, hm4, hmG⟩ := hm
                  clear hl0 hl1
                  have hdd : (d : Int) < (d : Int) + 1 := by omega
                  go_simp
                  (try with_reducible rfl)
                rotate_left
                · simp only [Act.put, List.setIfInBounds_toArray, List.set_cons_zero, List.set_cons_succ]
                  rfl
                refine take_ (i := 2) (N := some 41) (v := ?_) (a' := ?_) #[true, true, true, false, false, false, false, false, false, false, false, false, false, false, false, false, false, false, false, false, false, false, false, false, false, false, false, false, false, false] rfl rfl (by kernel_rfl) (fun _ _ _ h => h) (Or.inl ⟨by rfl, ?_⟩) (by assumption) ?_ ?_
                rotate_left
                · intro w hSw
                  obtain ⟨hl0, hl1⟩ := hSw
                  have hm := s8 ⟨hl0, hl1⟩
                  obtain ⟨hm0, hm1, hm2, hm3, hm4, hmG⟩ := hm
                  clear hl0 hl1
                  have hdd : (d : Int) < (d : Int) + 1 := by omega
                  go_simp
                  (try with_reducible rfl)
                rotate_left
                · simp only [Act.put, List.setIfInBounds_toArray, List.set_cons_zero, List.set_cons_succ]
                  rfl
                refine pure_ (i := 3) (N := some 42) (v := ?_) (a' := ?_) #[true, true, true, true, false, false, false, false, false, false, false, false, false, false, false, false, false, false, false, false, false, false, false, false, false, false, false, false, false, false] rfl rfl (by kernel_rfl) (fun _ _ _ h => h) (Or.inl ⟨by rfl, ?_⟩) ?_ ?_
                rotate_left
                · intro w'
                  go_simp
                  (try with_reducible rfl)
                rotate_left
                · simp only [Act.put, List.setIfInBounds_toArray, List.set_cons_zero, List.set_cons_succ]
                  rfl
                refine pure_ (i := 4) (N := some 43) (v := ?_) (a' := ?_) #[true, true, true, true, true, false, false, false, false, false, false, false, false, false, false, false, false, false, false, false, false, false, false, false, false, false, false, false, false, false] rfl rfl (by kernel_rfl) (fun _ _ _ h => h) (Or.inl ⟨by rfl, ?_⟩) ?_ ?_
                rotate_left
                · intro w'
                  go_simp
                  (try with_reducible rfl)
                rotate_left
                · simp only [Act.put, List.setIfInBounds_toArray, List.set_cons_zero, List.set_cons_succ]
                  rfl
                refine take_ (i := 5) (N := some 44) (v := ?_) (a' := ?_) #[true, true, true, true, true, true, false, false, false, false, false, false, false, false, false, false, false, false, false, false, false, false, false, false, false, false, false, false, false, false] rfl rfl (by kernel_rfl) (fun _ _ _ h => h) (Or.inl ⟨by rfl, ?_⟩) (by assumption) ?_ ?_
                rotate_left
                · intro w hSw
                  obtain ⟨hl0, hl1⟩ := hSw
                  have hm := s8 ⟨hl0, hl1⟩
                  obtain ⟨hm0, hm1, hm2, hm3, hm4, hmG⟩ := hm
                  clear hl0 hl1
                  have hdd : (d : Int) < (d : Int) + 1 := by omega
                  go_simp
                  (try with_reducible rfl)
                rotate_left
                · simp only [Act.put, List.setIfInBounds_toArray, List.set_cons_zero, List.set_cons_succ]
                  rfl
                refine take_ (i := 6) (N := some 45) (v := ?_) (a' := ?_) #[true, true, true, true, true, true, true, false, false, false, false, false, false, false, false, false, false, false, false, false, false, false, false, false, false, false, false, false, false, false] rfl rfl (by kernel_rfl) (fun _ _ _ h => h) (Or.inl ⟨by rfl, ?_⟩) (by assumption) ?_ ?_
                rotate_left
                · intro w hSw
                  obtain ⟨hl0, hl1⟩ := hSw
                  have hm := s8 ⟨hl0, hl1⟩
                  obtain ⟨hm0, hm1, hm2, hm3, hm4, hmG⟩ := hm
                  clear hl0 hl1
                  have hdd : (d : Int) < (d : Int) + 1 := by omega
                  go_simp
                  (try with_reducible rfl)
                rotate_left
                · simp only [Act.put, List.setIfInBounds_toArray, List.set_cons_zero, List.set_cons_succ]
                  rfl
                refine pure_ (i := 7) (N := some 46) (v := ?_) (a' := ?_) #[true, true, true, true, true, true, true, true, false, false, false, false, false, false, false, false, false, false, false, false, false, false, false, false, false, false, false, false, false, false] rfl rfl (by kernel_rfl) (fun _ _ _ h => h) (Or.inl ⟨by rfl, ?_⟩) ?_ ?_
                rotate_left
                · intro w'
                  go_simp
                  (try with_reducible rfl)
                rotate_left
                · simp only [Act.put, List.setIfInBounds_toArray, List.set_cons_zero, List.set_cons_succ]
                  rfl
                refine pure_ (i := 8) (N := some 47) (v := ?_) (a' := ?_) #[true, true, true, true, true, true, true, true, true, false, false, false, false, false, false, false, false, false, false, false, false, false, false, false, false, false, false, false, false, false] rfl rfl (by kernel_rfl) (fun _ _ _ h => h) (Or.inl ⟨by rfl, ?_⟩) ?_ ?_
                rotate_left
                · intro w'
                  go_simp
                  (try with_reducible rfl)
                rotate_left
                · simp only [Act.put, List.setIfInBounds_toArray, List.set_cons_zero, List.set_cons_succ]
                  rfl
                refine take_ (i := 9) (N := some 48) (v := ?_) (a' := ?_) #[true, true, true, true, true, true, true, true, true, true, false, false, false, false, false, false, false, false, false, false, false, false, false, false, false, false, false, false, false, false] rfl rfl (by kernel_rfl) (fun _ _ _ h => h) (Or.inl ⟨by rfl, ?_⟩) (by assumption) ?_ ?_
                rotate_left
                · intro w hSw
                  obtain ⟨hl0, hl1⟩ := hSw
                  have hm := s8 ⟨hl0, hl1⟩
                  obtain ⟨hm0, hm1, hm2, hm3, hm4, hmG⟩ := hm
                  clear hl0 hl1
                  have hdd : (d : Int) < (d : Int) + 1 := by omega
                  go_simp
                  (try with_reducible rfl)
                rotate_left
                · simp only [Act.put, List.setIfInBounds_toArray, List.set_cons_zero, List.set_cons_succ]
                  rfl
                refine take_ (i := 10) (N := some 49) (v := ?_) (a' := ?_) #[true, true, true, true, true, true, true, true, true, true, true, false, false, false, false, false, false, false, false, false, false, false, false, false, false, false, false, false, false, false] rfl rfl (by kernel_rfl) (fun _ _ _ h => h) (Or.inl ⟨by rfl, ?_⟩) (by assumption) ?_ ?_
                rotate_left
                · intro w hSw
                  obtain ⟨hl0, hl1⟩ := hSw
                  have hm := s8 ⟨hl0, hl1⟩
                  obtain ⟨hm0, hm1, hm2, hm3, hm4, hmG⟩ := hm
                  clear hl0 hl1
                  have hdd : (d : Int) < (d : Int) + 1 := by omega
                  go_simp
                  (try with_reducible rfl)
                rotate_left
                · simp only [Act.put, List.setIfInBounds_toArray, List.set_cons_zero, List.set_cons_succ]
                  rfl
                refine one_ (i := 11) (N := some 50) #[true, true, true, true, true, true, true, true, true, true, true, true, false, false, false, false, false, false, false, false, false, false, false, false, false, false, false, false, false, false] rfl rfl (by kernel_rfl) (by decide) (fun K hK => ?_)
                go_simp
                (go_at_call 63; refine (bare_calls ⟨(d : Int), f1, f2, f3, f4⟩ _).mono ?_; rintro e w4 ⟨rfl, hb4⟩); go_wp2_with fail
                refine hK.out _ _ ?_ (fun hHeld => ?_)
                · exact ⟨itm_below hHeld.1 hb4, hHeld.2.quiet hb4⟩
                clear hK K
                (try simp only [Act.put, List.setIfInBounds_toArray, List.set_cons_zero, List.set_cons_succ])
                refine take_ (i := 12) (N := some 51) (v := ?_) (a' := ?_) #[true, true, true, true, true, true, true, true, true, true, true, true, true, false, false, false, false, false, false, false, false, false, false, false, false, false, false, false, false, false] rfl rfl (by kernel_rfl) (fun _ _ _ h => h) (Or.inl ⟨by rfl, ?_⟩) (by assumption) ?_ ?_
                rotate_left
                · intro w hSw
                  obtain ⟨hl0, hl1⟩ := hSw
                  have hm := s8 ⟨hl0, hl1⟩
                  obtain ⟨hm0, hm1, hm2, hm3, hm4, hmG⟩ := hm
                  clear hl0 hl1
                  have hdd : (d : Int) < (d : Int) + 1 := by omega
                  go_simp
                  exact neq_step w ⟨(d : Int), f1, f2, f3, f4⟩ (bareI ⟨(d : Int), f1, f2, f3, f4⟩) _ _ true false k3 rfl
                rotate_left
                · simp only [Act.put, List.setIfInBounds_toArray, List.set_cons_zero, List.set_cons_succ]
                  rfl
                refine pure_ (i := 13) (N := some 52) (v := ?_) (a' := ?_) #[true, true, true, true, true, true, true, true, true, true, true, true, true, true, false, false, false, false, false, false, false, false, false, false, false, false, false, false, false, false] rfl rfl (by kernel_rfl) (fun _ _ _ h => h) (Or.inl ⟨by rfl, ?_⟩) ?_ ?_
                rotate_left
                · intro w'
                  go_simp
                  (try with_reducible rfl)
                rotate_left
                · simp only [Act.put, List.setIfInBounds_toArray, List.set_cons_zero, List.set_cons_succ]
                  rfl
                refine pure_ (i := 14) (N := some 53) (v := ?_) (a' := ?_) #[true, true, true, true, true, true, true, true, true, true, true, true, true, true, true, false, false, false, false, false, false, false, false, false, false, false, false, false, false, false] rfl rfl (by kernel_rfl) (fun _ _ _ h => h) (Or.inl ⟨by rfl, ?_⟩) ?_ ?_
                rotate_left
                · intro w'
                  go_simp
                  (try with_reducible rfl)
                rotate_left
                · simp only [Act.put, List.setIfInBounds_toArray, List.set_cons_zero, List.set_cons_succ]
                  rfl
                refine pure_ (i := 15) (N := some 54) (v := ?_) (a' := ?_) #[true, true, true, true, true, true, true, true, true, true, true, true, true, true, true, true, false, false, false, false, false, false, false, false, false, false, false, false, false, false] rfl rfl (by kernel_rfl) (fun _ _ _ h => h) (Or.inl ⟨by rfl, ?_⟩) ?_ ?_
                rotate_left
                · intro w'
                  go_simp
                  (try with_reducible rfl)
                rotate_left
                · simp only [Act.put, List.setIfInBounds_toArray, List.set_cons_zero, List.set_cons_succ]
                  rfl
                refine take_ (i := 16) (N := some 55) (v := ?_) (a' := ?_) #[true, true, true, true, true, true, true, true, true, true, true, true, true, true, true, true, true, false, false, false, false, false, false, false, false, false, false, false, false, false] rfl rfl (by kernel_rfl) (fun _ _ _ h => h) (Or.inl ⟨by rfl, ?_⟩) (by assumption) ?_ ?_
                rotate_left
                · intro w hSw
                  obtain ⟨hl0, hl1⟩ := hSw
                  have hm := s8 ⟨hl0, hl1⟩
                  obtain ⟨hm0, hm1, hm2, hm3, hm4, hmG⟩ := hm
                  clear hl0 hl1
                  have hdd : (d : Int) < (d : Int) + 1 := by omega
                  go_simp
                  (try with_reducible rfl)
                rotate_left
                · simp only [Act.put, List.setIfInBounds_toArray, List.set_cons_zero, List.set_cons_succ]
                  rfl
                refine one_ (i := 17) (N := some 56) #[true, true, true, true, true, true, true, true, true, true, true, true, true, true, true, true, true, true, false, false, false, false, false, false, false, false, false, false, false, false] rfl rfl (by kernel_rfl) (by decide) (fun K hK => ?_)
                go_simp
                (go_at_call 30; refine (utf_Valid.calls f3 _ _ FV.out (HT.out.step hHeld.2.below)).mono ?_; rintro e w5 ⟨rfl, hb5⟩); go_wp2_with fail
                refine hK.out _ _ ?_ (fun hHeld => ?_)
                · exact ⟨itm_below hHeld.1 hb5, hHeld.2.quiet hb5⟩
                clear hK K
                (try simp only [Act.put, List.setIfInBounds_toArray, List.set_cons_zero, List.set_cons_succ])
                refine pure_ (i := 18) (N := some 57) (v := ?_) (a' := ?_) #[true, true, true, true, true, true, true, true, true, true, true, true, true, true, true, true, true, true, true, false, false, false, false, false, false, false, false, false, false, false] rfl rfl (by kernel_rfl) (fun _ _ _ h => h) (Or.inl ⟨by rfl, ?_⟩) ?_ ?_
                rotate_left
                · intro w'
                  go_simp
                  (try with_reducible rfl)
                rotate_left
                · simp only [Act.put, List.setIfInBounds_toArray, List.set_cons_zero, List.set_cons_succ]
                  rfl
                refine pure_ (i := 19) (N := some 58) (v := ?_) (a' := ?_) #[true, true, true, true, true, true, true, true, true, true, true, true, true, true, true, true, true, true, true, true, false, false, false, false, false, false, false, false, false, false] rfl rfl (by kernel_rfl) (fun _ _ _ h => h) (Or.inl ⟨by rfl, ?_⟩) ?_ ?_
                rotate_left
                · intro w'
                  go_simp
                  (try with_reducible rfl)
                rotate_left
                · simp only [Act.put, List.setIfInBounds_toArray, List.set_cons_zero, List.set_cons_succ]
                  rfl
                refine pure_ (i := 20) (N := some 59) (v := ?_) (a' := ?_) #[true, true, true, true, true, true, true, true, true, true, true, true, true, true, true, true, true, true, true, true, true, false, false, false, false, false, false, false, false, false] rfl rfl (by kernel_rfl) (fun _ _ _ h => h) (Or.inl ⟨by rfl, ?_⟩) ?_ ?_
                rotate_left
                · intro w'
                  go_simp
                  (try with_reducible rfl)
                rotate_left
                · simp only [Act.put, List.setIfInBounds_toArray, List.set_cons_zero, List.set_cons_succ]
                  rfl
                refine take_ (i := 21) (N := some 60) (v := ?_) (a' := ?_) #[true, true, true, true, true, true, true, true, true, true, true, true, true, true, true, true, true, true, true, true, true, true, false, false, false, false, false, false, false, false] rfl rfl (by kernel_rfl) (fun _ _ _ h => h) (Or.inl ⟨by rfl, ?_⟩) (by assumption) ?_ ?_
                rotate_left
                · intro w hSw
                  obtain ⟨hl0, hl1⟩ := hSw
                  have hm := s8 ⟨hl0, hl1⟩
                  obtain ⟨hm0, hm1, hm2, hm3, hm4, hmG⟩ := hm
                  clear hl0 hl1
                  have hdd : (d : Int) < (d : Int) + 1 := by omega
                  go_simp
                  (try with_reducible rfl)
                rotate_left
                · simp only [Act.put, List.setIfInBounds_toArray, List.set_cons_zero, List.set_cons_succ]
                  rfl
                refine pure_ (i := 22) (N := some 61) (v := ?_) (a' := ?_) #[true, true, true, true, true, true, true, true, true, true, true, true, true, true, true, true, true, true, true, true, true, true, true, false, false, false, false, false, false, false] rfl rfl (by kernel_rfl) (fun _ _ _ h => h) (Or.inl ⟨by rfl, ?_⟩) ?_ ?_
                rotate_left
                · intro w'
                  go_simp
                  (try with_reducible rfl)
                rotate_left
                · simp only [Act.put, List.setIfInBounds_toArray, List.set_cons_zero, List.set_cons_succ]
                  rfl
                refine take_ (i := 23) (N := some 62) (v := ?_) (a' := ?_) #[true, true, true, true, true, true, true, true, true, true, true, true, true, true, true, true, true, true, true, true, true, true, true, true, false, false, false, false, false, false] rfl rfl (by kernel_rfl) (fun _ _ _ h => h) (Or.inl ⟨by rfl, ?_⟩) (by assumption) ?_ ?_
                rotate_left
                · intro w hSw
                  obtain ⟨hl0, hl1⟩ := hSw
                  have hm := s8 ⟨hl0, hl1⟩
                  obtain ⟨hm0, hm1, hm2, hm3, hm4, hmG⟩ := hm
                  clear hl0 hl1
                  have hdd : (d : Int) < (d : Int) + 1 := by omega
                  go_simp
                  (try with_reducible rfl)
                rotate_left
                · simp only [Act.put, List.setIfInBounds_toArray, List.set_cons_zero, List.set_cons_succ]
                  rfl
                refine take_ (i := 24) (N := some 63) (v := ?_) (a' := ?_) #[true, true, true, true, true, true, true, true, true, true, true, true, true, true, true, true, true, true, true, true, true, true, true, true, true, false, false, false, false, false] rfl rfl (by kernel_rfl) (fun _ _ _ h => h) (Or.inl ⟨by rfl, ?_⟩) (by assumption) ?_ ?_
                rotate_left
                · intro w hSw
                  obtain ⟨hl0, hl1⟩ := hSw
                  have hm := s8 ⟨hl0, hl1⟩
                  obtain ⟨hm0, hm1, hm2, hm3, hm4, hmG⟩ := hm
                  clear hl0 hl1
                  have hdd : (d : Int) < (d : Int) + 1 := by omega
                  go_simp
                  (try with_reducible rfl)
                rotate_left
                · simp only [Act.put, List.setIfInBounds_toArray, List.set_cons_zero, List.set_cons_succ]
                  rfl
                refine take_ (i := 25) (N := some 64) (v := ?_) (a' := ?_) #[true, true, true, true, true, true, true, true, true, true, true, true, true, true, true, true, true, true, true, true, true, true, true, true, true, true, false, false, false, false] rfl rfl (by kernel_rfl) (fun _ _ _ h => h) (Or.inl ⟨by rfl, ?_⟩) (by assumption) ?_ ?_
                rotate_left
                · intro w hSw
                  obtain ⟨hl0, hl1⟩ := hSw
                  have hm := s8 ⟨hl0, hl1⟩
                  obtain ⟨hm0, hm1, hm2, hm3, hm4, hmG⟩ := hm
                  clear hl0 hl1
                  have hdd : (d : Int) < (d : Int) + 1 := by omega
                  go_simp
                  (try with_reducible rfl)
                rotate_left
                · simp only [Act.put, List.setIfInBounds_toArray, List.set_cons_zero, List.set_cons_succ]
                  rfl
                refine take_ (i := 26) (N := some 65) (v := ?_) (a' := ?_) #[true, true, true, true, true, true, true, true, true, true, true, true, true, true, true, true, true, true, true, true, true, true, true, true, true, true, true, false, false, false] rfl rfl (by kernel_rfl) (fun _ _ _ h => h) (Or.inl ⟨by rfl, ?_⟩) (by assumption) ?_ ?_
                rotate_left
                · intro w hSw
                  obtain ⟨hl0, hl1⟩ := hSw
                  have hm := s8 ⟨hl0, hl1⟩
                  obtain ⟨hm0, hm1, hm2, hm3, hm4, hmG⟩ := hm
                  clear hl0 hl1
                  have hdd : (d : Int) < (d : Int) + 1 := by omega
                  go_simp
                  (try with_reducible rfl)
                rotate_left
                · simp only [Act.put, List.setIfInBounds_toArray, List.set_cons_zero, List.set_cons_succ]
                  rfl
                refine last_ (i := 27) (N := some 66) #[true, true, true, true, true, true, true, true, true, true, true, true, true, true, true, true, true, true, true, true, true, true, true, true, true, true, true, true, false, false] rfl rfl (by kernel_rfl) (by decide) (fun K hK => ?_)
                go_simp
                have HE := Aside0.mk hHeld
                have hte := hHeld.2.each t (List.mem_append_right _ List.mem_cons_self)
                (go_at_call 64; refine (member_calls w _ t.g t.kind t.kv t.keys ⟨(d : Int), f1, f2, f3, f4⟩ _ FM.out hte.2.1 hte.2.2 hHeld.2.below hte.1 HT.out).mono ?_; rintro e w6 ⟨rfl, hL⟩); go_wp2_with fail
                have HP := Aside0.mk hL
                clear hL hte hHeld
                refine hK.out _ _ ?_
                clear hK K
                (try simp only [Act.put, List.setIfInBounds_toArray, List.set_cons_zero, List.set_cons_succ])
                refine pure_ (i := 28) (N := some 67) (v := ?_) (a' := ?_) #[true, true, true, true, true, true, true, true, true, true, true, true, true, true, true, true, true, true, true, true, true, true, true, true, true, true, true, true, true, false] rfl rfl (by kernel_rfl) (fun _ _ _ h => h) (Or.inl ⟨by rfl, ?_⟩) ?_ ?_
                rotate_left
                · intro w'
                  go_simp
                  (try with_reducible rfl)
                rotate_left
                · simp only [Act.put, List.setIfInBounds_toArray, List.set_cons_zero, List.set_cons_succ]
                  rfl
                refine pure_ (i := 29) (N := some 68) (v := ?_) (a' := ?_) #[true, true, true, true, true, true, true, true, true, true, true, true, true, true, true, true, true, true, true, true, true, true, true, true, true, true, true, true, true, true] rfl rfl (by kernel_rfl) (fun _ _ _ h => h) (Or.inl ⟨by rfl, ?_⟩) ?_ ?_
                rotate_left
                · intro w'
                  go_simp
                  (try with_reducible rfl)
                rotate_left
                · simp only [Act.put, List.setIfInBounds_toArray, List.set_cons_zero, List.set_cons_succ]
                  rfl
                refine done_ (by kernel_rfl) ?_
                obtain ⟨kv', hS6⟩ := HE.out.2.top HP.out
                have hI6 := itm_left HE.out.1 (HE.out.2.each t (List.mem_append_right _ List.mem_cons_self)).2 HP.out
                obtain ⟨lv6, hl6⟩ : ∃ lv6 : List Level, lv.take d ++ [(⟨t.g, t.kind, kv', ks⟩ : Level)] = lv6 := ⟨_, rfl⟩
                rw [hl6] at hS6
                have HM6 : Aside0 ((lv6.map fun y => (y.kind, y.keys)) = (lv.take d).map (fun y => (y.kind, y.keys)) ++ [(t.kind, ks)]) := ⟨by rw [← hl6, List.map_append]; rfl⟩
                have HN6 : Aside0 (lv6.length = d + 1) := ⟨by rw [← hl6, List.length_append, List.length_take, List.length_singleton]; omega⟩
                clear hl6
                have HS6 := Aside0.mk hS6
                have HI6 := Aside0.mk hI6
                clear hS6 hI6 HP HE
                cases mb with
                | false =>
                  rw [if_pos rfl] at hF
                  have HR := Aside0.mk (Option.some.inj hF)
                  clear hF
                  go_wp2_with fail
                  go_ret
                  exact ⟨by rw [← HR.out]; rfl, HS6.out.below⟩
                | true =>
                  rw [if_neg (by decide)] at hF
                  obtain ⟨hm0, hm1, hm2, hm3, hm4⟩ := itm_cells HI6.out
                  by_cases hh : (f1 == 6 || f1 == 7) = true
                  · rw [if_pos (show holdsI ⟨(d : Int), f1, f2, f3, f4⟩ = true from hh)] at hF
                    have HDL : Aside0 (((lv6.map fun y => y.g).length + 1) * 8 ≤ 140737488355328) := ⟨by rw [List.length_map, HN6.out]; omega⟩
                    by_cases hdp : (64 : Int) ≤ (d : Int)
                    · rw [if_pos hdp] at hF
                      have HR := Aside0.mk (Option.some.inj hF)
                      clear hF
                      go_wp2_with (first
                        | (go_at_call 65; refine (holds_calls ⟨(d : Int), f1, f2, f3, f4⟩ w6).mono ?_; rintro e w7 ⟨rfl, hb7⟩; have HI7 := Aside0.mk (itm_below HI6.out hb7); have HS7 := Aside0.mk (HS6.out.quiet hb7); clear hb7 hm0 hm1 hm2 hm3 hm4; obtain ⟨hm0, hm1, hm2, hm3, hm4⟩ := itm_cells HI7.out)
                        | (at_builtin; refine Kd.R_append kptr (w0 := w) (W := w7.alloc (.cells #[.int .i64 f1, .slice none 0 0] 85)) w.heap.size rfl (.tmp 71) (.tmp 76) 86 82 (.pointer none) 8 rfl Tryd.underlying86 info82 rfl (by decide) (by decide) (.slice (some ⟨G, 0, none⟩) (d + 1) cc) (lv6.map fun y => y.g) w7.heap.size [.pointer (some ⟨w7.heap.size, 0, none⟩)] (fun _ => True) (fun _ => False) rfl (congrArg (fun q => Value.slice (some ⟨q, 0, none⟩) 1 1) (alloc_size w7 _).symm) rfl (fun _ h => h.elim) (fun _ _ => trivial) (HS7.out.quiet (below_alloc (Below.refl _ _) _)).row (HS7.out.quiet (below_alloc (Below.refl _ _) _)).below (HS7.out.quiet (below_alloc (Below.refl _ _) _)).below.size HDL.out ?_; intro v9 w9 hO9 hB9 hg9 hA9; have HS9 := Aside0.mk (Sk.push HS7.out f1 hO9 hB9 hg9); have HI9 := Aside0.mk (itm_push HS7.out HI7.out hg9); clear hO9 hB9 hg9 hA9 hm0 hm1 hm2 hm3 hm4; obtain ⟨hm0, hm1, hm2, hm3, hm4⟩ := itm_cells HI9.out)
                        | (go_at_call 65; refine (holds_calls ⟨(d : Int), f1, f2, f3, f4⟩ w9).mono ?_; rintro e w8 ⟨rfl, hb8⟩; have HI8 := Aside0.mk (itm_below HI9.out hb8); have HS8 := Aside0.mk (HS9.out.quiet hb8); clear hb8 hm0 hm1 hm2 hm3 hm4; obtain ⟨hm0, hm1, hm2, hm3, hm4⟩ := itm_cells HI8.out))
                      go_ret
                      exact ⟨by rw [← HR.out]; rfl, HS8.out.below⟩
                    · rw [if_neg hdp] at hF
                      have HF := Aside0.mk hF
                      clear hF
                      go_wp2_with (first
                        | (go_at_call 65; refine (holds_calls ⟨(d : Int), f1, f2, f3, f4⟩ w6).mono ?_; rintro e w7 ⟨rfl, hb7⟩; have HI7 := Aside0.mk (itm_below HI6.out hb7); have HS7 := Aside0.mk (HS6.out.quiet hb7); clear hb7 hm0 hm1 hm2 hm3 hm4; obtain ⟨hm0, hm1, hm2, hm3, hm4⟩ := itm_cells HI7.out)
                        | (at_builtin; refine Kd.R_append kptr (w0 := w) (W := w7.alloc (.cells #[.int .i64 f1, .slice none 0 0] 85)) w.heap.size rfl (.tmp 71) (.tmp 76) 86 82 (.pointer none) 8 rfl Tryd.underlying86 info82 rfl (by decide) (by decide) (.slice (some ⟨G, 0, none⟩) (d + 1) cc) (lv6.map fun y => y.g) w7.heap.size [.pointer (some ⟨w7.heap.size, 0, none⟩)] (fun _ => True) (fun _ => False) rfl (congrArg (fun q => Value.slice (some ⟨q, 0, none⟩) 1 1) (alloc_size w7 _).symm) rfl (fun _ h => h.elim) (fun _ _ => trivial) (HS7.out.quiet (below_alloc (Below.refl _ _) _)).row (HS7.out.quiet (below_alloc (Below.refl _ _) _)).below (HS7.out.quiet (below_alloc (Below.refl _ _) _)).below.size HDL.out ?_; intro v9 w9 hO9 hB9 hg9 hA9; have HS9 := Aside0.mk (Sk.push HS7.out f1 hO9 hB9 hg9); have HI9 := Aside0.mk (itm_push HS7.out HI7.out hg9); clear hO9 hB9 hg9 hA9 hm0 hm1 hm2 hm3 hm4; obtain ⟨hm0, hm1, hm2, hm3, hm4⟩ := itm_cells HI9.out)
                        | (go_at_call 65; refine (holds_calls ⟨(d : Int), f1, f2, f3, f4⟩ w9).mono ?_; rintro e w8 ⟨rfl, hb8⟩; have HI8 := Aside0.mk (itm_below HI9.out hb8); have HS8 := Aside0.mk (HS9.out.quiet hb8); clear hb8 hm0 hm1 hm2 hm3 hm4; obtain ⟨hm0, hm1, hm2, hm3, hm4⟩ := itm_cells HI8.out))
                      go_roundg (l.length - (j + 1))
                      case measure => omega
                      case rel => exact ⟨j + 1, lv6 ++ [(⟨w7.heap.size, f1, .slice none 0 0, []⟩ : Level)], rfl, hlt, by go_num, HS8, ⟨by rw [List.map_append, HM6.out, List.append_assoc]; exact HF.out⟩, ⟨by rw [List.length_append, HN6.out, List.length_singleton]; omega⟩⟩
                  · rw [if_neg (show ¬ holdsI ⟨(d : Int), f1, f2, f3, f4⟩ = true from hh)] at hF
                    have hh := Bool.eq_false_iff.2 hh
                    have HF := Aside0.mk hF
                    clear hF
                    go_wp2_with (first
                      | (go_at_call 65; refine (holds_calls ⟨(d : Int), f1, f2, f3, f4⟩ w6).mono ?_; rintro e w7 ⟨rfl, hb7⟩; have HI7 := Aside0.mk (itm_below HI6.out hb7); have HS7 := Aside0.mk (HS6.out.quiet hb7); clear hb7 hm0 hm1 hm2 hm3 hm4; obtain ⟨hm0, hm1, hm2, hm3, hm4⟩ := itm_cells HI7.out)
                      | (go_at_call 65; refine (holds_calls ⟨(d : Int), f1, f2, f3, f4⟩ w7).mono ?_; rintro e w8 ⟨rfl, hb8⟩; have HI8 := Aside0.mk (itm_below HI7.out hb8); have HS8 := Aside0.mk (HS7.out.quiet hb8); clear hb8 hm0 hm1 hm2 hm3 hm4; obtain ⟨hm0, hm1, hm2, hm3, hm4⟩ := itm_cells HI8.out))
                    go_roundg (l.length - (j + 1))
                    case measure => omega
                    case rel => exact ⟨j + 1, lv6, rfl, hlt, by go_num, HS8, ⟨by rw [HM6.out]; exact HF.out⟩, ⟨by rw [HN6.out]; omega⟩⟩
    · have hjl2 : l.drop j = [] := List.drop_eq_nil_of_le (by omega)
      have hF := HF.out
      rw [hjl2, rightF] at hF
      have HR := Aside0.mk (Option.some.inj hF)
      have HJ := Aside0.mk hjl2
      clear HF hF hjl2
      have hjl3 : ¬ (j : Int) < (l.length : Int) := by omega
      go_wp2_with fail
      go_ret
      exact ⟨by rw [← HR.out, Bool.true_and]; rfl, HS.out.below⟩
end Go.Proofs.YthhmmaihbjhhgaaDoor.Giv
namespace Go.Proofs.YthhmmaihbjhhgaaDoor.Giv
open Go.RowKit Go.Proofs.YthhmmaihbjhhgaaDoorW.PrintWords Go.Proofs.YthhmmaihbjhhgaaDoorW.PrintLast Go.Proofs.YthhmmaihbjhhgaaDoorW.PrintMore
open Go.Proofs.YthhmmaihbjhhgaaDoor.U1 Go.Proofs.YthhmmaihbjhhgaaDoor.Q1 Go.Proofs.YthhmmaihbjhhgaaDoor.J0 Go.Proofs.YthhmmaihbjhhgaaDoor.J1
set_option linter.unusedSimpArgs false
theorem size68 : (Tryd.prog.info? 68).map (·.size) = some 2 := by kernel_rfl
theorem lies68 : liesAt Tryd.prog Tryd.prog.depth 99 (3 / Tryd.prog.cellsOf 99) 0 68 1 = true := by kernel_rfl
set_option maxHeartbeats 1000000 in
set_option maxRecDepth 100000 in
theorem copy_used (b : Nat) (w : World) (h0 : w.cell? ⟨b, 0, none⟩ = some (.pointer (some ⟨b, 0, none⟩))) :
    Calls Tryd.prog 80 #[.pointer (some ⟨b, 0, none⟩)] w fun e w' => e = .returned (.tuple #[]) ∧ w' = w := by
  obtain ⟨j, hj, _⟩ := Option.map_eq_some_iff.1 size68
  go_enter Tryd.func80, Tryd.ntmps80
  go_wp2
  rw [Lib.run_neq_ptr_same w _ Tryd.underlying66 hj]
  go_wp2
  go_end0
  exact ⟨rfl, rfl⟩
set_option maxHeartbeats 1000000 in
set_option maxRecDepth 100000 in
theorem copy_fresh (b : Nat) (w : World) (h0 : w.cell? ⟨b, 0, none⟩ = some (.pointer none)) (hsh : w.shape? b = some (99, 3)) (hfz : w.frozen? ⟨b, 0, none⟩ = false) :
    Calls Tryd.prog 80 #[.pointer (some ⟨b, 0, none⟩)] w fun e w' => e = .returned (.tuple #[]) ∧ w' = w.setCell ⟨b, 0, none⟩ (.pointer (some ⟨b, 0, none⟩)) := by
  obtain ⟨j, hj, hjs⟩ := Option.map_eq_some_iff.1 size68
  go_enter Tryd.func80, Tryd.ntmps80
  go_wp2
  rw [Lib.run_to_unsafe w ⟨b, 0, none⟩ Tryd.underlying66 Tryd.underlying127 hj (by rw [hjs]; decide) hsh (Nat.zero_lt_succ 2)]
  simp only [Result.andThen]
  rw [Oper.upon_value]
  go_wp2
  rw [run_callFunc_extern Tryd.func96 (by kernel_rfl) (by kernel_rfl) (by kernel_rfl) (e := Extern.AbiNoEscape.same) (by kernel_rfl)]
  rw [Lib.run_noEscape]
  simp only [Result.andThen]
  rw [Oper.upon_value]
  go_wp2
  rw [Lib.run_from_unsafe w ⟨b, 0, none⟩ Tryd.underlying127 Tryd.underlying66 hj hsh lies68]
  simp only [Result.andThen]
  rw [Oper.upon_value]
  go_wp2
  go_end0
  exact ⟨rfl, rfl⟩
def toI (l : List UInt8) : List Int := l.map fun x => (x.toNat : Int)
/-- a writer: its block; the row of what was written; the row of what closes -/
structure WS (B g : Nat) (W : World) (bs ends : List UInt8) : Prop where
  at_ : ∃ p v ev, (p = .pointer none ∨ p = .pointer (some ⟨g, 0, none⟩)) ∧ W.heap[g]? = some (.cells #[p, v, ev] 99 (0, 0)) ∧ Kd.R (Kd.int .u8) 5 W B (fun k => k ≠ g) v (toI bs) ∧ Kd.R (Kd.int .u8) 5 W B (fun k => k ≠ g ∧ some k ≠ v.ownBlock) ev (toI ends)
  base : B ≤ g
/-- what a writer's call leaves alone: all blocks but its own and rows of bytes -/
def WK (g : Nat) (W W' : World) : Prop := W.heap.size ≤ W'.heap.size ∧ ∀ k, k < W.heap.size → k ≠ g → (∀ c z, W.heap[k]? ≠ some (.cells c 5 z)) → W'.heap[k]? = W.heap[k]?
theorem WK.refl (g : Nat) (W : World) : WK g W W := ⟨Nat.le_refl _, fun _ _ _ _ => rfl⟩
theorem WK.trans {g : Nat} {W W1 W2 : World} (h : WK g W W1) (h2 : WK g W1 W2) : WK g W W2 :=
  ⟨Nat.le_trans h.1 h2.1, fun k hk hg hc => (h2.2 k (Nat.lt_of_lt_of_le hk h.1) hg (by rw [h.2 k hk hg hc]; exact hc)).trans (h.2 k hk hg hc)⟩
theorem WK.of_keep {g : Nat} {W W1 : World} (h : KeepBut W W1 g none) : WK g W W1 := ⟨h.1, fun k hk hg _ => h.2 k hk hg (by simp)⟩
theorem WK.of_below {g : Nat} {W W1 : World} (h : Below W.heap.size W W1) : WK g W W1 := WK.of_keep (KeepBut.of_below h g none)
theorem WK.of_grown {g : Nat} {W W1 : World} {row : Option Nat} (h : W.grownBy W1 row) (ht : ∀ k, row = some k → ∃ c, W.heap[k]? = some (.cells c 5 (0, 0))) : WK g W W1 :=
  ⟨h.size, fun k hk _ hc => h.block k hk (fun e => by obtain ⟨c, h5⟩ := ht k e.symm; exact hc c _ h5)⟩
theorem WK.set_ {g : Nat} {W W1 : World} (h : WK g W W1) (j : Nat) (u : Value) : WK g W (W1.setCell ⟨g, j, none⟩ u) :=
  ⟨by simpa [World.setCell] using h.1, fun k hk hg hc => (Below.heap_setCell W1 ⟨g, j, none⟩ u k hg).trans (h.2 k hk hg hc)⟩
theorem WK.blk {g k : Nat} {W W1 : World} {c : Array Value} {t : TypeId} (h : WK g W W1) (hb : W.heap[k]? = some (.cells c t (0, 0))) (hg : k ≠ g) (ht : t ≠ 5) : W1.heap[k]? = some (.cells c t (0, 0)) :=
  (h.2 k (blk_lt hb) hg (fun c2 z e => by rw [hb] at e; injection e with e; injection e with _ e; exact ht e)).trans hb
theorem WS.quiet {B g : Nat} {W W1 : World} {bs ends : List UInt8} (h : WS B g W bs ends) (hb : Below W.heap.size W W1) : WS B g W1 bs ends := by
  obtain ⟨p, v, ev, hp, hk, hv, he⟩ := h.at_
  exact ⟨⟨p, v, ev, hp, (hb.block g (blk_lt hk)).trans hk, Kd.R_below hv hb, Kd.R_below he hb⟩, h.base⟩
theorem WS.lt {B g : Nat} {W : World} {bs ends : List UInt8} (h : WS B g W bs ends) : g < W.heap.size := by
  obtain ⟨p, v, ev, hp, hk, hv, he⟩ := h.at_
  exact blk_lt hk
theorem ws_copy {B g : Nat} {bs ends : List UInt8} {W : World} (h : WS B g W bs ends) :
    Calls Tryd.prog 80 #[.pointer (some ⟨g, 0, none⟩)] W fun e w' => e = .returned (.tuple #[]) ∧ ((∃ v ev, w'.heap[g]? = some (.cells #[.pointer (some ⟨g, 0, none⟩), v, ev] 99 (0, 0)) ∧ Kd.R (Kd.int .u8) 5 w' B (fun k => k ≠ g) v (toI bs) ∧ Kd.R (Kd.int .u8) 5 w' B (fun k => k ≠ g ∧ some k ≠ v.ownBlock) ev (toI ends)) ∧ Below B W w' ∧ KeepBut W w' g none) := by
  obtain ⟨⟨p, v, ev, hp, hb, hv, he⟩, hB⟩ := h
  rcases hp with rfl | rfl
  · refine (copy_fresh g W ((blk_cell hb 0).trans rfl) (by simp [World.shape?, hb]) (blk_frozen hb 0)).mono ?_
    rintro e w' ⟨rfl, rfl⟩
    have hk : KeepBut W (W.setCell ⟨g, 0, none⟩ (.pointer (some ⟨g, 0, none⟩))) g none := KeepBut.set_ (KeepBut.refl W g none) 0 _
    exact ⟨rfl, ⟨v, ev, blk_set hb 0 _, Kd.R_keep hv hk (fun _ h => h), Kd.R_keep he hk (fun _ h => h.1)⟩, (Below.refl B W).setCell (p := ⟨g, 0, none⟩) hB _, hk⟩
  · refine (copy_used g W ((blk_cell hb 0).trans rfl)).mono ?_
    rintro e w' ⟨rfl, rfl⟩
    exact ⟨rfl, ⟨v, ev, hb, hv, he⟩, Below.refl _ _, KeepBut.refl _ _ _⟩
theorem info5 : (Tryd.prog.info? 5).map (fun i => (i.zero, i.size, i.bytes)) = some (some (.int .u8 0), 1, 1) := by kernel_rfl
/-- behind an append to what was written -/
theorem ws_grown {B g : Nat} {W W1 : World} {v ev v1 : Value} {bs ends bs1 : List UInt8} {p : Value} (hp : p = .pointer (some ⟨g, 0, none⟩)) (hB : B ≤ g) (hk : W.heap[g]? = some (.cells #[p, v, ev] 99 (0, 0))) (hv : Kd.R (Kd.int .u8) 5 W B (fun k => k ≠ g) v (toI bs)) (he : Kd.R (Kd.int .u8) 5 W B (fun k => k ≠ g ∧ some k ≠ v.ownBlock) ev (toI ends))
    (hO : Kd.R (Kd.int .u8) 5 W1 B (fun k => k ≠ g) v1 (toI bs1)) (hG : W.grownBy W1 v.ownBlock) (hA : v1.ownBlock = v.ownBlock ∨ ∃ b, v1.ownBlock = some b ∧ W.heap.size ≤ b) :
    WS B g (W1.setCell ⟨g, 1, none⟩ v1) bs1 ends ∧ WK g W (W1.setCell ⟨g, 1, none⟩ v1) := by
  have hng : some g ≠ v.ownBlock := fun e => hv.1 g e.symm rfl
  have hk1 := blk_grown hk hG hng
  have hel := Kd.R_lt he
  refine ⟨⟨⟨p, v1, ev, .inr hp, blk_set hk1 1 _, Kd.R_far hO (fun _ h => h) _, Kd.R_far ?_ (fun _ h => h.1) _⟩, hB⟩, (WK.of_grown hG (fun k e => Kd.R_typed hv k e)).set_ 1 _⟩
  refine Kd.R_reok rfl (Kd.R_grown he hG (fun _ h => h.2)) (fun k e => ⟨(he.1 k e).1, ?_⟩)
  rcases hA with hA | ⟨b, hA, hb⟩
  · rw [hA]; exact (he.1 k e).2
  · rw [hA]
    intro e2
    have := hel k e
    injection e2 with e2
    omega
theorem toI_len (l : List UInt8) : (toI l).length = l.length := List.length_map _
theorem toI_app (a b : List UInt8) : toI (a ++ b) = toI a ++ toI b := List.map_append
theorem own_slice {W : World} {B e s n : Nat} {v : Value} {xs : List Value} (h : W.ownsRow B e s v n xs) : ∃ A m c, v = .slice A m c := by
  rcases h.2 with h2 | ⟨g, cap, cur, rfl, _⟩
  · exact ⟨none, 0, 0, h2.1⟩
  · exact ⟨_, _, _, rfl⟩
theorem byteCells_app (a b : List UInt8) : Lib.byteCells (a ++ b) = Lib.byteCells a ++ Lib.byteCells b := by unfold Lib.byteCells; exact List.map_append
/-- a string behind a row: the row is the old one or a new one -/
theorem app_str (w : World) (B : Nat) (ty : TypeId) (v : Value) (bs : List UInt8) (hown : w.ownsRow B 5 1 v bs.length (Lib.byteCells bs)) (s : ByteArray) (hl : bs.length + s.size ≤ 140737488355328) (hB : B ≤ w.heap.size) :
    ∃ v' w', (Builtin.append_ #[43, 9] ty #[v, .string s]).run Tryd.prog w = .ok v' w' ∧ w'.ownsRow B 5 1 v' (bs.length + s.size) (Lib.byteCells bs ++ Lib.strCells s) ∧ w.grownBy w' v.ownBlock ∧ (v'.ownBlock = v.ownBlock ∨ ∃ b, v'.ownBlock = some b ∧ w.heap.size ≤ b) := by
  obtain ⟨i5, hi, hz, hs, hb⟩ := info_parts info5
  obtain ⟨v', w', hr, h1, h2, h3⟩ := Lib.run_append_own_string (P := Tryd.prog) w B 43 9 ty 5 i5 Tryd.underlying43 Tryd.underlying9 hi hz hs hb v bs.length (Lib.byteCells bs) hown s (by unfold maxLen; omega) hl hB
  refine ⟨v', w', hr, h1, h2, ?_⟩
  rcases hown.2 with ⟨rfl, h0⟩ | ⟨g, cap, cur, rfl, hbg, hg, hnc, hcm, hcs, htake⟩
  · by_cases hm : s.size = 0
    · rw [h3.2 ⟨rfl, hm⟩]; exact .inl rfl
    · have hq := run_append_nil_string (P := Tryd.prog) w 43 9 ty 5 i5 (.int .u8 0) Tryd.underlying43 Tryd.underlying9 hi hz s (by omega) (by omega) (by rw [hb]; omega)
      rw [hr] at hq
      injection hq with hq _
      rw [hq]
      exact .inr ⟨_, rfl, Nat.le_refl _⟩
  · by_cases hroom : bs.length + s.size ≤ cap
    · have hq := Lib.run_append_room_string (P := Tryd.prog) w 43 9 ty 5 i5 Tryd.underlying43 Tryd.underlying9 hi hs g bs.length cap cur hg s hroom (by rw [hcs]; omega)
      rw [hr] at hq
      injection hq with hq _
      rw [hq]
      exact .inl rfl
    · have hq := Lib.run_append_grow_string (P := Tryd.prog) w 43 9 ty 5 i5 (.int .u8 0) Tryd.underlying43 Tryd.underlying9 hi hz ⟨g, 0, none⟩ bs.length cap (Lib.byteCells bs) (by rw [hs]; exact hown.1) (hown.cells (g := g) rfl) s (by omega) (by omega) (by rw [hb]; exact growslice_fits (by omega) (by omega))
      rw [hr] at hq
      injection hq with hq _
      rw [hq]
      exact .inr ⟨_, rfl, Nat.le_refl _⟩
set_option maxHeartbeats 2000000 in
set_option maxRecDepth 100000 in
theorem ws_byte (B g : Nat) (bs ends : List UInt8) (c : UInt8) (W : World) (h : WS B g W bs ends) (hlen : bs.length + 1 ≤ 140737488355328) (hBw : B ≤ W.heap.size) :
    Calls Tryd.prog 57 #[.pointer (some ⟨g, 0, none⟩), .int .u8 (c.toNat : Int)] W fun e w' => e = .returned .nilIface ∧ WS B g w' (bs ++ [c]) ends ∧ Below B W w' ∧ WK g W w' := by
  have H := Aside0.mk h
  have HL := Aside0.mk hlen
  have HBw := Aside0.mk hBw
  clear h hlen hBw
  go_enter Tryd.func57, Tryd.ntmps57
  go_wp2_with (first
    | (go_at_call 80; refine (ws_copy H.out).mono ?_; rintro e w1 ⟨rfl, ⟨v, ev, hk1, hv1, he1⟩, hb1, hkk⟩; have c1 : w1.cell? ⟨g, 1, none⟩ = some v := (blk_cell hk1 1).trans rfl; have HK1 := Aside0.mk hk1; have HV1 := Aside0.mk hv1; have HE1 := Aside0.mk he1; have HB1 := Aside0.mk hb1; have HKK := Aside0.mk hkk; clear hk1 hv1 he1 hb1 hkk)
    | (at_builtin; refine Kd.R_append (Kd.int .u8) (w0 := W) (W := w1) B rfl (.tmp 11) (.tmp 13) 43 5 (.int .u8 0) 1 rfl Tryd.underlying43 info5 rfl (by decide) (by decide) v (toI bs) (c.toNat : Int) [.int .u8 (c.toNat : Int)] (fun k => k ≠ g) (fun _ => False) rfl rfl rfl (fun _ h => h.elim) (fun k hk => by have := blk_lt HK1.out; omega) HV1.out HB1.out (Nat.le_trans HBw.out HB1.out.size) (by rw [toI_len]; have := HL.out; omega) ?_; intro v2 w2 hO2 hB2 hG2 hA2; have HW := Aside0.mk (ws_grown (bs1 := bs ++ [c]) rfl H.out.base HK1.out HV1.out HE1.out (by rw [toI_app]; exact hO2) hG2 hA2); have HB2 := Aside0.mk hB2; have hk2 := blk_grown HK1.out hG2 (fun e => HV1.out.1 g e.symm rfl); have d0 : w2.cell? ⟨g, 0, none⟩ = some (.pointer (some ⟨g, 0, none⟩)) := (blk_cell hk2 0).trans rfl; have d1 : w2.cell? ⟨g, 1, none⟩ = some v := (blk_cell hk2 1).trans rfl; have f1 : w2.frozen? ⟨g, 1, none⟩ = false := blk_frozen hk2 1; obtain ⟨As, n2, cc, hv2⟩ := own_slice (Kd.own_of_R hO2); subst hv2; clear hO2 hB2 hG2 hA2 hk2))
  go_ret
  exact ⟨rfl, HW.out.1, HB2.out.setCell (p := ⟨g, 1, none⟩) H.out.base _, (WK.of_keep HKK.out).trans HW.out.2⟩
theorem encs_cells (l : List UInt8) : Go.Proofs.YthhmmaihbjhhgaaDoorW.PrintWords.encs (Value.int .u8) (toI l) = Lib.byteCells l := by
  unfold Go.Proofs.YthhmmaihbjhhgaaDoorW.PrintWords.encs toI Lib.byteCells
  rw [List.map_map]; rfl
theorem strCells_list (s : ByteArray) : Lib.strCells s = Lib.byteCells s.data.toList := by
  unfold Lib.strCells Lib.byteCells; rfl
theorem own_R {W : World} {B : Nat} {ok : Nat → Prop} {v : Value} {l : List UInt8} (h : Kd.R (Kd.int .u8) 5 W B ok v (toI l)) : W.ownsRow B 5 1 v l.length (Lib.byteCells l) := by
  have := Kd.own_of_R h
  rw [encs_cells, toI_len] at this
  exact this
theorem R_own8 {W : World} {B : Nat} {ok : Nat → Prop} {v : Value} {l : List UInt8} (h : W.ownsRow B 5 1 v l.length (Lib.byteCells l)) (hok : ∀ k, v.ownBlock = some k → ok k) : Kd.R (Kd.int .u8) 5 W B ok v (toI l) :=
  Kd.R_of_own (by rw [encs_cells, toI_len]; exact h) hok
set_option maxHeartbeats 2000000 in
set_option maxRecDepth 100000 in
theorem ws_str (B g : Nat) (bs ends : List UInt8) (s : ByteArray) (W : World) (h : WS B g W bs ends) (hlen : bs.length + s.size ≤ 140737488355328) (hBw : B ≤ W.heap.size) :
    Calls Tryd.prog 54 #[.pointer (some ⟨g, 0, none⟩), .string s] W fun e w' => e = .returned (.tuple #[.int .i64 s.size, .nilIface]) ∧ WS B g w' (bs ++ s.data.toList) ends ∧ Below B W w' ∧ WK g W w' := by
  obtain ⟨i5, hi5, hz5, hs5, hb5⟩ := info_parts info5
  have H := Aside0.mk h
  have HL := Aside0.mk hlen
  have HBw := Aside0.mk hBw
  have HI := Aside0.mk hi5
  have HZ := Aside0.mk hz5
  have HS5 := Aside0.mk hs5
  have HB5 := Aside0.mk hb5
  clear h hlen hBw hi5 hz5 hs5 hb5
  go_enter Tryd.func54, Tryd.ntmps54
  go_wp2_with (first
    | (go_at_call 80; refine (ws_copy H.out).mono ?_; rintro e w1 ⟨rfl, ⟨v, ev, hk1, hv1, he1⟩, hb1, hkk⟩; have c1 : w1.cell? ⟨g, 1, none⟩ = some v := (blk_cell hk1 1).trans rfl; have HK1 := Aside0.mk hk1; have HV1 := Aside0.mk hv1; have HE1 := Aside0.mk he1; have HB1 := Aside0.mk hb1; have HKK := Aside0.mk hkk; clear hk1 hv1 he1 hb1 hkk)
    | (at_builtin; obtain ⟨v2, w2, hr2, hO2, hG2, hA2⟩ := app_str w1 B 43 v bs (own_R HV1.out) s HL.out (Nat.le_trans HBw.out HB1.out.size); refine Lib.wpList_append_run w1 rfl (.tmp 12) (.tmp 13) 43 9 rfl v (.string s) rfl rfl v2 w2 hr2 ?_; have hok2 : ∀ k, v2.ownBlock = some k → k ≠ g := (fun k e => hA2.elim (fun q => HV1.out.1 k (q ▸ e)) (fun ⟨b, q, hb⟩ => by rw [q] at e; injection e with e; have := blk_lt HK1.out; omega)); have HW := Aside0.mk (ws_grown (bs1 := bs ++ s.data.toList) rfl H.out.base HK1.out HV1.out HE1.out (R_own8 (by rw [List.length_append, data_length, byteCells_app, ← strCells_list]; exact hO2) hok2) hG2 hA2); have HB2 := Aside0.mk (HB1.out.grown hG2 (Nat.le_trans HBw.out HB1.out.size) (fun k hk => Kd.R_base HV1.out k hk)); have hk2 := blk_grown HK1.out hG2 (fun e => HV1.out.1 g e.symm rfl); have d0 : w2.cell? ⟨g, 0, none⟩ = some (.pointer (some ⟨g, 0, none⟩)) := (blk_cell hk2 0).trans rfl; have d1 : w2.cell? ⟨g, 1, none⟩ = some v := (blk_cell hk2 1).trans rfl; have f1 : w2.frozen? ⟨g, 1, none⟩ = false := blk_frozen hk2 1; obtain ⟨As, n2, cc, hv2⟩ := own_slice hO2; subst hv2; clear hr2 hO2 hG2 hA2 hk2 hok2))
  go_ret2
  exact ⟨rfl, HW.out.1, HB2.out.setCell (p := ⟨g, 1, none⟩) H.out.base _, (WK.of_keep HKK.out).trans HW.out.2⟩
set_option maxHeartbeats 1000000 in
set_option maxRecDepth 100000 in
theorem ws_text (B g : Nat) (bs ends : List UInt8) (W : World) (h : WS B g W bs ends) (h0 : bs ≠ []) (hlen : bs.length ≤ 140737488355328) :
    Calls Tryd.prog 55 #[.pointer (some ⟨g, 0, none⟩)] W fun e w' => e = .returned (.string ⟨bs.toArray⟩) ∧ Below B W w' := by
  obtain ⟨⟨p, v, ev, hp, hk, hv, he⟩, hB⟩ := h
  have hown := own_R hv
  have hl0 : bs.length ≠ 0 := by simpa using h0
  obtain ⟨gg, cap, cur, rfl, hbg, hg, hnc, hcm, hcs, htake⟩ : ∃ gg cap cur, v = .slice (some ⟨gg, 0, none⟩) bs.length cap ∧ B ≤ gg ∧ W.heap[gg]? = some (.cells cur 5 (0, 0)) ∧ bs.length ≤ cap ∧ cap ≤ maxLen ∧ cur.size = cap * 1 ∧ cur.toList.take (bs.length * 1) = Lib.byteCells bs := by
    rcases hown.2 with ⟨_, hz⟩ | ⟨gg, cap, cur, hv, r⟩
    · exact absurd hz hl0
    · exact ⟨gg, cap, cur, hv, r⟩
  have c1 : W.drew.cell? ⟨g, 1, none⟩ = some (.slice (some ⟨gg, 0, none⟩) bs.length cap) := (blk_cell hk 1).trans rfl
  have hSD : (Builtin.unsafeSliceData_ #[43] 107 #[.slice (some ⟨gg, 0, none⟩) bs.length cap]).run Tryd.prog W.drew = .ok (.pointer (some ⟨gg, 0, none⟩)) W.drew :=
    Lib.run_unsafeSliceData_row _ _ _ _ _ _ (by omega)
  have hUS : (Builtin.unsafeString_ #[107, 3] 9 #[.pointer (some ⟨gg, 0, none⟩), .int .i64 bs.length]).run Tryd.prog W.drew = .ok (.string ⟨bs.toArray⟩) (W.drew.freeze ⟨gg, 0, none⟩ bs.length) := by
    refine Lib.run_unsafeString_row W.drew 107 3 9 5 Tryd.underlying107 (by kernel_rfl) gg cur.size (by have hg' : W.drew.heap[gg]? = some (.cells cur 5 (0, 0)) := hg; simp [World.shape?, hg']) bs h0 (by omega) (by omega) ?_
    intro j x hx
    have := hown.cells (g := gg) rfl j (.int .u8 x.toNat) (by simp [Lib.byteCells, hx])
    exact this
  go_enter Tryd.func55, Tryd.ntmps55
  go_wp2
  go_region
  all_goals (go_wp2; go_ret; exact ⟨rfl, Lib.below_freeze (Below.drew (Below.refl B W)) (p := ⟨gg, 0, none⟩) hbg _⟩)
end Go.Proofs.YthhmmaihbjhhgaaDoor.Giv
namespace Go.Proofs.YthhmmaihbjhhgaaDoor.Giv
open Go.RowKit Go.Proofs.YthhmmaihbjhhgaaDoorW.PrintWords Go.Proofs.YthhmmaihbjhhgaaDoorW.PrintLast Go.Proofs.YthhmmaihbjhhgaaDoorW.PrintMore
open Go.Proofs.YthhmmaihbjhhgaaDoor.U1 Go.Proofs.YthhmmaihbjhhgaaDoor.Q1 Go.Proofs.YthhmmaihbjhhgaaDoor.J0 Go.Proofs.YthhmmaihbjhhgaaDoor.J1
set_option linter.unusedSimpArgs false
theorem toI_get (l : List UInt8) (q : Nat) (h : q < l.length) : rdOf (0 : Int) (toI l) (q : Int) = ((l.getD q 0).toNat : Int) := by
  unfold rdOf toI
  simp [List.getD, h]
/-- the last of what closes, and its row -/
theorem WS.top {B g q : Nat} {W : World} {bs ends : List UInt8} (h : WS B g W bs ends) (hq : ends.length = q + 1) :
    ∃ gg cc, W.cell? ⟨g, 2, none⟩ = some (.slice (some ⟨gg, 0, none⟩) (q + 1) cc) ∧ W.cell? ⟨gg, q, none⟩ = some (.int .u8 ((ends.getD q 0).toNat : Int)) ∧ W.frozen? ⟨g, 2, none⟩ = false ∧ q + 1 ≤ cc ∧ WS B g (W.setCell ⟨g, 2, none⟩ (.slice (some ⟨gg, 0, none⟩) q cc)) bs (ends.take q) := by
  obtain ⟨⟨p, v, ev, hp, hk, hv, he⟩, hB⟩ := h
  obtain ⟨gg, cc, hev, _⟩ := Kd.R_form he (by rw [toI_len]; omega)
  rw [toI_len, hq] at hev
  subst hev
  have hcc := (Kd.R_reads' he).2.1
  have hcell := (Kd.R_cell (0 : Int) (by rw [toI_len, hq]; exact he) (q : Int) (by omega) (by rw [toI_len]; omega)).1
  rw [toI_get ends q (by omega), Int.toNat_natCast] at hcell
  refine ⟨gg, cc, (blk_cell hk 2).trans rfl, hcell, blk_frozen hk 2, hcc, ⟨⟨p, v, _, hp, blk_set hk 2 _, Kd.R_far hv (fun _ h => h) _, Kd.R_far ?_ (fun _ h => h.1) _⟩, hB⟩⟩
  have := Kd.R_take (m := q) he (by rw [toI_len]; omega)
  rw [show toI (ends.take q) = (toI ends).take q from List.map_take]
  exact this
theorem WS.len {B g : Nat} {W : World} {bs ends : List UInt8} (h : WS B g W bs ends) : ∃ A cc, W.cell? ⟨g, 2, none⟩ = some (.slice A ends.length cc) := by
  obtain ⟨⟨p, v, ev, hp, hk, hv, he⟩, hB⟩ := h
  obtain ⟨A, cc, hev⟩ := Kd.R_slice he
  rw [toI_len] at hev
  subst hev
  exact ⟨A, cc, (blk_cell hk 2).trans rfl⟩
theorem take_last (l : List UInt8) (q : Nat) (h : q < l.length) : (l.drop q).reverse = (l.drop (q + 1)).reverse ++ [l.getD q 0] := by
  rw [List.drop_eq_getElem_cons h, List.reverse_cons]
  simp [List.getD, h]
theorem WS.drew1 {B g : Nat} {W : World} {bs ends : List UInt8} (h : WS B g W bs ends) : WS B g W.drew bs ends := h.quiet (below_drew1 (Below.refl _ _))
set_option maxHeartbeats 8000000 in
set_option maxRecDepth 100000 in
theorem shut_calls (B g : Nat) (bs ends : List UInt8) (n : Nat) (W : World) (h : WS B g W bs ends) (hn : n ≤ ends.length) (hlen : bs.length + ends.length ≤ 140737488355328) (hBw : B ≤ W.heap.size) :
    Calls Tryd.prog 71 #[.pointer (some ⟨g, 0, none⟩), .int .i64 (n : Int)] W fun e w' => e = .returned (.tuple #[]) ∧ WS B g w' (bs ++ (ends.drop n).reverse) (ends.take n) ∧ Below B W w' ∧ WK g W w' := by
  have H0 := Aside0.mk h
  have HL := Aside0.mk hlen
  have HBw := Aside0.mk hBw
  have hn63 : n ≤ 140737488355328 := by omega
  have HN := Aside0.mk hn
  clear h hlen hBw hn
  go_enter Tryd.func71, Tryd.ntmps71
  go_wp2_with fail
  go_loopg [] ends.length (fun kq wr => ∃ m : Nat, kq = m ∧ n ≤ m ∧ Aside0 (m ≤ ends.length) ∧ Aside0 (WS B g wr (bs ++ (ends.drop m).reverse) (ends.take m)) ∧ Aside0 (Below B W wr) ∧ Aside0 (WK g W wr))
  case atStart => exact ⟨ends.length, rfl, HN.out, ⟨Nat.le_refl _⟩, ⟨by rw [List.drop_length, List.take_length]; simpa using H0.out⟩, ⟨Below.refl _ _⟩, ⟨WK.refl _ _⟩⟩
  case round =>
    clear H0
    obtain ⟨m, hkq, hnm, HM, HS, HB, HK⟩ := hrel
    have HQ := Aside0.mk hkq
    clear hkq
    have hlm : (ends.take m).length = m := by rw [List.length_take]; have := HM.out; omega
    by_cases hlt : n < m
    · obtain ⟨q, rfl⟩ : ∃ q, m = q + 1 := ⟨m - 1, by omega⟩
      obtain ⟨gg, cc, c2, c3, _, _, _⟩ := HS.out.top hlm
      clear hlm
      have hgq : (ends.take (q + 1)).getD q 0 = ends.getD q 0 := by simp [List.getD, List.getElem?_take]
      rw [hgq] at c3
      clear hgq
      have C2 := Aside0.mk c2
      have C3 := Aside0.mk c3
      have HLn : Aside0 ((bs ++ (ends.drop (q + 1)).reverse).length + 1 ≤ 140737488355328) := ⟨by rw [List.length_append, List.length_reverse, List.length_drop]; have := HL.out; have := HM.out; omega⟩
      have hq63 : q + 1 ≤ 140737488355328 := by have := HL.out; have := HM.out; omega
      have hwq : IntKind.i64.wrap (q : Int) = (q : Int) := IntWalk.i64_in (q : Int) ⟨by omega, by omega⟩
      have hq0 : (0 : Int) ≤ (q : Int) := by omega
      have hq1 : (q : Int) < (q : Int) + 1 := by omega
      go_wp2_with fail
      refine start_ (n := 16) (S := fun w' => w'.cell? ⟨g, 2, none⟩ = some (.slice (some ⟨gg, 0, none⟩) (q + 1) cc) ∧ w'.cell? ⟨gg, q, none⟩ = some (.int .u8 ((ends.getD q 0).toNat : Int))) (ds := [15]) #[false, false, false, false, false, false, false, false, false, false, false, false, false, false, false, false] (by kernel_rfl) rfl rfl ⟨C2.out, C3.out⟩ (fun hHeld => ?_)
      refine pure_ (i := 0) (N := some 11) (v := ?_) (a' := ?_) #[true, false, false, false, false, false, false, false, false, false, false, false, false, false, false, false] rfl rfl (by kernel_rfl) (fun _ _ _ h => h) (Or.inl ⟨by rfl, ?_⟩) ?_ ?_
      rotate_left
      · intro w'
        go_simp
        (try with_reducible rfl)
      rotate_left
      · simp only [Act.put, List.setIfInBounds_toArray, List.set_cons_zero, List.set_cons_succ]
        rfl
      refine pure_ (i := 1) (N := some 12) (v := ?_) (a' := ?_) #[true, true, false, false, false, false, false, false, false, false, false, false, false, false, false, false] rfl rfl (by kernel_rfl) (fun _ _ _ h => h) (Or.inl ⟨by rfl, ?_⟩) ?_ ?_
      rotate_left
      · intro w'
        go_simp
        (try with_reducible rfl)
      rotate_left
      · simp only [Act.put, List.setIfInBounds_toArray, List.set_cons_zero, List.set_cons_succ]
        rfl
      refine pure_ (i := 2) (N := some 13) (v := ?_) (a' := ?_) #[true, true, true, false, false, false, false, false, false, false, false, false, false, false, false, false] rfl rfl (by kernel_rfl) (fun _ _ _ h => h) (Or.inl ⟨by rfl, ?_⟩) ?_ ?_
      rotate_left
      · intro w'
        go_simp
        (try with_reducible rfl)
      rotate_left
      · simp only [Act.put, List.setIfInBounds_toArray, List.set_cons_zero, List.set_cons_succ]
        rfl
      refine pure_ (i := 3) (N := some 14) (v := ?_) (a' := ?_) #[true, true, true, true, false, false, false, false, false, false, false, false, false, false, false, false] rfl rfl (by kernel_rfl) (fun _ _ _ h => h) (Or.inl ⟨by rfl, ?_⟩) ?_ ?_
      rotate_left
      · intro w'
        go_simp
        (try with_reducible rfl)
      rotate_left
      · simp only [Act.put, List.setIfInBounds_toArray, List.set_cons_zero, List.set_cons_succ]
        rfl
      refine pure_ (i := 4) (N := some 15) (v := ?_) (a' := ?_) #[true, true, true, true, true, false, false, false, false, false, false, false, false, false, false, false] rfl rfl (by kernel_rfl) (fun _ _ _ h => h) (Or.inl ⟨by rfl, ?_⟩) ?_ ?_
      rotate_left
      · intro w'
        go_simp
        (try with_reducible rfl)
      rotate_left
      · simp only [Act.put, List.setIfInBounds_toArray, List.set_cons_zero, List.set_cons_succ]
        rfl
      refine pure_ (i := 5) (N := some 16) (v := ?_) (a' := ?_) #[true, true, true, true, true, true, false, false, false, false, false, false, false, false, false, false] rfl rfl (by kernel_rfl) (fun _ _ _ h => h) (Or.inl ⟨by rfl, ?_⟩) ?_ ?_
      rotate_left
      · intro w'
        go_simp
        (try with_reducible rfl)
      rotate_left
      · simp only [Act.put, List.setIfInBounds_toArray, List.set_cons_zero, List.set_cons_succ]
        rfl
      refine take_ (i := 6) (N := some 17) (v := ?_) (a' := ?_) #[true, true, true, true, true, true, true, false, false, false, false, false, false, false, false, false] rfl rfl (by kernel_rfl) (fun _ _ _ h => h) (Or.inl ⟨by rfl, ?_⟩) (by assumption) ?_ ?_
      rotate_left
      · intro w hSw
        obtain ⟨hl0, hl1⟩ := hSw
        skip
        go_simp
        (try with_reducible rfl)
      rotate_left
      · simp only [Act.put, List.setIfInBounds_toArray, List.set_cons_zero, List.set_cons_succ]
        rfl
      refine pure_ (i := 7) (N := some 18) (v := ?_) (a' := ?_) #[true, true, true, true, true, true, true, true, false, false, false, false, false, false, false, false] rfl rfl (by kernel_rfl) (fun _ _ _ h => h) (Or.inl ⟨by rfl, ?_⟩) ?_ ?_
      rotate_left
      · intro w'
        go_simp
        (try with_reducible rfl)
      rotate_left
      · simp only [Act.put, List.setIfInBounds_toArray, List.set_cons_zero, List.set_cons_succ]
        rfl
      refine pure_ (i := 8) (N := some 19) (v := ?_) (a' := ?_) #[true, true, true, true, true, true, true, true, true, false, false, false, false, false, false, false] rfl rfl (by kernel_rfl) (fun _ _ _ h => h) (Or.inl ⟨by rfl, ?_⟩) ?_ ?_
      rotate_left
      · intro w'
        go_simp
        (try with_reducible rfl)
      rotate_left
      · simp only [Act.put, List.setIfInBounds_toArray, List.set_cons_zero, List.set_cons_succ]
        rfl
      refine pure_ (i := 9) (N := some 20) (v := ?_) (a' := ?_) #[true, true, true, true, true, true, true, true, true, true, false, false, false, false, false, false] rfl rfl (by kernel_rfl) (fun _ _ _ h => h) (Or.inl ⟨by rfl, ?_⟩) ?_ ?_
      rotate_left
      · intro w'
        go_simp
        (try with_reducible rfl)
      rotate_left
      · simp only [Act.put, List.setIfInBounds_toArray, List.set_cons_zero, List.set_cons_succ]
        rfl
      refine take_ (i := 10) (N := some 21) (v := ?_) (a' := ?_) #[true, true, true, true, true, true, true, true, true, true, true, false, false, false, false, false] rfl rfl (by kernel_rfl) (fun _ _ _ h => h) (Or.inl ⟨by rfl, ?_⟩) (by assumption) ?_ ?_
      rotate_left
      · intro w hSw
        obtain ⟨hl0, hl1⟩ := hSw
        skip
        go_simp
        (try with_reducible rfl)
      rotate_left
      · simp only [Act.put, List.setIfInBounds_toArray, List.set_cons_zero, List.set_cons_succ]
        rfl
      refine pure_ (i := 11) (N := some 22) (v := ?_) (a' := ?_) #[true, true, true, true, true, true, true, true, true, true, true, true, false, false, false, false] rfl rfl (by kernel_rfl) (fun _ _ _ h => h) (Or.inl ⟨by rfl, ?_⟩) ?_ ?_
      rotate_left
      · intro w'
        go_simp
        (try with_reducible rfl)
      rotate_left
      · simp only [Act.put, List.setIfInBounds_toArray, List.set_cons_zero, List.set_cons_succ]
        rfl
      refine pure_ (i := 12) (N := some 23) (v := ?_) (a' := ?_) #[true, true, true, true, true, true, true, true, true, true, true, true, true, false, false, false] rfl rfl (by kernel_rfl) (fun _ _ _ h => h) (Or.inl ⟨by rfl, ?_⟩) ?_ ?_
      rotate_left
      · intro w'
        go_simp
        (try with_reducible rfl)
      rotate_left
      · simp only [Act.put, List.setIfInBounds_toArray, List.set_cons_zero, List.set_cons_succ]
        rfl
      refine pure_ (i := 13) (N := some 24) (v := ?_) (a' := ?_) #[true, true, true, true, true, true, true, true, true, true, true, true, true, true, false, false] rfl rfl (by kernel_rfl) (fun _ _ _ h => h) (Or.inl ⟨by rfl, ?_⟩) ?_ ?_
      rotate_left
      · intro w'
        go_simp
        (try with_reducible rfl)
      rotate_left
      · simp only [Act.put, List.setIfInBounds_toArray, List.set_cons_zero, List.set_cons_succ]
        rfl
      refine take_ (i := 14) (N := some 25) (v := ?_) (a' := ?_) #[true, true, true, true, true, true, true, true, true, true, true, true, true, true, true, false] rfl rfl (by kernel_rfl) (fun _ _ _ h => h) (Or.inl ⟨by rfl, ?_⟩) (by assumption) ?_ ?_
      rotate_left
      · intro w hSw
        obtain ⟨hl0, hl1⟩ := hSw
        skip
        go_simp
        (try with_reducible rfl)
      rotate_left
      · simp only [Act.put, List.setIfInBounds_toArray, List.set_cons_zero, List.set_cons_succ]
        rfl
      refine last_ (i := 15) (N := some 26) #[true, true, true, true, true, true, true, true, true, true, true, true, true, true, true, true] rfl rfl (by kernel_rfl) (by decide) (fun K hK => ?_)
      go_simp
      (go_at_call 57; refine (ws_byte B g _ _ (ends.getD q 0) _ HS.out.drew1 HLn.out (Nat.le_trans HBw.out HB.out.size)).mono ?_; rintro e w2 ⟨rfl, hS2, hB2, hK2⟩); go_wp2_with fail
      have HS2 := Aside0.mk hS2
      have HB2 := Aside0.mk hB2
      have HK2 := Aside0.mk hK2
      clear hS2 hB2 hK2
      refine hK.out _ _ ?_
      clear hK K
      (try simp only [Act.put, List.setIfInBounds_toArray, List.set_cons_zero, List.set_cons_succ])
      refine done_ (by kernel_rfl) ?_
      have hlm2 : (ends.take (q + 1)).length = q + 1 := by rw [List.length_take]; have := HM.out; omega
      obtain ⟨gg2, cc2, d2, _, df, hc2, hS3⟩ := HS2.out.top hlm2
      clear hlm2
      rw [List.take_take, Nat.min_eq_left (Nat.le_succ q)] at hS3
      have D2 := Aside0.mk d2
      have HS3 := Aside0.mk hS3
      have hqc : q ≤ cc2 := by omega
      clear hc2
      clear hS3
      go_wp2_with fail
      refine start_ (n := 15) (S := fun w' => w'.cell? ⟨g, 2, none⟩ = some (.slice (some ⟨gg2, 0, none⟩) (q + 1) cc2) ∧ True) (ds := [14]) #[false, false, false, false, false, false, false, false, false, false, false, false, false, false, false] (by kernel_rfl) rfl rfl ⟨D2.out, trivial⟩ (fun hHeld => ?_)
      refine pure_ (i := 0) (N := some 27) (v := ?_) (a' := ?_) #[true, false, false, false, false, false, false, false, false, false, false, false, false, false, false] rfl rfl (by kernel_rfl) (fun _ _ _ h => h) (Or.inl ⟨by rfl, ?_⟩) ?_ ?_
      rotate_left
      · intro w'
        go_simp
        (try with_reducible rfl)
      rotate_left
      · simp only [Act.put, List.setIfInBounds_toArray, List.set_cons_zero, List.set_cons_succ]
        rfl
      refine pure_ (i := 1) (N := some 28) (v := ?_) (a' := ?_) #[true, true, false, false, false, false, false, false, false, false, false, false, false, false, false] rfl rfl (by kernel_rfl) (fun _ _ _ h => h) (Or.inl ⟨by rfl, ?_⟩) ?_ ?_
      rotate_left
      · intro w'
        go_simp
        (try with_reducible rfl)
      rotate_left
      · simp only [Act.put, List.setIfInBounds_toArray, List.set_cons_zero, List.set_cons_succ]
        rfl
      refine pure_ (i := 2) (N := some 29) (v := ?_) (a' := ?_) #[true, true, true, false, false, false, false, false, false, false, false, false, false, false, false] rfl rfl (by kernel_rfl) (fun _ _ _ h => h) (Or.inl ⟨by rfl, ?_⟩) ?_ ?_
      rotate_left
      · intro w'
        go_simp
        (try with_reducible rfl)
      rotate_left
      · simp only [Act.put, List.setIfInBounds_toArray, List.set_cons_zero, List.set_cons_succ]
        rfl
      refine pure_ (i := 3) (N := some 30) (v := ?_) (a' := ?_) #[true, true, true, true, false, false, false, false, false, false, false, false, false, false, false] rfl rfl (by kernel_rfl) (fun _ _ _ h => h) (Or.inl ⟨by rfl, ?_⟩) ?_ ?_
      rotate_left
      · intro w'
        go_simp
        (try with_reducible rfl)
      rotate_left
      · simp only [Act.put, List.setIfInBounds_toArray, List.set_cons_zero, List.set_cons_succ]
        rfl
      refine take_ (i := 4) (N := some 31) (v := ?_) (a' := ?_) #[true, true, true, true, true, false, false, false, false, false, false, false, false, false, false] rfl rfl (by kernel_rfl) (fun _ _ _ h => h) (Or.inl ⟨by rfl, ?_⟩) (by assumption) ?_ ?_
      rotate_left
      · intro w hSw
        obtain ⟨hl0, hl1⟩ := hSw
        go_simp
        (try with_reducible rfl)
      rotate_left
      · simp only [Act.put, List.setIfInBounds_toArray, List.set_cons_zero, List.set_cons_succ]
        rfl
      refine pure_ (i := 5) (N := some 32) (v := ?_) (a' := ?_) #[true, true, true, true, true, true, false, false, false, false, false, false, false, false, false] rfl rfl (by kernel_rfl) (fun _ _ _ h => h) (Or.inl ⟨by rfl, ?_⟩) ?_ ?_
      rotate_left
      · intro w'
        go_simp
        (try with_reducible rfl)
      rotate_left
      · simp only [Act.put, List.setIfInBounds_toArray, List.set_cons_zero, List.set_cons_succ]
        rfl
      refine pure_ (i := 6) (N := some 33) (v := ?_) (a' := ?_) #[true, true, true, true, true, true, true, false, false, false, false, false, false, false, false] rfl rfl (by kernel_rfl) (fun _ _ _ h => h) (Or.inl ⟨by rfl, ?_⟩) ?_ ?_
      rotate_left
      · intro w'
        go_simp
        (try with_reducible rfl)
      rotate_left
      · simp only [Act.put, List.setIfInBounds_toArray, List.set_cons_zero, List.set_cons_succ]
        rfl
      refine pure_ (i := 7) (N := some 34) (v := ?_) (a' := ?_) #[true, true, true, true, true, true, true, true, false, false, false, false, false, false, false] rfl rfl (by kernel_rfl) (fun _ _ _ h => h) (Or.inl ⟨by rfl, ?_⟩) ?_ ?_
      rotate_left
      · intro w'
        go_simp
        (try with_reducible rfl)
      rotate_left
      · simp only [Act.put, List.setIfInBounds_toArray, List.set_cons_zero, List.set_cons_succ]
        rfl
      refine take_ (i := 8) (N := some 35) (v := ?_) (a' := ?_) #[true, true, true, true, true, true, true, true, true, false, false, false, false, false, false] rfl rfl (by kernel_rfl) (fun _ _ _ h => h) (Or.inl ⟨by rfl, ?_⟩) (by assumption) ?_ ?_
      rotate_left
      · intro w hSw
        obtain ⟨hl0, hl1⟩ := hSw
        go_simp
        (try with_reducible rfl)
      rotate_left
      · simp only [Act.put, List.setIfInBounds_toArray, List.set_cons_zero, List.set_cons_succ]
        rfl
      refine pure_ (i := 9) (N := some 36) (v := ?_) (a' := ?_) #[true, true, true, true, true, true, true, true, true, true, false, false, false, false, false] rfl rfl (by kernel_rfl) (fun _ _ _ h => h) (Or.inl ⟨by rfl, ?_⟩) ?_ ?_
      rotate_left
      · intro w'
        go_simp
        (try with_reducible rfl)
      rotate_left
      · simp only [Act.put, List.setIfInBounds_toArray, List.set_cons_zero, List.set_cons_succ]
        rfl
      refine pure_ (i := 10) (N := some 37) (v := ?_) (a' := ?_) #[true, true, true, true, true, true, true, true, true, true, true, false, false, false, false] rfl rfl (by kernel_rfl) (fun _ _ _ h => h) (Or.inl ⟨by rfl, ?_⟩) ?_ ?_
      rotate_left
      · intro w'
        go_simp
        (try with_reducible rfl)
      rotate_left
      · simp only [Act.put, List.setIfInBounds_toArray, List.set_cons_zero, List.set_cons_succ]
        rfl
      refine pure_ (i := 11) (N := some 38) (v := ?_) (a' := ?_) #[true, true, true, true, true, true, true, true, true, true, true, true, false, false, false] rfl rfl (by kernel_rfl) (fun _ _ _ h => h) (Or.inl ⟨by rfl, ?_⟩) ?_ ?_
      rotate_left
      · intro w'
        go_simp
        (try with_reducible rfl)
      rotate_left
      · simp only [Act.put, List.setIfInBounds_toArray, List.set_cons_zero, List.set_cons_succ]
        rfl
      refine pure_ (i := 12) (N := some 39) (v := ?_) (a' := ?_) #[true, true, true, true, true, true, true, true, true, true, true, true, true, false, false] rfl rfl (by kernel_rfl) (fun _ _ _ h => h) (Or.inl ⟨by rfl, ?_⟩) ?_ ?_
      rotate_left
      · intro w'
        go_simp
        (try with_reducible rfl)
      rotate_left
      · simp only [Act.put, List.setIfInBounds_toArray, List.set_cons_zero, List.set_cons_succ]
        rfl
      refine pure_ (i := 13) (N := some 40) (v := ?_) (a' := ?_) #[true, true, true, true, true, true, true, true, true, true, true, true, true, true, false] rfl rfl (by kernel_rfl) (fun _ _ _ h => h) (Or.inl ⟨by rfl, ?_⟩) ?_ ?_
      rotate_left
      · intro w'
        go_simp
        (try with_reducible rfl)
      rotate_left
      · simp only [Act.put, List.setIfInBounds_toArray, List.set_cons_zero, List.set_cons_succ]
        rfl
      refine last_ (i := 14) (N := none) #[true, true, true, true, true, true, true, true, true, true, true, true, true, true, true] rfl rfl (by kernel_rfl) (by decide) (fun K hK => ?_)
      go_simp
      refine hK.out _ _ ?_
      clear hK K
      (try simp only [Act.put, List.setIfInBounds_toArray, List.set_cons_zero, List.set_cons_succ])
      refine done_ (by kernel_rfl) ?_
      go_wp2_with fail
      go_roundg q
      case measure => have := HQ.out; omega
      case rel => exact ⟨q, rfl, by omega, ⟨by have := HM.out; omega⟩, ⟨by rw [take_last ends q HM.out, ← List.append_assoc]; exact HS3.out.drew1⟩, ⟨below_drew1 (((below_drew1 HB.out).trans HB2.out).setCell (p := ⟨g, 2, none⟩) HS.out.base _)⟩, ⟨(((HK.out.trans (WK.of_below (below_drew1 (Below.refl _ _)))).trans HK2.out).set_ 2 _).trans (WK.of_below (below_drew1 (Below.refl _ _)))⟩⟩
    · obtain rfl : m = n := by omega
      obtain ⟨A, cc, c2⟩ := HS.out.len
      rw [hlm] at c2
      go_wp2_with fail
      go_end0
      exact ⟨rfl, HS.out, HB.out, HK.out⟩
end Go.Proofs.YthhmmaihbjhhgaaDoor.Giv
