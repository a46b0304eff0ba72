/- What the proof of JsonAgain stands on, part 5: cut and merged by a program out of this session's texts. -/
import Derived.Test.YthhmmaihbjhhgaaDoorKA4
import Derived.Test.YthhmmaihbjhhgaaDoorProg
import Derived.Below
import Derived.Deep.Draws
import Derived.Deep.AppendLies
import Derived.Maps.AppendAt
import Derived.OwnWalk
import Derived.Laws.BytesArg
import Derived.Laws.MakeOwn
import Derived.Laws.OwnMore
import Derived.Deep.OwnRows
import Derived.Tactics
import Derived.Lib.ConvBytes
import Derived.Laws.Slices
import Derived.WalkKit
import Derived.KernelRfl
import Derived.RowKit3
import Derived.Deep.LoopGhost
import Derived.Deep.QuietTactic
import Derived.BigQuiet
import Derived.WideLaws
import Derived.Deep.DeepCutAuto
import Derived.Deep.CutBlock
import Derived.Deep.RegionHeld3
import Derived.Laws.Rows
import Derived.Lib.AppendStr
import Derived.ArgAppend
import Derived.Laws.IdiomCopy
import Derived.OrdersHeld
import Derived.Laws.BitsLemmas
import Derived.RowKit
namespace Go.Proofs.YthhmmaihbjhhgaaDoor.Giv
open Go.RowKit Go.Proofs.YthhmmaihbjhhgaaDoorW.PrintWords Go.Proofs.YthhmmaihbjhhgaaDoorW.PrintLast Go.Proofs.YthhmmaihbjhhgaaDoorW.PrintMore
open Go.Proofs.YthhmmaihbjhhgaaDoor.U1 Go.Proofs.YthhmmaihbjhhgaaDoor.Q1 Go.Proofs.YthhmmaihbjhhgaaDoor.J0 Go.Proofs.YthhmmaihbjhhgaaDoor.J1
set_option linter.unusedSimpArgs false
def json_Right.f (l : List S59) : Option Bool := if l.length * 56 ≤ 140737488355328 then (rightF true [(6, [])] l).map (fun r => r && decide (0 < l.length)) else none
theorem json_Right.calls (A : Option Addr) (c : Nat) (l : List S59) (r : Bool) (w : World) (hC : Kd.C k59 w A l.length l) (hc : l.length ≤ c) (h : json_Right.f l = some r) (ht : Tabs w := by first | assumption | (refine Tabs.step (by assumption) ?_; repeat (first | exact Aside0.out (by assumption) | apply below_alloc | apply pw_below_drewN | apply below_drew1 | exact Below.refl _ _))) :
    Calls Tryd.prog 42 #[.slice A l.length c] w fun e w' => e = .returned (.bool r) ∧ Below w.heap.size w w' := by
  unfold json_Right.f at h
  by_cases hl : l.length * 56 ≤ 140737488355328
  · rw [if_pos hl] at h
    obtain ⟨q, hq, rfl⟩ := Option.map_eq_some_iff.1 h
    exact right_walk w A c l q hC hc hl ht hq
  · rw [if_neg hl] at h; cases h
/-- a comma? what the item ahead has as its depth (none: there is none) -/
def commaB (prev : Option Int) (d : Int) : List UInt8 := match prev with | none => [] | some p => if d ≤ p then [44] else []
/-- an object's member's key -/
def keyB (ends : List UInt8) (key : ByteArray) : List UInt8 := if ends.getLast? = some 125 then (writeS key).1.data.toList ++ [58] else []
def sizeI (x : S59) : Nat := 6 * x.f2.size + 6 * x.f3.size + 200
/-- Print, as it goes -/
def printF : Option Int → List UInt8 → List UInt8 → List S59 → Option (List UInt8)
  | _, bs, ends, [] => some (bs ++ ends.reverse)
  | prev, bs, ends, x :: l => if 0 ≤ x.f0 ∧ x.f0 ≤ ends.length ∧ 1 ≤ x.f1 ∧ x.f1 ≤ 7 ∧ (-9223372036854775808 ≤ x.f4 ∧ x.f4 ≤ 9223372036854775807) ∧ bs.length + ends.length + sizeI x ≤ 140737488355328 then
      printF (some x.f0) (bs ++ (ends.drop x.f0.toNat).reverse ++ commaB prev x.f0 ++ keyB (ends.take x.f0.toNat) x.f2 ++ valB x) (ends.take x.f0.toNat ++ endB x) l else none
def prevD (l : List S59) (j : Nat) : Option Int := if j = 0 then none else some (rd_T59 l ((j - 1 : Nat) : Int)).f0
theorem prevD_succ (l : List S59) (j : Nat) (x : S59) (h : rd_T59 l (j : Int) = x) : prevD l (j + 1) = some x.f0 := by
  unfold prevD
  rw [if_neg (Nat.succ_ne_zero j), Nat.add_sub_cancel, h]
theorem u8_ne (c : UInt8) (h : c ≠ 125) : ((c.toNat : Int) == 125) = false := by
  refine beq_eq_false_iff_ne.mpr (fun e => h (UInt8.toNat_inj.mp ?_))
  show c.toNat = 125
  omega
theorem last_take (ends : List UInt8) (q : Nat) (h : ends.length = q + 1) : ends.getLast? = some (ends.getD q 0) := by
  rw [List.getLast?_eq_getElem?, h]
  simp [List.getD, h]
set_option maxHeartbeats 8000000 in
set_option maxRecDepth 100000 in
theorem print_walk (w : World) (A : Option Addr) (c : Nat) (l : List S59) (r : List UInt8) (hC : Kd.C k59 w A l.length l) (hc : l.length ≤ c) (ht : JTabs w) (hr : json_Right.f l = some true) (h : printF none [] [] l = some r) (hr0 : r ≠ []) (hr1 : r.length ≤ 140737488355328) :
    Calls Tryd.prog 47 #[.slice A l.length c] w fun e w' => e = .returned (.string ⟨r.toArray⟩) ∧ Below w.heap.size w w' := by
  have HC := Aside0.mk hC
  have HT := Aside0.mk ht
  have HF := Aside0.mk h
  have HRF := Aside0.mk hr
  have HCC := Aside0.mk hc
  have HR0 := Aside0.mk hr0
  have HR1 := Aside0.mk hr1
  have hl : l.length * 56 ≤ 140737488355328 := by
    unfold json_Right.f at hr
    by_cases hl : l.length * 56 ≤ 140737488355328
    · exact hl
    · rw [if_neg hl] at hr; cases hr
  have HL := Aside0.mk hl
  clear hC ht h hl hc hr hr0 hr1
  go_enter Tryd.func47, Tryd.ntmps47
  go_wp2_with (go_at_call 42; refine (json_Right.calls A c l true _ HC.out HCC.out HRF.out HT.out.tabs).mono ?_; rintro e w1 ⟨rfl, hb1⟩; have HB1 := Aside0.mk hb1; clear hb1)
  have HS0 : Aside0 (WS w.heap.size w1.heap.size (w1.alloc (.cells #[.pointer none, .slice none 0 0, .slice none 0 0] 99)) [] []) := ⟨⟨⟨_, _, _, .inl rfl, heap_alloc_new _ _, Kd.R_nil _ _ _ _ _, Kd.R_nil _ _ _ _ _⟩, HB1.out.size⟩⟩
  have HB2 : Aside0 (Below w.heap.size w (w1.alloc (.cells #[.pointer none, .slice none 0 0, .slice none 0 0] 99))) := ⟨HB1.out.alloc HB1.out.size _⟩
  obtain ⟨g, hg⟩ : ∃ g, w1.heap.size = g := ⟨_, rfl⟩
  rw [hg] at HS0
  rw [hg]
  clear hg
  generalize w1.alloc (.cells #[.pointer none, .slice none 0 0, .slice none 0 0] 99) = w2 at HS0 HB2 ⊢
  clear HB1
  go_loopg [14] l.length (fun kq v14 wr => ∃ (j : Nat) (bs ends : List UInt8), kq = l.length - j ∧ j ≤ l.length ∧ v14 = .int .i64 (j : Int) ∧ Aside0 (WS w.heap.size g wr bs ends) ∧ Aside0 (printF (prevD l j) bs ends (l.drop j) = some r) ∧ Aside0 (Below w.heap.size w wr))
  case atStart => exact ⟨0, [], [], rfl, Nat.zero_le _, rfl, HS0, HF, HB2⟩
  case round =>
    clear HF HS0 HB2
    obtain ⟨j, bs, ends, hkq, hjl, rfl, HS, HF, HB⟩ := hrel
    have hgl : j < 9223372036854775807 := by have := HL.out; omega
    by_cases hlt : j < l.length
    · obtain ⟨ad, hA, a0, a1, a2, a3, a4⟩ := at_T59 (Kd.C_below HC.out HB.out) (j : Int) (by omega) (by omega)
      subst hA
      have HX := Aside0.mk (drop_T59 l j hlt)
      obtain ⟨⟨f0, f1, f2, f3, f4⟩, hx⟩ : ∃ x, rd_T59 l (j : Int) = x := ⟨_, rfl⟩
      have HPD := Aside0.mk (prevD_succ l j _ hx)
      rw [hx] at a0 a1 a2 a3 a4 HX
      simp only [Int.toNat_natCast] at a0 a1 a2 a3 a4
      clear hx
      have hF := HF.out
      rw [HX.out, printF] at hF
      simp only at hF
      clear HF
      by_cases hgd : 0 ≤ f0 ∧ f0 ≤ (ends.length : Int) ∧ 1 ≤ f1 ∧ f1 ≤ 7 ∧ (-9223372036854775808 ≤ f4 ∧ f4 ≤ 9223372036854775807) ∧ bs.length + ends.length + sizeI ⟨f0, f1, f2, f3, f4⟩ ≤ 140737488355328
      · rw [if_pos hgd] at hF
        obtain ⟨g0, g1, g2, g3, g4, g5⟩ := hgd
        obtain ⟨d, rfl⟩ : ∃ d : Nat, f0 = d := ⟨f0.toNat, by omega⟩
        rw [Int.toNat_natCast] at hF
        have hde : d ≤ ends.length := by omega
        have G23 := Aside0.mk (And.intro g2 g3)
        have G4 := Aside0.mk g4
        have G5 : Aside0 (bs.length + ends.length + (6 * f2.size + 6 * f3.size + 200) ≤ 140737488355328) := ⟨g5⟩
        have HDE := Aside0.mk hde
        have hd63 : d ≤ 140737488355328 := by omega
        clear g0 g1 g2 g3 g4 g5 hde
        have HF := Aside0.mk hF
        clear hF
        have HI : Aside0 (Itm (wr.alloc (.cells #[.int .i64 (d : Int), .int .i64 f1, .string f2, .string f3, .int .i64 f4] 59)) wr.heap.size ⟨(d : Int), f1, f2, f3, f4⟩) := ⟨heap_alloc_new _ _⟩
        have HS3 : Aside0 (WS w.heap.size g (wr.alloc (.cells #[.int .i64 (d : Int), .int .i64 f1, .string f2, .string f3, .int .i64 f4] 59)) bs ends) := ⟨HS.out.quiet (below_alloc (Below.refl _ _) _)⟩
        have HB3 : Aside0 (Below w.heap.size w (wr.alloc (.cells #[.int .i64 (d : Int), .int .i64 f1, .string f2, .string f3, .int .i64 f4] 59))) := ⟨HB.out.alloc HB.out.size _⟩
        have HNG : Aside0 (wr.heap.size ≠ g) := ⟨by have := HS.out.lt; omega⟩
        go_upto_region 8 with ((go_at_call 71; refine (shut_calls w.heap.size g bs ends d _ HS3.out HDE.out (by have := G5.out; omega) HB3.out.size).mono ?_; rintro e w4 ⟨rfl, hS4, hB4, hK4⟩; have HI4 : Aside0 (Itm w4 wr.heap.size ⟨(d : Int), f1, f2, f3, f4⟩) := ⟨WK.blk hK4 HI.out HNG.out (by decide)⟩; have HS4 := Aside0.mk hS4; have HB4 := Aside0.mk (HB3.out.trans hB4); clear hS4 hB4 hK4))
        obtain ⟨b, hb⟩ : ∃ b, wr.heap.size = b := ⟨_, rfl⟩
        rw [hb] at HI4 HNG
        rw [hb]
        clear hb HI HS3 HB3
        rcases Nat.eq_zero_or_pos j with hj0 | hj0
        · have hnj : ¬ 0 < j := by omega
          have HCM : Aside0 (commaB (prevD l j) (d : Int) = []) := ⟨by rw [hj0]; rfl⟩
          clear hj0
          refine wp_region_held_drew (S := fun w' => Itm w' b ⟨(d : Int), f1, f2, f3, f4⟩ ∧ True) (by kernel_rfl) ⟨HI4.out, trivial⟩ (fun hHeld => ?_)
          refine wpAnyH_take (i := 0) (oi := { dst := some 23, op := _, type := _, pos := _, after := _, guard := _ }) (v := ?_) rfl (by kernel_rfl) (by kernel_rfl) (by kernel_rfl) (fun _ _ _ h => h) (Or.inl ⟨by rfl, ?_⟩) (by assumption) ?_
          rotate_left
          · intro w hSw
            (try dsimp only at hSw)
            clear hSw
            go_simp
            (try with_reducible rfl)
          (try simp only [Act.put, List.setIfInBounds_toArray, List.set_cons_zero, List.set_cons_succ])
          refine wpAnyH_take (i := 1) (oi := { dst := some 24, op := _, type := _, pos := _, after := _, guard := _ }) (v := ?_) rfl (by kernel_rfl) (by kernel_rfl) (by kernel_rfl) (fun _ _ _ h => h) (Or.inl ⟨by rfl, ?_⟩) (by assumption) ?_
          rotate_left
          · intro w hSw
            (try dsimp only at hSw)
            clear hSw
            go_simp
            (try with_reducible rfl)
          (try simp only [Act.put, List.setIfInBounds_toArray, List.set_cons_zero, List.set_cons_succ])
          refine wpAnyH_take (i := 2) (oi := { dst := some 25, op := _, type := _, pos := _, after := _, guard := _ }) (v := ?_) rfl (by kernel_rfl) (by kernel_rfl) (by kernel_rfl) (fun _ _ _ h => h) (Or.inl ⟨by rfl, ?_⟩) (by assumption) ?_
          rotate_left
          · intro w hSw
            (try dsimp only at hSw)
            clear hSw
            go_simp
            (try with_reducible rfl)
          (try simp only [Act.put, List.setIfInBounds_toArray, List.set_cons_zero, List.set_cons_succ])
          refine wpAnyH_take (i := 3) (oi := { dst := some 26, op := _, type := _, pos := _, after := _, guard := _ }) (v := undef) rfl (by kernel_rfl) (by kernel_rfl) (by kernel_rfl) (fun _ _ _ h => h) (Or.inr ⟨by rfl, rfl⟩) (by assumption) ?_
          (try simp only [Act.put, List.setIfInBounds_toArray, List.set_cons_zero, List.set_cons_succ])
          refine wpAnyH_take (i := 4) (oi := { dst := some 27, op := _, type := _, pos := _, after := _, guard := _ }) (v := undef) rfl (by kernel_rfl) (by kernel_rfl) (by kernel_rfl) (fun _ _ _ h => h) (Or.inr ⟨by rfl, rfl⟩) (by assumption) ?_
          (try simp only [Act.put, List.setIfInBounds_toArray, List.set_cons_zero, List.set_cons_succ])
          refine wpAnyH_take (i := 5) (oi := { dst := some 28, op := _, type := _, pos := _, after := _, guard := _ }) (v := undef) rfl (by kernel_rfl) (by kernel_rfl) (by kernel_rfl) (fun _ _ _ h => h) (Or.inr ⟨by rfl, rfl⟩) (by assumption) ?_
          (try simp only [Act.put, List.setIfInBounds_toArray, List.set_cons_zero, List.set_cons_succ])
          refine wpAnyH_take (i := 6) (oi := { dst := some 29, op := _, type := _, pos := _, after := _, guard := _ }) (v := undef) rfl (by kernel_rfl) (by kernel_rfl) (by kernel_rfl) (fun _ _ _ h => h) (Or.inr ⟨by rfl, rfl⟩) (by assumption) ?_
          (try simp only [Act.put, List.setIfInBounds_toArray, List.set_cons_zero, List.set_cons_succ])
          refine wpAnyH_take (i := 7) (oi := { dst := some 30, op := _, type := _, pos := _, after := _, guard := _ }) (v := undef) rfl (by kernel_rfl) (by kernel_rfl) (by kernel_rfl) (fun _ _ _ h => h) (Or.inr ⟨by rfl, rfl⟩) (by assumption) ?_
          (try simp only [Act.put, List.setIfInBounds_toArray, List.set_cons_zero, List.set_cons_succ])
          refine wpAnyH_take (i := 8) (oi := { dst := some 31, op := _, type := _, pos := _, after := _, guard := _ }) (v := undef) rfl (by kernel_rfl) (by kernel_rfl) (by kernel_rfl) (fun _ _ _ h => h) (Or.inr ⟨by rfl, rfl⟩) (by assumption) ?_
          (try simp only [Act.put, List.setIfInBounds_toArray, List.set_cons_zero, List.set_cons_succ])
          refine wpAnyH_take (i := 9) (oi := { dst := some 32, op := _, type := _, pos := _, after := _, guard := _ }) (v := undef) rfl (by kernel_rfl) (by kernel_rfl) (by kernel_rfl) (fun _ _ _ h => h) (Or.inr ⟨by rfl, rfl⟩) (by assumption) ?_
          (try simp only [Act.put, List.setIfInBounds_toArray, List.set_cons_zero, List.set_cons_succ])
          refine wpAnyH_take (i := 10) (oi := { dst := some 33, op := _, type := _, pos := _, after := _, guard := _ }) (v := undef) rfl (by kernel_rfl) (by kernel_rfl) (by kernel_rfl) (fun _ _ _ h => h) (Or.inr ⟨by rfl, rfl⟩) (by assumption) ?_
          (try simp only [Act.put, List.setIfInBounds_toArray, List.set_cons_zero, List.set_cons_succ])
          refine wpAnyH_take (i := 11) (oi := { dst := some 34, op := _, type := _, pos := _, after := _, guard := _ }) (v := undef) rfl (by kernel_rfl) (by kernel_rfl) (by kernel_rfl) (fun _ _ _ h => h) (Or.inr ⟨by rfl, rfl⟩) (by assumption) ?_
          (try simp only [Act.put, List.setIfInBounds_toArray, List.set_cons_zero, List.set_cons_succ])
          refine wpAnyH_take (i := 12) (oi := { dst := some 35, op := _, type := _, pos := _, after := _, guard := _ }) (v := ?_) rfl (by kernel_rfl) (by kernel_rfl) (by kernel_rfl) (fun _ _ _ h => h) (Or.inl ⟨by rfl, ?_⟩) (by assumption) ?_
          rotate_left
          · intro w hSw
            (try dsimp only at hSw)
            clear hSw
            go_simp
            (try with_reducible rfl)
          (try simp only [Act.put, List.setIfInBounds_toArray, List.set_cons_zero, List.set_cons_succ])
          refine wpAnyH_done (by kernel_rfl) ?_ _
          clear hHeld
          go_upto_region 10 with fail
          have hlen1 : (ends.take d).length = d := by rw [List.length_take]; have := HDE.out; omega
          obtain ⟨w5, hw5⟩ : ∃ w5, w4.drew = w5 := ⟨_, rfl⟩
          have HS4 := Aside0.mk HS4.out.drew1
          have HI4 : Aside0 (Itm w4.drew b ⟨(d : Int), f1, f2, f3, f4⟩) := HI4
          have HB4 := Aside0.mk (below_drew1 HB4.out)
          rw [hw5] at HS4 HI4 HB4
          rw [hw5]
          clear hw5
          have HS5 := HS4
          have HI5 := HI4
          have HB5 := HB4
          rcases Nat.eq_zero_or_pos d with hd0 | hd0
          · have hnd : ¬ 0 < d := by omega
            have HKB : Aside0 (keyB (ends.take d) f2 = []) := ⟨by rw [hd0, List.take_zero]; rfl⟩
            clear hd0
            obtain ⟨A2, cc2, c2⟩ := HS5.out.len
            rw [hlen1] at c2
            clear hlen1
            first
            | skip
            obtain ⟨hm0, hm1, hm2, hm3, hm4⟩ := itm_cells HI5.out
            go_wp2_with (go_at_call 73; refine (value_calls_w w.heap.size g (bs ++ (ends.drop d).reverse) (ends.take d) ⟨(d : Int), f1, f2, f3, f4⟩ w5 G23.out HS5.out (by have h5 := G5.out; have hd := HDE.out; skip; simp only [List.length_append, List.length_reverse, List.length_drop, List.length_take, List.length_cons, List.length_nil]; omega) HB5.out.size (HT.out.step HB5.out) G4.out).mono ?_; rintro e w8 ⟨rfl, hS8, hB8, hK8⟩; have HS8 := Aside0.mk hS8; have HB8 := Aside0.mk (HB5.out.trans hB8); clear hS8 hB8 hK8)
            go_roundg (l.length - (j + 1))
            case measure => omega
            case rel => exact ⟨j + 1, _, _, rfl, hlt, by go_num, HS8, ⟨by rw [HPD.out]; have hF := HF.out; rw [HCM.out, HKB.out] at hF; simpa only [List.append_nil, List.append_assoc] using hF⟩, HB8⟩
          · obtain ⟨q, rfl⟩ : ∃ q, d = q + 1 := ⟨d - 1, by omega⟩
            clear hd0
            have hlast := last_take _ q hlen1
            obtain ⟨gg, cc, c2, c3, _, _, _⟩ := HS5.out.top hlen1
            clear hlen1
            obtain ⟨lc, hlc⟩ : ∃ lc : UInt8, (ends.take (q + 1)).getD q 0 = lc := ⟨_, rfl⟩
            rw [hlc] at c3 hlast
            clear hlc
            have hwq : IntKind.i64.wrap (q : Int) = (q : Int) := IntWalk.i64_in (q : Int) ⟨by omega, by omega⟩
            have hq0 : (0 : Int) ≤ (q : Int) := by omega
            have hq1 : (q : Int) < (q : Int) + 1 := by omega
            by_cases hl125 : lc = 125
            · subst hl125
              have HKB : Aside0 (keyB (ends.take (q + 1)) f2 = (writeS f2).1.data.toList ++ [58]) := ⟨by unfold keyB; rw [if_pos hlast]⟩
              clear hlast
              obtain ⟨hm0, hm1, hm2, hm3, hm4⟩ := itm_cells HI5.out
              go_upto_region 14 with (first | (go_at_call 72; refine (quoted_calls w.heap.size g (bs ++ (ends.drop (q + 1)).reverse) (ends.take (q + 1)) f2 w5 HS5.out (by have h5 := G5.out; have hd := HDE.out; simp only [List.length_append, List.length_reverse, List.length_drop, List.length_take, List.length_cons, List.length_nil]; omega) HB5.out.size (HT.out.step HB5.out).tabs).mono ?_; rintro e w6 ⟨rfl, hS6, hB6, hK6⟩; have HI6 : Aside0 (Itm w6 b ⟨((q + 1 : Nat) : Int), f1, f2, f3, f4⟩) := ⟨WK.blk hK6 HI5.out HNG.out (by decide)⟩; have HS6 := Aside0.mk hS6; have HB6 := Aside0.mk (HB5.out.trans hB6); clear hS6 hB6 hK6) | (go_at_call 57; refine (ws_byte w.heap.size g ((bs ++ (ends.drop (q + 1)).reverse) ++ (writeS f2).1.data.toList) (ends.take (q + 1)) 58 w6 HS6.out (by have h5 := G5.out; have hd := HDE.out; have h6 := inner6 f2; simp only [List.length_append, List.length_reverse, List.length_drop, List.length_take, List.length_cons, List.length_nil]; omega) HB6.out.size).mono ?_; rintro e w7 ⟨rfl, hS7, hB7, hK7⟩; have HI7 : Aside0 (Itm w7 b ⟨((q + 1 : Nat) : Int), f1, f2, f3, f4⟩) := ⟨WK.blk hK7 HI6.out HNG.out (by decide)⟩; have HS7 := Aside0.mk hS7; have HB7 := Aside0.mk (HB6.out.trans hB7); clear hS7 hB7 hK7))
              clear hm0 hm1 hm2 hm3 hm4
              obtain ⟨hm0, hm1, hm2, hm3, hm4⟩ := itm_cells HI7.out
              go_wp2_with (go_at_call 73; refine (value_calls_w w.heap.size g ((bs ++ (ends.drop (q + 1)).reverse) ++ (writeS f2).1.data.toList ++ [58]) (ends.take (q + 1)) ⟨((q + 1 : Nat) : Int), f1, f2, f3, f4⟩ w7 G23.out HS7.out (by have h5 := G5.out; have hd := HDE.out; have h6 := inner6 f2; simp only [List.length_append, List.length_reverse, List.length_drop, List.length_take, List.length_cons, List.length_nil]; omega) HB7.out.size (HT.out.step HB7.out) G4.out).mono ?_; rintro e w8 ⟨rfl, hS8, hB8, hK8⟩; have HS8 := Aside0.mk hS8; have HB8 := Aside0.mk (HB7.out.trans hB8); clear hS8 hB8 hK8)
              go_roundg (l.length - (j + 1))
              case measure => omega
              case rel => exact ⟨j + 1, _, _, rfl, hlt, by go_num, HS8, ⟨by rw [HPD.out]; have hF := HF.out; rw [HCM.out, HKB.out] at hF; simpa only [List.append_nil, List.append_assoc] using hF⟩, HB8⟩
            · have hne : (lc == 125) = false := beq_eq_false_iff_ne.mpr hl125
              have hne2 : ((lc.toNat : Int) == 125) = false := u8_ne lc hl125
              have HKB : Aside0 (keyB (ends.take (q + 1)) f2 = []) := ⟨by unfold keyB; rw [if_neg (by rw [hlast]; intro e; exact hl125 (Option.some.inj e))]⟩
              clear hlast hl125
              obtain ⟨hm0, hm1, hm2, hm3, hm4⟩ := itm_cells HI5.out
              go_wp2_with (go_at_call 73; refine (value_calls_w w.heap.size g (bs ++ (ends.drop (q + 1)).reverse) (ends.take (q + 1)) ⟨((q + 1 : Nat) : Int), f1, f2, f3, f4⟩ w5 G23.out HS5.out (by have h5 := G5.out; have hd := HDE.out; skip; simp only [List.length_append, List.length_reverse, List.length_drop, List.length_take, List.length_cons, List.length_nil]; omega) HB5.out.size (HT.out.step HB5.out) G4.out).mono ?_; rintro e w8 ⟨rfl, hS8, hB8, hK8⟩; have HS8 := Aside0.mk hS8; have HB8 := Aside0.mk (HB5.out.trans hB8); clear hS8 hB8 hK8)
              go_roundg (l.length - (j + 1))
              case measure => omega
              case rel => exact ⟨j + 1, _, _, rfl, hlt, by go_num, HS8, ⟨by rw [HPD.out]; have hF := HF.out; rw [HCM.out, HKB.out] at hF; simpa only [List.append_nil, List.append_assoc] using hF⟩, HB8⟩
        · obtain ⟨i, rfl⟩ : ∃ i, j = i + 1 := ⟨j - 1, by omega⟩
          clear hj0
          obtain ⟨ad2, hA2, p0, _, _, _, _⟩ := at_T59 (Kd.C_below HC.out HB4.out) (i : Int) (by omega) (by omega)
          injection hA2 with hA2
          subst hA2
          simp only [Int.toNat_natCast] at p0
          obtain ⟨pf, hpf⟩ : ∃ pf, (rd_T59 l (i : Int)).f0 = pf := ⟨_, rfl⟩
          rw [hpf] at p0
          have hcb : commaB (prevD l (i + 1)) (d : Int) = if (d : Int) ≤ pf then [44] else [] := by unfold prevD; rw [if_neg (Nat.succ_ne_zero i), Nat.add_sub_cancel, hpf]; rfl
          clear hpf
          have hwi : IntKind.i64.wrap (i : Int) = (i : Int) := IntWalk.i64_in (i : Int) ⟨by omega, by omega⟩
          have hi0 : (0 : Int) ≤ (i : Int) := by omega
          have hi1 : (i : Int) < (l.length : Int) := by omega
          have hi2 : i < l.length := by omega
          by_cases hcm : (d : Int) ≤ pf
          · have HCM := Aside0.mk (hcb.trans (if_pos hcm))
            clear hcb
            refine wp_region_held_drew (S := fun w' => Itm w' b ⟨(d : Int), f1, f2, f3, f4⟩ ∧ w'.cell? (ad.add (i * 5)) = some (.int .i64 pf)) (by kernel_rfl) ⟨HI4.out, p0⟩ (fun hHeld => ?_)
            refine wpAnyH_take (i := 0) (oi := { dst := some 23, op := _, type := _, pos := _, after := _, guard := _ }) (v := ?_) rfl (by kernel_rfl) (by kernel_rfl) (by kernel_rfl) (fun _ _ _ h => h) (Or.inl ⟨by rfl, ?_⟩) (by assumption) ?_
            rotate_left
            · intro w hSw
              (try dsimp only at hSw)
              have hm0 := (itm_cells hSw.1).1
              have hm9 := hSw.2
              clear hSw
              go_simp
              (try with_reducible rfl)
            (try simp only [Act.put, List.setIfInBounds_toArray, List.set_cons_zero, List.set_cons_succ])
            refine wpAnyH_take (i := 1) (oi := { dst := some 24, op := _, type := _, pos := _, after := _, guard := _ }) (v := ?_) rfl (by kernel_rfl) (by kernel_rfl) (by kernel_rfl) (fun _ _ _ h => h) (Or.inl ⟨by rfl, ?_⟩) (by assumption) ?_
            rotate_left
            · intro w hSw
              (try dsimp only at hSw)
              have hm0 := (itm_cells hSw.1).1
              have hm9 := hSw.2
              clear hSw
              go_simp
              (try with_reducible rfl)
            (try simp only [Act.put, List.setIfInBounds_toArray, List.set_cons_zero, List.set_cons_succ])
            refine wpAnyH_take (i := 2) (oi := { dst := some 25, op := _, type := _, pos := _, after := _, guard := _ }) (v := ?_) rfl (by kernel_rfl) (by kernel_rfl) (by kernel_rfl) (fun _ _ _ h => h) (Or.inl ⟨by rfl, ?_⟩) (by assumption) ?_
            rotate_left
            · intro w hSw
              (try dsimp only at hSw)
              have hm0 := (itm_cells hSw.1).1
              have hm9 := hSw.2
              clear hSw
              go_simp
              (try with_reducible rfl)
            (try simp only [Act.put, List.setIfInBounds_toArray, List.set_cons_zero, List.set_cons_succ])
            refine wpAnyH_take (i := 3) (oi := { dst := some 26, op := _, type := _, pos := _, after := _, guard := _ }) (v := ?_) rfl (by kernel_rfl) (by kernel_rfl) (by kernel_rfl) (fun _ _ _ h => h) (Or.inl ⟨by rfl, ?_⟩) (by assumption) ?_
            rotate_left
            · intro w hSw
              (try dsimp only at hSw)
              have hm0 := (itm_cells hSw.1).1
              have hm9 := hSw.2
              clear hSw
              go_simp
              (try with_reducible rfl)
            (try simp only [Act.put, List.setIfInBounds_toArray, List.set_cons_zero, List.set_cons_succ])
            refine wpAnyH_take (i := 4) (oi := { dst := some 27, op := _, type := _, pos := _, after := _, guard := _ }) (v := ?_) rfl (by kernel_rfl) (by kernel_rfl) (by kernel_rfl) (fun _ _ _ h => h) (Or.inl ⟨by rfl, ?_⟩) (by assumption) ?_
            rotate_left
            · intro w hSw
              (try dsimp only at hSw)
              have hm0 := (itm_cells hSw.1).1
              have hm9 := hSw.2
              clear hSw
              go_simp
              (try with_reducible rfl)
            (try simp only [Act.put, List.setIfInBounds_toArray, List.set_cons_zero, List.set_cons_succ])
            refine wpAnyH_take (i := 5) (oi := { dst := some 28, op := _, type := _, pos := _, after := _, guard := _ }) (v := ?_) rfl (by kernel_rfl) (by kernel_rfl) (by kernel_rfl) (fun _ _ _ h => h) (Or.inl ⟨by rfl, ?_⟩) (by assumption) ?_
            rotate_left
            · intro w hSw
              (try dsimp only at hSw)
              have hm0 := (itm_cells hSw.1).1
              have hm9 := hSw.2
              clear hSw
              go_simp
              (try with_reducible rfl)
            (try simp only [Act.put, List.setIfInBounds_toArray, List.set_cons_zero, List.set_cons_succ])
            refine wpAnyH_take (i := 6) (oi := { dst := some 29, op := _, type := _, pos := _, after := _, guard := _ }) (v := ?_) rfl (by kernel_rfl) (by kernel_rfl) (by kernel_rfl) (fun _ _ _ h => h) (Or.inl ⟨by rfl, ?_⟩) (by assumption) ?_
            rotate_left
            · intro w hSw
              (try dsimp only at hSw)
              have hm0 := (itm_cells hSw.1).1
              have hm9 := hSw.2
              clear hSw
              go_simp
              (try with_reducible rfl)
            (try simp only [Act.put, List.setIfInBounds_toArray, List.set_cons_zero, List.set_cons_succ])
            refine wpAnyH_take (i := 7) (oi := { dst := some 30, op := _, type := _, pos := _, after := _, guard := _ }) (v := ?_) rfl (by kernel_rfl) (by kernel_rfl) (by kernel_rfl) (fun _ _ _ h => h) (Or.inl ⟨by rfl, ?_⟩) (by assumption) ?_
            rotate_left
            · intro w hSw
              (try dsimp only at hSw)
              have hm0 := (itm_cells hSw.1).1
              have hm9 := hSw.2
              clear hSw
              go_simp
              (try with_reducible rfl)
            (try simp only [Act.put, List.setIfInBounds_toArray, List.set_cons_zero, List.set_cons_succ])
            refine wpAnyH_take (i := 8) (oi := { dst := some 31, op := _, type := _, pos := _, after := _, guard := _ }) (v := ?_) rfl (by kernel_rfl) (by kernel_rfl) (by kernel_rfl) (fun _ _ _ h => h) (Or.inl ⟨by rfl, ?_⟩) (by assumption) ?_
            rotate_left
            · intro w hSw
              (try dsimp only at hSw)
              have hm0 := (itm_cells hSw.1).1
              have hm9 := hSw.2
              clear hSw
              go_simp
              (try with_reducible rfl)
            (try simp only [Act.put, List.setIfInBounds_toArray, List.set_cons_zero, List.set_cons_succ])
            refine wpAnyH_take (i := 9) (oi := { dst := some 32, op := _, type := _, pos := _, after := _, guard := _ }) (v := ?_) rfl (by kernel_rfl) (by kernel_rfl) (by kernel_rfl) (fun _ _ _ h => h) (Or.inl ⟨by rfl, ?_⟩) (by assumption) ?_
            rotate_left
            · intro w hSw
              (try dsimp only at hSw)
              have hm0 := (itm_cells hSw.1).1
              have hm9 := hSw.2
              clear hSw
              go_simp
              (try with_reducible rfl)
            (try simp only [Act.put, List.setIfInBounds_toArray, List.set_cons_zero, List.set_cons_succ])
            refine wpAnyH_take (i := 10) (oi := { dst := some 33, op := _, type := _, pos := _, after := _, guard := _ }) (v := ?_) rfl (by kernel_rfl) (by kernel_rfl) (by kernel_rfl) (fun _ _ _ h => h) (Or.inl ⟨by rfl, ?_⟩) (by assumption) ?_
            rotate_left
            · intro w hSw
              (try dsimp only at hSw)
              have hm0 := (itm_cells hSw.1).1
              have hm9 := hSw.2
              clear hSw
              go_simp
              (try with_reducible rfl)
            (try simp only [Act.put, List.setIfInBounds_toArray, List.set_cons_zero, List.set_cons_succ])
            refine wpAnyH_take (i := 11) (oi := { dst := some 34, op := _, type := _, pos := _, after := _, guard := _ }) (v := ?_) rfl (by kernel_rfl) (by kernel_rfl) (by kernel_rfl) (fun _ _ _ h => h) (Or.inl ⟨by rfl, ?_⟩) (by assumption) ?_
            rotate_left
            · intro w hSw
              (try dsimp only at hSw)
              have hm0 := (itm_cells hSw.1).1
              have hm9 := hSw.2
              clear hSw
              go_simp
              (try with_reducible rfl)
            (try simp only [Act.put, List.setIfInBounds_toArray, List.set_cons_zero, List.set_cons_succ])
            refine wpAnyH_take (i := 12) (oi := { dst := some 35, op := _, type := _, pos := _, after := _, guard := _ }) (v := ?_) rfl (by kernel_rfl) (by kernel_rfl) (by kernel_rfl) (fun _ _ _ h => h) (Or.inl ⟨by rfl, ?_⟩) (by assumption) ?_
            rotate_left
            · intro w hSw
              (try dsimp only at hSw)
              have hm0 := (itm_cells hSw.1).1
              have hm9 := hSw.2
              clear hSw
              go_simp
              (try with_reducible rfl)
            (try simp only [Act.put, List.setIfInBounds_toArray, List.set_cons_zero, List.set_cons_succ])
            refine wpAnyH_done (by kernel_rfl) ?_ _
            clear hHeld p0
            go_upto_region 10 with ((go_at_call 57; refine (ws_byte w.heap.size g (bs ++ (ends.drop d).reverse) (ends.take d) 44 w4.drew HS4.out.drew1 (by have h5 := G5.out; have hd := HDE.out; simp only [List.length_append, List.length_reverse, List.length_drop]; omega) (below_drew1 HB4.out).size).mono ?_; rintro e w9 ⟨rfl, hS9, hB9, hK9⟩; have HI9 : Aside0 (Itm w9 b ⟨(d : Int), f1, f2, f3, f4⟩) := ⟨WK.blk hK9 HI4.out HNG.out (by decide)⟩; have HS9 := Aside0.mk hS9; have HB9 := Aside0.mk ((below_drew1 HB4.out).trans hB9); clear hS9 hB9 hK9))
            have hlen1 : (ends.take d).length = d := by rw [List.length_take]; have := HDE.out; omega
            obtain ⟨w5, hw5⟩ : ∃ w5, w9 = w5 := ⟨_, rfl⟩
            rw [hw5] at HS9 HI9 HB9
            rw [hw5]
            clear hw5
            have HS5 := HS9
            have HI5 := HI9
            have HB5 := HB9
            rcases Nat.eq_zero_or_pos d with hd0 | hd0
            · have hnd : ¬ 0 < d := by omega
              have HKB : Aside0 (keyB (ends.take d) f2 = []) := ⟨by rw [hd0, List.take_zero]; rfl⟩
              clear hd0
              obtain ⟨A2, cc2, c2⟩ := HS5.out.len
              rw [hlen1] at c2
              clear hlen1
              first
              | skip
              obtain ⟨hm0, hm1, hm2, hm3, hm4⟩ := itm_cells HI5.out
              go_wp2_with (go_at_call 73; refine (value_calls_w w.heap.size g (bs ++ (ends.drop d).reverse ++ [44]) (ends.take d) ⟨(d : Int), f1, f2, f3, f4⟩ w5 G23.out HS5.out (by have h5 := G5.out; have hd := HDE.out; skip; simp only [List.length_append, List.length_reverse, List.length_drop, List.length_take, List.length_cons, List.length_nil]; omega) HB5.out.size (HT.out.step HB5.out) G4.out).mono ?_; rintro e w8 ⟨rfl, hS8, hB8, hK8⟩; have HS8 := Aside0.mk hS8; have HB8 := Aside0.mk (HB5.out.trans hB8); clear hS8 hB8 hK8)
              go_roundg (l.length - ((i + 1) + 1))
              case measure => omega
              case rel => exact ⟨(i + 1) + 1, _, _, rfl, hlt, by go_num, HS8, ⟨by rw [HPD.out]; have hF := HF.out; rw [HCM.out, HKB.out] at hF; simpa only [List.append_nil, List.append_assoc] using hF⟩, HB8⟩
            · obtain ⟨q, rfl⟩ : ∃ q, d = q + 1 := ⟨d - 1, by omega⟩
              clear hd0
              have hlast := last_take _ q hlen1
              obtain ⟨gg, cc, c2, c3, _, _, _⟩ := HS5.out.top hlen1
              clear hlen1
              obtain ⟨lc, hlc⟩ : ∃ lc : UInt8, (ends.take (q + 1)).getD q 0 = lc := ⟨_, rfl⟩
              rw [hlc] at c3 hlast
              clear hlc
              have hwq : IntKind.i64.wrap (q : Int) = (q : Int) := IntWalk.i64_in (q : Int) ⟨by omega, by omega⟩
              have hq0 : (0 : Int) ≤ (q : Int) := by omega
              have hq1 : (q : Int) < (q : Int) + 1 := by omega
              by_cases hl125 : lc = 125
              · subst hl125
                have HKB : Aside0 (keyB (ends.take (q + 1)) f2 = (writeS f2).1.data.toList ++ [58]) := ⟨by unfold keyB; rw [if_pos hlast]⟩
                clear hlast
                obtain ⟨hm0, hm1, hm2, hm3, hm4⟩ := itm_cells HI5.out
                go_upto_region 14 with (first | (go_at_call 72; refine (quoted_calls w.heap.size g (bs ++ (ends.drop (q + 1)).reverse ++ [44]) (ends.take (q + 1)) f2 w5 HS5.out (by have h5 := G5.out; have hd := HDE.out; simp only [List.length_append, List.length_reverse, List.length_drop, List.length_take, List.length_cons, List.length_nil]; omega) HB5.out.size (HT.out.step HB5.out).tabs).mono ?_; rintro e w6 ⟨rfl, hS6, hB6, hK6⟩; have HI6 : Aside0 (Itm w6 b ⟨((q + 1 : Nat) : Int), f1, f2, f3, f4⟩) := ⟨WK.blk hK6 HI5.out HNG.out (by decide)⟩; have HS6 := Aside0.mk hS6; have HB6 := Aside0.mk (HB5.out.trans hB6); clear hS6 hB6 hK6) | (go_at_call 57; refine (ws_byte w.heap.size g ((bs ++ (ends.drop (q + 1)).reverse ++ [44]) ++ (writeS f2).1.data.toList) (ends.take (q + 1)) 58 w6 HS6.out (by have h5 := G5.out; have hd := HDE.out; have h6 := inner6 f2; simp only [List.length_append, List.length_reverse, List.length_drop, List.length_take, List.length_cons, List.length_nil]; omega) HB6.out.size).mono ?_; rintro e w7 ⟨rfl, hS7, hB7, hK7⟩; have HI7 : Aside0 (Itm w7 b ⟨((q + 1 : Nat) : Int), f1, f2, f3, f4⟩) := ⟨WK.blk hK7 HI6.out HNG.out (by decide)⟩; have HS7 := Aside0.mk hS7; have HB7 := Aside0.mk (HB6.out.trans hB7); clear hS7 hB7 hK7))
                clear hm0 hm1 hm2 hm3 hm4
                obtain ⟨hm0, hm1, hm2, hm3, hm4⟩ := itm_cells HI7.out
                go_wp2_with (go_at_call 73; refine (value_calls_w w.heap.size g ((bs ++ (ends.drop (q + 1)).reverse ++ [44]) ++ (writeS f2).1.data.toList ++ [58]) (ends.take (q + 1)) ⟨((q + 1 : Nat) : Int), f1, f2, f3, f4⟩ w7 G23.out HS7.out (by have h5 := G5.out; have hd := HDE.out; have h6 := inner6 f2; simp only [List.length_append, List.length_reverse, List.length_drop, List.length_take, List.length_cons, List.length_nil]; omega) HB7.out.size (HT.out.step HB7.out) G4.out).mono ?_; rintro e w8 ⟨rfl, hS8, hB8, hK8⟩; have HS8 := Aside0.mk hS8; have HB8 := Aside0.mk (HB7.out.trans hB8); clear hS8 hB8 hK8)
                go_roundg (l.length - ((i + 1) + 1))
                case measure => omega
                case rel => exact ⟨(i + 1) + 1, _, _, rfl, hlt, by go_num, HS8, ⟨by rw [HPD.out]; have hF := HF.out; rw [HCM.out, HKB.out] at hF; simpa only [List.append_nil, List.append_assoc] using hF⟩, HB8⟩
              · have hne : (lc == 125) = false := beq_eq_false_iff_ne.mpr hl125
                have hne2 : ((lc.toNat : Int) == 125) = false := u8_ne lc hl125
                have HKB : Aside0 (keyB (ends.take (q + 1)) f2 = []) := ⟨by unfold keyB; rw [if_neg (by rw [hlast]; intro e; exact hl125 (Option.some.inj e))]⟩
                clear hlast hl125
                obtain ⟨hm0, hm1, hm2, hm3, hm4⟩ := itm_cells HI5.out
                go_wp2_with (go_at_call 73; refine (value_calls_w w.heap.size g (bs ++ (ends.drop (q + 1)).reverse ++ [44]) (ends.take (q + 1)) ⟨((q + 1 : Nat) : Int), f1, f2, f3, f4⟩ w5 G23.out HS5.out (by have h5 := G5.out; have hd := HDE.out; skip; simp only [List.length_append, List.length_reverse, List.length_drop, List.length_take, List.length_cons, List.length_nil]; omega) HB5.out.size (HT.out.step HB5.out) G4.out).mono ?_; rintro e w8 ⟨rfl, hS8, hB8, hK8⟩; have HS8 := Aside0.mk hS8; have HB8 := Aside0.mk (HB5.out.trans hB8); clear hS8 hB8 hK8)
                go_roundg (l.length - ((i + 1) + 1))
                case measure => omega
                case rel => exact ⟨(i + 1) + 1, _, _, rfl, hlt, by go_num, HS8, ⟨by rw [HPD.out]; have hF := HF.out; rw [HCM.out, HKB.out] at hF; simpa only [List.append_nil, List.append_assoc] using hF⟩, HB8⟩
          · have HCM := Aside0.mk (hcb.trans (if_neg hcm))
            clear hcb
            refine wp_region_held_drew (S := fun w' => Itm w' b ⟨(d : Int), f1, f2, f3, f4⟩ ∧ w'.cell? (ad.add (i * 5)) = some (.int .i64 pf)) (by kernel_rfl) ⟨HI4.out, p0⟩ (fun hHeld => ?_)
            refine wpAnyH_take (i := 0) (oi := { dst := some 23, op := _, type := _, pos := _, after := _, guard := _ }) (v := ?_) rfl (by kernel_rfl) (by kernel_rfl) (by kernel_rfl) (fun _ _ _ h => h) (Or.inl ⟨by rfl, ?_⟩) (by assumption) ?_
            rotate_left
            · intro w hSw
              (try dsimp only at hSw)
              have hm0 := (itm_cells hSw.1).1
              have hm9 := hSw.2
              clear hSw
              go_simp
              (try with_reducible rfl)
            (try simp only [Act.put, List.setIfInBounds_toArray, List.set_cons_zero, List.set_cons_succ])
            refine wpAnyH_take (i := 1) (oi := { dst := some 24, op := _, type := _, pos := _, after := _, guard := _ }) (v := ?_) rfl (by kernel_rfl) (by kernel_rfl) (by kernel_rfl) (fun _ _ _ h => h) (Or.inl ⟨by rfl, ?_⟩) (by assumption) ?_
            rotate_left
            · intro w hSw
              (try dsimp only at hSw)
              have hm0 := (itm_cells hSw.1).1
              have hm9 := hSw.2
              clear hSw
              go_simp
              (try with_reducible rfl)
            (try simp only [Act.put, List.setIfInBounds_toArray, List.set_cons_zero, List.set_cons_succ])
            refine wpAnyH_take (i := 2) (oi := { dst := some 25, op := _, type := _, pos := _, after := _, guard := _ }) (v := ?_) rfl (by kernel_rfl) (by kernel_rfl) (by kernel_rfl) (fun _ _ _ h => h) (Or.inl ⟨by rfl, ?_⟩) (by assumption) ?_
            rotate_left
            · intro w hSw
              (try dsimp only at hSw)
              have hm0 := (itm_cells hSw.1).1
              have hm9 := hSw.2
              clear hSw
              go_simp
              (try with_reducible rfl)
            (try simp only [Act.put, List.setIfInBounds_toArray, List.set_cons_zero, List.set_cons_succ])
            refine wpAnyH_take (i := 3) (oi := { dst := some 26, op := _, type := _, pos := _, after := _, guard := _ }) (v := ?_) rfl (by kernel_rfl) (by kernel_rfl) (by kernel_rfl) (fun _ _ _ h => h) (Or.inl ⟨by rfl, ?_⟩) (by assumption) ?_
            rotate_left
            · intro w hSw
              (try dsimp only at hSw)
              have hm0 := (itm_cells hSw.1).1
              have hm9 := hSw.2
              clear hSw
              go_simp
              (try with_reducible rfl)
            (try simp only [Act.put, List.setIfInBounds_toArray, List.set_cons_zero, List.set_cons_succ])
            refine wpAnyH_take (i := 4) (oi := { dst := some 27, op := _, type := _, pos := _, after := _, guard := _ }) (v := ?_) rfl (by kernel_rfl) (by kernel_rfl) (by kernel_rfl) (fun _ _ _ h => h) (Or.inl ⟨by rfl, ?_⟩) (by assumption) ?_
            rotate_left
            · intro w hSw
              (try dsimp only at hSw)
              have hm0 := (itm_cells hSw.1).1
              have hm9 := hSw.2
              clear hSw
              go_simp
              (try with_reducible rfl)
            (try simp only [Act.put, List.setIfInBounds_toArray, List.set_cons_zero, List.set_cons_succ])
            refine wpAnyH_take (i := 5) (oi := { dst := some 28, op := _, type := _, pos := _, after := _, guard := _ }) (v := ?_) rfl (by kernel_rfl) (by kernel_rfl) (by kernel_rfl) (fun _ _ _ h => h) (Or.inl ⟨by rfl, ?_⟩) (by assumption) ?_
            rotate_left
            · intro w hSw
              (try dsimp only at hSw)
              have hm0 := (itm_cells hSw.1).1
              have hm9 := hSw.2
              clear hSw
              go_simp
              (try with_reducible rfl)
            (try simp only [Act.put, List.setIfInBounds_toArray, List.set_cons_zero, List.set_cons_succ])
            refine wpAnyH_take (i := 6) (oi := { dst := some 29, op := _, type := _, pos := _, after := _, guard := _ }) (v := ?_) rfl (by kernel_rfl) (by kernel_rfl) (by kernel_rfl) (fun _ _ _ h => h) (Or.inl ⟨by rfl, ?_⟩) (by assumption) ?_
            rotate_left
            · intro w hSw
              (try dsimp only at hSw)
              have hm0 := (itm_cells hSw.1).1
              have hm9 := hSw.2
              clear hSw
              go_simp
              (try with_reducible rfl)
            (try simp only [Act.put, List.setIfInBounds_toArray, List.set_cons_zero, List.set_cons_succ])
            refine wpAnyH_take (i := 7) (oi := { dst := some 30, op := _, type := _, pos := _, after := _, guard := _ }) (v := ?_) rfl (by kernel_rfl) (by kernel_rfl) (by kernel_rfl) (fun _ _ _ h => h) (Or.inl ⟨by rfl, ?_⟩) (by assumption) ?_
            rotate_left
            · intro w hSw
              (try dsimp only at hSw)
              have hm0 := (itm_cells hSw.1).1
              have hm9 := hSw.2
              clear hSw
              go_simp
              (try with_reducible rfl)
            (try simp only [Act.put, List.setIfInBounds_toArray, List.set_cons_zero, List.set_cons_succ])
            refine wpAnyH_take (i := 8) (oi := { dst := some 31, op := _, type := _, pos := _, after := _, guard := _ }) (v := ?_) rfl (by kernel_rfl) (by kernel_rfl) (by kernel_rfl) (fun _ _ _ h => h) (Or.inl ⟨by rfl, ?_⟩) (by assumption) ?_
            rotate_left
            · intro w hSw
              (try dsimp only at hSw)
              have hm0 := (itm_cells hSw.1).1
              have hm9 := hSw.2
              clear hSw
              go_simp
              (try with_reducible rfl)
            (try simp only [Act.put, List.setIfInBounds_toArray, List.set_cons_zero, List.set_cons_succ])
            refine wpAnyH_take (i := 9) (oi := { dst := some 32, op := _, type := _, pos := _, after := _, guard := _ }) (v := ?_) rfl (by kernel_rfl) (by kernel_rfl) (by kernel_rfl) (fun _ _ _ h => h) (Or.inl ⟨by rfl, ?_⟩) (by assumption) ?_
            rotate_left
            · intro w hSw
              (try dsimp only at hSw)
              have hm0 := (itm_cells hSw.1).1
              have hm9 := hSw.2
              clear hSw
              go_simp
              (try with_reducible rfl)
            (try simp only [Act.put, List.setIfInBounds_toArray, List.set_cons_zero, List.set_cons_succ])
            refine wpAnyH_take (i := 10) (oi := { dst := some 33, op := _, type := _, pos := _, after := _, guard := _ }) (v := ?_) rfl (by kernel_rfl) (by kernel_rfl) (by kernel_rfl) (fun _ _ _ h => h) (Or.inl ⟨by rfl, ?_⟩) (by assumption) ?_
            rotate_left
            · intro w hSw
              (try dsimp only at hSw)
              have hm0 := (itm_cells hSw.1).1
              have hm9 := hSw.2
              clear hSw
              go_simp
              (try with_reducible rfl)
            (try simp only [Act.put, List.setIfInBounds_toArray, List.set_cons_zero, List.set_cons_succ])
            refine wpAnyH_take (i := 11) (oi := { dst := some 34, op := _, type := _, pos := _, after := _, guard := _ }) (v := ?_) rfl (by kernel_rfl) (by kernel_rfl) (by kernel_rfl) (fun _ _ _ h => h) (Or.inl ⟨by rfl, ?_⟩) (by assumption) ?_
            rotate_left
            · intro w hSw
              (try dsimp only at hSw)
              have hm0 := (itm_cells hSw.1).1
              have hm9 := hSw.2
              clear hSw
              go_simp
              (try with_reducible rfl)
            (try simp only [Act.put, List.setIfInBounds_toArray, List.set_cons_zero, List.set_cons_succ])
            refine wpAnyH_take (i := 12) (oi := { dst := some 35, op := _, type := _, pos := _, after := _, guard := _ }) (v := ?_) rfl (by kernel_rfl) (by kernel_rfl) (by kernel_rfl) (fun _ _ _ h => h) (Or.inl ⟨by rfl, ?_⟩) (by assumption) ?_
            rotate_left
            · intro w hSw
              (try dsimp only at hSw)
              have hm0 := (itm_cells hSw.1).1
              have hm9 := hSw.2
              clear hSw
              go_simp
              (try with_reducible rfl)
            (try simp only [Act.put, List.setIfInBounds_toArray, List.set_cons_zero, List.set_cons_succ])
            refine wpAnyH_done (by kernel_rfl) ?_ _
            clear hHeld p0
            go_upto_region 10 with fail
            have hlen1 : (ends.take d).length = d := by rw [List.length_take]; have := HDE.out; omega
            obtain ⟨w5, hw5⟩ : ∃ w5, w4.drew = w5 := ⟨_, rfl⟩
            have HS4 := Aside0.mk HS4.out.drew1
            have HI4 : Aside0 (Itm w4.drew b ⟨(d : Int), f1, f2, f3, f4⟩) := HI4
            have HB4 := Aside0.mk (below_drew1 HB4.out)
            rw [hw5] at HS4 HI4 HB4
            rw [hw5]
            clear hw5
            have HS5 := HS4
            have HI5 := HI4
            have HB5 := HB4
            rcases Nat.eq_zero_or_pos d with hd0 | hd0
            · have hnd : ¬ 0 < d := by omega
              have HKB : Aside0 (keyB (ends.take d) f2 = []) := ⟨by rw [hd0, List.take_zero]; rfl⟩
              clear hd0
              obtain ⟨A2, cc2, c2⟩ := HS5.out.len
              rw [hlen1] at c2
              clear hlen1
              first
              | skip
              obtain ⟨hm0, hm1, hm2, hm3, hm4⟩ := itm_cells HI5.out
              go_wp2_with (go_at_call 73; refine (value_calls_w w.heap.size g (bs ++ (ends.drop d).reverse) (ends.take d) ⟨(d : Int), f1, f2, f3, f4⟩ w5 G23.out HS5.out (by have h5 := G5.out; have hd := HDE.out; skip; simp only [List.length_append, List.length_reverse, List.length_drop, List.length_take, List.length_cons, List.length_nil]; omega) HB5.out.size (HT.out.step HB5.out) G4.out).mono ?_; rintro e w8 ⟨rfl, hS8, hB8, hK8⟩; have HS8 := Aside0.mk hS8; have HB8 := Aside0.mk (HB5.out.trans hB8); clear hS8 hB8 hK8)
              go_roundg (l.length - ((i + 1) + 1))
              case measure => omega
              case rel => exact ⟨(i + 1) + 1, _, _, rfl, hlt, by go_num, HS8, ⟨by rw [HPD.out]; have hF := HF.out; rw [HCM.out, HKB.out] at hF; simpa only [List.append_nil, List.append_assoc] using hF⟩, HB8⟩
            · obtain ⟨q, rfl⟩ : ∃ q, d = q + 1 := ⟨d - 1, by omega⟩
              clear hd0
              have hlast := last_take _ q hlen1
              obtain ⟨gg, cc, c2, c3, _, _, _⟩ := HS5.out.top hlen1
              clear hlen1
              obtain ⟨lc, hlc⟩ : ∃ lc : UInt8, (ends.take (q + 1)).getD q 0 = lc := ⟨_, rfl⟩
              rw [hlc] at c3 hlast
              clear hlc
              have hwq : IntKind.i64.wrap (q : Int) = (q : Int) := IntWalk.i64_in (q : Int) ⟨by omega, by omega⟩
              have hq0 : (0 : Int) ≤ (q : Int) := by omega
              have hq1 : (q : Int) < (q : Int) + 1 := by omega
              by_cases hl125 : lc = 125
              · subst hl125
                have HKB : Aside0 (keyB (ends.take (q + 1)) f2 = (writeS f2).1.data.toList ++ [58]) := ⟨by unfold keyB; rw [if_pos hlast]⟩
                clear hlast
                obtain ⟨hm0, hm1, hm2, hm3, hm4⟩ := itm_cells HI5.out
                go_upto_region 14 with (first | (go_at_call 72; refine (quoted_calls w.heap.size g (bs ++ (ends.drop (q + 1)).reverse) (ends.take (q + 1)) f2 w5 HS5.out (by have h5 := G5.out; have hd := HDE.out; simp only [List.length_append, List.length_reverse, List.length_drop, List.length_take, List.length_cons, List.length_nil]; omega) HB5.out.size (HT.out.step HB5.out).tabs).mono ?_; rintro e w6 ⟨rfl, hS6, hB6, hK6⟩; have HI6 : Aside0 (Itm w6 b ⟨((q + 1 : Nat) : Int), f1, f2, f3, f4⟩) := ⟨WK.blk hK6 HI5.out HNG.out (by decide)⟩; have HS6 := Aside0.mk hS6; have HB6 := Aside0.mk (HB5.out.trans hB6); clear hS6 hB6 hK6) | (go_at_call 57; refine (ws_byte w.heap.size g ((bs ++ (ends.drop (q + 1)).reverse) ++ (writeS f2).1.data.toList) (ends.take (q + 1)) 58 w6 HS6.out (by have h5 := G5.out; have hd := HDE.out; have h6 := inner6 f2; simp only [List.length_append, List.length_reverse, List.length_drop, List.length_take, List.length_cons, List.length_nil]; omega) HB6.out.size).mono ?_; rintro e w7 ⟨rfl, hS7, hB7, hK7⟩; have HI7 : Aside0 (Itm w7 b ⟨((q + 1 : Nat) : Int), f1, f2, f3, f4⟩) := ⟨WK.blk hK7 HI6.out HNG.out (by decide)⟩; have HS7 := Aside0.mk hS7; have HB7 := Aside0.mk (HB6.out.trans hB7); clear hS7 hB7 hK7))
                clear hm0 hm1 hm2 hm3 hm4
                obtain ⟨hm0, hm1, hm2, hm3, hm4⟩ := itm_cells HI7.out
                go_wp2_with (go_at_call 73; refine (value_calls_w w.heap.size g ((bs ++ (ends.drop (q + 1)).reverse) ++ (writeS f2).1.data.toList ++ [58]) (ends.take (q + 1)) ⟨((q + 1 : Nat) : Int), f1, f2, f3, f4⟩ w7 G23.out HS7.out (by have h5 := G5.out; have hd := HDE.out; have h6 := inner6 f2; simp only [List.length_append, List.length_reverse, List.length_drop, List.length_take, List.length_cons, List.length_nil]; omega) HB7.out.size (HT.out.step HB7.out) G4.out).mono ?_; rintro e w8 ⟨rfl, hS8, hB8, hK8⟩; have HS8 := Aside0.mk hS8; have HB8 := Aside0.mk (HB7.out.trans hB8); clear hS8 hB8 hK8)
                go_roundg (l.length - ((i + 1) + 1))
                case measure => omega
                case rel => exact ⟨(i + 1) + 1, _, _, rfl, hlt, by go_num, HS8, ⟨by rw [HPD.out]; have hF := HF.out; rw [HCM.out, HKB.out] at hF; simpa only [List.append_nil, List.append_assoc] using hF⟩, HB8⟩
              · have hne : (lc == 125) = false := beq_eq_false_iff_ne.mpr hl125
                have hne2 : ((lc.toNat : Int) == 125) = false := u8_ne lc hl125
                have HKB : Aside0 (keyB (ends.take (q + 1)) f2 = []) := ⟨by unfold keyB; rw [if_neg (by rw [hlast]; intro e; exact hl125 (Option.some.inj e))]⟩
                clear hlast hl125
                obtain ⟨hm0, hm1, hm2, hm3, hm4⟩ := itm_cells HI5.out
                go_wp2_with (go_at_call 73; refine (value_calls_w w.heap.size g (bs ++ (ends.drop (q + 1)).reverse) (ends.take (q + 1)) ⟨((q + 1 : Nat) : Int), f1, f2, f3, f4⟩ w5 G23.out HS5.out (by have h5 := G5.out; have hd := HDE.out; skip; simp only [List.length_append, List.length_reverse, List.length_drop, List.length_take, List.length_cons, List.length_nil]; omega) HB5.out.size (HT.out.step HB5.out) G4.out).mono ?_; rintro e w8 ⟨rfl, hS8, hB8, hK8⟩; have HS8 := Aside0.mk hS8; have HB8 := Aside0.mk (HB5.out.trans hB8); clear hS8 hB8 hK8)
                go_roundg (l.length - ((i + 1) + 1))
                case measure => omega
                case rel => exact ⟨(i + 1) + 1, _, _, rfl, hlt, by go_num, HS8, ⟨by rw [HPD.out]; have hF := HF.out; rw [HCM.out, HKB.out] at hF; simpa only [List.append_nil, List.append_assoc] using hF⟩, HB8⟩
      · rw [if_neg hgd] at hF; cases hF
    · have hjl2 : l.drop j = [] := List.drop_eq_nil_of_le (by omega)
      have hF := HF.out
      rw [hjl2, printF] at hF
      have HR := Aside0.mk (Option.some.inj hF)
      clear HF hF hjl2
      have hjl3 : ¬ (j : Int) < (l.length : Int) := by omega
      have HLE : Aside0 (bs.length + ends.length ≤ 140737488355328) := ⟨by have := HR1.out; rw [← HR.out, List.length_append, List.length_reverse] at this; exact this⟩
      go_wp2_with (first
        | (go_at_call 71; refine (shut_calls w.heap.size g bs ends 0 wr HS.out (Nat.zero_le _) HLE.out HB.out.size).mono ?_; rintro e w4 ⟨rfl, hS4, hB4, hK4⟩; rw [List.drop_zero, HR.out] at hS4; have HS4 := Aside0.mk hS4; have HB4 := Aside0.mk (HB.out.trans hB4); clear hS4 hB4 hK4)
        | (go_at_call 55; refine (ws_text w.heap.size g r _ w4 HS4.out HR0.out HR1.out).mono ?_; rintro e w5 ⟨rfl, hB5⟩; have HB5 := Aside0.mk (HB4.out.trans hB5); clear hB5))
      go_ret
      exact ⟨rfl, HB5.out⟩
set_option maxHeartbeats 8000000 in
set_option maxRecDepth 100000 in
theorem print_no (w : World) (A : Option Addr) (c : Nat) (l : List S59) (hC : Kd.C k59 w A l.length l) (hc : l.length ≤ c) (ht : JTabs w) (hr : json_Right.f l = some false) :
    Calls Tryd.prog 47 #[.slice A l.length c] w fun e w' => e = .returned (.string ⟨#[]⟩) ∧ Below w.heap.size w w' := by
  have HC := Aside0.mk hC
  have HT := Aside0.mk ht
  have HRF := Aside0.mk hr
  have HCC := Aside0.mk hc
  clear hC ht hc hr
  go_enter Tryd.func47, Tryd.ntmps47
  go_wp2_with (go_at_call 42; refine (json_Right.calls A c l false _ HC.out HCC.out HRF.out HT.out.tabs).mono ?_; rintro e w1 ⟨rfl, hb1⟩; have HB1 := Aside0.mk hb1; clear hb1)
  go_ret
  exact ⟨rfl, HB1.out⟩
def json_Print.f (l : List S59) : Option ByteArray := (json_Right.f l).bind fun ok => if ok = true then (printF none [] [] l).bind fun r => if r ≠ [] ∧ r.length ≤ 140737488355328 then some ⟨r.toArray⟩ else none else some ⟨#[]⟩
theorem json_Print.calls (A : Option Addr) (c : Nat) (l : List S59) (r : ByteArray) (w : World) (hC : Kd.C k59 w A l.length l) (hc : l.length ≤ c) (h : json_Print.f l = some r) (ht : JTabs w := by first | assumption | (refine JTabs.step (by assumption) ?_; repeat (first | exact Aside0.out (by assumption) | apply below_alloc | apply pw_below_drewN | apply below_drew1 | exact Below.refl _ _))) :
    Calls Tryd.prog 47 #[.slice A l.length c] w fun e w' => e = .returned (.string r) ∧ Below w.heap.size w w' := by
  unfold json_Print.f at h
  obtain ⟨ok, hr, h⟩ := Option.bind_eq_some_iff.1 h
  cases ok with
  | true =>
    rw [if_pos rfl] at h
    obtain ⟨q, hq, h⟩ := Option.bind_eq_some_iff.1 h
    by_cases h0 : q ≠ [] ∧ q.length ≤ 140737488355328
    · rw [if_pos h0] at h
      cases h
      exact print_walk w A c l q hC hc ht hr hq h0.1 h0.2
    · rw [if_neg h0] at h; cases h
  | false =>
    rw [if_neg (by decide)] at h
    cases h
    exact print_no w A c l hC hc ht hr
end Go.Proofs.YthhmmaihbjhhgaaDoor.Giv
namespace Go.Proofs.YthhmmaihbjhhgaaDoor.Giv
open Go.RowKit Go.Proofs.YthhmmaihbjhhgaaDoorW.PrintWords Go.Proofs.YthhmmaihbjhhgaaDoorW.PrintLast Go.Proofs.YthhmmaihbjhhgaaDoorW.PrintMore
open Go.Proofs.YthhmmaihbjhhgaaDoor.U1 Go.Proofs.YthhmmaihbjhhgaaDoor.Q1 Go.Proofs.YthhmmaihbjhhgaaDoor.J0 Go.Proofs.YthhmmaihbjhhgaaDoor.J1
set_option linter.unusedSimpArgs false
set_option linter.unusedVariables false
theorem valid_fs (s : ByteArray) (h : s.size ≤ 9223372036854775807) : utf_Valid.f s = some (Lib.validD s.data.toList) := by
  unfold utf_Valid.f utf8_ValidString.f
  rw [if_pos h]; rfl
theorem valid_e0 : Lib.validD e0.data.toList = true := by decide +kernel
/-- what is behind begins no deeper than that -/
def shallow (l : List S59) (d : Nat) : Prop := ∀ x, l.head? = some x → x.f0 ≤ (d : Int)
theorem right_take (b : Bool) (st : List LvS) (l : List S59) (d : Nat) (h : shallow l d) (hd : d + 1 ≤ st.length) : rightF b st l = rightF b (st.take (d + 1)) l := by
  cases l with
  | nil => rw [rightF, rightF]
  | cons x l =>
    have hx : x.f0 ≤ (d : Int) := h x rfl
    have hlt : (st.take (d + 1)).length = d + 1 := by rw [List.length_take]; omega
    rw [rightF, rightF, hlt]
    by_cases c : x.f0 < 0
    · rw [if_pos (.inl c), if_pos (.inl c)]
    · obtain ⟨n, hn⟩ : ∃ n : Nat, x.f0 = n := ⟨x.f0.toNat, by omega⟩
      have hnd : n ≤ d := by omega
      have e1 : ¬ (st.length : Int) ≤ x.f0 := by omega
      have e2 : ¬ ((d + 1 : Nat) : Int) ≤ x.f0 := by omega
      have e3 : (st.take (d + 1)).getD x.f0.toNat (0, []) = st.getD x.f0.toNat (0, []) := by
        rw [hn, Int.toNat_natCast, List.getD_eq_getElem?_getD, List.getD_eq_getElem?_getD, List.getElem?_take, if_pos (by omega)]
      have e4 : (st.take (d + 1)).take x.f0.toNat = st.take x.f0.toNat := by
        rw [List.take_take, hn, Int.toNat_natCast, Nat.min_eq_left (by omega)]
      rw [e3, e4]
      simp only [c, e1, e2, false_or]
theorem same_refl (x : S59) : sameI x x = true := by
  unfold sameI
  simp
def memOK (k : Int) (keys : List ByteArray) (key : ByteArray) (keys2 : List ByteArray) : Prop := ∀ x : S59, x.f2 = key → memberF k keys x = some (true, keys2)
theorem mem_arr (keys : List ByteArray) : memOK 6 keys e0 keys := by
  intro x hx
  unfold memberF
  rw [if_neg (by decide), hx, Lib.toList_data]; rfl
theorem mem_obj (keys : List ByteArray) (key : ByteArray) (hk : Lib.validD key.data.toList = true) (hn : key ∉ keys) (hs : key.size ≤ 9223372036854775807) (hl : keys.length ≤ 1099511627776) : memOK 7 keys key (keys ++ [key]) := by
  intro x hx
  unfold memberF
  rw [if_pos rfl, hx, valid_fs key hs, hk, Option.bind_some, if_pos rfl, if_neg (fun e => hn ((hasB_iff key keys).1 e)), if_pos (by omega)]
/-- one item: not an opening one -/
theorem right_leaf (st : List LvS) (k : Int) (keys keys2 : List ByteArray) (x : S59) (d : Nat) (l : List S59) (hx0 : x.f0 = d) (hst : st.length = d) (hk1 : 1 ≤ x.f1) (hk5 : x.f1 ≤ 5) (hb : sameI x (bareI x) = true) (hv : utf_Valid.f x.f3 = some true) (hm : memberF k keys x = some (true, keys2)) :
    rightF (d == 0) (st ++ [(k, keys)]) (x :: l) = rightF false (st ++ [(k, keys2)]) l := by
  have hg : (st ++ [(k, keys)]).getD x.f0.toNat (0, []) = (k, keys) := by
    rw [hx0, Int.toNat_natCast, ← hst, List.getD_eq_getElem?_getD, List.getElem?_append_right (Nat.le_refl _), Nat.sub_self]; rfl
  have ht : (st ++ [(k, keys)]).take x.f0.toNat = st := by rw [hx0, Int.toNat_natCast, ← hst, List.take_left]
  have h0 : ((x.f0 == 0) != (d == 0)) = false := by rw [hx0]; cases d with
    | zero => rfl
    | succ d => rfl
  rw [rightF, hg, ht, if_neg (by rw [h0, List.length_append, hst, List.length_singleton]; rintro (a | a | a) <;> first | omega | cases a), if_neg (by rw [hb]; rintro (a | a | a) <;> first | omega | cases a), hv, Option.bind_some, if_neg (by decide), hm, Option.bind_some, if_neg (show ¬ true = false from Bool.noConfusion), if_neg (by unfold holdsI; simp; omega)]
/-- one item that opens -/
theorem right_open (st : List LvS) (k : Int) (keys keys2 : List ByteArray) (ob : Bool) (key : ByteArray) (d : Nat) (l : List S59) (hst : st.length = d) (hd : d < 64) (hm : memOK k keys key keys2) :
    rightF (d == 0) (st ++ [(k, keys)]) (row d (kindOf ob) key e0 0 :: l) = rightF false (st ++ [(k, keys2)] ++ [(kindOf ob, [])]) l := by
  have hg : (st ++ [(k, keys)]).getD ((d : Int)).toNat (0, []) = (k, keys) := by
    rw [Int.toNat_natCast, ← hst, List.getD_eq_getElem?_getD, List.getElem?_append_right (Nat.le_refl _), Nat.sub_self]; rfl
  have ht : (st ++ [(k, keys)]).take ((d : Int)).toNat = st := by rw [Int.toNat_natCast, ← hst, List.take_left]
  have h0 : (((d : Int) == 0) != (d == 0)) = false := by cases d with
    | zero => rfl
    | succ d => rfl
  have hm2 := hm (row d (kindOf ob) key e0 0) rfl
  unfold row at hm2 ⊢
  have hv : utf_Valid.f e0 = some true := by rw [valid_fs e0 (by decide), valid_e0]
  have hbare : sameI ⟨(d : Int), kindOf ob, key, e0, 0⟩ (bareI ⟨(d : Int), kindOf ob, key, e0, 0⟩) = true := by cases ob <;> exact same_refl _
  have hho : holdsI ⟨(d : Int), kindOf ob, key, e0, 0⟩ = true := by cases ob <;> rfl
  have hk : ¬ (kindOf ob < 1) ∧ ¬ (7 < kindOf ob) := by cases ob <;> decide
  rw [rightF]
  simp only
  rw [hg, ht, if_neg (by rw [h0, List.length_append, hst, List.length_singleton]; rintro (a | a | a) <;> first | omega | cases a), if_neg (by rw [hbare]; rintro (a | a | a) <;> first | exact hk.1 a | exact hk.2 a | cases a), hv, Option.bind_some, if_neg (by decide), hm2, Option.bind_some, if_neg (show ¬ true = false from Bool.noConfusion), if_pos hho, if_neg (by omega), List.append_assoc]
  rfl
/-- what Right makes of rows that are a value's, or members' -/
def RP : Node → List S59 → B → Prop
  | .v d key, rows, t => d ≤ 64 → ∀ (st : List LvS) (k : Int) (keys keys2 : List ByteArray) (l : List S59), st.length = d → memOK k keys key keys2 → shallow l d → rightF (d == 0) (st ++ [(k, keys)]) (rows ++ l) = rightF false (st ++ [(k, keys2)]) l
  | .m d ob keys _, rows, t => d ≤ 64 → 1 ≤ d → ∀ (st : List LvS) (l : List S59), st.length = d → keys.length + rows.length ≤ 1099511627776 → shallow l d → ∃ keys', rightF false (st ++ [(kindOf ob, keys)]) (rows ++ l) = rightF false (st ++ [(kindOf ob, keys')]) l
theorem JV.deep {K : Node} {rows : List S59} {t : B} (h : JV K rows t) : match K with
    | .v d _ => ∃ x l, rows = x :: l ∧ x.f0 = d
    | .m d _ _ _ => shallow rows d := by
  induction h with
  | null => exact ⟨_, _, rfl, rfl⟩
  | fls => exact ⟨_, _, rfl, rfl⟩
  | tru => exact ⟨_, _, rfl, rfl⟩
  | num => exact ⟨_, _, rfl, rfl⟩
  | str => exact ⟨_, _, rfl, rfl⟩
  | arr => exact ⟨_, _, rfl, rfl⟩
  | obj => exact ⟨_, _, rfl, rfl⟩
  | none => intro x hx; cases hx
  | elem d keys fst rows t rows' t' hv hm iv im =>
    obtain ⟨x, l, rfl, hx⟩ := iv
    intro y hy
    cases hy
    omega
  | memb d keys fst key hk hn rows t rows' t' hv hm iv im =>
    obtain ⟨x, l, rfl, hx⟩ := iv
    intro y hy
    cases hy
    omega
theorem shallow_app {a l : List S59} {d : Nat} (ha : shallow a d) (hl : shallow l d) : shallow (a ++ l) d := by
  cases a with
  | nil => exact hl
  | cons x a => exact fun y hy => ha y hy
theorem shallow_up {l : List S59} {d : Nat} (h : shallow l d) : shallow l (d + 1) := fun x hx => by have := h x hx; omega
theorem keyOf {d : Nat} {key : ByteArray} {rows : List S59} {t : B} (h : JV (.v d key) rows t) : ∃ x l, rows = x :: l ∧ x.f2 = key := by
  cases h with
  | null => exact ⟨_, _, rfl, rfl⟩
  | fls => exact ⟨_, _, rfl, rfl⟩
  | tru => exact ⟨_, _, rfl, rfl⟩
  | num => exact ⟨_, _, rfl, rfl⟩
  | str => exact ⟨_, _, rfl, rfl⟩
  | arr => exact ⟨_, _, rfl, rfl⟩
  | obj => exact ⟨_, _, rfl, rfl⟩
theorem JV.right {K : Node} {rows : List S59} {t : B} (h : JV K rows t) (hz : ∀ x ∈ rows, x.f2.size ≤ 1099511627776 ∧ x.f3.size ≤ 1099511627776) (hl : rows.length ≤ 1099511627776) : RP K rows t := by
  induction h with
  | null d key =>
    intro _ st k keys keys2 l hst hm _
    exact right_leaf st k keys keys2 _ d l rfl hst (show (1 : Int) ≤ 1 by decide) (show (1 : Int) ≤ 5 by decide) (same_refl _) (by rw [show (row d 1 key e0 0).f3 = e0 from rfl, valid_fs e0 (by decide), valid_e0]) (hm _ rfl)
  | fls d key =>
    intro _ st k keys keys2 l hst hm _
    exact right_leaf st k keys keys2 _ d l rfl hst (show (1 : Int) ≤ 2 by decide) (show (2 : Int) ≤ 5 by decide) (same_refl _) (by rw [show (row d 2 key e0 0).f3 = e0 from rfl, valid_fs e0 (by decide), valid_e0]) (hm _ rfl)
  | tru d key =>
    intro _ st k keys keys2 l hst hm _
    exact right_leaf st k keys keys2 _ d l rfl hst (show (1 : Int) ≤ 3 by decide) (show (3 : Int) ≤ 5 by decide) (same_refl _) (by rw [show (row d 3 key e0 0).f3 = e0 from rfl, valid_fs e0 (by decide), valid_e0]) (hm _ rfl)
  | num d key v hv =>
    intro _ st k keys keys2 l hst hm _
    exact right_leaf st k keys keys2 _ d l rfl hst (show (1 : Int) ≤ 4 by decide) (show (4 : Int) ≤ 5 by decide) (same_refl _) (by rw [show (row d 4 key e0 v).f3 = e0 from rfl, valid_fs e0 (by decide), valid_e0]) (hm _ rfl)
  | str d key s hs =>
    intro _ st k keys keys2 l hst hm _
    have := (hz _ List.mem_cons_self).2
    exact right_leaf st k keys keys2 _ d l rfl hst (show (1 : Int) ≤ 5 by decide) (show (5 : Int) ≤ 5 by decide) (same_refl _) (by rw [show (row d 5 key s 0).f3 = s from rfl, valid_fs s (by have h2 : s.size ≤ 1099511627776 := this; omega), hs]) (hm _ rfl)
  | arr d key rows t h hm im =>
    intro hd st k keys keys2 l hst hmk hsh
    have ihm := im (fun x hx => hz x (List.mem_cons_of_mem _ hx)) (by rw [List.length_cons] at hl; omega)
    rw [List.cons_append]
    refine (right_open st k keys keys2 false key d (rows ++ l) hst h hmk).trans ?_
    obtain ⟨keys', he⟩ := ihm (by omega) (by omega) (st ++ [(k, keys2)]) l (by rw [List.length_append, hst]; rfl) (by rw [List.length_cons] at hl; simp only [List.length_nil]; omega) (shallow_up hsh)
    refine he.trans ?_
    rw [right_take false _ l d hsh (by simp only [List.length_append, hst, List.length_singleton]; omega)]
    congr 1
    rw [List.take_append_of_le_length (by rw [List.length_append, hst, List.length_singleton]; omega), List.take_of_length_le (by rw [List.length_append, hst, List.length_singleton]; omega)]
  | obj d key rows t h hm im =>
    intro hd st k keys keys2 l hst hmk hsh
    have ihm := im (fun x hx => hz x (List.mem_cons_of_mem _ hx)) (by rw [List.length_cons] at hl; omega)
    rw [List.cons_append]
    refine (right_open st k keys keys2 true key d (rows ++ l) hst h hmk).trans ?_
    obtain ⟨keys', he⟩ := ihm (by omega) (by omega) (st ++ [(k, keys2)]) l (by rw [List.length_append, hst]; rfl) (by rw [List.length_cons] at hl; simp only [List.length_nil]; omega) (shallow_up hsh)
    refine he.trans ?_
    rw [right_take false _ l d hsh (by simp only [List.length_append, hst, List.length_singleton]; omega)]
    congr 1
    rw [List.take_append_of_le_length (by rw [List.length_append, hst, List.length_singleton]; omega), List.take_of_length_le (by rw [List.length_append, hst, List.length_singleton]; omega)]
  | none d ob keys fst =>
    intro _ _ st l _ _ _
    exact ⟨keys, rfl⟩
  | elem d keys fst rows t rows' t' hv hm iv im =>
    intro hd hd1 st l hst hkl hsh
    simp only [List.length_append] at hl hkl
    have ihv := iv (fun x hx => hz x (List.mem_append_left _ hx)) (by omega) hd st 6 keys keys (rows' ++ l) hst (mem_arr keys) (shallow_app hm.deep hsh)
    obtain ⟨keys', he⟩ := im (fun x hx => hz x (List.mem_append_right _ hx)) (by omega) hd hd1 st l hst (by omega) hsh
    refine ⟨keys', ?_⟩
    rw [List.append_assoc]
    rw [show (d == 0) = false by cases d with | zero => omega | succ d => rfl] at ihv
    exact ihv.trans he
  | memb d keys fst key hk hn rows t rows' t' hv hm iv im =>
    intro hd hd1 st l hst hkl hsh
    simp only [List.length_append] at hl hkl
    obtain ⟨x, xl, hx, _⟩ := hv.deep
    have hr1 : 1 ≤ rows.length := by rw [hx]; simp
    have hks : key.size ≤ 9223372036854775807 := by
      have := keyOf hv
      obtain ⟨y, yl, hy, hy2⟩ := this
      have h3 := (hz y (List.mem_append_left _ (by rw [hy]; exact List.mem_cons_self))).1
      rw [hy2] at h3; omega
    have ihv := iv (fun x hx => hz x (List.mem_append_left _ hx)) (by omega) hd st 7 keys (keys ++ [key]) (rows' ++ l) hst (mem_obj keys key hk hn hks (by omega)) (shallow_app hm.deep hsh)
    obtain ⟨keys', he⟩ := im (fun x hx => hz x (List.mem_append_right _ hx)) (by omega) hd hd1 st l hst (by rw [List.length_append, List.length_singleton]; omega) hsh
    refine ⟨keys', ?_⟩
    rw [List.append_assoc]
    rw [show (d == 0) = false by cases d with | zero => omega | succ d => rfl] at ihv
    exact ihv.trans he
end Go.Proofs.YthhmmaihbjhhgaaDoor.Giv
namespace Go.Proofs.YthhmmaihbjhhgaaDoor.Giv
open Go.RowKit Go.Proofs.YthhmmaihbjhhgaaDoorW.PrintWords Go.Proofs.YthhmmaihbjhhgaaDoorW.PrintLast Go.Proofs.YthhmmaihbjhhgaaDoorW.PrintMore
open Go.Proofs.YthhmmaihbjhhgaaDoor.U1 Go.Proofs.YthhmmaihbjhhgaaDoor.Q1 Go.Proofs.YthhmmaihbjhhgaaDoor.J0 Go.Proofs.YthhmmaihbjhhgaaDoor.J1
set_option linter.unusedSimpArgs false
set_option linter.unusedVariables false
theorem itoa_pos (n : Int) : 1 ≤ (Lib.itoa n).length := by
  obtain ⟨c, r, h, _⟩ := itoa_first n
  rw [h]; simp
theorem quoted_ge (s : ByteArray) : s.size + 2 ≤ (quoted s.data.toList).length := by
  rw [quoted_len]
  have := inner_ge s.data.toList
  rw [data_length] at this
  omega
/-- a text has at least a byte for each row; keys and texts are no longer than it -/
theorem JV.small {K : Node} {rows : List S59} {t : B} (h : JV K rows t) : rows.length ≤ t.length ∧ ∀ x ∈ rows, x.f3.size ≤ t.length ∧ x.f2.size ≤ t.length + (match K with | .v _ key => key.size | .m _ _ _ _ => 0) := by
  induction h with
  | null d key => exact ⟨(show (1 : Nat) ≤ 4 by decide), fun x hx => by obtain rfl := List.mem_singleton.1 hx; exact ⟨Nat.zero_le _, by show key.size ≤ _ + key.size; omega⟩⟩
  | fls d key => exact ⟨(show (1 : Nat) ≤ 5 by decide), fun x hx => by obtain rfl := List.mem_singleton.1 hx; exact ⟨Nat.zero_le _, by show key.size ≤ _ + key.size; omega⟩⟩
  | tru d key => exact ⟨(show (1 : Nat) ≤ 4 by decide), fun x hx => by obtain rfl := List.mem_singleton.1 hx; exact ⟨Nat.zero_le _, by show key.size ≤ _ + key.size; omega⟩⟩
  | num d key n h => exact ⟨itoa_pos n, fun x hx => by obtain rfl := List.mem_singleton.1 hx; exact ⟨Nat.zero_le _, by show key.size ≤ _ + key.size; omega⟩⟩
  | str d key s h => exact ⟨by have := quoted_ge s; rw [List.length_singleton]; omega, fun x hx => by obtain rfl := List.mem_singleton.1 hx; exact ⟨by have := quoted_ge s; show s.size ≤ _; omega, by show key.size ≤ _ + key.size; omega⟩⟩
  | arr d key rows t h hm im =>
    refine ⟨by have := im.1; simp only [List.length_cons, List.length_append, List.length_nil]; omega, fun x hx => ?_⟩
    rcases List.mem_cons.1 hx with rfl | hx
    · exact ⟨Nat.zero_le _, by show key.size ≤ _ + key.size; omega⟩
    · have := im.2 x hx
      simp only [List.length_cons, List.length_append, List.length_nil] at this ⊢; omega
  | obj d key rows t h hm im =>
    refine ⟨by have := im.1; simp only [List.length_cons, List.length_append, List.length_nil]; omega, fun x hx => ?_⟩
    rcases List.mem_cons.1 hx with rfl | hx
    · exact ⟨Nat.zero_le _, by show key.size ≤ _ + key.size; omega⟩
    · have := im.2 x hx
      simp only [List.length_cons, List.length_append, List.length_nil] at this ⊢; omega
  | none => exact ⟨Nat.le_refl _, fun x hx => by cases hx⟩
  | elem d keys fst rows t rows' t' hv hm iv im =>
    refine ⟨by have := iv.1; have := im.1; simp only [List.length_append]; omega, fun x hx => ?_⟩
    rcases List.mem_append.1 hx with hx | hx
    · have := iv.2 x hx
      have he : e0.size = 0 := rfl
      simp only [List.length_append, he] at this ⊢; omega
    · have := im.2 x hx
      simp only [List.length_append] at this ⊢; omega
  | memb d keys fst key hk hn rows t rows' t' hv hm iv im =>
    refine ⟨by have := iv.1; have := im.1; simp only [List.length_append, List.length_cons]; omega, fun x hx => ?_⟩
    have hq := quoted_ge key
    rcases List.mem_append.1 hx with hx | hx
    · have := iv.2 x hx
      simp only [List.length_append, List.length_cons] at this ⊢; omega
    · have := im.2 x hx
      simp only [List.length_append, List.length_cons] at this ⊢; omega
/-- what Print makes of rows that are a value's, or members' -/
def PP : Node → List S59 → B → Prop
  | .v d key, rows, t => ∀ (prev : Option Int) (bs ends : B) (l : List S59), d ≤ ends.length → key.size ≤ 1099511627776 → bs.length + ends.length + (commaB prev d).length + (keyB (ends.take d) key).length + t.length ≤ 1099511627776 → ∃ (p : Int) (bs' ends' : B), (d : Int) ≤ p ∧ printF prev bs ends (rows ++ l) = printF (some p) bs' ends' l ∧ d ≤ ends'.length ∧ ends'.take d = ends.take d ∧ bs' ++ (ends'.drop d).reverse = bs ++ (ends.drop d).reverse ++ commaB prev d ++ keyB (ends.take d) key ++ t
  | .m d ob keys fst, rows, t => ∀ (p : Int) (bs ends : B) (l : List S59), d ≤ ends.length → (ends.take d).getLast? = some (enB ob) → (if fst then p = d - 1 else d ≤ p) → bs.length + ends.length + t.length ≤ 1099511627776 → ∃ (p' : Int) (bs' ends' : B), (d : Int) - 1 ≤ p' ∧ printF (some p) bs ends (rows ++ l) = printF (some p') bs' ends' l ∧ d ≤ ends'.length ∧ ends'.take d = ends.take d ∧ bs' ++ (ends'.drop d).reverse = bs ++ (ends.drop d).reverse ++ t
/-- one item -/
theorem print_one (prev : Option Int) (bs ends : B) (x : S59) (l : List S59) (d : Nat) (hx : x.f0 = d) (hd : d ≤ ends.length) (hk : 1 ≤ x.f1 ∧ x.f1 ≤ 7) (h4 : I64 x.f4) (hl : bs.length + ends.length + sizeI x ≤ 140737488355328) :
    printF prev bs ends (x :: l) = printF (some (d : Int)) (bs ++ (ends.drop d).reverse ++ commaB prev d ++ keyB (ends.take d) x.f2 ++ valB x) (ends.take d ++ endB x) l := by
  rw [printF, if_pos ⟨by omega, by omega, hk.1, hk.2, h4, hl⟩, hx, Int.toNat_natCast]
theorem take_len (l : B) (d : Nat) (h : d ≤ l.length) : (l.take d).length = d := by rw [List.length_take]; omega
theorem pp_leaf (d : Nat) (key : ByteArray) (x : S59) (t : B) (hx : x.f0 = d) (hk : 1 ≤ x.f1 ∧ x.f1 ≤ 5) (h2 : x.f2 = key) (h4 : I64 x.f4) (h3 : x.f3.size ≤ t.length) (hv : valB x = t) : PP (.v d key) [x] t := by
  intro prev bs ends l hd hks hl
  have he : endB x = [] := by unfold endB; rw [if_neg (by omega), if_neg (by omega)]
  have ht := take_len ends d hd
  have hdr : (ends.take d).drop d = [] := List.drop_eq_nil_of_le (by omega)
  refine ⟨d, _, _, Int.le_refl _, print_one prev bs ends x l d hx hd ⟨hk.1, by omega⟩ h4 (by unfold sizeI; rw [h2]; omega), ?_, ?_, ?_⟩
  · rw [he, List.append_nil]; omega
  · rw [he, List.append_nil, List.take_take, Nat.min_self]
  · rw [he, List.append_nil, hv, h2, hdr, List.reverse_nil, List.append_nil]
theorem pp_open (d : Nat) (key : ByteArray) (ob : Bool) (rows : List S59) (t : B) (im : PP (.m (d + 1) ob [] true) rows t) : PP (.v d key) (row d (kindOf ob) key e0 0 :: rows) ((if ob then 123 else 91) :: (t ++ [enB ob])) := by
  intro prev bs ends l hd hks hl
  simp only [List.length_cons, List.length_append, List.length_nil] at hl
  have hkk : 1 ≤ (row d (kindOf ob) key e0 0).f1 ∧ (row d (kindOf ob) key e0 0).f1 ≤ 7 := by
    show 1 ≤ kindOf ob ∧ kindOf ob ≤ 7
    cases ob <;> decide
  have h1 := print_one prev bs ends (row d (kindOf ob) key e0 0) (rows ++ l) d rfl hd hkk (show I64 0 from ⟨by decide, by decide⟩) (by show _ + (6 * key.size + 6 * 0 + 200) ≤ _; omega)
  have hv : valB (row d (kindOf ob) key e0 0) = [if ob then 123 else 91] := by cases ob <;> rfl
  have he : endB (row d (kindOf ob) key e0 0) = [enB ob] := by cases ob <;> rfl
  rw [hv, he, show (row d (kindOf ob) key e0 0).f2 = key from rfl] at h1
  have hlt := take_len ends d hd
  have hlt2 : (ends.take d ++ [enB ob]).length = d + 1 := by rw [List.length_append, hlt, List.length_singleton]
  have htt : (ends.take d ++ [enB ob]).take (d + 1) = ends.take d ++ [enB ob] := List.take_of_length_le (by omega)
  have hdd0 : (ends.take d ++ [enB ob]).drop (d + 1) = [] := List.drop_eq_nil_of_le (by omega)
  obtain ⟨p', bs', ends', f0, f1, f2, f3, f4⟩ := im d (bs ++ (ends.drop d).reverse ++ commaB prev d ++ keyB (ends.take d) key ++ [if ob then 123 else 91]) (ends.take d ++ [enB ob]) l (by omega)
    (by rw [htt]; simp) (by rw [if_pos rfl]; omega) (by simp only [List.length_append, List.length_reverse, List.length_drop, hlt, List.length_singleton]; omega)
  rw [htt] at f3
  rw [hdd0, List.reverse_nil, List.append_nil] at f4
  have hsp : ends' = ends.take d ++ ([enB ob] ++ ends'.drop (d + 1)) := by
    have e1 := List.take_append_drop (d + 1) ends'
    rw [f3, List.append_assoc] at e1
    exact e1.symm
  have hdd : ends'.drop d = [enB ob] ++ ends'.drop (d + 1) := by
    have e2 := List.drop_left (l₁ := ends.take d) (l₂ := [enB ob] ++ ends'.drop (d + 1))
    rw [← hsp, hlt] at e2
    exact e2
  have htd : ends'.take d = ends.take d := by
    have e2 := List.take_left (l₁ := ends.take d) (l₂ := [enB ob] ++ ends'.drop (d + 1))
    rw [← hsp, hlt] at e2
    exact e2
  refine ⟨p', bs', ends', by omega, by rw [List.cons_append]; exact h1.trans f1, by omega, htd, ?_⟩
  rw [hdd, List.reverse_append, ← List.append_assoc, f4]
  simp
theorem JV.print {K : Node} {rows : List S59} {t : B} (h : JV K rows t) : PP K rows t := by
  induction h with
  | null d key => exact pp_leaf d key _ _ rfl ⟨show (1 : Int) ≤ 1 by decide, show (1 : Int) ≤ 5 by decide⟩ rfl (show I64 0 from ⟨by decide, by decide⟩) (Nat.zero_le _) rfl
  | fls d key => exact pp_leaf d key _ _ rfl ⟨show (1 : Int) ≤ 2 by decide, show (2 : Int) ≤ 5 by decide⟩ rfl (show I64 0 from ⟨by decide, by decide⟩) (Nat.zero_le _) rfl
  | tru d key => exact pp_leaf d key _ _ rfl ⟨show (1 : Int) ≤ 3 by decide, show (3 : Int) ≤ 5 by decide⟩ rfl (show I64 0 from ⟨by decide, by decide⟩) (Nat.zero_le _) rfl
  | num d key n h => exact pp_leaf d key _ _ rfl ⟨show (1 : Int) ≤ 4 by decide, show (4 : Int) ≤ 5 by decide⟩ rfl h (Nat.zero_le _) rfl
  | str d key s h =>
    refine pp_leaf d key _ _ rfl ⟨show (1 : Int) ≤ 5 by decide, show (5 : Int) ≤ 5 by decide⟩ rfl (show I64 0 from ⟨by decide, by decide⟩) (by have := quoted_ge s; show s.size ≤ _; omega) ?_
    show (writeS s).1.data.toList = _
    rw [writeS_yes s h]
  | arr d key rows t h hm im => exact pp_open d key false rows t im
  | obj d key rows t h hm im => exact pp_open d key true rows t im
  | none d ob keys fst =>
    intro p bs ends l hd _ hp _
    exact ⟨p, bs, ends, by cases fst <;> simp at hp <;> omega, rfl, hd, rfl, by rw [List.append_nil]⟩
  | elem d keys fst rows t rows' t' hv hm iv im =>
    intro p bs ends l hd hla hp hl
    have hc : commaB (some p) (d : Int) = sepa fst := by
      unfold commaB sepa
      cases fst with
      | true => rw [if_pos rfl] at hp; simp only; rw [if_neg (by omega)]; rfl
      | false => rw [if_neg (by decide)] at hp; simp only; rw [if_pos hp]; rfl
    have hk : keyB (ends.take d) e0 = [] := by unfold keyB; rw [hla, if_neg (by decide)]
    simp only [List.length_append] at hl
    obtain ⟨p1, b1, en1, f0, f1, f2, f3, f4⟩ := iv (some p) bs ends (rows' ++ l) hd (Nat.zero_le _) (by rw [hc, hk, List.length_nil]; omega)
    rw [hc, hk, List.append_nil] at f4
    have fl := congrArg List.length f4
    simp only [List.length_append, List.length_reverse, List.length_drop] at fl
    obtain ⟨p2, b2, en2, g0, g1, g2, g3, g4⟩ := im p1 b1 en1 l f2 (by rw [f3]; exact hla) (by rw [if_neg (by decide)]; exact f0) (by omega)
    refine ⟨p2, b2, en2, g0, by rw [List.append_assoc]; exact f1.trans g1, g2, g3.trans f3, ?_⟩
    rw [g4, f4]
    simp
  | memb d keys fst key hk0 hn rows t rows' t' hv hm iv im =>
    intro p bs ends l hd hla hp hl
    have hc : commaB (some p) (d : Int) = sepa fst := by
      unfold commaB sepa
      cases fst with
      | true => rw [if_pos rfl] at hp; simp only; rw [if_neg (by omega)]; rfl
      | false => rw [if_neg (by decide)] at hp; simp only; rw [if_pos hp]; rfl
    have hk : keyB (ends.take d) key = quoted key.data.toList ++ [58] := by unfold keyB; rw [hla, if_pos (show some (enB true) = some 125 from rfl), writeS_yes key hk0]
    have hq := quoted_ge key
    simp only [List.length_append, List.length_cons] at hl
    obtain ⟨p1, b1, en1, f0, f1, f2, f3, f4⟩ := iv (some p) bs ends (rows' ++ l) hd (by omega) (by rw [hc, hk, List.length_append, List.length_singleton]; omega)
    rw [hc, hk] at f4
    have fl := congrArg List.length f4
    simp only [List.length_append, List.length_reverse, List.length_drop, List.length_singleton] at fl
    obtain ⟨p2, b2, en2, g0, g1, g2, g3, g4⟩ := im p1 b1 en1 l f2 (by rw [f3]; exact hla) (by rw [if_neg (by decide)]; exact f0) (by omega)
    refine ⟨p2, b2, en2, g0, by rw [List.append_assoc]; exact f1.trans g1, g2, g3.trans f3, ?_⟩
    rw [g4, f4]
    simp
theorem JV.right_f {rows : List S59} {t : B} (h : JV (.v 0 e0) rows t) (hl : t.length ≤ 1099511627776) : json_Right.f rows = some true := by
  obtain ⟨h1, h2⟩ := h.small
  have hr := h.right (fun x hx => by have := h2 x hx; have he : e0.size = 0 := rfl; simp only [he] at this; omega) (by omega) (by omega) [] 6 [] [] [] rfl (mem_arr []) (fun x hx => by cases hx)
  rw [List.append_nil, List.nil_append] at hr
  obtain ⟨x, xl, hx, _⟩ := h.deep
  unfold json_Right.f
  rw [if_pos (by omega), show rightF true [(6, [])] rows = some true from hr.trans (by rw [rightF])]
  show some (true && decide (0 < rows.length)) = _
  rw [Bool.true_and, decide_eq_true (by rw [hx]; simp)]
theorem JV.ne {rows : List S59} {t : B} {d : Nat} {key : ByteArray} (h : JV (.v d key) rows t) : t ≠ [] := by
  obtain ⟨c, r, hc, _⟩ := h.first
  rw [hc]; simp
theorem JV.print_f {rows : List S59} {t : B} (h : JV (.v 0 e0) rows t) (hl : t.length ≤ 1099511627776) : json_Print.f rows = some ⟨t.toArray⟩ := by
  obtain ⟨p, bs', ends', _, h1, _, _, h2⟩ := h.print Option.none [] [] [] (Nat.le_refl _) (Nat.zero_le _) (by show 0 + 0 + 0 + 0 + _ ≤ _; omega)
  rw [List.append_nil] at h1
  have h3 : bs' ++ ends'.reverse = t := h2
  have h4 : printF Option.none [] [] rows = some t := by rw [h1, printF, h3]
  unfold json_Print.f
  rw [h.right_f hl, Option.bind_some, if_pos rfl, h4, Option.bind_some, if_pos ⟨h.ne, by omega⟩]
end Go.Proofs.YthhmmaihbjhhgaaDoor.Giv
namespace Go.Proofs.YthhmmaihbjhhgaaDoor.Giv
open Go.RowKit Go.Proofs.YthhmmaihbjhhgaaDoorW.PrintWords Go.Proofs.YthhmmaihbjhhgaaDoorW.PrintLast Go.Proofs.YthhmmaihbjhhgaaDoorW.PrintMore
open Go.Proofs.YthhmmaihbjhhgaaDoor.U1 Go.Proofs.YthhmmaihbjhhgaaDoor.Q1 Go.Proofs.YthhmmaihbjhhgaaDoor.J0 Go.Proofs.YthhmmaihbjhhgaaDoor.J1
theorem key_sim (s : ByteArray) (p : Nat) (l : B) (keys : List ByteArray) (h : s.data.toList.drop p = l) (hp : p ≤ s.size) (hs : s.size ≤ 1099511627776) (k : Nat) (hk : s.size + 20 < k) :
    ∃ t p', keyF k s p keys = some (t, (pk l keys).2.2, p') ∧ p' ≤ s.size ∧ ((pk l keys).2.2 = 0 → t = (pk l keys).1 ∧ s.data.toList.drop p' = (pk l keys).2.1) := by
  obtain ⟨h1, h2, h3, h4⟩ := drop_sk s p l h hp
  unfold keyF pk
  rw [h2]
  by_cases c1 : hd l = 34
  · rw [if_pos c1, if_pos c1]
    obtain ⟨r, hq, e1, e2, e3, e4⟩ := rq_sim s (skipP s p) (sk l) h1 h3 (by omega) c1 k hk
    rw [hq, Option.bind_some, if_pos ⟨e2, e3⟩, e1]
    by_cases c2 : (rq (sk l)).2.2 = 0
    · obtain ⟨f1, f2⟩ := e4 (e1.trans c2)
      obtain ⟨t1, t2, t3⟩ := takes_sim s (skipP s p + r.2.1.toNat) (rq (sk l)).2.1 58 f2 (by omega)
      rw [if_pos c2, if_pos c2, f1]
      by_cases c3 : hasB ⟨(rq (sk l)).1.toArray⟩ keys = true
      · rw [if_pos c3, if_pos c3]
        exact ⟨_, _, rfl, by omega, fun e => absurd e (by decide)⟩
      · rw [if_neg c3, if_neg c3, t1]
        by_cases c4 : (tk1 (rq (sk l)).2.1 58).1 = true
        · rw [if_pos c4, if_pos c4]
          exact ⟨_, _, rfl, t3, fun _ => ⟨rfl, t2⟩⟩
        · rw [if_neg c4, if_neg c4]
          exact ⟨_, _, rfl, t3, fun e => absurd e (by decide)⟩
    · rw [if_neg c2, if_neg c2]
      exact ⟨_, _, rfl, by omega, fun e => absurd e c2⟩
  · rw [if_neg c1, if_neg c1]
    exact ⟨_, _, rfl, h3, fun e => absurd e (by decide)⟩
/-- what a run of the program's parser says of the plain one's -/
def Sim (s : ByteArray) (out : List S59) (f : Option Res) (r : Int × B × List S59) : Prop :=
  ∃ p' o', f = some (r.1, p', o') ∧ p' ≤ s.size ∧ (r.1 = 0 → s.data.toList.drop p' = r.2.1 ∧ o' = out ++ r.2.2)
def SV (n C : Nat) (s : ByteArray) : Prop := ∀ l d key p out, s.data.toList.drop p = l → p ≤ s.size → d ≤ 64 → out.length + l.length ≤ 1099511627776 → (pv n l d key).1 ≠ -1 → Sim s out (valueF (n + C) s p out ⟨(d : Int), 0, key, ⟨#[]⟩, 0⟩) (pv n l d key)
def SM (n C : Nat) (s : ByteArray) : Prop := ∀ l d ob key p out, s.data.toList.drop p = l → p ≤ s.size → d < 64 → out.length + l.length ≤ 1099511627776 → (pms n l d ob).1 ≠ -1 → Sim s out (membersF (n + C) s p out ⟨(d : Int), kindOf ob, key, ⟨#[]⟩, 0⟩ (en ob)) (pms n l d ob)
def SL (n C : Nat) (s : ByteArray) : Prop := ∀ l d ob key keys p out, s.data.toList.drop p = l → p ≤ s.size → d < 64 → out.length + l.length ≤ 1099511627776 → keys.length + l.length ≤ 1099511627776 → (pml n l d ob keys).1 ≠ -1 → Sim s out (membersL (n + C) s p out ⟨(d : Int), kindOf ob, key, ⟨#[]⟩, 0⟩ (en ob) keys) (pml n l d ob keys)
theorem after_sim (n C : Nat) (s : ByteArray) (hV : SV n C s) (hL : SL n C s) (l : B) (d : Nat) (ob : Bool) (key0 key : ByteArray) (keys : List ByteArray) (p : Nat) (out : List S59) (h : s.data.toList.drop p = l) (hp : p ≤ s.size) (hd' : d < 64) (ho : out.length + l.length ≤ 1099511627776) (hk : keys.length + l.length ≤ 1099511627777)
    (hr : (pma (fun x => pml n x d ob keys) (pv n l (d + 1) key) ob).1 ≠ -1) :
    Sim s out (afterKey (fun p o y => valueF (n + C) s p o y) (fun p o ks => membersL (n + C) s p o ⟨(d : Int), kindOf ob, key0, ⟨#[]⟩, 0⟩ (en ob) ks) s ⟨(d : Int), kindOf ob, key0, ⟨#[]⟩, 0⟩ (en ob) p out keys key) (pma (fun x => pml n x d ob keys) (pv n l (d + 1) key) ob) := by
  have hv1 : (pv n l (d + 1) key).1 ≠ -1 := by
    intro e
    apply hr
    unfold pma
    rw [if_neg (by omega)]
    exact e
  obtain ⟨p1, o1, e1, e2, e3⟩ := hV l (d + 1) key p out h hp (by omega) ho hv1
  unfold afterKey
  simp only
  rw [show ((d : Int) + 1) = ((d + 1 : Nat) : Int) by omega, e1, Option.bind_some]
  simp only
  rw [if_pos e2]
  unfold pma at hr ⊢
  by_cases c1 : (pv n l (d + 1) key).1 = 0
  · rw [if_pos c1] at hr
    rw [if_pos c1, if_pos c1]
    obtain ⟨f1, rfl⟩ := e3 c1
    have hlen := (p_len n).1 l (d + 1) key c1
    obtain ⟨t1, t2, t3⟩ := takes_sim s p1 (pv n l (d + 1) key).2.1 (en ob) f1 e2
    obtain ⟨u1, u2, u3⟩ := takes_sim s (takesP s p1 (en ob)).2 (tk1 (pv n l (d + 1) key).2.1 (en ob)).2 44 t2 t3
    have g1 := tk1_len (pv n l (d + 1) key).2.1 (en ob)
    have g2 := tk1_len (tk1 (pv n l (d + 1) key).2.1 (en ob)).2 44
    unfold cont at hr ⊢
    rw [t1]
    by_cases c2 : (tk1 (pv n l (d + 1) key).2.1 (en ob)).1 = true
    · rw [if_pos c2, if_pos c2]
      exact ⟨_, _, rfl, t3, fun _ => ⟨t2, by simp⟩⟩
    · rw [if_neg c2] at hr
      rw [if_neg c2, if_neg c2, u1]
      by_cases c3 : (tk1 (tk1 (pv n l (d + 1) key).2.1 (en ob)).2 44).1 = true
      · rw [if_pos c3] at hr
        rw [if_pos c3, if_pos c3]
        have g3 := g2.2 c3
        obtain ⟨p2, o2, i1, i2, i3⟩ := hL (tk1 (tk1 (pv n l (d + 1) key).2.1 (en ob)).2 44).2 d ob key0 keys (takesP s (takesP s p1 (en ob)).2 44).2 (out ++ (pv n l (d + 1) key).2.2) u2 u3 hd' (by rw [List.length_append]; omega) (by omega) hr
        refine ⟨p2, o2, i1, i2, fun e => ?_⟩
        obtain ⟨j1, j2⟩ := i3 e
        exact ⟨j1, by rw [j2, List.append_assoc]⟩
      · rw [if_neg c3, if_neg c3]
        exact ⟨_, _, rfl, u3, fun e => absurd e (by simp)⟩
  · rw [if_neg c1, if_neg c1]
    exact ⟨_, _, rfl, e2, fun e => absurd e c1⟩
theorem sim_all (s : ByteArray) (hs : s.size ≤ 1099511627776) (C : Nat) (hC : s.size + 20 < C) : ∀ n : Nat, SV n C s ∧ SM n C s ∧ SL n C s
  | 0 => ⟨fun l d key p out _ _ _ _ h => absurd (by rw [pv]) h, fun l d ob key p out _ _ _ _ h => absurd (by rw [pms]) h, fun l d ob key keys p out _ _ _ _ _ h => absurd (by rw [pml]) h⟩
  | n + 1 => by
    obtain ⟨iv, im, il⟩ := sim_all s hs C hC n
    refine ⟨fun l d key p out h hp hd' ho hr => ?_, fun l d ob key p out h hp hd' ho hr => ?_, fun l d ob key keys p out h hp hd' ho hk hr => ?_⟩
    · obtain ⟨h1, h2, h3, h4⟩ := drop_sk s p l h hp
      have hlen : l.length + p = s.size := by rw [← h, List.length_drop, data_length]; omega
      have hsl := sk_len l
      rw [show n + 1 + C = (n + C) + 1 by omega, valueF, h2]
      rw [pv] at hr ⊢
      simp only
      by_cases c1 : hd l = 91
      · rw [if_pos c1] at hr ⊢
        rw [if_pos c1]
        by_cases c2 : 64 ≤ d
        · rw [if_pos c2, if_pos (by omega)]
          exact ⟨_, _, rfl, h3, fun e => absurd e (by decide)⟩
        · rw [if_neg c2] at hr ⊢
          have hne := hd_ne (l := l) (by omega)
          have hlt := h4.2 hne
          have hl0 : (sk l).length ≠ 0 := fun e => hne (List.eq_nil_of_length_eq_zero e)
          rw [if_neg (by omega), if_pos ⟨by omega, hlt⟩]
          obtain ⟨p1, o1, e1, e2, e3⟩ := im ((sk l).drop 1) d false key (skipP s p + 1) (out ++ [⟨(d : Int), 6, key, ⟨#[]⟩, 0⟩]) (by rw [← h1, List.drop_drop]) (by omega) (by omega) (by rw [List.length_append, List.length_drop, List.length_singleton]; omega) hr
          refine ⟨p1, o1, e1, e2, fun e => ?_⟩
          obtain ⟨f1, f2⟩ := e3 e
          exact ⟨f1, by rw [f2, List.append_assoc]; rfl⟩
      · rw [if_neg c1] at hr ⊢
        rw [if_neg c1]
        by_cases c3 : hd l = 123
        · rw [if_pos c3] at hr ⊢
          rw [if_pos c3]
          by_cases c2 : 64 ≤ d
          · rw [if_pos c2, if_pos (by omega)]
            exact ⟨_, _, rfl, h3, fun e => absurd e (by decide)⟩
          · rw [if_neg c2] at hr ⊢
            have hne := hd_ne (l := l) (by omega)
            have hlt := h4.2 hne
            have hl0 : (sk l).length ≠ 0 := fun e => hne (List.eq_nil_of_length_eq_zero e)
            rw [if_neg (by omega), if_pos ⟨by omega, hlt⟩]
            obtain ⟨p1, o1, e1, e2, e3⟩ := im ((sk l).drop 1) d true key (skipP s p + 1) (out ++ [⟨(d : Int), 7, key, ⟨#[]⟩, 0⟩]) (by rw [← h1, List.drop_drop]) (by omega) (by omega) (by rw [List.length_append, List.length_drop, List.length_singleton]; omega) hr
            refine ⟨p1, o1, e1, e2, fun e => ?_⟩
            obtain ⟨f1, f2⟩ := e3 e
            exact ⟨f1, by rw [f2, List.append_assoc]; rfl⟩
        · rw [if_neg c3] at hr ⊢
          rw [if_neg c3]
          by_cases c4 : hd l = 34
          · rw [if_pos c4] at hr ⊢
            rw [if_pos c4]
            obtain ⟨r, hq, e1, e2, e3, e4⟩ := rq_sim s (skipP s p) (sk l) h1 h3 (by omega) c4 (n + C) (by omega)
            rw [hq, Option.bind_some, if_pos ⟨e2, e3, by omega⟩, e1]
            by_cases c5 : (rq (sk l)).2.2 = 0
            · obtain ⟨f1, f2⟩ := e4 (e1.trans c5)
              rw [if_pos c5, if_pos c5]
              exact ⟨_, _, rfl, by omega, fun _ => ⟨f2, by rw [f1]; rfl⟩⟩
            · rw [if_neg c5, if_neg c5]
              exact ⟨_, _, rfl, by omega, fun e => absurd e c5⟩
          · rw [if_neg c4] at hr ⊢
            rw [if_neg c4, if_pos (by omega)]
            by_cases c6 : hd l = 45 ∨ (48 ≤ hd l ∧ hd l ≤ 57)
            · rw [if_pos c6] at hr ⊢
              rw [if_pos c6, num_sim s (skipP s p) (sk l) h1 h3]
              by_cases c7 : (rn ((sk l).take (numsL (sk l)))).2 = true
              · rw [if_pos c7, if_pos c7]
                have hn := nums_le (sk l)
                have hz : (sk l).length + skipP s p = s.size := by rw [← h1, List.length_drop, data_length]; omega
                exact ⟨_, _, rfl, by simp only; omega, fun _ => ⟨by rw [← h1, List.drop_drop], rfl⟩⟩
              · rw [if_neg c7, if_neg c7]
                exact ⟨_, _, rfl, h3, fun e => absurd e (by decide)⟩
            · rw [if_neg c6] at hr ⊢
              rw [if_neg c6]
              obtain ⟨p1, o1, e1, e2, e3⟩ := word_sim s (skipP s p) (sk l) h1 h3 out d key
              exact ⟨p1, o1, congrArg some e1, e2, e3⟩
    · rw [show n + 1 + C = (n + C) + 1 by omega, membersF]
      rw [pms] at hr ⊢
      obtain ⟨t1, t2, t3⟩ := takes_sim s p l (en ob) h hp
      have g1 := tk1_len l (en ob)
      rw [t1]
      by_cases c1 : (tk1 l (en ob)).1 = true
      · rw [if_pos c1, if_pos c1]
        exact ⟨_, _, rfl, t3, fun _ => ⟨t2, by simp⟩⟩
      · rw [if_neg c1] at hr ⊢
        rw [if_neg c1]
        exact il (tk1 l (en ob)).2 d ob key [] _ out t2 t3 hd' (by omega) (by simp; omega) hr
    · rw [show n + 1 + C = (n + C) + 1 by omega, membersL]
      rw [pml] at hr ⊢
      simp only
      rw [if_pos ⟨by omega, by omega⟩]
      cases ob with
      | true =>
        rw [if_pos rfl] at hr ⊢
        rw [if_pos (show kindOf true = 7 from rfl), if_pos (by omega)]
        obtain ⟨t, p1, e1, e2, e3⟩ := key_sim s p l keys h hp hs (n + C) (by omega)
        rw [e1, Option.bind_some]
        simp only
        rw [if_pos e2]
        by_cases c1 : (pk l keys).2.2 = 0
        · rw [if_pos c1] at hr ⊢
          rw [if_pos c1]
          obtain ⟨rfl, f2⟩ := e3 c1
          have hl := pk_len l keys c1
          exact after_sim n C s iv il (pk l keys).2.1 d true key (pk l keys).1 (keys ++ [(pk l keys).1]) p1 out f2 e2 hd' (by omega) (by rw [List.length_append, List.length_singleton]; omega) hr
        · rw [if_neg c1, if_neg c1]
          exact ⟨_, _, rfl, e2, fun e => absurd e c1⟩
      | false =>
        rw [if_neg (show ¬ false = true by decide)] at hr ⊢
        rw [if_neg (show ¬ kindOf false = 7 by decide)]
        exact after_sim n C s iv il l d false key e0 keys p out h hp hd' ho (by omega) hr
end Go.Proofs.YthhmmaihbjhhgaaDoor.Giv
namespace Go.Proofs.YthhmmaihbjhhgaaDoor.Giv
open Go.RowKit Go.Proofs.YthhmmaihbjhhgaaDoorW.PrintWords Go.Proofs.YthhmmaihbjhhgaaDoorW.PrintLast Go.Proofs.YthhmmaihbjhhgaaDoorW.PrintMore
open Go.Proofs.YthhmmaihbjhhgaaDoor.U1 Go.Proofs.YthhmmaihbjhhgaaDoor.Q1 Go.Proofs.YthhmmaihbjhhgaaDoor.J0 Go.Proofs.YthhmmaihbjhhgaaDoor.J1
set_option linter.unusedSimpArgs false
set_option linter.unusedVariables false
theorem readL_le : ∀ (n : Nat) (l : B) (r : B × Int × Int), readL n l = some r → r.2.2 = 0 → (r.1.length : Int) + 1 ≤ r.2.1
  | 0, l, r, h, _ => by simp [readL] at h
  | n + 1, l, r, h, he => by
    rw [readL] at h
    split at h
    · cases h; simp at he
    · split at h
      · cases h; simp
      · split at h
        · cases h; simp at he
        · split at h
          · rename_i c
            obtain ⟨q, hq, h⟩ := Option.map_eq_some_iff.1 h
            split at h
            · rename_i c2
              cases h
              have := readL_le n _ q hq c2
              have := one_le l c
              simp only [List.length_append]; omega
            · rename_i c2
              cases h
              exact absurd he c2
          · rename_i c
            cases h
            exact absurd he c
theorem rq_len2 (l : B) (h : (rq l).2.2 = 0) (hl : l ≠ []) : (rq l).1.length + (rq l).2.1.length + 2 ≤ l.length := by
  unfold rq at h ⊢
  have hl0 : l.length ≠ 0 := fun e => hl (List.eq_nil_of_length_eq_zero e)
  cases hq : readL (l.length + 1) (l.drop 1) with
  | none => rw [hq] at h; simp at h
  | some q =>
    rw [hq] at h
    simp only at h ⊢
    by_cases c : q.2.2 = 0
    · rw [if_pos c]
      have hg := readL_good _ _ _ hq c
      have h2 := readL_le _ _ _ hq c
      rw [List.length_drop] at hg
      simp only
      rw [List.length_drop]; omega
    · rw [if_neg c] at h; exact absurd h c
def wt : List S59 → Nat
  | [] => 0
  | x :: l => x.f2.size + x.f3.size + 1 + wt l
theorem wt_app : ∀ a b : List S59, wt (a ++ b) = wt a + wt b
  | [], b => by simp [wt]
  | x :: a, b => by rw [List.cons_append, wt, wt, wt_app a b]; omega
theorem pk_len2 (l : B) (keys : List ByteArray) (h : (pk l keys).2.2 = 0) : (pk l keys).1.size + (pk l keys).2.1.length < l.length := by
  unfold pk at h ⊢
  have h0 := sk_len l
  split at h
  · rename_i c1
    rw [if_pos c1]
    split at h
    · rename_i c2
      rw [if_pos c2]
      split at h
      · simp at h
      · rename_i c3
        rw [if_neg c3]
        split at h
        · rename_i c4
          rw [if_pos c4]
          have h1 := rq_len2 (sk l) c2 (hd_ne (by omega))
          have h2 := (tk1_len (rq (sk l)).2.1 58).1
          show (rq (sk l)).1.toArray.size + (tk1 (rq (sk l)).2.1 58).2.length < _
          rw [List.size_toArray]; omega
        · simp at h
    · rename_i c2
      simp only at h; exact absurd h c2
  · simp at h
theorem wd_wt (l : B) (d : Nat) (key : ByteArray) (h : (wd l d key).1 = 0) : wt (wd l d key).2.2 + (wd l d key).2.1.length ≤ l.length + key.size := by
  unfold wd at h ⊢
  split
  · rename_i c; have := c.length_le; simp at this; simp only [List.length_drop, wt, row]; show key.size + 0 + 1 + 0 + _ ≤ _; omega
  · rename_i c1
    rw [if_neg c1] at h
    split
    · rename_i c; have := c.length_le; simp at this; simp only [List.length_drop, wt, row]; show key.size + 0 + 1 + 0 + _ ≤ _; omega
    · rename_i c2
      rw [if_neg c2] at h
      split
      · rename_i c; have := c.length_le; simp at this; simp only [List.length_drop, wt, row]; show key.size + 0 + 1 + 0 + _ ≤ _; omega
      · rename_i c3
        rw [if_neg c3] at h; simp at h
theorem p_wt : ∀ n : Nat, (∀ l d key, (pv n l d key).1 = 0 → wt (pv n l d key).2.2 + (pv n l d key).2.1.length ≤ l.length + key.size) ∧ (∀ l d ob, (pms n l d ob).1 = 0 → wt (pms n l d ob).2.2 + (pms n l d ob).2.1.length ≤ l.length) ∧ (∀ l d ob keys, (pml n l d ob keys).1 = 0 → wt (pml n l d ob keys).2.2 + (pml n l d ob keys).2.1.length ≤ l.length)
  | 0 => ⟨fun l d key h => by simp [pv] at h, fun l d ob h => by simp [pms] at h, fun l d ob keys h => by simp [pml] at h⟩
  | n + 1 => by
    obtain ⟨iv, im, il⟩ := p_wt n
    have ic : ∀ l d ob keys, (cont (fun x => pml n x d ob keys) l ob).1 = 0 → wt (cont (fun x => pml n x d ob keys) l ob).2.2 + (cont (fun x => pml n x d ob keys) l ob).2.1.length ≤ l.length := by
      intro l d ob keys h
      unfold cont at h ⊢
      have h1 := tk1_len l (en ob)
      have h2 := tk1_len (tk1 l (en ob)).2 44
      split
      · simp only [wt]; omega
      · rename_i c
        rw [if_neg c] at h
        split
        · rename_i c2
          rw [if_pos c2] at h
          have h3 := il _ _ _ _ h
          have h4 : ((tk1 (tk1 l (en ob)).2 44).2).length ≤ l.length := by omega
          exact Nat.le_trans h3 h4
        · rename_i c2
          rw [if_neg c2] at h; simp at h
    have ia : ∀ (V : Int × B × List S59) d ob keys m, (V.1 = 0 → wt V.2.2 + V.2.1.length ≤ m) → (pma (fun x => pml n x d ob keys) V ob).1 = 0 → wt (pma (fun x => pml n x d ob keys) V ob).2.2 + (pma (fun x => pml n x d ob keys) V ob).2.1.length ≤ m := by
      intro V d ob keys m hV h
      unfold pma at h ⊢
      split
      · rename_i c
        rw [if_pos c] at h
        have h1 := hV c
        have := ic V.2.1 d ob keys h
        simp only [wt_app]; omega
      · rename_i c
        rw [if_neg c] at h; exact absurd h c
    refine ⟨fun l d key h => ?_, fun l d ob h => ?_, fun l d ob keys h => ?_⟩
    · have h0 := sk_len l
      have hw : ∀ (k : Int) (rows : List S59), wt (row d k key e0 0 :: rows) = key.size + 0 + 1 + wt rows := fun _ _ => rfl
      rw [pv] at h ⊢
      by_cases c1 : hd l = 91
      · rw [if_pos c1] at h ⊢
        by_cases c2 : 64 ≤ d
        · rw [if_pos c2] at h; simp at h
        · rw [if_neg c2] at h ⊢
          have := im _ _ _ h
          have hne : (sk l).length ≠ 0 := fun e => hd_ne (l := l) (by omega) (List.eq_nil_of_length_eq_zero e)
          rw [List.length_drop] at this
          simp only [hw]; omega
      · rw [if_neg c1] at h ⊢
        by_cases c3 : hd l = 123
        · rw [if_pos c3] at h ⊢
          by_cases c2 : 64 ≤ d
          · rw [if_pos c2] at h; simp at h
          · rw [if_neg c2] at h ⊢
            have := im _ _ _ h
            have hne : (sk l).length ≠ 0 := fun e => hd_ne (l := l) (by omega) (List.eq_nil_of_length_eq_zero e)
            rw [List.length_drop] at this
            simp only [hw]; omega
        · rw [if_neg c3] at h ⊢
          by_cases c4 : hd l = 34
          · rw [if_pos c4] at h ⊢
            by_cases c5 : (rq (sk l)).2.2 = 0
            · rw [if_pos c5]
              have := rq_len2 (sk l) c5 (hd_ne (by omega))
              show key.size + (rq (sk l)).1.toArray.size + 1 + 0 + _ ≤ _
              rw [List.size_toArray]; simp only; omega
            · rw [if_neg c5] at h; exact absurd h c5
          · rw [if_neg c4] at h ⊢
            split at h
            · rename_i c6
              rw [if_pos c6]
              split at h
              · rename_i c7
                rw [if_pos c7]
                have := nums_pos _ c7
                have h9 := nums_le (sk l)
                show key.size + 0 + 1 + 0 + _ ≤ _
                simp only [List.length_drop]; omega
              · simp at h
            · rename_i c6
              rw [if_neg c6]
              have := wd_wt (sk l) d key h
              omega
    · rw [pms] at h ⊢
      have h1 := tk1_len l (en ob)
      split at h
      · rename_i c
        rw [if_pos c]
        simp only [wt]; omega
      · rename_i c
        rw [if_neg c]
        have := il _ _ _ _ h
        omega
    · rw [pml] at h ⊢
      cases ob with
      | true =>
        rw [if_pos rfl] at h ⊢
        split at h
        · rename_i c
          rw [if_pos c]
          have h1 := pk_len2 l keys c
          have := ia _ d true _ (l.length) (fun e => by have := iv _ _ _ e; omega) h
          exact this
        · rename_i c; exact absurd h c
      | false =>
        rw [if_neg (by decide)] at h ⊢
        exact ia _ d false _ l.length (fun e => by have := iv _ _ _ e; have he : e0.size = 0 := rfl; omega) h
theorem JV.len {K : Node} {rows : List S59} {t : B} (h : JV K rows t) : match K with
    | .v _ key => t.length + 6 * key.size + 4 ≤ 30 * wt rows
    | .m _ _ _ _ => t.length ≤ 30 * wt rows := by
  induction h with
  | null d key => show 4 + 6 * key.size + 4 ≤ 30 * (key.size + 0 + 1 + 0); omega
  | fls d key => show 5 + 6 * key.size + 4 ≤ 30 * (key.size + 0 + 1 + 0); omega
  | tru d key => show 4 + 6 * key.size + 4 ≤ 30 * (key.size + 0 + 1 + 0); omega
  | num d key n h => have := itoa_len n h; show _ + 6 * key.size + 4 ≤ 30 * (key.size + 0 + 1 + 0); omega
  | str d key s h =>
    have := inner_size s
    show (quoted s.data.toList).length + 6 * key.size + 4 ≤ 30 * (key.size + s.size + 1 + 0)
    rw [quoted_len]; omega
  | arr d key rows t h hm im =>
    show (91 :: (t ++ [93])).length + 6 * key.size + 4 ≤ 30 * (key.size + 0 + 1 + wt rows)
    have : t.length ≤ 30 * wt rows := im
    simp only [List.length_cons, List.length_append, List.length_nil]; omega
  | obj d key rows t h hm im =>
    show (123 :: (t ++ [125])).length + 6 * key.size + 4 ≤ 30 * (key.size + 0 + 1 + wt rows)
    have : t.length ≤ 30 * wt rows := im
    simp only [List.length_cons, List.length_append, List.length_nil]; omega
  | none => exact Nat.zero_le _
  | elem d keys fst rows t rows' t' hv hm iv im =>
    have h1 : t.length + 6 * e0.size + 4 ≤ 30 * wt rows := iv
    have h2 : t'.length ≤ 30 * wt rows' := im
    have h3 : (sepa fst).length ≤ 1 := by cases fst <;> decide
    show (sepa fst ++ (t ++ t')).length ≤ 30 * wt (rows ++ rows')
    rw [wt_app]
    simp only [List.length_append]; omega
  | memb d keys fst key hk hn rows t rows' t' hv hm iv im =>
    have h1 : t.length + 6 * key.size + 4 ≤ 30 * wt rows := iv
    have h2 : t'.length ≤ 30 * wt rows' := im
    have h3 : (sepa fst).length ≤ 1 := by cases fst <;> decide
    have h4 := inner_size key
    have h5 := quoted_len key.data.toList
    show (sepa fst ++ (quoted key.data.toList ++ (58 :: (t ++ t')))).length ≤ 30 * wt (rows ++ rows')
    rw [wt_app]
    simp only [List.length_append, List.length_cons]; omega
/-- the whole parser -/
def topS (l : B) : List S59 × Int := if (pv (3 * l.length + 1) l 0 e0).1 = 0 then (if sk (pv (3 * l.length + 1) l 0 e0).2.1 ≠ [] then ([], 80) else ((pv (3 * l.length + 1) l 0 e0).2.2, 0)) else ([], (pv (3 * l.length + 1) l 0 e0).1)
theorem parse_top (s : ByteArray) (hs : s.size ≤ 1073741824) (k : Nat) (hk : 4 * s.size + 60 ≤ k) : json_Parse.f k s = some (topS s.data.toList) := by
  have hl := data_length s
  obtain ⟨C, hC⟩ : ∃ C, k = (3 * s.data.toList.length + 1) + C := ⟨k - (3 * s.data.toList.length + 1), by omega⟩
  obtain ⟨p', o', e1, e2, e3⟩ := (sim_all s (by omega) C (by omega) (3 * s.data.toList.length + 1)).1 s.data.toList 0 e0 0 [] List.drop_zero (Nat.zero_le _) (by omega) (by rw [List.length_nil]; omega) ((p_total _).1 _ _ _ (Nat.le_refl _))
  unfold json_Parse.f topS
  rw [if_pos (by omega), hC, show z0 = ⟨((0 : Nat) : Int), 0, e0, ⟨#[]⟩, 0⟩ from rfl, e1, Option.bind_some]
  simp only
  rw [if_pos e2]
  by_cases c : (pv (3 * s.data.toList.length + 1) s.data.toList 0 e0).1 = 0
  · rw [if_pos c, if_pos c]
    obtain ⟨f1, f2⟩ := e3 c
    obtain ⟨_, _, _, g4⟩ := drop_sk s p' _ f1 e2
    by_cases c2 : sk (pv (3 * s.data.toList.length + 1) s.data.toList 0 e0).2.1 ≠ []
    · rw [if_pos (g4.2 c2), if_pos c2]
    · rw [if_neg (fun x => c2 (g4.1 x)), if_neg c2, f2]; rfl
  · rw [if_neg c, if_neg c]
/-- what is read right is a value -/
theorem top_sound (l : B) (h : (topS l).2 = 0) : ∃ t, JV (.v 0 e0) (topS l).1 t ∧ t.length ≤ 30 * l.length := by
  unfold topS at h ⊢
  by_cases c : (pv (3 * l.length + 1) l 0 e0).1 = 0
  · rw [if_pos c] at h ⊢
    by_cases c2 : sk (pv (3 * l.length + 1) l 0 e0).2.1 ≠ []
    · rw [if_pos c2] at h; simp at h
    · rw [if_neg c2]
      obtain ⟨t, ht⟩ := (p_sound (3 * l.length + 1)).1 l 0 e0 (by omega) c
      refine ⟨t, ht, ?_⟩
      have h1 : t.length + 6 * e0.size + 4 ≤ 30 * wt (pv (3 * l.length + 1) l 0 e0).2.2 := ht.len
      have h2 := (p_wt (3 * l.length + 1)).1 l 0 e0 c
      have he : e0.size = 0 := rfl
      omega
  · rw [if_neg c] at h; exact absurd h c
theorem top_err (l : B) (h : (topS l).2 ≠ 0) : (topS l).1 = [] := by
  unfold topS at h ⊢
  split
  · rename_i c
    rw [if_pos c] at h
    split
    · rfl
    · rename_i c2
      rw [if_neg c2] at h; exact absurd rfl h
  · rfl
/-- a value's text is read as it -/
theorem top_text {rows : List S59} {t : B} (h : JV (.v 0 e0) rows t) : topS t = (rows, 0) := by
  have h1 : pv (3 * t.length + 1) (t ++ []) 0 e0 = (0, [], rows) := h.parse (by omega) [] (3 * t.length + 1) rfl (by simp)
  rw [List.append_nil] at h1
  unfold topS
  rw [h1, if_pos rfl, if_neg (by simp [sk])]
end Go.Proofs.YthhmmaihbjhhgaaDoor.Giv
namespace Go.Proofs.YthhmmaihbjhhgaaDoor.Giv
open Go.RowKit Go.Proofs.YthhmmaihbjhhgaaDoorW.PrintWords Go.Proofs.YthhmmaihbjhhgaaDoorW.PrintLast Go.Proofs.YthhmmaihbjhhgaaDoorW.PrintMore
open Go.Proofs.YthhmmaihbjhhgaaDoor.U1 Go.Proofs.YthhmmaihbjhhgaaDoor.Q1 Go.Proofs.YthhmmaihbjhhgaaDoor.J0 Go.Proofs.YthhmmaihbjhhgaaDoor.J1
set_option linter.unusedSimpArgs false
set_option linter.unusedVariables false
abbrev al1 : ByteArray := ⟨#[32, 123, 34, 97, 34, 32, 58, 32, 91, 49, 44, 32, 34, 98, 34, 93, 125, 32]⟩
abbrev al2 : ByteArray := ⟨#[91, 49, 46, 53, 93]⟩
abbrev al3 : ByteArray := ⟨#[123, 34, 97, 34, 58, 49, 44, 34, 97, 34, 58, 50, 125]⟩
def l4 : List S59 := [⟨0, 7, ⟨#[]⟩, ⟨#[]⟩, 0⟩, ⟨1, 6, ⟨#[97]⟩, ⟨#[]⟩, 0⟩, ⟨2, 4, ⟨#[]⟩, ⟨#[]⟩, 1⟩, ⟨2, 5, ⟨#[]⟩, ⟨#[98]⟩, 0⟩]
set_option maxRecDepth 100000 in
theorem al_p1 : json_Parse.f 60 al1 = some (l4, 0) := by kernel_rfl
set_option maxRecDepth 100000 in
theorem al_p2 : json_Parse.f 60 al2 = some ([], 83) := by kernel_rfl
set_option maxRecDepth 100000 in
theorem al_p3 : json_Parse.f 60 al3 = some ([], 82) := by kernel_rfl
set_option maxRecDepth 100000 in
theorem al_p4 : json_Parse.f 60 ⟨#[]⟩ = some ([], 80) := by kernel_rfl
set_option maxRecDepth 100000 in
theorem al_r1 : json_Right.f l4 = some true := by kernel_rfl
set_option maxRecDepth 100000 in
theorem al_r2 : json_Right.f (l4.drop 1) = some false := by kernel_rfl
abbrev al5 : ByteArray := ⟨#[123, 34, 97, 34, 58, 91, 49, 44, 34, 98, 34, 93, 125]⟩
set_option maxRecDepth 100000 in
theorem al_w : json_Print.f l4 = some al5 := by kernel_rfl
set_option maxHeartbeats 8000000 in
set_option maxRecDepth 100000 in
theorem alive08_walk (w : World) (ht : JTabs w) : Calls Tryd.prog 40 #[] w fun e w' => e = .returned (.bool true) ∧ Below w.heap.size w w' := by
  have HT := Aside0.mk ht
  have hu59 := Tryd.underlying59
  clear ht
  go_enter Tryd.func40, Tryd.ntmps40
  go_upto_region 5 with (first
    | (go_at_call 46; (with_reducible refine (json_Parse.calls 60 al1 l4 0 _ al_p1 HT.out).mono ?_); rintro e w1 ⟨v1, rfl, ho1, hb1⟩; have HO1 := Aside0.mk ho1; have HB1 := Aside0.mk hb1; clear ho1 hb1)
    | (go_at_call 46; (with_reducible refine (json_Parse.calls 60 al2 [] 83 _ al_p2 (HT.out.step HB1.out)).mono ?_); rintro e w2 ⟨v2, rfl, ho2, hb2⟩; have HO2 := Aside0.mk ho2; have HB2 := Aside0.mk (below_step HB1.out hb2); have HO1 := Aside0.mk (Kd.R_below HO1.out hb2); clear ho2 hb2)
    | (go_at_call 46; (with_reducible refine (json_Parse.calls 60 al3 [] 82 _ al_p3 (HT.out.step HB2.out)).mono ?_); rintro e w3 ⟨v3, rfl, ho3, hb3⟩; have HO3 := Aside0.mk ho3; have HB3 := Aside0.mk (below_step HB2.out hb3); have HO1 := Aside0.mk (Kd.R_below HO1.out hb3); clear ho3 hb3)
    | (go_at_call 46; (with_reducible refine (json_Parse.calls 60 ⟨#[]⟩ [] 80 _ al_p4 (HT.out.step HB3.out)).mono ?_); rintro e w4 ⟨v4, rfl, ho4, hb4⟩; have HO4 := Aside0.mk ho4; have HB4 := Aside0.mk (below_step HB3.out hb4); have HO1 := Aside0.mk (Kd.R_below HO1.out hb4); clear ho4 hb4))
  obtain ⟨G, cc, rfl, _, _, _⟩ := Kd.R_form HO1.out (by decide)
  have hC := (Kd.R_reads' HO1.out).2.2
  have hcc : 4 ≤ cc := (Kd.R_reads' HO1.out).2.1
  have hc1 : ¬ cc = 1 := by omega
  have hc0 : 1 ≤ cc := by omega
  obtain ⟨ad, hA, a0, a1, a2, a3, a4⟩ := at_T59 hC 1 (by decide) (by decide)
  injection hA with hA
  subst hA
  obtain ⟨ad, hA, b0, b1, b2, b3, b4⟩ := at_T59 hC 3 (by decide) (by decide)
  injection hA with hA
  subst hA
  have a0 : w4.cell? ⟨G, 5, none⟩ = some (.int .i64 1) := a0
  have a1 : w4.cell? ⟨G, 6, none⟩ = some (.int .i64 6) := a1
  have a2 : w4.cell? ⟨G, 7, none⟩ = some (.string ⟨#[97]⟩) := a2
  have a3 : w4.cell? ⟨G, 8, none⟩ = some (.string ⟨#[]⟩) := a3
  have a4 : w4.cell? ⟨G, 9, none⟩ = some (.int .i64 0) := a4
  have b0 : w4.cell? ⟨G, 15, none⟩ = some (.int .i64 2) := b0
  have b1 : w4.cell? ⟨G, 16, none⟩ = some (.int .i64 5) := b1
  have b2 : w4.cell? ⟨G, 17, none⟩ = some (.string ⟨#[]⟩) := b2
  have b3 : w4.cell? ⟨G, 18, none⟩ = some (.string ⟨#[98]⟩) := b3
  have b4 : w4.cell? ⟨G, 19, none⟩ = some (.int .i64 0) := b4
  have HD : Aside0 (Kd.C k59 w4 (some ⟨G, 5, none⟩) 3 (l4.drop 1)) := ⟨by have := Kd.C_drop (m := 1) (c := cc) hC (by decide) hcc; rw [if_neg hc1] at this; exact this⟩
  have HC := Aside0.mk hC
  have CR1 : Aside0 (∀ W, Below w4.heap.size w4 W → JTabs W → Calls Tryd.prog 42 #[.slice (some ⟨G, 0, none⟩) 4 cc] W fun e w' => e = .returned (.bool true) ∧ Below W.heap.size W w') := ⟨fun W hb hj => json_Right.calls (some ⟨G, 0, none⟩) cc l4 true W (Kd.C_below HC.out hb) hcc al_r1 hj.tabs⟩
  have CR2 : Aside0 (∀ W, Below w4.heap.size w4 W → JTabs W → Calls Tryd.prog 42 #[.slice (some ⟨G, 5, none⟩) 3 (cc - 1)] W fun e w' => e = .returned (.bool false) ∧ Below W.heap.size W w') := ⟨fun W hb hj => json_Right.calls (some ⟨G, 5, none⟩) (cc - 1) (l4.drop 1) false W (Kd.C_below HD.out hb) (by show 3 ≤ cc - 1; omega) al_r2 hj.tabs⟩
  have CW : Aside0 (∀ W, Below w4.heap.size w4 W → JTabs W → Calls Tryd.prog 47 #[.slice (some ⟨G, 0, none⟩) 4 cc] W fun e w' => e = .returned (.string al5) ∧ Below W.heap.size W w') := ⟨fun W hb hj => json_Print.calls (some ⟨G, 0, none⟩) cc l4 al5 W (Kd.C_below HC.out hb) hcc al_w hj⟩
  have hl4 : l4.length = 4 := rfl
  clear hC hcc
  go_wp2_with (first
    | (go_at_call 42; (with_reducible refine (CR1.out w4 (Below.refl _ _) (HT.out.step HB4.out)).mono ?_); rintro e w5 ⟨rfl, hb5⟩; have HB5 := Aside0.mk hb5; clear hb5)
    | (go_at_call 42; (with_reducible refine (CR2.out w5 HB5.out (HT.out.step (below_step HB4.out HB5.out))).mono ?_); rintro e w6 ⟨rfl, hb6⟩; have HB6 := Aside0.mk (below_step HB5.out hb6); clear hb6)
    | (go_at_call 47; (with_reducible refine (CW.out w6 HB6.out (HT.out.step (below_step HB4.out HB6.out))).mono ?_); rintro e w7 ⟨rfl, hb7⟩; have HB7 := Aside0.mk (below_step HB6.out hb7); clear hb7))
  go_ret
  exact ⟨rfl, below_step HB4.out HB7.out⟩
def cracknellaw08_alive.f : Option Bool := some true
theorem cracknellaw08_alive.calls (r : Bool) (w : World) (h : cracknellaw08_alive.f = some r) (ht : JTabs w := by first | assumption | (refine JTabs.step (by assumption) ?_; repeat (first | exact Aside0.out (by assumption) | apply below_alloc | apply pw_below_drewN | apply below_drew1 | exact Below.refl _ _))) : Calls Tryd.prog 40 #[] w fun e w' => e = .returned (.bool r) ∧ Below w.heap.size w w' := by
  cases h
  exact alive08_walk w ht
end Go.Proofs.YthhmmaihbjhhgaaDoor.Giv
namespace Go.Proofs.YthhmmaihbjhhgaaDoor.Giv
open Go.RowKit Go.Proofs.YthhmmaihbjhhgaaDoorW.PrintWords Go.Proofs.YthhmmaihbjhhgaaDoorW.PrintLast Go.Proofs.YthhmmaihbjhhgaaDoorW.PrintMore
open Go.Proofs.YthhmmaihbjhhgaaDoor.U1 Go.Proofs.YthhmmaihbjhhgaaDoor.Q1 Go.Proofs.YthhmmaihbjhhgaaDoor.J0 Go.Proofs.YthhmmaihbjhhgaaDoor.J1
set_option linter.unusedSimpArgs false
set_option linter.unusedVariables false
def toO (x : S59) : S81 := ⟨x.f0, x.f1, x.f2, x.f3, x.f4⟩
theorem take_T59 (l : List S59) (j : Nat) (h : j < l.length) : l.take (j + 1) = l.take j ++ [rd_T59 l (j : Int)] := by
  rw [List.take_add_one]
  congr 1
  simp [rd_T59, List.getD, h]
def cracknellaw08_Olds.f (l : List S59) : Option (List S81) := if l.length * 56 ≤ 140737488355328 then some (l.map toO) else none
set_option maxHeartbeats 4000000 in
set_option maxRecDepth 100000 in
theorem cracknellaw08_Olds.calls (A0 : Option Addr) (c0 : Nat) (l0 : List S59) (r : List S81) (w : World) (hr0 : Kd.C k59 w A0 l0.length l0) (hc0 : l0.length ≤ c0) (h : cracknellaw08_Olds.f l0 = some r) :
    Calls Tryd.prog 45 #[.slice A0 l0.length c0] w fun e w' => ∃ v0_ : Value, e = .returned v0_ ∧ Kd.R k81 81 w' w.heap.size (fun _ => True) v0_ r ∧ Below w.heap.size w w' := by
  unfold cracknellaw08_Olds.f at h
  by_cases hl : l0.length * 56 ≤ 140737488355328
  · rw [if_pos hl] at h
    cases h
    have HC := Aside0.mk hr0
    have HL := Aside0.mk hl
    have HN0 : Aside0 (Kd.R k81 81 w w.heap.size (fun _ => True) (.slice none 0 0) ((l0.take 0).map toO)) := ⟨Kd.R_nil _ _ _ _ _⟩
    clear hr0 hc0 hl
    go_enter Tryd.func45, Tryd.ntmps45
    go_wp2_with fail
    go_loopg [3, 8] l0.length (fun kq v3 v8 wr => ∃ j : Nat, kq = l0.length - j ∧ j ≤ l0.length ∧ v8 = .int .i64 (j : Int) ∧ Aside0 (Kd.R k81 81 wr w.heap.size (fun _ => True) v3 ((l0.take j).map toO)) ∧ Aside0 (Below w.heap.size w wr))
    case atStart => exact ⟨0, rfl, Nat.zero_le _, rfl, HN0, ⟨Below.refl _ _⟩⟩
    case round =>
      clear HN0
      obtain ⟨j, hkq, hjl, rfl, HR, HB⟩ := hrel
      have hgl : j < 9223372036854775807 := by have := HL.out; omega
      by_cases hlt : j < l0.length
      · obtain ⟨ad, hA, a0, a1, a2, a3, a4⟩ := at_T59 (Kd.C_below HC.out HB.out) (j : Int) (by omega) (by omega)
        subst hA
        have HX := Aside0.mk (take_T59 l0 j hlt)
        obtain ⟨⟨f0, f1, f2, f3, f4⟩, hx⟩ : ∃ x, rd_T59 l0 (j : Int) = x := ⟨_, rfl⟩
        rw [hx] at a0 a1 a2 a3 a4 HX
        simp only [Int.toNat_natCast] at a0 a1 a2 a3 a4
        clear hx
        have HW1 : Aside0 (Below wr.heap.size wr (wr.alloc (.cells #[.int .i64 f0, .int .i64 f1, .string f2, .string f3, .int .i64 f4] 59))) := ⟨below_alloc (Below.refl _ _) _⟩
        have HR1 := Aside0.mk (Kd.R_below HR.out HW1.out)
        have HB1 := Aside0.mk (below_step HB.out HW1.out)
        have HLn : Aside0 ((((l0.take j).map toO).length + 1) * 56 ≤ 140737488355328) := ⟨by rw [List.length_map, List.length_take]; have := HL.out; omega⟩
        obtain ⟨A3, c3, rfl⟩ := Kd.R_slice HR.out
        go_wp2_with ((at_builtin; refine Kd.R_append k81 (w0 := w) (W := wr.alloc (.cells #[.int .i64 f0, .int .i64 f1, .string f2, .string f3, .int .i64 f4] 59)) w.heap.size rfl (.tmp 12) (.tmp 14) 47 81 (.agg #[.int .i64 0, .int .i64 0, .string ⟨#[]⟩, .string ⟨#[]⟩, .int .i64 0]) 56 rfl Tryd.underlying47 info81 rfl (by decide) (by decide) _ ((l0.take j).map toO) ⟨f0, f1, f2, f3, f4⟩ [.int .i64 f0, .int .i64 f1, .string f2, .string f3, .int .i64 f4] (fun _ => True) (fun _ => False) rfl (congrArg (fun q => Value.slice (some ⟨q, 0, none⟩) 1 1) (alloc_size wr _).symm) (k81_mkM _ _ _ ⟨f0, f1, f2, f3, f4⟩) (fun _ h => h.elim) (fun _ _ => trivial) HR1.out HB1.out HB1.out.size HLn.out ?_; intro v9 w9 hO9 hB9 hg9 hA9; have HO9 := Aside0.mk hO9; have HB9 := Aside0.mk hB9; clear hO9 hB9 hg9 hA9))
        go_roundg (l0.length - (j + 1))
        case measure => omega
        case rel => exact ⟨j + 1, rfl, hlt, by go_num, ⟨by rw [HX.out, List.map_append]; exact HO9.out⟩, HB9⟩
      · obtain rfl : j = l0.length := by omega
        have HR2 := Aside0.mk HR.out
        have hjl3 : ¬ (l0.length : Int) < (l0.length : Int) := by omega
        go_wp2_with fail
        go_ret
        exact ⟨_, rfl, by have := HR.out; rw [List.take_length] at this; exact this, HB.out⟩
  · rw [if_neg hl] at h; cases h
end Go.Proofs.YthhmmaihbjhhgaaDoor.Giv
namespace Go.Proofs.YthhmmaihbjhhgaaDoor.J2
open Go.Proofs.YthhmmaihbjhhgaaDoor.Giv Go.Proofs.YthhmmaihbjhhgaaDoor.U1 Go.Proofs.YthhmmaihbjhhgaaDoor.Q1 Go.Proofs.YthhmmaihbjhhgaaDoor.J0 Go.Proofs.YthhmmaihbjhhgaaDoor.J1 Go.RowKit Go.Proofs.YthhmmaihbjhhgaaDoorW.PrintWords Go.Proofs.YthhmmaihbjhhgaaDoorW.PrintLast Go.Proofs.YthhmmaihbjhhgaaDoorW.PrintMore
attribute [local go_sem] max2_int min2_int max_two min_two max_three min_three max_four min_four   -- for this text's walks alone
set_option linter.unusedVariables false
set_option linter.unusedSimpArgs false
def errW : Option Int → Value
  | none => .nilIface
  | some c => .iface 0 (.int .i64 c)
theorem errW_none : errW none = .nilIface := rfl
theorem errW_some (c : Int) : errW (some c) = .iface 0 (.int .i64 c) := rfl
end Go.Proofs.YthhmmaihbjhhgaaDoor.J2
namespace Go.Proofs.YthhmmaihbjhhgaaDoor.J2
open Go.Proofs.YthhmmaihbjhhgaaDoor.Giv Go.Proofs.YthhmmaihbjhhgaaDoor.U1 Go.Proofs.YthhmmaihbjhhgaaDoor.Q1 Go.Proofs.YthhmmaihbjhhgaaDoor.J0 Go.Proofs.YthhmmaihbjhhgaaDoor.J1 Go.RowKit Go.Proofs.YthhmmaihbjhhgaaDoorW.PrintWords Go.Proofs.YthhmmaihbjhhgaaDoorW.PrintLast Go.Proofs.YthhmmaihbjhhgaaDoorW.PrintMore
attribute [local go_sem] max2_int min2_int max_two min_two max_three min_three max_four min_four   -- for this text's walks alone
set_option linter.unusedVariables false
set_option linter.unusedSimpArgs false
theorem eqA81 (d : Nat) (w : World) (x0 y0 : Int) (x1 y1 : Int) (x2 y2 : ByteArray) (x3 y3 : ByteArray) (x4 y4 : Int) :
    (Op.equalIn (d + 2) 81 (.agg #[.int .i64 x0, .int .i64 x1, .string x2, .string x3, .int .i64 x4]) (.agg #[.int .i64 y0, .int .i64 y1, .string y2, .string y3, .int .i64 y4])).run Tryd.prog w = .ok (x0 == y0 && (x1 == y1 && (x2.toList == y2.toList && (x3.toList == y3.toList && (x4 == y4))))) w := by
  refine eqA_of Tryd.underlying81 (by kernel_rfl) ?_
  refine eqf_cons (by rfl) (by go_simp; rfl) (by go_simp; rfl) (by go_simp) ?_
  refine eqf_cons (by rfl) (by go_simp; rfl) (by go_simp; rfl) (by go_simp) ?_
  refine eqf_cons (by rfl) (by go_simp; rfl) (by go_simp; rfl) (by go_simp) ?_
  refine eqf_cons (by rfl) (by go_simp; rfl) (by go_simp; rfl) (by go_simp) ?_
  exact eqf_last (by rfl) (by go_simp; rfl) (by go_simp; rfl) (by go_simp)
end Go.Proofs.YthhmmaihbjhhgaaDoor.J2
namespace Go.Proofs.YthhmmaihbjhhgaaDoor.J2
open Go.Proofs.YthhmmaihbjhhgaaDoor.Giv Go.Proofs.YthhmmaihbjhhgaaDoor.U1 Go.Proofs.YthhmmaihbjhhgaaDoor.Q1 Go.Proofs.YthhmmaihbjhhgaaDoor.J0 Go.Proofs.YthhmmaihbjhhgaaDoor.J1 Go.RowKit Go.Proofs.YthhmmaihbjhhgaaDoorW.PrintWords Go.Proofs.YthhmmaihbjhhgaaDoorW.PrintLast Go.Proofs.YthhmmaihbjhhgaaDoorW.PrintMore
attribute [local go_sem] max2_int min2_int max_two min_two max_three min_three max_four min_four   -- for this text's walks alone
set_option linter.unusedVariables false
set_option linter.unusedSimpArgs false
theorem isE2 (l : List UInt8) : (!l.isEmpty) = (l != []) := by cases l <;> rfl
end Go.Proofs.YthhmmaihbjhhgaaDoor.J2
namespace Go.Proofs.YthhmmaihbjhhgaaDoor.J2
open Go.Proofs.YthhmmaihbjhhgaaDoor.Giv Go.Proofs.YthhmmaihbjhhgaaDoor.U1 Go.Proofs.YthhmmaihbjhhgaaDoor.Q1 Go.Proofs.YthhmmaihbjhhgaaDoor.J0 Go.Proofs.YthhmmaihbjhhgaaDoor.J1 Go.RowKit Go.Proofs.YthhmmaihbjhhgaaDoorW.PrintWords Go.Proofs.YthhmmaihbjhhgaaDoorW.PrintLast Go.Proofs.YthhmmaihbjhhgaaDoorW.PrintMore
attribute [local go_sem] max2_int min2_int max_two min_two max_three min_three max_four min_four   -- for this text's walks alone
set_option linter.unusedVariables false
set_option linter.unusedSimpArgs false
attribute [local go_sem high] eqA81
def cracknelref08_Same.l0 : Nat → List (S81) → List (S81) → Int → Option (Bool)
  | 0, _, _, _ => none
  | k + 1, x0, x1, x5 => if x5 < (x0.length : Int) then (if 0 ≤ x5 then (if x5 < (x1.length : Int) then (if (!(((rd_T81 x0 x5).f0) == ((rd_T81 x1 x5).f0)) || (!(((rd_T81 x0 x5).f1) == ((rd_T81 x1 x5).f1)) || (!((((rd_T81 x0 x5).f2).toList) == (((rd_T81 x1 x5).f2).toList)) || (!((((rd_T81 x0 x5).f3).toList) == (((rd_T81 x1 x5).f3).toList)) || (!(((rd_T81 x0 x5).f4) == ((rd_T81 x1 x5).f4))))))) = true then (some false) else (cracknelref08_Same.l0 k x0 x1 (wrap64 (x5 + 1)))) else (none)) else (none)) else (some true)
def cracknelref08_Same.f (k : Nat) (l0 : List (S81)) (l1 : List (S81)) : Option (Bool) := if (l0.length : Int) = (l1.length : Int) then (cracknelref08_Same.l0 k l0 l1 0) else (some false)
set_option maxHeartbeats 8000000 in
set_option maxRecDepth 100000 in
theorem cracknelref08_Same.calls (k : Nat) (A0 : Option Addr) (c0 : Nat) (l0 : List (S81)) (A1 : Option Addr) (c1 : Nat) (l1 : List (S81)) (r : Bool) (w : World) (hr0 : Kd.C k81 w A0 l0.length l0) (hc0 : l0.length ≤ c0) (hr1 : Kd.C k81 w A1 l1.length l1) (hc1 : l1.length ≤ c1) (h : cracknelref08_Same.f k l0 l1 = some r) :
    Calls Tryd.prog 44 #[.slice A0 l0.length c0, .slice A1 l1.length c1] w fun e w' => e = .returned (.bool r) ∧ Drawn0 w w' := by
  have hu81 := Tryd.underlying81
  have HR0 := Aside0.mk hr0
  have HC0 := Aside0.mk hc0
  clear hr0 hc0
  have HR1 := Aside0.mk hr1
  have HC1 := Aside0.mk hc1
  clear hr1 hc1
  have H : (if (l0.length : Int) = (l1.length : Int) then (cracknelref08_Same.l0 k l0 l1 0) else (some false)) = some r := h
  clear h
  by_cases c3 : (l0.length : Int) = (l1.length : Int)
  · rw [if_pos c3] at H
    have c3b0 : ((l0.length : Int) == (l1.length : Int)) = true := beq_iff_eq.mpr c3
    have c3b1 : ((l0.length : Int) != (l1.length : Int)) = false := bne_eq_false_iff_eq.mpr c3
    have c3b2 : (l0.length == l1.length) = true := by first | simpa using c3 | (simp at c3 ⊢; omega)
    clear c3
    have H' := Aside0.mk H
    clear H
    go_enter Tryd.func44, Tryd.ntmps44
    go_wp2
    repeat (go_quiet (fail); try go_wp2)
    go_loopg [5] k (fun kq v5 w' => ∃ (x5_1 : Int), v5 = .int .i64 x5_1 ∧ Aside0 (cracknelref08_Same.l0 kq l0 l1 x5_1 = some r) ∧ Aside0 (kq ≤ k) ∧ Drawn0 w w')
    case atStart => exact ⟨(0), (by first | rfl | (simp; done) | (simp [*]; done)), H', ⟨Nat.le_refl _⟩, by repeat (first | exact Drawn0.refl _ | apply Drawn0.step)⟩
    case round =>
      clear H'
      try clear c1
      try clear p2
      try clear c3
      try clear c3b0
      try clear c3b1
      try clear c3b2
      obtain ⟨x5_1, rfl, HA, HK1, ⟨m1, rfl⟩⟩ := hrel
      cases gk with
      | zero => exact absurd HA.out (by simp [cracknelref08_Same.l0])
      | succ k1 =>
        have H := HA.out
        clear HA
        simp only [cracknelref08_Same.l0] at H
        by_cases c4 : x5_1 < (l0.length : Int)
        · rw [if_pos c4] at H
          have c4b0 : decide (x5_1 < (l0.length : Int)) = true := decide_eq_true c4
          clear c4
          by_cases c5 : 0 ≤ x5_1
          · rw [if_pos c5] at H
            have c5b0 : decide (0 ≤ x5_1) = true := decide_eq_true c5
            clear c5
            by_cases c6 : x5_1 < (l1.length : Int)
            · rw [if_pos c6] at H
              have c6b0 : decide (x5_1 < (l1.length : Int)) = true := decide_eq_true c6
              clear c6
              by_cases c7 : (!(((rd_T81 l0 x5_1).f0) == ((rd_T81 l1 x5_1).f0)) || (!(((rd_T81 l0 x5_1).f1) == ((rd_T81 l1 x5_1).f1)) || (!((((rd_T81 l0 x5_1).f2).toList) == (((rd_T81 l1 x5_1).f2).toList)) || (!((((rd_T81 l0 x5_1).f3).toList) == (((rd_T81 l1 x5_1).f3).toList)) || (!(((rd_T81 l0 x5_1).f4) == ((rd_T81 l1 x5_1).f4))))))) = true
              · rw [if_pos c7] at H
                have c7b0 : (!(((rd_T81 l0 x5_1).f0) == ((rd_T81 l1 x5_1).f0)) || (!(((rd_T81 l0 x5_1).f1) == ((rd_T81 l1 x5_1).f1)) || (!((((rd_T81 l0 x5_1).f2).toList) == (((rd_T81 l1 x5_1).f2).toList)) || (!((((rd_T81 l0 x5_1).f3).toList) == (((rd_T81 l1 x5_1).f3).toList)) || (!(((rd_T81 l0 x5_1).f4) == ((rd_T81 l1 x5_1).f4))))))) = true := c7
                clear c7
                obtain rfl := Option.some.inj H
                have p124 : 0 ≤ (x5_1 : Int) := of_decide_eq_true (by first | (with_reducible assumption) | assumption)
                have q124 : x5_1 < (l0.length : Int) := of_decide_eq_true (by first | (with_reducible assumption) | assumption)
                obtain ⟨ad124, e124, hx124_0, hx124_1, hx124_2, hx124_3, hx124_4⟩ := at_T81 HR0.out x5_1 p124 q124
                cases e124
                replace p124 := eq_true p124
                replace q124 := eq_true q124
                have p125 : 0 ≤ (x5_1 : Int) := of_decide_eq_true (by first | (with_reducible assumption) | assumption)
                have q125 : x5_1 < (l1.length : Int) := of_decide_eq_true (by first | (with_reducible assumption) | assumption)
                obtain ⟨ad125, e125, hx125_0, hx125_1, hx125_2, hx125_3, hx125_4⟩ := at_T81 HR1.out x5_1 p125 q125
                cases e125
                replace p125 := eq_true p125
                replace q125 := eq_true q125
                go_wp2
                repeat (go_quiet (fail); try go_wp2)
                go_ret
                exact ⟨by first | rfl | (simp; done) | (simp [*]; done), by repeat (first | exact Drawn0.refl _ | apply Drawn0.step)⟩
              · rw [if_neg c7] at H
                have c7b0 : (!(((rd_T81 l0 x5_1).f0) == ((rd_T81 l1 x5_1).f0)) || (!(((rd_T81 l0 x5_1).f1) == ((rd_T81 l1 x5_1).f1)) || (!((((rd_T81 l0 x5_1).f2).toList) == (((rd_T81 l1 x5_1).f2).toList)) || (!((((rd_T81 l0 x5_1).f3).toList) == (((rd_T81 l1 x5_1).f3).toList)) || (!(((rd_T81 l0 x5_1).f4) == ((rd_T81 l1 x5_1).f4))))))) = false := by simpa using c7
                clear c7
                have H' := Aside0.mk H
                clear H
                have p124 : 0 ≤ (x5_1 : Int) := of_decide_eq_true (by first | (with_reducible assumption) | assumption)
                have q124 : x5_1 < (l0.length : Int) := of_decide_eq_true (by first | (with_reducible assumption) | assumption)
                obtain ⟨ad124, e124, hx124_0, hx124_1, hx124_2, hx124_3, hx124_4⟩ := at_T81 HR0.out x5_1 p124 q124
                cases e124
                replace p124 := eq_true p124
                replace q124 := eq_true q124
                have p125 : 0 ≤ (x5_1 : Int) := of_decide_eq_true (by first | (with_reducible assumption) | assumption)
                have q125 : x5_1 < (l1.length : Int) := of_decide_eq_true (by first | (with_reducible assumption) | assumption)
                obtain ⟨ad125, e125, hx125_0, hx125_1, hx125_2, hx125_3, hx125_4⟩ := at_T81 HR1.out x5_1 p125 q125
                cases e125
                replace p125 := eq_true p125
                replace q125 := eq_true q125
                go_wp2
                repeat (go_quiet (fail); try go_wp2)
                go_roundg k1
                case measure => have := HK1.out; omega
                case rel => exact ⟨(wrap64 (x5_1 + 1)), (by first | rfl | (simp; done) | (simp [*]; done)), H', ⟨by have := HK1.out; omega⟩, by repeat (first | exact Drawn0.refl _ | apply Drawn0.step)⟩
            · rw [if_neg c6] at H
              exact absurd H (by simp)
          · rw [if_neg c5] at H
            exact absurd H (by simp)
        · rw [if_neg c4] at H
          have c4b0 : decide (x5_1 < (l0.length : Int)) = false := decide_eq_false c4
          clear c4
          obtain rfl := Option.some.inj H
          go_wp2
          repeat (go_quiet (fail); try go_wp2)
          go_ret
          exact ⟨by first | rfl | (simp; done) | (simp [*]; done), by repeat (first | exact Drawn0.refl _ | apply Drawn0.step)⟩
  · rw [if_neg c3] at H
    have c3b0 : ((l0.length : Int) == (l1.length : Int)) = false := beq_eq_false_iff_ne.mpr c3
    have c3b1 : ((l0.length : Int) != (l1.length : Int)) = true := bne_iff_ne.mpr c3
    have c3b2 : (l0.length == l1.length) = false := by first | simpa using c3 | (simp at c3 ⊢; omega)
    obtain rfl := Option.some.inj H
    go_enter Tryd.func44, Tryd.ntmps44
    go_wp2
    repeat (go_quiet (fail); try go_wp2)
    go_ret
    exact ⟨by first | rfl | (simp; done) | (simp [*]; done), by repeat (first | exact Drawn0.refl _ | apply Drawn0.step)⟩
def cracknellaw08_JsonAgain.f (k : Nat) (a0 : ByteArray) : Option (Bool) := if (a0.size : Int) > 500 then ((cracknellaw08_alive.f).bind fun t138 => (some t138)) else ((json_Parse.f k a0).bind fun bt139 => (if bt139.2 = 0 then ((json_Print.f bt139.1).bind fun t144 => ((json_Parse.f k t144).bind fun bt145 => ((cracknellaw08_alive.f).bind fun t149 => (if t149 = true then (if bt145.2 = 0 then ((cracknellaw08_Olds.f bt145.1).bind fun t150 => ((cracknellaw08_Olds.f bt139.1).bind fun t153 => ((cracknelref08_Same.f k t150 t153).bind fun t156 => (if t156 = true then ((json_Print.f bt145.1).bind fun t157 => (if t157.toList = t144.toList then (some (t144.toList != ([] : List UInt8))) else (some false))) else (some false))))) else (some false)) else (some false))))) else ((cracknellaw08_alive.f).bind fun t143 => (if t143 = true then (some ((bt139.1.length : Int) == 0)) else (some false)))))
set_option maxHeartbeats 8000000 in
set_option maxRecDepth 100000 in
theorem cracknellaw08_JsonAgain.calls (k : Nat) (a0 : ByteArray) (r : Bool) (w : World) (h : cracknellaw08_JsonAgain.f k a0 = some r) (TJ_ : JTabs w := by first | assumption | (refine JTabs.step (by assumption) ?_; repeat (first | exact Aside0.out (by assumption) | apply below_alloc | apply pw_below_drewN | apply below_drew1 | exact Below.refl _ _))) (TB_ : Tabs w := by first | assumption | (refine Tabs.step (by assumption) ?_; repeat (first | exact Aside0.out (by assumption) | apply below_alloc | apply pw_below_drewN | apply below_drew1 | exact Below.refl _ _))) :
    Calls Tryd.prog 16 #[.string a0] w fun e w' => e = .returned (.bool r) ∧ Below w.heap.size w w' := by
  have HB := Aside0.mk (Below.refl w.heap.size w)
  have H : (if (a0.size : Int) > 500 then ((cracknellaw08_alive.f).bind fun t138 => (some t138)) else ((json_Parse.f k a0).bind fun bt139 => (if bt139.2 = 0 then ((json_Print.f bt139.1).bind fun t144 => ((json_Parse.f k t144).bind fun bt145 => ((cracknellaw08_alive.f).bind fun t149 => (if t149 = true then (if bt145.2 = 0 then ((cracknellaw08_Olds.f bt145.1).bind fun t150 => ((cracknellaw08_Olds.f bt139.1).bind fun t153 => ((cracknelref08_Same.f k t150 t153).bind fun t156 => (if t156 = true then ((json_Print.f bt145.1).bind fun t157 => (if t157.toList = t144.toList then (some (t144.toList != ([] : List UInt8))) else (some false))) else (some false))))) else (some false)) else (some false))))) else ((cracknellaw08_alive.f).bind fun t143 => (if t143 = true then (some ((bt139.1.length : Int) == 0)) else (some false)))))) = some r := h
  clear h
  by_cases c2 : (a0.size : Int) > 500
  · rw [if_pos c2] at H
    have c2b0 : decide (500 < (a0.size : Int)) = true := decide_eq_true c2
    have c2b1 : decide (500 < a0.size) = true := decide_eq_true (by omega)
    clear c2
    replace H := Option.bind_eq_some_iff.mp H
    obtain ⟨t138, A30, H⟩ := H
    replace H : (some t138) = some r := H
    have A3 := Aside0.mk A30
    clear A30
    obtain rfl := Option.some.inj H
    go_enter Tryd.func16, Tryd.ntmps16
    go_wp2_with (first | ((with_reducible refine gate_callee (f := 40) rfl ?_); refine goesL_ (some 11) rfl rfl Tryd.func40 (by kernel_rfl) rfl #[] rfl (by (try simp only [List.map_toArray, List.map_cons, List.map_nil]); first | done | rfl | (simp only [List.length_drop, List.length_take]; rfl)) ?_; (with_reducible refine (cracknellaw08_alive.calls  t138 _ A3.out).mono ?_); rintro e w4 ⟨rfl, hb⟩; refine ⟨_, rfl, ?_⟩; have n0_ := Aside0.mk (below_step (by repeat (first | (with_reducible first | exact HB.out | apply below_alloc | apply pw_below_drewN | apply below_drew1) | exact HB.out)) hb); clear HB; have HB := n0_; clear n0_; (try clear hb); (try clear hb2); (try clear hk); (try clear hi)))
    go_ret
    exact ⟨by first | rfl | exact congrArg (fun b => Ending.returned (Value.bool b)) (isE2 _) | (simp [errW_none, errW_some] <;> rfl) | (simp [*, errW_none, errW_some] <;> rfl), by repeat (first | (with_reducible first | exact HB.out | apply below_alloc | apply pw_below_drewN | apply below_drew1) | exact HB.out)⟩
  · rw [if_neg c2] at H
    have c2b0 : decide (500 < (a0.size : Int)) = false := decide_eq_false c2
    have c2b1 : decide (500 < a0.size) = false := decide_eq_false (by omega)
    clear c2
    replace H := Option.bind_eq_some_iff.mp H
    obtain ⟨⟨t139, t140⟩, A50, H⟩ := H
    replace H : (if t140 = 0 then ((json_Print.f t139).bind fun t144 => ((json_Parse.f k t144).bind fun bt145 => ((cracknellaw08_alive.f).bind fun t149 => (if t149 = true then (if bt145.2 = 0 then ((cracknellaw08_Olds.f bt145.1).bind fun t150 => ((cracknellaw08_Olds.f t139).bind fun t153 => ((cracknelref08_Same.f k t150 t153).bind fun t156 => (if t156 = true then ((json_Print.f bt145.1).bind fun t157 => (if t157.toList = t144.toList then (some (t144.toList != ([] : List UInt8))) else (some false))) else (some false))))) else (some false)) else (some false))))) else ((cracknellaw08_alive.f).bind fun t143 => (if t143 = true then (some ((t139.length : Int) == 0)) else (some false)))) = some r := H
    have A5 := Aside0.mk A50
    clear A50
    by_cases c6 : t140 = 0
    · rw [if_pos c6] at H
      have c6b0 : (t140 == 0) = true := beq_iff_eq.mpr c6
      have c6b1 : (t140 != 0) = false := bne_eq_false_iff_eq.mpr c6
      clear c6
      replace H := Option.bind_eq_some_iff.mp H
      obtain ⟨t144, A70, H⟩ := H
      replace H : ((json_Parse.f k t144).bind fun bt145 => ((cracknellaw08_alive.f).bind fun t149 => (if t149 = true then (if bt145.2 = 0 then ((cracknellaw08_Olds.f bt145.1).bind fun t150 => ((cracknellaw08_Olds.f t139).bind fun t153 => ((cracknelref08_Same.f k t150 t153).bind fun t156 => (if t156 = true then ((json_Print.f bt145.1).bind fun t157 => (if t157.toList = t144.toList then (some (t144.toList != ([] : List UInt8))) else (some false))) else (some false))))) else (some false)) else (some false)))) = some r := H
      have A7 := Aside0.mk A70
      clear A70
      replace H := Option.bind_eq_some_iff.mp H
      obtain ⟨⟨t145, t146⟩, A80, H⟩ := H
      replace H : ((cracknellaw08_alive.f).bind fun t149 => (if t149 = true then (if t146 = 0 then ((cracknellaw08_Olds.f t145).bind fun t150 => ((cracknellaw08_Olds.f t139).bind fun t153 => ((cracknelref08_Same.f k t150 t153).bind fun t156 => (if t156 = true then ((json_Print.f t145).bind fun t157 => (if t157.toList = t144.toList then (some (t144.toList != ([] : List UInt8))) else (some false))) else (some false))))) else (some false)) else (some false))) = some r := H
      have A8 := Aside0.mk A80
      clear A80
      replace H := Option.bind_eq_some_iff.mp H
      obtain ⟨t149, A90, H⟩ := H
      replace H : (if t149 = true then (if t146 = 0 then ((cracknellaw08_Olds.f t145).bind fun t150 => ((cracknellaw08_Olds.f t139).bind fun t153 => ((cracknelref08_Same.f k t150 t153).bind fun t156 => (if t156 = true then ((json_Print.f t145).bind fun t157 => (if t157.toList = t144.toList then (some (t144.toList != ([] : List UInt8))) else (some false))) else (some false))))) else (some false)) else (some false)) = some r := H
      have A9 := Aside0.mk A90
      clear A90
      by_cases c10 : t149 = true
      · subst c10
        have H1 : (if t146 = 0 then ((cracknellaw08_Olds.f t145).bind fun t150 => ((cracknellaw08_Olds.f t139).bind fun t153 => ((cracknelref08_Same.f k t150 t153).bind fun t156 => (if t156 = true then ((json_Print.f t145).bind fun t157 => (if t157.toList = t144.toList then (some (t144.toList != ([] : List UInt8))) else (some false))) else (some false))))) else (some false)) = some r := by rw [if_pos rfl] at H; exact H
        clear H
        have H := H1
        clear H1
        by_cases c11 : t146 = 0
        · rw [if_pos c11] at H
          have c11b0 : (t146 == 0) = true := beq_iff_eq.mpr c11
          have c11b1 : (t146 != 0) = false := bne_eq_false_iff_eq.mpr c11
          clear c11
          replace H := Option.bind_eq_some_iff.mp H
          obtain ⟨t150, A120, H⟩ := H
          replace H : ((cracknellaw08_Olds.f t139).bind fun t153 => ((cracknelref08_Same.f k t150 t153).bind fun t156 => (if t156 = true then ((json_Print.f t145).bind fun t157 => (if t157.toList = t144.toList then (some (t144.toList != ([] : List UInt8))) else (some false))) else (some false)))) = some r := H
          have A12 := Aside0.mk A120
          clear A120
          replace H := Option.bind_eq_some_iff.mp H
          obtain ⟨t153, A130, H⟩ := H
          replace H : ((cracknelref08_Same.f k t150 t153).bind fun t156 => (if t156 = true then ((json_Print.f t145).bind fun t157 => (if t157.toList = t144.toList then (some (t144.toList != ([] : List UInt8))) else (some false))) else (some false))) = some r := H
          have A13 := Aside0.mk A130
          clear A130
          replace H := Option.bind_eq_some_iff.mp H
          obtain ⟨t156, A140, H⟩ := H
          replace H : (if t156 = true then ((json_Print.f t145).bind fun t157 => (if t157.toList = t144.toList then (some (t144.toList != ([] : List UInt8))) else (some false))) else (some false)) = some r := H
          have A14 := Aside0.mk A140
          clear A140
          by_cases c15 : t156 = true
          · subst c15
            have H1 : ((json_Print.f t145).bind fun t157 => (if t157.toList = t144.toList then (some (t144.toList != ([] : List UInt8))) else (some false))) = some r := by rw [if_pos rfl] at H; exact H
            clear H
            have H := H1
            clear H1
            replace H := Option.bind_eq_some_iff.mp H
            obtain ⟨t157, A160, H⟩ := H
            replace H : (if t157.toList = t144.toList then (some (t144.toList != ([] : List UInt8))) else (some false)) = some r := H
            have A16 := Aside0.mk A160
            clear A160
            by_cases c17 : t157.toList = t144.toList
            · rw [if_pos c17] at H
              have c17b0 : (t157.toList == t144.toList) = true := beq_iff_eq.mpr c17
              have c17b1 : (t157.toList != t144.toList) = false := bne_eq_false_iff_eq.mpr c17
              clear c17
              obtain rfl := Option.some.inj H
              go_enter Tryd.func16, Tryd.ntmps16
              go_wp2_with (first | ((with_reducible refine gate_callee (f := 46) rfl ?_); refine goesL_ (some 14) rfl rfl Tryd.func46 (by kernel_rfl) rfl #[.string a0] rfl (by (try simp only [List.map_toArray, List.map_cons, List.map_nil]); first | done | rfl | (simp only [List.length_drop, List.length_take]; rfl)) ?_; (with_reducible refine (json_Parse.calls k a0 t139 t140 _ A5.out).mono ?_); rintro e w18 ⟨v141, rfl, ho0, hb⟩; refine ⟨_, rfl, ?_⟩; have n0_ := Aside0.mk (Kd.R_lower ho0 (below_size (by repeat (first | (with_reducible first | exact HB.out | apply below_alloc | apply pw_below_drewN | apply below_drew1) | exact HB.out)))); have n1_ := Aside0.mk (below_step (by repeat (first | (with_reducible first | exact HB.out | apply below_alloc | apply pw_below_drewN | apply below_drew1) | exact HB.out)) hb); clear HB; have HO142 := n0_; have HB := n1_; clear n0_ n1_; (try clear hb); (try clear hb2); (try clear hk); (try clear hi); (try clear ho0); obtain ⟨Ao19, co19, eo19⟩ := Kd.R_slice HO142.out; subst eo19) | ((with_reducible refine gate_callee (f := 47) rfl ?_); refine goesL_ (some 26) rfl rfl Tryd.func47 (by kernel_rfl) rfl #[.slice Ao19 t139.length co19] rfl (by (try simp only [List.map_toArray, List.map_cons, List.map_nil]); first | done | rfl | (simp only [List.length_drop, List.length_take]; rfl)) ?_; (with_reducible refine (json_Print.calls _ _ t139 t144 _ ?side1 ?side2 A7.out).mono ?_); (case side1 => repeat (first | exact (Kd.R_reads' HO142.out).2.2 | (with_reducible refine Kd.C_alloc ?_ _) | (with_reducible refine Kd.C_drewN ?_ _) | (with_reducible refine Kd.C_drew ?_))); (case side2 => exact (Kd.R_reads' HO142.out).2.1); rintro e w20 ⟨rfl, hb⟩; refine ⟨_, rfl, ?_⟩; have n0_ := Aside0.mk (Kd.R_below (by (with_reducible repeat (first | apply Kd.R_alloc | apply Kd.R_drewN | apply Kd.R_drew)); exact HO142.out) hb); have n1_ := Aside0.mk (below_step (by repeat (first | (with_reducible first | exact HB.out | apply below_alloc | apply pw_below_drewN | apply below_drew1) | exact HB.out)) hb); clear HO142; clear HB; have HO142 := n0_; have HB := n1_; clear n0_ n1_; (try clear hb); (try clear hb2); (try clear hk); (try clear hi)) | ((with_reducible refine gate_callee (f := 46) rfl ?_); refine goesL_ (some 29) rfl rfl Tryd.func46 (by kernel_rfl) rfl #[.string t144] rfl (by (try simp only [List.map_toArray, List.map_cons, List.map_nil]); first | done | rfl | (simp only [List.length_drop, List.length_take]; rfl)) ?_; (with_reducible refine (json_Parse.calls k t144 t145 t146 _ A8.out).mono ?_); rintro e w21 ⟨v147, rfl, ho0, hb⟩; refine ⟨_, rfl, ?_⟩; have n0_ := Aside0.mk (Kd.R_elder' (by (with_reducible repeat (first | apply Kd.R_alloc | apply Kd.R_drewN | apply Kd.R_drew)); exact HO142.out) (Kd.R_base ho0) hb); have n1_ := Aside0.mk (Kd.R_lower (Kd.R_new' ho0 (Kd.R_lt (by (with_reducible repeat (first | apply Kd.R_alloc | apply Kd.R_drewN | apply Kd.R_drew)); exact HO142.out))) (below_size (by repeat (first | (with_reducible first | exact HB.out | apply below_alloc | apply pw_below_drewN | apply below_drew1) | exact HB.out)))); have n2_ := Aside0.mk (below_step (by repeat (first | (with_reducible first | exact HB.out | apply below_alloc | apply pw_below_drewN | apply below_drew1) | exact HB.out)) hb); clear HO142; clear HB; have HO142 := n0_; have HO148 := n1_; have HB := n2_; clear n0_ n1_ n2_; (try clear hb); (try clear hb2); (try clear hk); (try clear hi); (try clear ho0)) | ((with_reducible refine gate_callee (f := 40) rfl ?_); refine goesL_ (some 32) rfl rfl Tryd.func40 (by kernel_rfl) rfl #[] rfl (by (try simp only [List.map_toArray, List.map_cons, List.map_nil]); first | done | rfl | (simp only [List.length_drop, List.length_take]; rfl)) ?_; (with_reducible refine (cracknellaw08_alive.calls  true _ A9.out).mono ?_); rintro e w22 ⟨rfl, hb⟩; refine ⟨_, rfl, ?_⟩; have n0_ := Aside0.mk (Kd.R_below (by (with_reducible repeat (first | apply Kd.R_alloc | apply Kd.R_drewN | apply Kd.R_drew)); exact HO142.out) hb); have n1_ := Aside0.mk (Kd.R_below (by (with_reducible repeat (first | apply Kd.R_alloc | apply Kd.R_drewN | apply Kd.R_drew)); exact HO148.out) hb); have n2_ := Aside0.mk (below_step (by repeat (first | (with_reducible first | exact HB.out | apply below_alloc | apply pw_below_drewN | apply below_drew1) | exact HB.out)) hb); clear HO142; clear HO148; clear HB; have HO142 := n0_; have HO148 := n1_; have HB := n2_; clear n0_ n1_ n2_; (try clear hb); (try clear hb2); (try clear hk); (try clear hi); obtain ⟨Ao23, co23, eo23⟩ := Kd.R_slice HO148.out; subst eo23) | (go_at_call 45; (with_reducible refine (cracknellaw08_Olds.calls _ _ t145 t150 _ ?side1 ?side2 A12.out).mono ?_); (case side1 => repeat (first | exact (Kd.R_reads' HO148.out).2.2 | (with_reducible refine Kd.C_alloc ?_ _) | (with_reducible refine Kd.C_drewN ?_ _) | (with_reducible refine Kd.C_drew ?_))); (case side2 => exact (Kd.R_reads' HO148.out).2.1); rintro e w24 ⟨v151, rfl, ho0, hb⟩; have n0_ := Aside0.mk (Kd.R_below (by (with_reducible repeat (first | apply Kd.R_alloc | apply Kd.R_drewN | apply Kd.R_drew)); exact HO142.out) hb); have n1_ := Aside0.mk (Kd.R_below (by (with_reducible repeat (first | apply Kd.R_alloc | apply Kd.R_drewN | apply Kd.R_drew)); exact HO148.out) hb); have n2_ := Aside0.mk (Kd.R_lower ho0 (below_size (by repeat (first | (with_reducible first | exact HB.out | apply below_alloc | apply pw_below_drewN | apply below_drew1) | exact HB.out)))); have n3_ := Aside0.mk (below_step (by repeat (first | (with_reducible first | exact HB.out | apply below_alloc | apply pw_below_drewN | apply below_drew1) | exact HB.out)) hb); clear HO142; clear HO148; clear HB; have HO142 := n0_; have HO148 := n1_; have HO152 := n2_; have HB := n3_; clear n0_ n1_ n2_ n3_; (try clear hb); (try clear hb2); (try clear hk); (try clear hi); (try clear ho0)) | (go_at_call 45; (with_reducible refine (cracknellaw08_Olds.calls _ _ t139 t153 _ ?side1 ?side2 A13.out).mono ?_); (case side1 => repeat (first | exact (Kd.R_reads' HO142.out).2.2 | (with_reducible refine Kd.C_alloc ?_ _) | (with_reducible refine Kd.C_drewN ?_ _) | (with_reducible refine Kd.C_drew ?_))); (case side2 => exact (Kd.R_reads' HO142.out).2.1); rintro e w25 ⟨v154, rfl, ho0, hb⟩; have n0_ := Aside0.mk (Kd.R_below (by (with_reducible repeat (first | apply Kd.R_alloc | apply Kd.R_drewN | apply Kd.R_drew)); exact HO142.out) hb); have n1_ := Aside0.mk (Kd.R_below (by (with_reducible repeat (first | apply Kd.R_alloc | apply Kd.R_drewN | apply Kd.R_drew)); exact HO148.out) hb); have n2_ := Aside0.mk (Kd.R_elder' (by (with_reducible repeat (first | apply Kd.R_alloc | apply Kd.R_drewN | apply Kd.R_drew)); exact HO152.out) (Kd.R_base ho0) hb); have n3_ := Aside0.mk (Kd.R_lower (Kd.R_new' ho0 (Kd.R_lt (by (with_reducible repeat (first | apply Kd.R_alloc | apply Kd.R_drewN | apply Kd.R_drew)); exact HO152.out))) (below_size (by repeat (first | (with_reducible first | exact HB.out | apply below_alloc | apply pw_below_drewN | apply below_drew1) | exact HB.out)))); have n4_ := Aside0.mk (below_step (by repeat (first | (with_reducible first | exact HB.out | apply below_alloc | apply pw_below_drewN | apply below_drew1) | exact HB.out)) hb); clear HO142; clear HO148; clear HO152; clear HB; have HO142 := n0_; have HO148 := n1_; have HO152 := n2_; have HO155 := n3_; have HB := n4_; clear n0_ n1_ n2_ n3_ n4_; (try clear hb); (try clear hb2); (try clear hk); (try clear hi); (try clear ho0); obtain ⟨Ao26, co26, eo26⟩ := Kd.R_slice HO152.out; subst eo26; obtain ⟨Ao27, co27, eo27⟩ := Kd.R_slice HO155.out; subst eo27) | (go_at_call 44; (with_reducible refine (cracknelref08_Same.calls k _ _ t150 _ _ t153 true _ ?side1 ?side2 ?side3 ?side4 A14.out).mono ?_); (case side1 => repeat (first | exact (Kd.R_reads' HO152.out).2.2 | (with_reducible refine Kd.C_alloc ?_ _) | (with_reducible refine Kd.C_drewN ?_ _) | (with_reducible refine Kd.C_drew ?_))); (case side2 => exact (Kd.R_reads' HO152.out).2.1); (case side3 => repeat (first | exact (Kd.R_reads' HO155.out).2.2 | (with_reducible refine Kd.C_alloc ?_ _) | (with_reducible refine Kd.C_drewN ?_ _) | (with_reducible refine Kd.C_drew ?_))); (case side4 => exact (Kd.R_reads' HO155.out).2.1); rintro e w' ⟨rfl, ⟨nd, rfl⟩⟩) | (go_at_call 47; (with_reducible refine (json_Print.calls _ _ t145 t157 _ ?side1 ?side2 A16.out).mono ?_); (case side1 => repeat (first | exact (Kd.R_reads' HO148.out).2.2 | (with_reducible refine Kd.C_alloc ?_ _) | (with_reducible refine Kd.C_drewN ?_ _) | (with_reducible refine Kd.C_drew ?_))); (case side2 => exact (Kd.R_reads' HO148.out).2.1); rintro e w28 ⟨rfl, hb⟩; have n0_ := Aside0.mk (Kd.R_below (by (with_reducible repeat (first | apply Kd.R_alloc | apply Kd.R_drewN | apply Kd.R_drew)); exact HO142.out) hb); have n1_ := Aside0.mk (Kd.R_below (by (with_reducible repeat (first | apply Kd.R_alloc | apply Kd.R_drewN | apply Kd.R_drew)); exact HO148.out) hb); have n2_ := Aside0.mk (Kd.R_below (by (with_reducible repeat (first | apply Kd.R_alloc | apply Kd.R_drewN | apply Kd.R_drew)); exact HO152.out) hb); have n3_ := Aside0.mk (Kd.R_below (by (with_reducible repeat (first | apply Kd.R_alloc | apply Kd.R_drewN | apply Kd.R_drew)); exact HO155.out) hb); have n4_ := Aside0.mk (below_step (by repeat (first | (with_reducible first | exact HB.out | apply below_alloc | apply pw_below_drewN | apply below_drew1) | exact HB.out)) hb); clear HO142; clear HO148; clear HO152; clear HO155; clear HB; have HO142 := n0_; have HO148 := n1_; have HO152 := n2_; have HO155 := n3_; have HB := n4_; clear n0_ n1_ n2_ n3_ n4_; (try clear hb); (try clear hb2); (try clear hk); (try clear hi)))
              go_ret
              exact ⟨by first | rfl | exact congrArg (fun b => Ending.returned (Value.bool b)) (isE2 _) | (simp [errW_none, errW_some] <;> rfl) | (simp [*, errW_none, errW_some] <;> rfl), by repeat (first | (with_reducible first | exact HB.out | apply below_alloc | apply pw_below_drewN | apply below_drew1) | exact HB.out)⟩
            · rw [if_neg c17] at H
              have c17b0 : (t157.toList == t144.toList) = false := beq_eq_false_iff_ne.mpr c17
              have c17b1 : (t157.toList != t144.toList) = true := bne_iff_ne.mpr c17
              obtain rfl := Option.some.inj H
              go_enter Tryd.func16, Tryd.ntmps16
              go_wp2_with (first | ((with_reducible refine gate_callee (f := 46) rfl ?_); refine goesL_ (some 14) rfl rfl Tryd.func46 (by kernel_rfl) rfl #[.string a0] rfl (by (try simp only [List.map_toArray, List.map_cons, List.map_nil]); first | done | rfl | (simp only [List.length_drop, List.length_take]; rfl)) ?_; (with_reducible refine (json_Parse.calls k a0 t139 t140 _ A5.out).mono ?_); rintro e w29 ⟨v141, rfl, ho0, hb⟩; refine ⟨_, rfl, ?_⟩; have n0_ := Aside0.mk (Kd.R_lower ho0 (below_size (by repeat (first | (with_reducible first | exact HB.out | apply below_alloc | apply pw_below_drewN | apply below_drew1) | exact HB.out)))); have n1_ := Aside0.mk (below_step (by repeat (first | (with_reducible first | exact HB.out | apply below_alloc | apply pw_below_drewN | apply below_drew1) | exact HB.out)) hb); clear HB; have HO142 := n0_; have HB := n1_; clear n0_ n1_; (try clear hb); (try clear hb2); (try clear hk); (try clear hi); (try clear ho0); obtain ⟨Ao30, co30, eo30⟩ := Kd.R_slice HO142.out; subst eo30) | ((with_reducible refine gate_callee (f := 47) rfl ?_); refine goesL_ (some 26) rfl rfl Tryd.func47 (by kernel_rfl) rfl #[.slice Ao30 t139.length co30] rfl (by (try simp only [List.map_toArray, List.map_cons, List.map_nil]); first | done | rfl | (simp only [List.length_drop, List.length_take]; rfl)) ?_; (with_reducible refine (json_Print.calls _ _ t139 t144 _ ?side1 ?side2 A7.out).mono ?_); (case side1 => repeat (first | exact (Kd.R_reads' HO142.out).2.2 | (with_reducible refine Kd.C_alloc ?_ _) | (with_reducible refine Kd.C_drewN ?_ _) | (with_reducible refine Kd.C_drew ?_))); (case side2 => exact (Kd.R_reads' HO142.out).2.1); rintro e w31 ⟨rfl, hb⟩; refine ⟨_, rfl, ?_⟩; have n0_ := Aside0.mk (Kd.R_below (by (with_reducible repeat (first | apply Kd.R_alloc | apply Kd.R_drewN | apply Kd.R_drew)); exact HO142.out) hb); have n1_ := Aside0.mk (below_step (by repeat (first | (with_reducible first | exact HB.out | apply below_alloc | apply pw_below_drewN | apply below_drew1) | exact HB.out)) hb); clear HO142; clear HB; have HO142 := n0_; have HB := n1_; clear n0_ n1_; (try clear hb); (try clear hb2); (try clear hk); (try clear hi)) | ((with_reducible refine gate_callee (f := 46) rfl ?_); refine goesL_ (some 29) rfl rfl Tryd.func46 (by kernel_rfl) rfl #[.string t144] rfl (by (try simp only [List.map_toArray, List.map_cons, List.map_nil]); first | done | rfl | (simp only [List.length_drop, List.length_take]; rfl)) ?_; (with_reducible refine (json_Parse.calls k t144 t145 t146 _ A8.out).mono ?_); rintro e w32 ⟨v147, rfl, ho0, hb⟩; refine ⟨_, rfl, ?_⟩; have n0_ := Aside0.mk (Kd.R_elder' (by (with_reducible repeat (first | apply Kd.R_alloc | apply Kd.R_drewN | apply Kd.R_drew)); exact HO142.out) (Kd.R_base ho0) hb); have n1_ := Aside0.mk (Kd.R_lower (Kd.R_new' ho0 (Kd.R_lt (by (with_reducible repeat (first | apply Kd.R_alloc | apply Kd.R_drewN | apply Kd.R_drew)); exact HO142.out))) (below_size (by repeat (first | (with_reducible first | exact HB.out | apply below_alloc | apply pw_below_drewN | apply below_drew1) | exact HB.out)))); have n2_ := Aside0.mk (below_step (by repeat (first | (with_reducible first | exact HB.out | apply below_alloc | apply pw_below_drewN | apply below_drew1) | exact HB.out)) hb); clear HO142; clear HB; have HO142 := n0_; have HO148 := n1_; have HB := n2_; clear n0_ n1_ n2_; (try clear hb); (try clear hb2); (try clear hk); (try clear hi); (try clear ho0)) | ((with_reducible refine gate_callee (f := 40) rfl ?_); refine goesL_ (some 32) rfl rfl Tryd.func40 (by kernel_rfl) rfl #[] rfl (by (try simp only [List.map_toArray, List.map_cons, List.map_nil]); first | done | rfl | (simp only [List.length_drop, List.length_take]; rfl)) ?_; (with_reducible refine (cracknellaw08_alive.calls  true _ A9.out).mono ?_); rintro e w33 ⟨rfl, hb⟩; refine ⟨_, rfl, ?_⟩; have n0_ := Aside0.mk (Kd.R_below (by (with_reducible repeat (first | apply Kd.R_alloc | apply Kd.R_drewN | apply Kd.R_drew)); exact HO142.out) hb); have n1_ := Aside0.mk (Kd.R_below (by (with_reducible repeat (first | apply Kd.R_alloc | apply Kd.R_drewN | apply Kd.R_drew)); exact HO148.out) hb); have n2_ := Aside0.mk (below_step (by repeat (first | (with_reducible first | exact HB.out | apply below_alloc | apply pw_below_drewN | apply below_drew1) | exact HB.out)) hb); clear HO142; clear HO148; clear HB; have HO142 := n0_; have HO148 := n1_; have HB := n2_; clear n0_ n1_ n2_; (try clear hb); (try clear hb2); (try clear hk); (try clear hi); obtain ⟨Ao34, co34, eo34⟩ := Kd.R_slice HO148.out; subst eo34) | (go_at_call 45; (with_reducible refine (cracknellaw08_Olds.calls _ _ t145 t150 _ ?side1 ?side2 A12.out).mono ?_); (case side1 => repeat (first | exact (Kd.R_reads' HO148.out).2.2 | (with_reducible refine Kd.C_alloc ?_ _) | (with_reducible refine Kd.C_drewN ?_ _) | (with_reducible refine Kd.C_drew ?_))); (case side2 => exact (Kd.R_reads' HO148.out).2.1); rintro e w35 ⟨v151, rfl, ho0, hb⟩; have n0_ := Aside0.mk (Kd.R_below (by (with_reducible repeat (first | apply Kd.R_alloc | apply Kd.R_drewN | apply Kd.R_drew)); exact HO142.out) hb); have n1_ := Aside0.mk (Kd.R_below (by (with_reducible repeat (first | apply Kd.R_alloc | apply Kd.R_drewN | apply Kd.R_drew)); exact HO148.out) hb); have n2_ := Aside0.mk (Kd.R_lower ho0 (below_size (by repeat (first | (with_reducible first | exact HB.out | apply below_alloc | apply pw_below_drewN | apply below_drew1) | exact HB.out)))); have n3_ := Aside0.mk (below_step (by repeat (first | (with_reducible first | exact HB.out | apply below_alloc | apply pw_below_drewN | apply below_drew1) | exact HB.out)) hb); clear HO142; clear HO148; clear HB; have HO142 := n0_; have HO148 := n1_; have HO152 := n2_; have HB := n3_; clear n0_ n1_ n2_ n3_; (try clear hb); (try clear hb2); (try clear hk); (try clear hi); (try clear ho0)) | (go_at_call 45; (with_reducible refine (cracknellaw08_Olds.calls _ _ t139 t153 _ ?side1 ?side2 A13.out).mono ?_); (case side1 => repeat (first | exact (Kd.R_reads' HO142.out).2.2 | (with_reducible refine Kd.C_alloc ?_ _) | (with_reducible refine Kd.C_drewN ?_ _) | (with_reducible refine Kd.C_drew ?_))); (case side2 => exact (Kd.R_reads' HO142.out).2.1); rintro e w36 ⟨v154, rfl, ho0, hb⟩; have n0_ := Aside0.mk (Kd.R_below (by (with_reducible repeat (first | apply Kd.R_alloc | apply Kd.R_drewN | apply Kd.R_drew)); exact HO142.out) hb); have n1_ := Aside0.mk (Kd.R_below (by (with_reducible repeat (first | apply Kd.R_alloc | apply Kd.R_drewN | apply Kd.R_drew)); exact HO148.out) hb); have n2_ := Aside0.mk (Kd.R_elder' (by (with_reducible repeat (first | apply Kd.R_alloc | apply Kd.R_drewN | apply Kd.R_drew)); exact HO152.out) (Kd.R_base ho0) hb); have n3_ := Aside0.mk (Kd.R_lower (Kd.R_new' ho0 (Kd.R_lt (by (with_reducible repeat (first | apply Kd.R_alloc | apply Kd.R_drewN | apply Kd.R_drew)); exact HO152.out))) (below_size (by repeat (first | (with_reducible first | exact HB.out | apply below_alloc | apply pw_below_drewN | apply below_drew1) | exact HB.out)))); have n4_ := Aside0.mk (below_step (by repeat (first | (with_reducible first | exact HB.out | apply below_alloc | apply pw_below_drewN | apply below_drew1) | exact HB.out)) hb); clear HO142; clear HO148; clear HO152; clear HB; have HO142 := n0_; have HO148 := n1_; have HO152 := n2_; have HO155 := n3_; have HB := n4_; clear n0_ n1_ n2_ n3_ n4_; (try clear hb); (try clear hb2); (try clear hk); (try clear hi); (try clear ho0); obtain ⟨Ao37, co37, eo37⟩ := Kd.R_slice HO152.out; subst eo37; obtain ⟨Ao38, co38, eo38⟩ := Kd.R_slice HO155.out; subst eo38) | (go_at_call 44; (with_reducible refine (cracknelref08_Same.calls k _ _ t150 _ _ t153 true _ ?side1 ?side2 ?side3 ?side4 A14.out).mono ?_); (case side1 => repeat (first | exact (Kd.R_reads' HO152.out).2.2 | (with_reducible refine Kd.C_alloc ?_ _) | (with_reducible refine Kd.C_drewN ?_ _) | (with_reducible refine Kd.C_drew ?_))); (case side2 => exact (Kd.R_reads' HO152.out).2.1); (case side3 => repeat (first | exact (Kd.R_reads' HO155.out).2.2 | (with_reducible refine Kd.C_alloc ?_ _) | (with_reducible refine Kd.C_drewN ?_ _) | (with_reducible refine Kd.C_drew ?_))); (case side4 => exact (Kd.R_reads' HO155.out).2.1); rintro e w' ⟨rfl, ⟨nd, rfl⟩⟩) | (go_at_call 47; (with_reducible refine (json_Print.calls _ _ t145 t157 _ ?side1 ?side2 A16.out).mono ?_); (case side1 => repeat (first | exact (Kd.R_reads' HO148.out).2.2 | (with_reducible refine Kd.C_alloc ?_ _) | (with_reducible refine Kd.C_drewN ?_ _) | (with_reducible refine Kd.C_drew ?_))); (case side2 => exact (Kd.R_reads' HO148.out).2.1); rintro e w39 ⟨rfl, hb⟩; have n0_ := Aside0.mk (Kd.R_below (by (with_reducible repeat (first | apply Kd.R_alloc | apply Kd.R_drewN | apply Kd.R_drew)); exact HO142.out) hb); have n1_ := Aside0.mk (Kd.R_below (by (with_reducible repeat (first | apply Kd.R_alloc | apply Kd.R_drewN | apply Kd.R_drew)); exact HO148.out) hb); have n2_ := Aside0.mk (Kd.R_below (by (with_reducible repeat (first | apply Kd.R_alloc | apply Kd.R_drewN | apply Kd.R_drew)); exact HO152.out) hb); have n3_ := Aside0.mk (Kd.R_below (by (with_reducible repeat (first | apply Kd.R_alloc | apply Kd.R_drewN | apply Kd.R_drew)); exact HO155.out) hb); have n4_ := Aside0.mk (below_step (by repeat (first | (with_reducible first | exact HB.out | apply below_alloc | apply pw_below_drewN | apply below_drew1) | exact HB.out)) hb); clear HO142; clear HO148; clear HO152; clear HO155; clear HB; have HO142 := n0_; have HO148 := n1_; have HO152 := n2_; have HO155 := n3_; have HB := n4_; clear n0_ n1_ n2_ n3_ n4_; (try clear hb); (try clear hb2); (try clear hk); (try clear hi)))
              go_ret
              exact ⟨by first | rfl | exact congrArg (fun b => Ending.returned (Value.bool b)) (isE2 _) | (simp [errW_none, errW_some] <;> rfl) | (simp [*, errW_none, errW_some] <;> rfl), by repeat (first | (with_reducible first | exact HB.out | apply below_alloc | apply pw_below_drewN | apply below_drew1) | exact HB.out)⟩
          · replace c15 := Bool.eq_false_iff.mpr c15
            subst c15
            have H1 : (some false) = some r := by rw [if_neg (show ¬ (false = true) by decide)] at H; exact H
            clear H
            have H := H1
            clear H1
            obtain rfl := Option.some.inj H
            go_enter Tryd.func16, Tryd.ntmps16
            go_wp2_with (first | ((with_reducible refine gate_callee (f := 46) rfl ?_); refine goesL_ (some 14) rfl rfl Tryd.func46 (by kernel_rfl) rfl #[.string a0] rfl (by (try simp only [List.map_toArray, List.map_cons, List.map_nil]); first | done | rfl | (simp only [List.length_drop, List.length_take]; rfl)) ?_; (with_reducible refine (json_Parse.calls k a0 t139 t140 _ A5.out).mono ?_); rintro e w40 ⟨v141, rfl, ho0, hb⟩; refine ⟨_, rfl, ?_⟩; have n0_ := Aside0.mk (Kd.R_lower ho0 (below_size (by repeat (first | (with_reducible first | exact HB.out | apply below_alloc | apply pw_below_drewN | apply below_drew1) | exact HB.out)))); have n1_ := Aside0.mk (below_step (by repeat (first | (with_reducible first | exact HB.out | apply below_alloc | apply pw_below_drewN | apply below_drew1) | exact HB.out)) hb); clear HB; have HO142 := n0_; have HB := n1_; clear n0_ n1_; (try clear hb); (try clear hb2); (try clear hk); (try clear hi); (try clear ho0); obtain ⟨Ao41, co41, eo41⟩ := Kd.R_slice HO142.out; subst eo41) | ((with_reducible refine gate_callee (f := 47) rfl ?_); refine goesL_ (some 26) rfl rfl Tryd.func47 (by kernel_rfl) rfl #[.slice Ao41 t139.length co41] rfl (by (try simp only [List.map_toArray, List.map_cons, List.map_nil]); first | done | rfl | (simp only [List.length_drop, List.length_take]; rfl)) ?_; (with_reducible refine (json_Print.calls _ _ t139 t144 _ ?side1 ?side2 A7.out).mono ?_); (case side1 => repeat (first | exact (Kd.R_reads' HO142.out).2.2 | (with_reducible refine Kd.C_alloc ?_ _) | (with_reducible refine Kd.C_drewN ?_ _) | (with_reducible refine Kd.C_drew ?_))); (case side2 => exact (Kd.R_reads' HO142.out).2.1); rintro e w42 ⟨rfl, hb⟩; refine ⟨_, rfl, ?_⟩; have n0_ := Aside0.mk (Kd.R_below (by (with_reducible repeat (first | apply Kd.R_alloc | apply Kd.R_drewN | apply Kd.R_drew)); exact HO142.out) hb); have n1_ := Aside0.mk (below_step (by repeat (first | (with_reducible first | exact HB.out | apply below_alloc | apply pw_below_drewN | apply below_drew1) | exact HB.out)) hb); clear HO142; clear HB; have HO142 := n0_; have HB := n1_; clear n0_ n1_; (try clear hb); (try clear hb2); (try clear hk); (try clear hi)) | ((with_reducible refine gate_callee (f := 46) rfl ?_); refine goesL_ (some 29) rfl rfl Tryd.func46 (by kernel_rfl) rfl #[.string t144] rfl (by (try simp only [List.map_toArray, List.map_cons, List.map_nil]); first | done | rfl | (simp only [List.length_drop, List.length_take]; rfl)) ?_; (with_reducible refine (json_Parse.calls k t144 t145 t146 _ A8.out).mono ?_); rintro e w43 ⟨v147, rfl, ho0, hb⟩; refine ⟨_, rfl, ?_⟩; have n0_ := Aside0.mk (Kd.R_elder' (by (with_reducible repeat (first | apply Kd.R_alloc | apply Kd.R_drewN | apply Kd.R_drew)); exact HO142.out) (Kd.R_base ho0) hb); have n1_ := Aside0.mk (Kd.R_lower (Kd.R_new' ho0 (Kd.R_lt (by (with_reducible repeat (first | apply Kd.R_alloc | apply Kd.R_drewN | apply Kd.R_drew)); exact HO142.out))) (below_size (by repeat (first | (with_reducible first | exact HB.out | apply below_alloc | apply pw_below_drewN | apply below_drew1) | exact HB.out)))); have n2_ := Aside0.mk (below_step (by repeat (first | (with_reducible first | exact HB.out | apply below_alloc | apply pw_below_drewN | apply below_drew1) | exact HB.out)) hb); clear HO142; clear HB; have HO142 := n0_; have HO148 := n1_; have HB := n2_; clear n0_ n1_ n2_; (try clear hb); (try clear hb2); (try clear hk); (try clear hi); (try clear ho0)) | ((with_reducible refine gate_callee (f := 40) rfl ?_); refine goesL_ (some 32) rfl rfl Tryd.func40 (by kernel_rfl) rfl #[] rfl (by (try simp only [List.map_toArray, List.map_cons, List.map_nil]); first | done | rfl | (simp only [List.length_drop, List.length_take]; rfl)) ?_; (with_reducible refine (cracknellaw08_alive.calls  true _ A9.out).mono ?_); rintro e w44 ⟨rfl, hb⟩; refine ⟨_, rfl, ?_⟩; have n0_ := Aside0.mk (Kd.R_below (by (with_reducible repeat (first | apply Kd.R_alloc | apply Kd.R_drewN | apply Kd.R_drew)); exact HO142.out) hb); have n1_ := Aside0.mk (Kd.R_below (by (with_reducible repeat (first | apply Kd.R_alloc | apply Kd.R_drewN | apply Kd.R_drew)); exact HO148.out) hb); have n2_ := Aside0.mk (below_step (by repeat (first | (with_reducible first | exact HB.out | apply below_alloc | apply pw_below_drewN | apply below_drew1) | exact HB.out)) hb); clear HO142; clear HO148; clear HB; have HO142 := n0_; have HO148 := n1_; have HB := n2_; clear n0_ n1_ n2_; (try clear hb); (try clear hb2); (try clear hk); (try clear hi); obtain ⟨Ao45, co45, eo45⟩ := Kd.R_slice HO148.out; subst eo45) | (go_at_call 45; (with_reducible refine (cracknellaw08_Olds.calls _ _ t145 t150 _ ?side1 ?side2 A12.out).mono ?_); (case side1 => repeat (first | exact (Kd.R_reads' HO148.out).2.2 | (with_reducible refine Kd.C_alloc ?_ _) | (with_reducible refine Kd.C_drewN ?_ _) | (with_reducible refine Kd.C_drew ?_))); (case side2 => exact (Kd.R_reads' HO148.out).2.1); rintro e w46 ⟨v151, rfl, ho0, hb⟩; have n0_ := Aside0.mk (Kd.R_below (by (with_reducible repeat (first | apply Kd.R_alloc | apply Kd.R_drewN | apply Kd.R_drew)); exact HO142.out) hb); have n1_ := Aside0.mk (Kd.R_below (by (with_reducible repeat (first | apply Kd.R_alloc | apply Kd.R_drewN | apply Kd.R_drew)); exact HO148.out) hb); have n2_ := Aside0.mk (Kd.R_lower ho0 (below_size (by repeat (first | (with_reducible first | exact HB.out | apply below_alloc | apply pw_below_drewN | apply below_drew1) | exact HB.out)))); have n3_ := Aside0.mk (below_step (by repeat (first | (with_reducible first | exact HB.out | apply below_alloc | apply pw_below_drewN | apply below_drew1) | exact HB.out)) hb); clear HO142; clear HO148; clear HB; have HO142 := n0_; have HO148 := n1_; have HO152 := n2_; have HB := n3_; clear n0_ n1_ n2_ n3_; (try clear hb); (try clear hb2); (try clear hk); (try clear hi); (try clear ho0)) | (go_at_call 45; (with_reducible refine (cracknellaw08_Olds.calls _ _ t139 t153 _ ?side1 ?side2 A13.out).mono ?_); (case side1 => repeat (first | exact (Kd.R_reads' HO142.out).2.2 | (with_reducible refine Kd.C_alloc ?_ _) | (with_reducible refine Kd.C_drewN ?_ _) | (with_reducible refine Kd.C_drew ?_))); (case side2 => exact (Kd.R_reads' HO142.out).2.1); rintro e w47 ⟨v154, rfl, ho0, hb⟩; have n0_ := Aside0.mk (Kd.R_below (by (with_reducible repeat (first | apply Kd.R_alloc | apply Kd.R_drewN | apply Kd.R_drew)); exact HO142.out) hb); have n1_ := Aside0.mk (Kd.R_below (by (with_reducible repeat (first | apply Kd.R_alloc | apply Kd.R_drewN | apply Kd.R_drew)); exact HO148.out) hb); have n2_ := Aside0.mk (Kd.R_elder' (by (with_reducible repeat (first | apply Kd.R_alloc | apply Kd.R_drewN | apply Kd.R_drew)); exact HO152.out) (Kd.R_base ho0) hb); have n3_ := Aside0.mk (Kd.R_lower (Kd.R_new' ho0 (Kd.R_lt (by (with_reducible repeat (first | apply Kd.R_alloc | apply Kd.R_drewN | apply Kd.R_drew)); exact HO152.out))) (below_size (by repeat (first | (with_reducible first | exact HB.out | apply below_alloc | apply pw_below_drewN | apply below_drew1) | exact HB.out)))); have n4_ := Aside0.mk (below_step (by repeat (first | (with_reducible first | exact HB.out | apply below_alloc | apply pw_below_drewN | apply below_drew1) | exact HB.out)) hb); clear HO142; clear HO148; clear HO152; clear HB; have HO142 := n0_; have HO148 := n1_; have HO152 := n2_; have HO155 := n3_; have HB := n4_; clear n0_ n1_ n2_ n3_ n4_; (try clear hb); (try clear hb2); (try clear hk); (try clear hi); (try clear ho0); obtain ⟨Ao48, co48, eo48⟩ := Kd.R_slice HO152.out; subst eo48; obtain ⟨Ao49, co49, eo49⟩ := Kd.R_slice HO155.out; subst eo49) | (go_at_call 44; (with_reducible refine (cracknelref08_Same.calls k _ _ t150 _ _ t153 false _ ?side1 ?side2 ?side3 ?side4 A14.out).mono ?_); (case side1 => repeat (first | exact (Kd.R_reads' HO152.out).2.2 | (with_reducible refine Kd.C_alloc ?_ _) | (with_reducible refine Kd.C_drewN ?_ _) | (with_reducible refine Kd.C_drew ?_))); (case side2 => exact (Kd.R_reads' HO152.out).2.1); (case side3 => repeat (first | exact (Kd.R_reads' HO155.out).2.2 | (with_reducible refine Kd.C_alloc ?_ _) | (with_reducible refine Kd.C_drewN ?_ _) | (with_reducible refine Kd.C_drew ?_))); (case side4 => exact (Kd.R_reads' HO155.out).2.1); rintro e w' ⟨rfl, ⟨nd, rfl⟩⟩))
            go_ret
            exact ⟨by first | rfl | exact congrArg (fun b => Ending.returned (Value.bool b)) (isE2 _) | (simp [errW_none, errW_some] <;> rfl) | (simp [*, errW_none, errW_some] <;> rfl), by repeat (first | (with_reducible first | exact HB.out | apply below_alloc | apply pw_below_drewN | apply below_drew1) | exact HB.out)⟩
        · rw [if_neg c11] at H
          have c11b0 : (t146 == 0) = false := beq_eq_false_iff_ne.mpr c11
          have c11b1 : (t146 != 0) = true := bne_iff_ne.mpr c11
          obtain rfl := Option.some.inj H
          go_enter Tryd.func16, Tryd.ntmps16
          go_wp2_with (first | ((with_reducible refine gate_callee (f := 46) rfl ?_); refine goesL_ (some 14) rfl rfl Tryd.func46 (by kernel_rfl) rfl #[.string a0] rfl (by (try simp only [List.map_toArray, List.map_cons, List.map_nil]); first | done | rfl | (simp only [List.length_drop, List.length_take]; rfl)) ?_; (with_reducible refine (json_Parse.calls k a0 t139 t140 _ A5.out).mono ?_); rintro e w50 ⟨v141, rfl, ho0, hb⟩; refine ⟨_, rfl, ?_⟩; have n0_ := Aside0.mk (Kd.R_lower ho0 (below_size (by repeat (first | (with_reducible first | exact HB.out | apply below_alloc | apply pw_below_drewN | apply below_drew1) | exact HB.out)))); have n1_ := Aside0.mk (below_step (by repeat (first | (with_reducible first | exact HB.out | apply below_alloc | apply pw_below_drewN | apply below_drew1) | exact HB.out)) hb); clear HB; have HO142 := n0_; have HB := n1_; clear n0_ n1_; (try clear hb); (try clear hb2); (try clear hk); (try clear hi); (try clear ho0); obtain ⟨Ao51, co51, eo51⟩ := Kd.R_slice HO142.out; subst eo51) | ((with_reducible refine gate_callee (f := 47) rfl ?_); refine goesL_ (some 26) rfl rfl Tryd.func47 (by kernel_rfl) rfl #[.slice Ao51 t139.length co51] rfl (by (try simp only [List.map_toArray, List.map_cons, List.map_nil]); first | done | rfl | (simp only [List.length_drop, List.length_take]; rfl)) ?_; (with_reducible refine (json_Print.calls _ _ t139 t144 _ ?side1 ?side2 A7.out).mono ?_); (case side1 => repeat (first | exact (Kd.R_reads' HO142.out).2.2 | (with_reducible refine Kd.C_alloc ?_ _) | (with_reducible refine Kd.C_drewN ?_ _) | (with_reducible refine Kd.C_drew ?_))); (case side2 => exact (Kd.R_reads' HO142.out).2.1); rintro e w52 ⟨rfl, hb⟩; refine ⟨_, rfl, ?_⟩; have n0_ := Aside0.mk (Kd.R_below (by (with_reducible repeat (first | apply Kd.R_alloc | apply Kd.R_drewN | apply Kd.R_drew)); exact HO142.out) hb); have n1_ := Aside0.mk (below_step (by repeat (first | (with_reducible first | exact HB.out | apply below_alloc | apply pw_below_drewN | apply below_drew1) | exact HB.out)) hb); clear HO142; clear HB; have HO142 := n0_; have HB := n1_; clear n0_ n1_; (try clear hb); (try clear hb2); (try clear hk); (try clear hi)) | ((with_reducible refine gate_callee (f := 46) rfl ?_); refine goesL_ (some 29) rfl rfl Tryd.func46 (by kernel_rfl) rfl #[.string t144] rfl (by (try simp only [List.map_toArray, List.map_cons, List.map_nil]); first | done | rfl | (simp only [List.length_drop, List.length_take]; rfl)) ?_; (with_reducible refine (json_Parse.calls k t144 t145 t146 _ A8.out).mono ?_); rintro e w53 ⟨v147, rfl, ho0, hb⟩; refine ⟨_, rfl, ?_⟩; have n0_ := Aside0.mk (Kd.R_elder' (by (with_reducible repeat (first | apply Kd.R_alloc | apply Kd.R_drewN | apply Kd.R_drew)); exact HO142.out) (Kd.R_base ho0) hb); have n1_ := Aside0.mk (Kd.R_lower (Kd.R_new' ho0 (Kd.R_lt (by (with_reducible repeat (first | apply Kd.R_alloc | apply Kd.R_drewN | apply Kd.R_drew)); exact HO142.out))) (below_size (by repeat (first | (with_reducible first | exact HB.out | apply below_alloc | apply pw_below_drewN | apply below_drew1) | exact HB.out)))); have n2_ := Aside0.mk (below_step (by repeat (first | (with_reducible first | exact HB.out | apply below_alloc | apply pw_below_drewN | apply below_drew1) | exact HB.out)) hb); clear HO142; clear HB; have HO142 := n0_; have HO148 := n1_; have HB := n2_; clear n0_ n1_ n2_; (try clear hb); (try clear hb2); (try clear hk); (try clear hi); (try clear ho0)) | ((with_reducible refine gate_callee (f := 40) rfl ?_); refine goesL_ (some 32) rfl rfl Tryd.func40 (by kernel_rfl) rfl #[] rfl (by (try simp only [List.map_toArray, List.map_cons, List.map_nil]); first | done | rfl | (simp only [List.length_drop, List.length_take]; rfl)) ?_; (with_reducible refine (cracknellaw08_alive.calls  true _ A9.out).mono ?_); rintro e w54 ⟨rfl, hb⟩; refine ⟨_, rfl, ?_⟩; have n0_ := Aside0.mk (Kd.R_below (by (with_reducible repeat (first | apply Kd.R_alloc | apply Kd.R_drewN | apply Kd.R_drew)); exact HO142.out) hb); have n1_ := Aside0.mk (Kd.R_below (by (with_reducible repeat (first | apply Kd.R_alloc | apply Kd.R_drewN | apply Kd.R_drew)); exact HO148.out) hb); have n2_ := Aside0.mk (below_step (by repeat (first | (with_reducible first | exact HB.out | apply below_alloc | apply pw_below_drewN | apply below_drew1) | exact HB.out)) hb); clear HO142; clear HO148; clear HB; have HO142 := n0_; have HO148 := n1_; have HB := n2_; clear n0_ n1_ n2_; (try clear hb); (try clear hb2); (try clear hk); (try clear hi)))
          go_ret
          exact ⟨by first | rfl | exact congrArg (fun b => Ending.returned (Value.bool b)) (isE2 _) | (simp [errW_none, errW_some] <;> rfl) | (simp [*, errW_none, errW_some] <;> rfl), by repeat (first | (with_reducible first | exact HB.out | apply below_alloc | apply pw_below_drewN | apply below_drew1) | exact HB.out)⟩
      · replace c10 := Bool.eq_false_iff.mpr c10
        subst c10
        have H1 : (some false) = some r := by rw [if_neg (show ¬ (false = true) by decide)] at H; exact H
        clear H
        have H := H1
        clear H1
        obtain rfl := Option.some.inj H
        go_enter Tryd.func16, Tryd.ntmps16
        go_wp2_with (first | ((with_reducible refine gate_callee (f := 46) rfl ?_); refine goesL_ (some 14) rfl rfl Tryd.func46 (by kernel_rfl) rfl #[.string a0] rfl (by (try simp only [List.map_toArray, List.map_cons, List.map_nil]); first | done | rfl | (simp only [List.length_drop, List.length_take]; rfl)) ?_; (with_reducible refine (json_Parse.calls k a0 t139 t140 _ A5.out).mono ?_); rintro e w55 ⟨v141, rfl, ho0, hb⟩; refine ⟨_, rfl, ?_⟩; have n0_ := Aside0.mk (Kd.R_lower ho0 (below_size (by repeat (first | (with_reducible first | exact HB.out | apply below_alloc | apply pw_below_drewN | apply below_drew1) | exact HB.out)))); have n1_ := Aside0.mk (below_step (by repeat (first | (with_reducible first | exact HB.out | apply below_alloc | apply pw_below_drewN | apply below_drew1) | exact HB.out)) hb); clear HB; have HO142 := n0_; have HB := n1_; clear n0_ n1_; (try clear hb); (try clear hb2); (try clear hk); (try clear hi); (try clear ho0); obtain ⟨Ao56, co56, eo56⟩ := Kd.R_slice HO142.out; subst eo56) | ((with_reducible refine gate_callee (f := 47) rfl ?_); refine goesL_ (some 26) rfl rfl Tryd.func47 (by kernel_rfl) rfl #[.slice Ao56 t139.length co56] rfl (by (try simp only [List.map_toArray, List.map_cons, List.map_nil]); first | done | rfl | (simp only [List.length_drop, List.length_take]; rfl)) ?_; (with_reducible refine (json_Print.calls _ _ t139 t144 _ ?side1 ?side2 A7.out).mono ?_); (case side1 => repeat (first | exact (Kd.R_reads' HO142.out).2.2 | (with_reducible refine Kd.C_alloc ?_ _) | (with_reducible refine Kd.C_drewN ?_ _) | (with_reducible refine Kd.C_drew ?_))); (case side2 => exact (Kd.R_reads' HO142.out).2.1); rintro e w57 ⟨rfl, hb⟩; refine ⟨_, rfl, ?_⟩; have n0_ := Aside0.mk (Kd.R_below (by (with_reducible repeat (first | apply Kd.R_alloc | apply Kd.R_drewN | apply Kd.R_drew)); exact HO142.out) hb); have n1_ := Aside0.mk (below_step (by repeat (first | (with_reducible first | exact HB.out | apply below_alloc | apply pw_below_drewN | apply below_drew1) | exact HB.out)) hb); clear HO142; clear HB; have HO142 := n0_; have HB := n1_; clear n0_ n1_; (try clear hb); (try clear hb2); (try clear hk); (try clear hi)) | ((with_reducible refine gate_callee (f := 46) rfl ?_); refine goesL_ (some 29) rfl rfl Tryd.func46 (by kernel_rfl) rfl #[.string t144] rfl (by (try simp only [List.map_toArray, List.map_cons, List.map_nil]); first | done | rfl | (simp only [List.length_drop, List.length_take]; rfl)) ?_; (with_reducible refine (json_Parse.calls k t144 t145 t146 _ A8.out).mono ?_); rintro e w58 ⟨v147, rfl, ho0, hb⟩; refine ⟨_, rfl, ?_⟩; have n0_ := Aside0.mk (Kd.R_elder' (by (with_reducible repeat (first | apply Kd.R_alloc | apply Kd.R_drewN | apply Kd.R_drew)); exact HO142.out) (Kd.R_base ho0) hb); have n1_ := Aside0.mk (Kd.R_lower (Kd.R_new' ho0 (Kd.R_lt (by (with_reducible repeat (first | apply Kd.R_alloc | apply Kd.R_drewN | apply Kd.R_drew)); exact HO142.out))) (below_size (by repeat (first | (with_reducible first | exact HB.out | apply below_alloc | apply pw_below_drewN | apply below_drew1) | exact HB.out)))); have n2_ := Aside0.mk (below_step (by repeat (first | (with_reducible first | exact HB.out | apply below_alloc | apply pw_below_drewN | apply below_drew1) | exact HB.out)) hb); clear HO142; clear HB; have HO142 := n0_; have HO148 := n1_; have HB := n2_; clear n0_ n1_ n2_; (try clear hb); (try clear hb2); (try clear hk); (try clear hi); (try clear ho0)) | ((with_reducible refine gate_callee (f := 40) rfl ?_); refine goesL_ (some 32) rfl rfl Tryd.func40 (by kernel_rfl) rfl #[] rfl (by (try simp only [List.map_toArray, List.map_cons, List.map_nil]); first | done | rfl | (simp only [List.length_drop, List.length_take]; rfl)) ?_; (with_reducible refine (cracknellaw08_alive.calls  false _ A9.out).mono ?_); rintro e w59 ⟨rfl, hb⟩; refine ⟨_, rfl, ?_⟩; have n0_ := Aside0.mk (Kd.R_below (by (with_reducible repeat (first | apply Kd.R_alloc | apply Kd.R_drewN | apply Kd.R_drew)); exact HO142.out) hb); have n1_ := Aside0.mk (Kd.R_below (by (with_reducible repeat (first | apply Kd.R_alloc | apply Kd.R_drewN | apply Kd.R_drew)); exact HO148.out) hb); have n2_ := Aside0.mk (below_step (by repeat (first | (with_reducible first | exact HB.out | apply below_alloc | apply pw_below_drewN | apply below_drew1) | exact HB.out)) hb); clear HO142; clear HO148; clear HB; have HO142 := n0_; have HO148 := n1_; have HB := n2_; clear n0_ n1_ n2_; (try clear hb); (try clear hb2); (try clear hk); (try clear hi)))
        go_ret
        exact ⟨by first | rfl | exact congrArg (fun b => Ending.returned (Value.bool b)) (isE2 _) | (simp [errW_none, errW_some] <;> rfl) | (simp [*, errW_none, errW_some] <;> rfl), by repeat (first | (with_reducible first | exact HB.out | apply below_alloc | apply pw_below_drewN | apply below_drew1) | exact HB.out)⟩
    · rw [if_neg c6] at H
      have c6b0 : (t140 == 0) = false := beq_eq_false_iff_ne.mpr c6
      have c6b1 : (t140 != 0) = true := bne_iff_ne.mpr c6
      replace H := Option.bind_eq_some_iff.mp H
      obtain ⟨t143, A600, H⟩ := H
      replace H : (if t143 = true then (some ((t139.length : Int) == 0)) else (some false)) = some r := H
      have A60 := Aside0.mk A600
      clear A600
      by_cases c61 : t143 = true
      · subst c61
        have H1 : (some ((t139.length : Int) == 0)) = some r := by rw [if_pos rfl] at H; exact H
        clear H
        have H := H1
        clear H1
        obtain rfl := Option.some.inj H
        go_enter Tryd.func16, Tryd.ntmps16
        go_wp2_with (first | ((with_reducible refine gate_callee (f := 46) rfl ?_); refine goesL_ (some 14) rfl rfl Tryd.func46 (by kernel_rfl) rfl #[.string a0] rfl (by (try simp only [List.map_toArray, List.map_cons, List.map_nil]); first | done | rfl | (simp only [List.length_drop, List.length_take]; rfl)) ?_; (with_reducible refine (json_Parse.calls k a0 t139 t140 _ A5.out).mono ?_); rintro e w62 ⟨v141, rfl, ho0, hb⟩; refine ⟨_, rfl, ?_⟩; have n0_ := Aside0.mk (Kd.R_lower ho0 (below_size (by repeat (first | (with_reducible first | exact HB.out | apply below_alloc | apply pw_below_drewN | apply below_drew1) | exact HB.out)))); have n1_ := Aside0.mk (below_step (by repeat (first | (with_reducible first | exact HB.out | apply below_alloc | apply pw_below_drewN | apply below_drew1) | exact HB.out)) hb); clear HB; have HO142 := n0_; have HB := n1_; clear n0_ n1_; (try clear hb); (try clear hb2); (try clear hk); (try clear hi); (try clear ho0)) | ((with_reducible refine gate_callee (f := 40) rfl ?_); refine goesL_ (some 19) rfl rfl Tryd.func40 (by kernel_rfl) rfl #[] rfl (by (try simp only [List.map_toArray, List.map_cons, List.map_nil]); first | done | rfl | (simp only [List.length_drop, List.length_take]; rfl)) ?_; (with_reducible refine (cracknellaw08_alive.calls  true _ A60.out).mono ?_); rintro e w63 ⟨rfl, hb⟩; refine ⟨_, rfl, ?_⟩; have n0_ := Aside0.mk (Kd.R_below (by (with_reducible repeat (first | apply Kd.R_alloc | apply Kd.R_drewN | apply Kd.R_drew)); exact HO142.out) hb); have n1_ := Aside0.mk (below_step (by repeat (first | (with_reducible first | exact HB.out | apply below_alloc | apply pw_below_drewN | apply below_drew1) | exact HB.out)) hb); clear HO142; clear HB; have HO142 := n0_; have HB := n1_; clear n0_ n1_; (try clear hb); (try clear hb2); (try clear hk); (try clear hi); obtain ⟨Ao64, co64, eo64⟩ := Kd.R_slice HO142.out; subst eo64))
        go_ret
        exact ⟨by first | rfl | exact congrArg (fun b => Ending.returned (Value.bool b)) (isE2 _) | (simp [errW_none, errW_some] <;> rfl) | (simp [*, errW_none, errW_some] <;> rfl), by repeat (first | (with_reducible first | exact HB.out | apply below_alloc | apply pw_below_drewN | apply below_drew1) | exact HB.out)⟩
      · replace c61 := Bool.eq_false_iff.mpr c61
        subst c61
        have H1 : (some false) = some r := by rw [if_neg (show ¬ (false = true) by decide)] at H; exact H
        clear H
        have H := H1
        clear H1
        obtain rfl := Option.some.inj H
        go_enter Tryd.func16, Tryd.ntmps16
        go_wp2_with (first | ((with_reducible refine gate_callee (f := 46) rfl ?_); refine goesL_ (some 14) rfl rfl Tryd.func46 (by kernel_rfl) rfl #[.string a0] rfl (by (try simp only [List.map_toArray, List.map_cons, List.map_nil]); first | done | rfl | (simp only [List.length_drop, List.length_take]; rfl)) ?_; (with_reducible refine (json_Parse.calls k a0 t139 t140 _ A5.out).mono ?_); rintro e w65 ⟨v141, rfl, ho0, hb⟩; refine ⟨_, rfl, ?_⟩; have n0_ := Aside0.mk (Kd.R_lower ho0 (below_size (by repeat (first | (with_reducible first | exact HB.out | apply below_alloc | apply pw_below_drewN | apply below_drew1) | exact HB.out)))); have n1_ := Aside0.mk (below_step (by repeat (first | (with_reducible first | exact HB.out | apply below_alloc | apply pw_below_drewN | apply below_drew1) | exact HB.out)) hb); clear HB; have HO142 := n0_; have HB := n1_; clear n0_ n1_; (try clear hb); (try clear hb2); (try clear hk); (try clear hi); (try clear ho0)) | ((with_reducible refine gate_callee (f := 40) rfl ?_); refine goesL_ (some 19) rfl rfl Tryd.func40 (by kernel_rfl) rfl #[] rfl (by (try simp only [List.map_toArray, List.map_cons, List.map_nil]); first | done | rfl | (simp only [List.length_drop, List.length_take]; rfl)) ?_; (with_reducible refine (cracknellaw08_alive.calls  false _ A60.out).mono ?_); rintro e w66 ⟨rfl, hb⟩; refine ⟨_, rfl, ?_⟩; have n0_ := Aside0.mk (Kd.R_below (by (with_reducible repeat (first | apply Kd.R_alloc | apply Kd.R_drewN | apply Kd.R_drew)); exact HO142.out) hb); have n1_ := Aside0.mk (below_step (by repeat (first | (with_reducible first | exact HB.out | apply below_alloc | apply pw_below_drewN | apply below_drew1) | exact HB.out)) hb); clear HO142; clear HB; have HO142 := n0_; have HB := n1_; clear n0_ n1_; (try clear hb); (try clear hb2); (try clear hk); (try clear hi)))
        go_ret
        exact ⟨by first | rfl | exact congrArg (fun b => Ending.returned (Value.bool b)) (isE2 _) | (simp [errW_none, errW_some] <;> rfl) | (simp [*, errW_none, errW_some] <;> rfl), by repeat (first | (with_reducible first | exact HB.out | apply below_alloc | apply pw_below_drewN | apply below_drew1) | exact HB.out)⟩
/-- THE ONE PURE STATEMENT of cracknellaw08_JsonAgain: yours. -/
def cracknellaw08_JsonAgain.Pure : Prop := ∀ (a0 : ByteArray), a0.size ≤ 140737488351232 → ∃ k, cracknellaw08_JsonAgain.f k a0 = some true
theorem cracknellaw08_JsonAgain.walk (P : cracknellaw08_JsonAgain.Pure) (a0 : ByteArray) (w : World) (w0 : a0.size ≤ 140737488351232) (TJ_ : JTabs w) (TB_ : Tabs w) :
    Calls Tryd.prog 16 #[.string a0] w fun e w' => e = .returned (.bool true) ∧ Below w.heap.size w w' := by
  obtain ⟨k, h⟩ := P a0 w0
  refine (cracknellaw08_JsonAgain.calls k a0 true w h).mono ?_
  rintro e w' ⟨rfl, hd⟩
  exact ⟨rfl, hd⟩
end Go.Proofs.YthhmmaihbjhhgaaDoor.J2
namespace Go.Proofs.YthhmmaihbjhhgaaDoor.Giv
open Go.RowKit Go.Proofs.YthhmmaihbjhhgaaDoorW.PrintWords Go.Proofs.YthhmmaihbjhhgaaDoorW.PrintLast Go.Proofs.YthhmmaihbjhhgaaDoorW.PrintMore
open Go.Proofs.YthhmmaihbjhhgaaDoor.U1 Go.Proofs.YthhmmaihbjhhgaaDoor.Q1 Go.Proofs.YthhmmaihbjhhgaaDoor.J0 Go.Proofs.YthhmmaihbjhhgaaDoor.J1 Go.Proofs.YthhmmaihbjhhgaaDoor.J2
set_option linter.unusedSimpArgs false
set_option linter.unusedVariables false
theorem same81_l0 (l : List S81) (hl : l.length ≤ 1099511627776) : ∀ (n k i : Nat), l.length - i = n → i ≤ l.length → n < k → cracknelref08_Same.l0 k l l (i : Int) = some true
  | 0, k, i, h1, h2, h3 => by
    obtain ⟨k, rfl⟩ : ∃ m, k = m + 1 := ⟨k - 1, by omega⟩
    rw [cracknelref08_Same.l0, if_neg (by omega)]
  | n + 1, k, i, h1, h2, h3 => by
    obtain ⟨k, rfl⟩ : ∃ m, k = m + 1 := ⟨k - 1, by omega⟩
    rw [cracknelref08_Same.l0, if_pos (by omega), if_pos (by omega), if_pos (by omega), if_neg (by simp), w64 (x := (i : Int) + 1) (by omega) (by omega), show (i : Int) + 1 = ((i + 1 : Nat) : Int) by omega]
    exact same81_l0 l hl n k (i + 1) (by omega) (by omega) (by omega)
theorem same81 (l : List S81) (hl : l.length ≤ 1099511627776) (k : Nat) (hk : l.length < k) : cracknelref08_Same.f k l l = some true := by
  unfold cracknelref08_Same.f
  rw [if_pos rfl]
  exact same81_l0 l hl l.length k 0 (by omega) (Nat.zero_le _) hk
theorem olds_f (l : List S59) (h : l.length ≤ 1099511627776) : cracknellaw08_Olds.f l = some (l.map toO) := by
  unfold cracknellaw08_Olds.f
  rw [if_pos (by omega)]
theorem JsonAgain : cracknellaw08_JsonAgain.Pure := by
  intro a0 hs
  refine ⟨100000, ?_⟩
  unfold cracknellaw08_JsonAgain.f
  by_cases hl : (a0.size : Int) > 500
  · rw [if_pos hl]; rfl
  · rw [if_neg hl, parse_top a0 (by omega) 100000 (by omega), Option.bind_some]
    have hd := data_length a0
    by_cases he : (topS a0.data.toList).2 = 0
    · rw [if_pos he]
      obtain ⟨t, ht, hlen⟩ := top_sound a0.data.toList he
      have hsm := ht.small.1
      have hz : (⟨t.toArray⟩ : ByteArray).size = t.length := by show t.toArray.size = _; rw [List.size_toArray]
      have htop : topS (⟨t.toArray⟩ : ByteArray).data.toList = ((topS a0.data.toList).1, 0) := top_text ht
      rw [ht.print_f (by omega), Option.bind_some, parse_top ⟨t.toArray⟩ (by omega) 100000 (by omega), Option.bind_some, htop]
      simp only
      rw [show cracknellaw08_alive.f = some true from rfl, Option.bind_some, if_pos rfl, if_pos True.intro, olds_f _ (by omega), Option.bind_some, Option.bind_some, same81 _ (by rw [List.length_map]; omega) _ (by rw [List.length_map]; omega), Option.bind_some, if_pos rfl, ht.print_f (by omega), Option.bind_some, if_pos rfl]
      have hne : (⟨t.toArray⟩ : ByteArray).toList ≠ [] := by rw [Lib.toList_data]; exact ht.ne
      congr 1
      exact bne_iff_ne.2 hne
    · rw [if_neg he, show cracknellaw08_alive.f = some true from rfl, Option.bind_some, if_pos rfl, top_err _ he]; rfl
end Go.Proofs.YthhmmaihbjhhgaaDoor.Giv
