/- What the proof of JsonApart stands on, part 6: cut and merged by a program out of this session's texts. -/
import Derived.Test.YthhmmaihbjhhgaaDoorKP5
import Derived.Deep.Slices
import Derived.Deep.Fields
import Derived.ChangeSame
import Derived.SliceStrings
import Derived.OpenShut
set_option linter.unusedVariables false
set_option linter.unusedSimpArgs false
namespace Go.Proofs.YthhmmaihbjhhgaaDoor.J2
open Go.Proofs.YthhmmaihbjhhgaaDoor.Giv Go.Proofs.YthhmmaihbjhhgaaDoor.U1 Go.Proofs.YthhmmaihbjhhgaaDoor.Q1 Go.Proofs.YthhmmaihbjhhgaaDoor.J0 Go.Proofs.YthhmmaihbjhhgaaDoor.J1 Go.RowKit Go.Proofs.YthhmmaihbjhhgaaDoorW.PrintWords Go.Proofs.YthhmmaihbjhhgaaDoorW.PrintLast Go.Proofs.YthhmmaihbjhhgaaDoorW.PrintMore
attribute [local go_sem] max2_int min2_int max_two min_two max_three min_three max_four min_four   -- for this text's walks alone
set_option linter.unusedVariables false
set_option linter.unusedSimpArgs false
attribute [local go_sem high] eqA81
def cracknelref08_Same.l0 : Nat → List (S81) → List (S81) → Int → Option (Bool)
  | 0, _, _, _ => none
  | k + 1, x0, x1, x5 => if x5 < (x0.length : Int) then (if 0 ≤ x5 then (if x5 < (x1.length : Int) then (if (!(((rd_T81 x0 x5).f0) == ((rd_T81 x1 x5).f0)) || (!(((rd_T81 x0 x5).f1) == ((rd_T81 x1 x5).f1)) || (!((((rd_T81 x0 x5).f2).toList) == (((rd_T81 x1 x5).f2).toList)) || (!((((rd_T81 x0 x5).f3).toList) == (((rd_T81 x1 x5).f3).toList)) || (!(((rd_T81 x0 x5).f4) == ((rd_T81 x1 x5).f4))))))) = true then (some false) else (cracknelref08_Same.l0 k x0 x1 (wrap64 (x5 + 1)))) else (none)) else (none)) else (some true)
def cracknelref08_Same.f (k : Nat) (l0 : List (S81)) (l1 : List (S81)) : Option (Bool) := if (l0.length : Int) = (l1.length : Int) then (cracknelref08_Same.l0 k l0 l1 0) else (some false)
set_option maxHeartbeats 8000000 in
set_option maxRecDepth 100000 in
theorem cracknelref08_Same.calls (k : Nat) (A0 : Option Addr) (c0 : Nat) (l0 : List (S81)) (A1 : Option Addr) (c1 : Nat) (l1 : List (S81)) (r : Bool) (w : World) (hr0 : Kd.C k81 w A0 l0.length l0) (hc0 : l0.length ≤ c0) (hr1 : Kd.C k81 w A1 l1.length l1) (hc1 : l1.length ≤ c1) (h : cracknelref08_Same.f k l0 l1 = some r) :
    Calls Tryd.prog 44 #[.slice A0 l0.length c0, .slice A1 l1.length c1] w fun e w' => e = .returned (.bool r) ∧ Drawn0 w w' := by
  have hu81 := Tryd.underlying81
  have HR0 := Aside0.mk hr0
  have HC0 := Aside0.mk hc0
  clear hr0 hc0
  have HR1 := Aside0.mk hr1
  have HC1 := Aside0.mk hc1
  clear hr1 hc1
  have H : (if (l0.length : Int) = (l1.length : Int) then (cracknelref08_Same.l0 k l0 l1 0) else (some false)) = some r := h
  clear h
  by_cases c3 : (l0.length : Int) = (l1.length : Int)
  · rw [if_pos c3] at H
    have c3b0 : ((l0.length : Int) == (l1.length : Int)) = true := beq_iff_eq.mpr c3
    have c3b1 : ((l0.length : Int) != (l1.length : Int)) = false := bne_eq_false_iff_eq.mpr c3
    have c3b2 : (l0.length == l1.length) = true := by first | simpa using c3 | (simp at c3 ⊢; omega)
    clear c3
    have H' := Aside0.mk H
    clear H
    go_enter Tryd.func44, Tryd.ntmps44
    go_wp2
    repeat (go_quiet (fail); try go_wp2)
    go_loopg [5] k (fun kq v5 w' => ∃ (x5_1 : Int), v5 = .int .i64 x5_1 ∧ Aside0 (cracknelref08_Same.l0 kq l0 l1 x5_1 = some r) ∧ Aside0 (kq ≤ k) ∧ Drawn0 w w')
    case atStart => exact ⟨(0), (by first | rfl | (simp; done) | (simp [*]; done)), H', ⟨Nat.le_refl _⟩, by repeat (first | exact Drawn0.refl _ | apply Drawn0.step)⟩
    case round =>
      clear H'
      try clear c1
      try clear p2
      try clear c3
      try clear c3b0
      try clear c3b1
      try clear c3b2
      obtain ⟨x5_1, rfl, HA, HK1, ⟨m1, rfl⟩⟩ := hrel
      cases gk with
      | zero => exact absurd HA.out (by simp [cracknelref08_Same.l0])
      | succ k1 =>
        have H := HA.out
        clear HA
        simp only [cracknelref08_Same.l0] at H
        by_cases c4 : x5_1 < (l0.length : Int)
        · rw [if_pos c4] at H
          have c4b0 : decide (x5_1 < (l0.length : Int)) = true := decide_eq_true c4
          clear c4
          by_cases c5 : 0 ≤ x5_1
          · rw [if_pos c5] at H
            have c5b0 : decide (0 ≤ x5_1) = true := decide_eq_true c5
            clear c5
            by_cases c6 : x5_1 < (l1.length : Int)
            · rw [if_pos c6] at H
              have c6b0 : decide (x5_1 < (l1.length : Int)) = true := decide_eq_true c6
              clear c6
              by_cases c7 : (!(((rd_T81 l0 x5_1).f0) == ((rd_T81 l1 x5_1).f0)) || (!(((rd_T81 l0 x5_1).f1) == ((rd_T81 l1 x5_1).f1)) || (!((((rd_T81 l0 x5_1).f2).toList) == (((rd_T81 l1 x5_1).f2).toList)) || (!((((rd_T81 l0 x5_1).f3).toList) == (((rd_T81 l1 x5_1).f3).toList)) || (!(((rd_T81 l0 x5_1).f4) == ((rd_T81 l1 x5_1).f4))))))) = true
              · rw [if_pos c7] at H
                have c7b0 : (!(((rd_T81 l0 x5_1).f0) == ((rd_T81 l1 x5_1).f0)) || (!(((rd_T81 l0 x5_1).f1) == ((rd_T81 l1 x5_1).f1)) || (!((((rd_T81 l0 x5_1).f2).toList) == (((rd_T81 l1 x5_1).f2).toList)) || (!((((rd_T81 l0 x5_1).f3).toList) == (((rd_T81 l1 x5_1).f3).toList)) || (!(((rd_T81 l0 x5_1).f4) == ((rd_T81 l1 x5_1).f4))))))) = true := c7
                clear c7
                obtain rfl := Option.some.inj H
                have p124 : 0 ≤ (x5_1 : Int) := of_decide_eq_true (by first | (with_reducible assumption) | assumption)
                have q124 : x5_1 < (l0.length : Int) := of_decide_eq_true (by first | (with_reducible assumption) | assumption)
                obtain ⟨ad124, e124, hx124_0, hx124_1, hx124_2, hx124_3, hx124_4⟩ := at_T81 HR0.out x5_1 p124 q124
                cases e124
                replace p124 := eq_true p124
                replace q124 := eq_true q124
                have p125 : 0 ≤ (x5_1 : Int) := of_decide_eq_true (by first | (with_reducible assumption) | assumption)
                have q125 : x5_1 < (l1.length : Int) := of_decide_eq_true (by first | (with_reducible assumption) | assumption)
                obtain ⟨ad125, e125, hx125_0, hx125_1, hx125_2, hx125_3, hx125_4⟩ := at_T81 HR1.out x5_1 p125 q125
                cases e125
                replace p125 := eq_true p125
                replace q125 := eq_true q125
                go_wp2
                repeat (go_quiet (fail); try go_wp2)
                go_ret
                exact ⟨by first | rfl | (simp; done) | (simp [*]; done), by repeat (first | exact Drawn0.refl _ | apply Drawn0.step)⟩
              · rw [if_neg c7] at H
                have c7b0 : (!(((rd_T81 l0 x5_1).f0) == ((rd_T81 l1 x5_1).f0)) || (!(((rd_T81 l0 x5_1).f1) == ((rd_T81 l1 x5_1).f1)) || (!((((rd_T81 l0 x5_1).f2).toList) == (((rd_T81 l1 x5_1).f2).toList)) || (!((((rd_T81 l0 x5_1).f3).toList) == (((rd_T81 l1 x5_1).f3).toList)) || (!(((rd_T81 l0 x5_1).f4) == ((rd_T81 l1 x5_1).f4))))))) = false := by simpa using c7
                clear c7
                have H' := Aside0.mk H
                clear H
                have p124 : 0 ≤ (x5_1 : Int) := of_decide_eq_true (by first | (with_reducible assumption) | assumption)
                have q124 : x5_1 < (l0.length : Int) := of_decide_eq_true (by first | (with_reducible assumption) | assumption)
                obtain ⟨ad124, e124, hx124_0, hx124_1, hx124_2, hx124_3, hx124_4⟩ := at_T81 HR0.out x5_1 p124 q124
                cases e124
                replace p124 := eq_true p124
                replace q124 := eq_true q124
                have p125 : 0 ≤ (x5_1 : Int) := of_decide_eq_true (by first | (with_reducible assumption) | assumption)
                have q125 : x5_1 < (l1.length : Int) := of_decide_eq_true (by first | (with_reducible assumption) | assumption)
                obtain ⟨ad125, e125, hx125_0, hx125_1, hx125_2, hx125_3, hx125_4⟩ := at_T81 HR1.out x5_1 p125 q125
                cases e125
                replace p125 := eq_true p125
                replace q125 := eq_true q125
                go_wp2
                repeat (go_quiet (fail); try go_wp2)
                go_roundg k1
                case measure => have := HK1.out; omega
                case rel => exact ⟨(wrap64 (x5_1 + 1)), (by first | rfl | (simp; done) | (simp [*]; done)), H', ⟨by have := HK1.out; omega⟩, by repeat (first | exact Drawn0.refl _ | apply Drawn0.step)⟩
            · rw [if_neg c6] at H
              exact absurd H (by simp)
          · rw [if_neg c5] at H
            exact absurd H (by simp)
        · rw [if_neg c4] at H
          have c4b0 : decide (x5_1 < (l0.length : Int)) = false := decide_eq_false c4
          clear c4
          obtain rfl := Option.some.inj H
          go_wp2
          repeat (go_quiet (fail); try go_wp2)
          go_ret
          exact ⟨by first | rfl | (simp; done) | (simp [*]; done), by repeat (first | exact Drawn0.refl _ | apply Drawn0.step)⟩
  · rw [if_neg c3] at H
    have c3b0 : ((l0.length : Int) == (l1.length : Int)) = false := beq_eq_false_iff_ne.mpr c3
    have c3b1 : ((l0.length : Int) != (l1.length : Int)) = true := bne_iff_ne.mpr c3
    have c3b2 : (l0.length == l1.length) = false := by first | simpa using c3 | (simp at c3 ⊢; omega)
    obtain rfl := Option.some.inj H
    go_enter Tryd.func44, Tryd.ntmps44
    go_wp2
    repeat (go_quiet (fail); try go_wp2)
    go_ret
    exact ⟨by first | rfl | (simp; done) | (simp [*]; done), by repeat (first | exact Drawn0.refl _ | apply Drawn0.step)⟩
end Go.Proofs.YthhmmaihbjhhgaaDoor.J2
namespace Go.Proofs.YthhmmaihbjhhgaaDoor.Giv
open Go.RowKit Go.Proofs.YthhmmaihbjhhgaaDoorW.PrintWords Go.Proofs.YthhmmaihbjhhgaaDoorW.PrintLast Go.Proofs.YthhmmaihbjhhgaaDoorW.PrintMore
open Go.Proofs.YthhmmaihbjhhgaaDoor.U1 Go.Proofs.YthhmmaihbjhhgaaDoor.Q1 Go.Proofs.YthhmmaihbjhhgaaDoor.J0 Go.Proofs.YthhmmaihbjhhgaaDoor.J1 Go.Proofs.YthhmmaihbjhhgaaDoor.J2
set_option linter.unusedSimpArgs false
set_option linter.unusedVariables false
abbrev V8 (s : ByteArray) : Prop := Lib.validD s.data.toList = true
def at8 (l : List S81) (i : Nat) : S81 := l.getD i z81
theorem rd_at8 (l : List S81) (i : Nat) : rd_T81 l (i : Int) = at8 l i := by unfold rd_T81 at8; rw [Int.toNat_natCast]
/-- bounds of an item's parts -/
def Okz (x : S81) : Prop := x.f2.size ≤ 1000000 ∧ x.f3.size ≤ 1000000 ∧ I64 x.f0 ∧ I64 x.f1 ∧ I64 x.f4
/-- may an item be, by itself? -/
def May (x : S81) : Prop := 1 ≤ x.f1 ∧ x.f1 ≤ 7 ∧ (x.f1 ≠ 4 → x.f4 = 0) ∧ (x.f1 ≠ 5 → x.f3.toList = []) ∧ x.f0 ≤ 64 ∧ (x.f0 = 64 → x.f1 < 6) ∧ V8 x.f2 ∧ V8 x.f3
theorem may_val (x : S81) (h : Okz x) (k : Nat) (hk : 1000020 < k) : ∃ b, cracknelref08_may.f k x.f0 x.f1 x.f2 x.f3 x.f4 = some b ∧ (b = true ↔ May x) := by
  obtain ⟨h2, h3, _⟩ := h
  unfold cracknelref08_may.f May
  by_cases c1 : x.f1 < 1 ∨ 7 < x.f1 ∨ (x.f1 ≠ 4 ∧ x.f4 ≠ 0) ∨ (x.f1 ≠ 5 ∧ x.f3.toList ≠ [])
  · refine ⟨false, if_pos c1, ⟨fun e => by (cases e), ?_⟩⟩
    rintro ⟨a, b, c, d, _⟩
    rcases c1 with c1 | c1 | ⟨c1, c2⟩ | ⟨c1, c2⟩
    · omega
    · omega
    · exact absurd (c c1) c2
    · exact absurd (d c1) c2
  · rw [if_neg c1]
    by_cases c2 : 64 < x.f0 ∨ (x.f0 = 64 ∧ 6 ≤ x.f1)
    · exact ⟨false, if_pos c2, ⟨fun e => by (cases e), fun ⟨_, _, _, _, e, f, _⟩ => by rcases c2 with c2 | ⟨c2, c3⟩; omega; (have := f c2; omega)⟩⟩
    · rw [if_neg c2, refValid k x.f2 (by omega) (by omega), Option.bind_some]
      have a1 : 1 ≤ x.f1 := by by_cases c : 1 ≤ x.f1; exact c; exact absurd (Or.inl (by omega)) c1
      have a2 : x.f1 ≤ 7 := by by_cases c : x.f1 ≤ 7; exact c; exact absurd (Or.inr (Or.inl (by omega))) c1
      have a3 : x.f1 ≠ 4 → x.f4 = 0 := fun e => by by_cases c : x.f4 = 0; exact c; exact absurd (Or.inr (Or.inr (Or.inl ⟨e, c⟩))) c1
      have a4 : x.f1 ≠ 5 → x.f3.toList = [] := fun e => by by_cases c : x.f3.toList = []; exact c; exact absurd (Or.inr (Or.inr (Or.inr ⟨e, c⟩))) c1
      have a5 : x.f0 ≤ 64 := by by_cases c : x.f0 ≤ 64; exact c; exact absurd (Or.inl (by omega)) c2
      have a6 : x.f0 = 64 → x.f1 < 6 := fun e => by by_cases c : x.f1 < 6; exact c; exact absurd (Or.inr ⟨e, by omega⟩) c2
      by_cases v : Lib.validD x.f2.data.toList = true
      · rw [if_pos v, refValid k x.f3 (by omega) (by omega)]
        exact ⟨_, rfl, fun e => ⟨a1, a2, a3, a4, a5, a6, v, e⟩, fun e => e.2.2.2.2.2.2.2⟩
      · rw [if_neg v]
        exact ⟨false, rfl, fun e => by (cases e), fun e => absurd e.2.2.2.2.2.2.1 v⟩
theorem bare_iff (x : S81) : sameI (toN x) (bareI (toN x)) = true ↔ (x.f1 ≠ 4 → x.f4 = 0) ∧ (x.f1 ≠ 5 → x.f3.toList = []) := by
  have e0' : (⟨#[]⟩ : ByteArray).toList = [] := by rw [Lib.toList_data]
  unfold sameI bareI toN
  simp only
  split
  · next h => simp [h]
  · next h =>
    split
    · next h4 => simp [h4, e0']
    · next h4 => simp [h, h4, e0', and_comm]
/-- does an item go on from what is open? -/
def RC (fst : Bool) (st : List LvS) (x : S81) : Prop := (0 ≤ x.f0 ∧ x.f0 < (st.length : Int) ∧ (x.f0 = 0 ↔ fst = true)) ∧ (1 ≤ x.f1 ∧ x.f1 ≤ 7 ∧ (x.f1 ≠ 4 → x.f4 = 0) ∧ (x.f1 ≠ 5 → x.f3.toList = [])) ∧ V8 x.f3 ∧
  (if (st.getD x.f0.toNat (0, [])).1 = 7 then V8 x.f2 ∧ x.f2 ∉ (st.getD x.f0.toNat (0, [])).2 else x.f2.toList = []) ∧ (6 ≤ x.f1 → x.f0 < 64)
/-- what is open then -/
def nxt (st : List LvS) (x : S81) : List LvS := st.take x.f0.toNat ++ (((st.getD x.f0.toNat (0, [])).1, if (st.getD x.f0.toNat (0, [])).1 = 7 then (st.getD x.f0.toNat (0, [])).2 ++ [x.f2] else (st.getD x.f0.toNat (0, [])).2) :: (if 6 ≤ x.f1 then [(x.f1, [])] else []))
theorem right_step (fst : Bool) (st : List LvS) (x : S81) (l : List S59) (hz : Okz x) (hk : ((st.getD x.f0.toNat (0, [])).2).length ≤ 1000000) :
    (RC fst st x → rightF fst st (toN x :: l) = rightF false (nxt st x) l) ∧ (¬ RC fst st x → rightF fst st (toN x :: l) = some false) := by
  obtain ⟨hz2, hz3, _⟩ := hz
  have hv2 := valid_fs x.f2 (by omega)
  have hv3 := valid_fs x.f3 (by omega)
  have hb := bare_iff x
  rw [rightF, show (toN x).f0 = x.f0 from rfl, show (toN x).f1 = x.f1 from rfl, show (toN x).f3 = x.f3 from rfl]
  generalize hq : st.getD x.f0.toNat (0, []) = q at *
  by_cases c1 : x.f0 < 0 ∨ (st.length : Int) ≤ x.f0 ∨ (x.f0 == 0) != fst
  · rw [if_pos c1]
    refine ⟨fun ⟨⟨a, b, c⟩, _⟩ => ?_, fun _ => rfl⟩
    rcases c1 with c1 | c1 | c1
    · omega
    · omega
    · exfalso
      by_cases z : x.f0 = 0
      · rw [c.1 z, z] at c1; simp at c1
      · have : fst = false := by cases fst; rfl; exact absurd (c.2 rfl) z
        rw [this] at c1; simp [z] at c1
  · rw [if_neg c1]
    have d1 : 0 ≤ x.f0 := by by_cases c : 0 ≤ x.f0; exact c; exact absurd (Or.inl (by omega)) c1
    have d2 : x.f0 < (st.length : Int) := by by_cases c : x.f0 < (st.length : Int); exact c; exact absurd (Or.inr (Or.inl (by omega))) c1
    have d3 : x.f0 = 0 ↔ fst = true := by
      have c3 : ¬ ((x.f0 == 0) != fst) = true := fun e => c1 (Or.inr (Or.inr e))
      cases fst <;> simp at c3 <;> simp [c3]
    by_cases c2 : x.f1 < 1 ∨ 7 < x.f1 ∨ sameI (toN x) (bareI (toN x)) = false
    · rw [if_pos c2]
      refine ⟨fun ⟨_, ⟨a, b, c⟩, _⟩ => ?_, fun _ => rfl⟩
      rcases c2 with c2 | c2 | c2
      · omega
      · omega
      · rw [hb.2 c] at c2; cases c2
    · rw [if_neg c2]
      have e1 : 1 ≤ x.f1 := by by_cases c : 1 ≤ x.f1; exact c; exact absurd (Or.inl (by omega)) c2
      have e2 : x.f1 ≤ 7 := by by_cases c : x.f1 ≤ 7; exact c; exact absurd (Or.inr (Or.inl (by omega))) c2
      have e3 := hb.1 (by cases h : sameI (toN x) (bareI (toN x)); exact absurd (Or.inr (Or.inr h)) c2; rfl)
      rw [hv3, Option.bind_some]
      by_cases v3 : Lib.validD x.f3.data.toList = true
      · rw [v3, if_neg (by decide)]
        have hold : holdsI (toN x) = decide (6 ≤ x.f1) := by
          unfold holdsI toN
          by_cases c : 6 ≤ x.f1
          · rw [decide_eq_true c]; simp; omega
          · rw [decide_eq_false c]; simp; omega
        unfold memberF
        rw [show (toN x).f2 = x.f2 from rfl]
        unfold nxt RC
        rw [hq]
        by_cases c7 : q.1 = 7
        · simp only [if_pos c7]
          rw [hv2, Option.bind_some]
          by_cases v2 : Lib.validD x.f2.data.toList = true
          · rw [if_pos v2]
            by_cases hm : x.f2 ∈ q.2
            · rw [if_pos ((hasB_iff _ _).2 hm), Option.bind_some, if_pos rfl]
              exact ⟨fun ⟨_, _, _, ⟨_, a⟩, _⟩ => absurd hm a, fun _ => rfl⟩
            · rw [if_neg (fun e => hm ((hasB_iff _ _).1 e)), if_pos (by omega), Option.bind_some, if_neg (show ¬ true = false from Bool.noConfusion), hold]
              by_cases c6 : 6 ≤ x.f1
              · rw [if_pos (decide_eq_true c6)]
                by_cases c64 : 64 ≤ x.f0
                · rw [if_pos c64]
                  exact ⟨fun ⟨_, _, _, _, a⟩ => by have := a c6; omega, fun _ => rfl⟩
                · rw [if_neg c64]
                  simp only [if_pos c6]
                  exact ⟨fun _ => by trivial, fun n => absurd ⟨⟨d1, d2, d3⟩, ⟨e1, e2, e3⟩, v3, ⟨v2, hm⟩, fun _ => by omega⟩ n⟩
              · rw [if_neg (by simpa using c6)]
                simp only [if_neg c6]
                exact ⟨fun _ => by trivial, fun n => absurd ⟨⟨d1, d2, d3⟩, ⟨e1, e2, e3⟩, v3, ⟨v2, hm⟩, fun a => absurd a c6⟩ n⟩
          · rw [if_neg v2, Option.bind_some, if_pos rfl]
            exact ⟨fun ⟨_, _, _, ⟨a, _⟩, _⟩ => absurd a v2, fun _ => rfl⟩
        · simp only [if_neg c7]
          rw [Option.bind_some]
          by_cases hm : x.f2.toList = []
          · rw [hm, if_neg (show ¬ (([] : List UInt8)).isEmpty = false from Bool.noConfusion), hold]
            by_cases c6 : 6 ≤ x.f1
            · rw [if_pos (decide_eq_true c6)]
              by_cases c64 : 64 ≤ x.f0
              · rw [if_pos c64]
                exact ⟨fun ⟨_, _, _, _, a⟩ => by have := a c6; omega, fun _ => rfl⟩
              · rw [if_neg c64]
                simp only [if_pos c6]
                exact ⟨fun _ => by trivial, fun n => absurd ⟨⟨d1, d2, d3⟩, ⟨e1, e2, e3⟩, v3, by trivial, fun _ => by omega⟩ n⟩
            · rw [if_neg (by simpa using c6)]
              simp only [if_neg c6]
              exact ⟨fun _ => by trivial, fun n => absurd ⟨⟨d1, d2, d3⟩, ⟨e1, e2, e3⟩, v3, by trivial, fun a => absurd a c6⟩ n⟩
          · rw [if_pos (by cases h : x.f2.toList; exact absurd h hm; rfl)]
            exact ⟨fun ⟨_, _, _, a, _⟩ => absurd a hm, fun _ => rfl⟩
      · rw [if_pos (by simpa using v3)]
        exact ⟨fun ⟨_, _, a, _⟩ => absurd a v3, fun _ => rfl⟩
/-- the deepest place that an item behind these may have -/
def mostN (l : List S81) (k : Nat) : Int := (at8 l (k - 1)).f0 + (if 6 ≤ (at8 l (k - 1)).f1 then 1 else 0)
/-- what is open, told by the items -/
structure Inv (l : List S81) (k : Nat) (st : List LvS) : Prop where
  len : (st.length : Int) = mostN l k + 1
  le65 : st.length ≤ 65
  lvl0 : st.getD 0 (0, []) = (6, [])
  pos : 1 ≤ st.length
  keys : ∀ d, ((st.getD d (0, [])).2).length ≤ k
  hold : ∀ d, 1 ≤ d → d < st.length → ∃ h, h < k ∧ (at8 l h).f0 = (d : Int) - 1 ∧ (∀ j, h < j → j < k → (at8 l j).f0 ≠ (d : Int) - 1) ∧ (st.getD d (0, [])).1 = (at8 l h).f1 ∧ ((at8 l h).f1 = 6 ∨ (at8 l h).f1 = 7) ∧
    ((at8 l h).f1 = 7 → ∀ key, key ∈ (st.getD d (0, [])).2 ↔ ∃ j, h < j ∧ j < k ∧ (at8 l j).f0 = d ∧ (at8 l j).f2 = key)
theorem nxt_len (st : List LvS) (x : S81) (h0 : 0 ≤ x.f0) (h1 : x.f0 < (st.length : Int)) : ((nxt st x).length : Int) = x.f0 + 1 + (if 6 ≤ x.f1 then 1 else 0) := by
  unfold nxt
  rw [List.length_append, List.length_take, List.length_cons]
  split <;> simp <;> omega
theorem nxt_lo (st : List LvS) (x : S81) (h0 : 0 ≤ x.f0) (h1 : x.f0 < (st.length : Int)) (d : Nat) (hd : (d : Int) < x.f0) : (nxt st x).getD d (0, []) = st.getD d (0, []) := by
  unfold nxt
  rw [List.getD_eq_getElem?_getD, List.getD_eq_getElem?_getD, List.getElem?_append_left (by rw [List.length_take]; omega), List.getElem?_take, if_pos (by omega)]; rfl
theorem nxt_at (st : List LvS) (x : S81) (h0 : 0 ≤ x.f0) (h1 : x.f0 < (st.length : Int)) (d : Nat) (hd : (d : Int) = x.f0) : (nxt st x).getD d (0, []) = ((st.getD d (0, [])).1, if (st.getD d (0, [])).1 = 7 then (st.getD d (0, [])).2 ++ [x.f2] else (st.getD d (0, [])).2) := by
  unfold nxt
  have e : x.f0.toNat = d := by omega
  have hl : (st.take d).length = d := by rw [List.length_take]; omega
  rw [e, List.getD_eq_getElem?_getD, List.getElem?_append_right (by omega), hl, Nat.sub_self]; rfl
theorem nxt_hi (st : List LvS) (x : S81) (h0 : 0 ≤ x.f0) (h1 : x.f0 < (st.length : Int)) (d : Nat) (hd : (d : Int) = x.f0 + 1) (h6 : 6 ≤ x.f1) : (nxt st x).getD d (0, []) = (x.f1, []) := by
  unfold nxt
  have hl : (st.take x.f0.toNat).length = d - 1 := by rw [List.length_take]; omega
  rw [List.getD_eq_getElem?_getD, List.getElem?_append_right (by omega), hl, if_pos h6, show d - (d - 1) = 1 by omega]; rfl
theorem nxt_out (st : List LvS) (x : S81) (h0 : 0 ≤ x.f0) (h1 : x.f0 < (st.length : Int)) (d : Nat) (hd : (nxt st x).length ≤ d) : (nxt st x).getD d (0, []) = (0, []) := by
  rw [List.getD_eq_getElem?_getD, List.getElem?_eq_none hd]; rfl
theorem nxt_keys (st : List LvS) (x : S81) (h0 : 0 ≤ x.f0) (h1 : x.f0 < (st.length : Int)) (k : Nat) (hk : ∀ d, ((st.getD d (0, [])).2).length ≤ k) (d : Nat) : (((nxt st x).getD d (0, [])).2).length ≤ k + 1 := by
  have hl := nxt_len st x h0 h1
  by_cases c1 : (d : Int) < x.f0
  · rw [nxt_lo st x h0 h1 d c1]; have := hk d; omega
  · by_cases c2 : (d : Int) = x.f0
    · rw [nxt_at st x h0 h1 d c2]
      have := hk d
      simp only
      split
      · rw [List.length_append, List.length_singleton]; omega
      · omega
    · by_cases c3 : (d : Int) = x.f0 + 1 ∧ 6 ≤ x.f1
      · rw [nxt_hi st x h0 h1 d c3.1 c3.2]; exact Nat.zero_le _
      · rw [nxt_out st x h0 h1 d (by split at hl <;> omega)]; exact Nat.zero_le _
theorem inv_step (l : List S81) (k : Nat) (st : List LvS) (hI : Inv l k st) (hk : 1 ≤ k) (hR : RC false st (at8 l k)) : Inv l (k + 1) (nxt st (at8 l k)) := by
  obtain ⟨⟨h0, h1, h2⟩, ⟨h3, h4, _⟩, _, hmem, h64⟩ := hR
  have hpos : 1 ≤ (at8 l k).f0 := by by_cases c : 1 ≤ (at8 l k).f0; exact c; (have := h2.1 (by omega); cases this)
  have hl := nxt_len st (at8 l k) h0 h1
  have hlen : ((nxt st (at8 l k)).length : Int) = mostN l (k + 1) + 1 := by
    rw [hl]; unfold mostN; rw [Nat.add_sub_cancel]; omega
  have h65 := hI.le65
  refine ⟨hlen, ?_, ?_, by split at hl <;> omega, nxt_keys st (at8 l k) h0 h1 k hI.keys, ?_⟩
  · by_cases c : 6 ≤ (at8 l k).f1
    · have := h64 c; rw [if_pos c] at hl; omega
    · rw [if_neg c] at hl; omega
  · rw [nxt_lo st (at8 l k) h0 h1 0 (by omega)]; exact hI.lvl0
  · intro d hd1 hd2
    by_cases c1 : (d : Int) < (at8 l k).f0
    · rw [nxt_lo st (at8 l k) h0 h1 d c1]
      obtain ⟨h, a1, a2, a3, a4, a5, a6⟩ := hI.hold d hd1 (by omega)
      refine ⟨h, by omega, a2, fun j hj1 hj2 => ?_, a4, a5, fun e key => ?_⟩
      · by_cases e : j = k
        · rw [e]; omega
        · exact a3 j hj1 (by omega)
      · rw [a6 e key]
        constructor
        · rintro ⟨j, b1, b2, b3⟩; exact ⟨j, b1, by omega, b3⟩
        · rintro ⟨j, b1, b2, b3, b4⟩
          refine ⟨j, b1, ?_, b3, b4⟩
          by_cases e : j = k
          · rw [e] at b3; omega
          · omega
    · by_cases c2 : (d : Int) = (at8 l k).f0
      · rw [nxt_at st (at8 l k) h0 h1 d c2]
        obtain ⟨h, a1, a2, a3, a4, a5, a6⟩ := hI.hold d hd1 (by omega)
        refine ⟨h, by omega, a2, fun j hj1 hj2 => ?_, a4, a5, fun e key => ?_⟩
        · by_cases e : j = k
          · rw [e]; omega
          · exact a3 j hj1 (by omega)
        · simp only
          rw [if_pos (a4.trans e), List.mem_append, a6 e key, List.mem_singleton]
          constructor
          · rintro (⟨j, b1, b2, b3⟩ | b)
            · exact ⟨j, b1, by omega, b3⟩
            · exact ⟨k, a1, by omega, c2.symm, b.symm⟩
          · rintro ⟨j, b1, b2, b3, b4⟩
            by_cases e : j = k
            · rw [e] at b4; exact Or.inr b4.symm
            · exact Or.inl ⟨j, b1, by omega, b3, b4⟩
      · have c6 : 6 ≤ (at8 l k).f1 := by by_cases c : 6 ≤ (at8 l k).f1; exact c; (rw [if_neg c] at hl; omega)
        rw [if_pos c6] at hl
        have c3 : (d : Int) = (at8 l k).f0 + 1 := by omega
        rw [nxt_hi st (at8 l k) h0 h1 d c3 c6]
        refine ⟨k, by omega, by omega, fun j hj1 hj2 => by omega, rfl, by omega, fun e key => ⟨fun b => by (cases b), ?_⟩⟩
        rintro ⟨j, b1, b2, _⟩; omega
theorem inv_first (l : List S81) (hR : RC true [(6, [])] (at8 l 0)) : Inv l 1 (nxt [(6, [])] (at8 l 0)) := by
  obtain ⟨⟨h0, h1, h2⟩, ⟨h3, h4, _⟩, _, hmem, h64⟩ := hR
  have hz : (at8 l 0).f0 = 0 := h2.2 rfl
  have hl := nxt_len [(6, [])] (at8 l 0) h0 h1
  refine ⟨by rw [hl]; unfold mostN; rw [Nat.sub_self]; omega, by split at hl <;> omega, ?_, by split at hl <;> omega, nxt_keys [(6, [])] (at8 l 0) h0 h1 0 ?_, ?_⟩
  · rw [nxt_at _ _ h0 h1 0 (by omega)]; rfl
  · intro d
    cases d with
    | zero => exact Nat.le_refl _
    | succ d => exact Nat.le_refl _
  · intro d hd1 hd2
    have c6 : 6 ≤ (at8 l 0).f1 := by by_cases c : 6 ≤ (at8 l 0).f1; exact c; (rw [if_neg c] at hl; omega)
    rw [if_pos c6] at hl
    rw [nxt_hi _ _ h0 h1 d (by omega) c6]
    refine ⟨0, by omega, by omega, fun j hj1 hj2 => by omega, rfl, by omega, fun e key => ⟨fun b => by (cases b), ?_⟩⟩
    rintro ⟨j, b1, b2, _⟩; omega
theorem ba_ext {a b : ByteArray} (h : a.toList = b.toList) : a = b := by
  rw [Lib.toList_data, Lib.toList_data] at h
  cases a; cases b
  exact congrArg ByteArray.mk (Array.toList_inj.1 h)
theorem v8_nil {s : ByteArray} (h : s.toList = []) : V8 s := by
  rw [Lib.toList_data] at h
  unfold V8
  rw [h]; decide +kernel
theorem holder_l0 (l : List S81) (p h : Nat) (hp : p < l.length) (hl : l.length ≤ 1000000) (hh : (at8 l h).f0 = (at8 l p).f0 - 1) (hw : 1 ≤ (at8 l p).f0 ∧ (at8 l p).f0 ≤ 64) (hno : ∀ j, h < j → j < p → (at8 l j).f0 ≠ (at8 l p).f0 - 1) :
    ∀ n k i, i - h = n → h ≤ i → i < p → n < k → cracknelref08_holder.l0 k l (p : Int) (i : Int) = some (h : Int)
  | 0, k, i, h1, h2, h3, h4 => by
    obtain ⟨k, rfl⟩ : ∃ m, k = m + 1 := ⟨k - 1, by omega⟩
    obtain rfl : i = h := by omega
    rw [cracknelref08_holder.l0, if_pos (by omega), if_pos (by omega), if_pos (by omega), if_pos (by omega), if_pos (by omega), rd_at8, rd_at8, w64 (by omega) (by omega), if_pos hh]
  | n + 1, k, i, h1, h2, h3, h4 => by
    obtain ⟨k, rfl⟩ : ∃ m, k = m + 1 := ⟨k - 1, by omega⟩
    rw [cracknelref08_holder.l0, if_pos (by omega), if_pos (by omega), if_pos (by omega), if_pos (by omega), if_pos (by omega), rd_at8, rd_at8, w64 (x := (at8 l p).f0 - 1) (by omega) (by omega), if_neg (hno i (by omega) h3), w64 (by omega) (by omega), show (i : Int) - 1 = ((i - 1 : Nat) : Int) by omega]
    exact holder_l0 l p h hp hl hh hw hno n k (i - 1) (by omega) (by omega) (by omega) (by omega)
theorem alone_l0 (l : List S81) (p : Nat) (hp : p < l.length) (hl : l.length ≤ 1000000) : ∀ n k j, p - j = n → j ≤ p → n < k → ∃ b, cracknelref08_alone.l0 k l (p : Int) (j : Int) = some b ∧ (b = true ↔ ∀ i, j ≤ i → i < p → (at8 l i).f0 = (at8 l p).f0 → (at8 l i).f2 ≠ (at8 l p).f2)
  | 0, k, j, h1, h2, h3 => by
    obtain ⟨k, rfl⟩ : ∃ m, k = m + 1 := ⟨k - 1, by omega⟩
    rw [cracknelref08_alone.l0, if_neg (by omega)]
    exact ⟨true, rfl, fun _ i a b => by omega, fun _ => rfl⟩
  | n + 1, k, j, h1, h2, h3 => by
    obtain ⟨k, rfl⟩ : ∃ m, k = m + 1 := ⟨k - 1, by omega⟩
    obtain ⟨b, hb, hi⟩ := alone_l0 l p hp hl n k (j + 1) (by omega) (by omega) (by omega)
    rw [cracknelref08_alone.l0, if_pos (by omega), if_pos (by omega), if_pos (by omega), if_pos (by omega), if_pos (by omega), rd_at8, rd_at8, w64 (x := (j : Int) + 1) (by omega) (by omega), show (j : Int) + 1 = ((j + 1 : Nat) : Int) by omega, hb]
    by_cases c1 : (at8 l j).f0 = (at8 l p).f0
    · rw [if_pos c1]
      by_cases c2 : (at8 l j).f2.toList = (at8 l p).f2.toList
      · rw [if_pos c2]
        exact ⟨false, rfl, fun e => by (cases e), fun e => absurd (ba_ext c2) (e j (Nat.le_refl _) (by omega) c1)⟩
      · rw [if_neg c2]
        refine ⟨b, rfl, fun e i a1 a2 a3 a4 => ?_, fun e => hi.2 (fun i a1 a2 => e i (by omega) a2)⟩
        by_cases e : i = j
        · rw [e] at a4; exact c2 (by rw [a4])
        · exact hi.1 ‹_› i (by omega) a2 a3 a4
    · rw [if_neg c1]
      refine ⟨b, rfl, fun e i a1 a2 a3 a4 => ?_, fun e => hi.2 (fun i a1 a2 => e i (by omega) a2)⟩
      by_cases e : i = j
      · rw [e] at a3; exact c1 a3
      · exact hi.1 ‹_› i (by omega) a2 a3 a4
theorem drop8 (l : List S81) (i : Nat) (h : i < l.length) : l.drop i = at8 l i :: l.drop (i + 1) := by rw [drop_T81 l i h, rd_at8]
theorem l0_j2 (l : List S81) (i K : Nat) (hl : l.length ≤ 1000000) (h1 : 1 ≤ i) (hi : i < l.length) (hm : 0 ≤ mostN l i ∧ mostN l i ≤ 64) (hz : I64 (at8 l (i - 1)).f0) : cracknelref08_Right.l0 (K + 1) l (i : Int) = cracknelref08_Right.j2 K l (i : Int) (mostN l i) := by
  unfold mostN at hm ⊢
  rw [cracknelref08_Right.l0, if_pos (by omega), w64 (by omega) (by omega), if_pos (by omega), if_pos (by omega), show (i : Int) - 1 = ((i - 1 : Nat) : Int) by omega, rd_at8]
  by_cases c : 6 ≤ (at8 l (i - 1)).f1
  · simp only [if_pos c] at hm ⊢
    rw [w64 (by omega) (by omega)]
  · simp only [if_neg c] at hm ⊢
    rw [Int.add_zero]
theorem ref_loop (l : List S81) (hz : ∀ i, i < l.length → Okz (at8 l i)) (hl : l.length ≤ 1000000) : ∀ n i st K, l.length - i = n → 1 ≤ i → i ≤ l.length → Inv l i st → 1000050 + l.length + 5 * n ≤ K → ∃ b, rightF false st ((l.drop i).map toN) = some b ∧ cracknelref08_Right.l0 K l (i : Int) = some b
  | 0, i, st, K, hn, h1, hi, hI, hK => by
    obtain ⟨K, rfl⟩ : ∃ m, K = m + 1 := ⟨K - 1, by omega⟩
    refine ⟨true, ?_, ?_⟩
    · rw [List.drop_eq_nil_of_le (by omega), List.map_nil, rightF]
    · rw [cracknelref08_Right.l0, if_neg (by omega)]
  | n + 1, i, st, K, hn, h1, hi, hI, hK => by
    have hi' : i < l.length := by omega
    obtain ⟨K, rfl⟩ : ∃ m, K = m + 1 + 1 + 1 + 1 := ⟨K - 4, by omega⟩
    have hlen := hI.len
    have h65 := hI.le65
    have hps := hI.pos
    have hzi := hz i hi'
    have hkeys := hI.keys
    rw [l0_j2 l i _ hl h1 hi' (by omega) (hz (i - 1) (by omega)).2.2.1, drop8 l i hi', List.map_cons]
    obtain ⟨hy, hno⟩ := right_step false st (at8 l i) ((l.drop (i + 1)).map toN) hzi (by have := hkeys (at8 l i).f0.toNat; omega)
    rw [cracknelref08_Right.j2, if_pos (by omega), if_pos (by omega), rd_at8]
    obtain ⟨bm, hbm, hbi⟩ := may_val (at8 l i) hzi (K + 1 + 1) (by omega)
    rw [hbm, Option.bind_some]
    -- what the document asks of the item itself
    by_cases c : May (at8 l i) ∧ 1 ≤ (at8 l i).f0 ∧ (at8 l i).f0 ≤ mostN l i
    · obtain ⟨c1, c2, c3⟩ := c
      rw [if_pos (hbi.2 c1), if_neg (by omega), show decide ((at8 l i).f0 > mostN l i) = false from decide_eq_false (by omega)]
      obtain ⟨m1, m2, m3, m4, m5, m6, m7, m8⟩ := c1
      obtain ⟨d, hd⟩ : ∃ d : Nat, (at8 l i).f0 = d := ⟨(at8 l i).f0.toNat, by omega⟩
      obtain ⟨h, a1, a2, a3, a4, a5, a6⟩ := hI.hold d (by omega) (by omega)
      have hg : st.getD (at8 l i).f0.toNat (0, []) = st.getD d (0, []) := by rw [hd, Int.toNat_natCast]
      rw [cracknelref08_Right.j3, if_neg (by decide)]
      unfold cracknelref08_holder.f
      rw [w64 (by omega) (by omega), show (i : Int) - 1 = ((i - 1 : Nat) : Int) by omega, holder_l0 l i h hi' hl (by omega) (by omega) (fun j b1 b2 => by have := a3 j b1 b2; omega) (i - 1 - h) (K + 1) (i - 1) rfl (by omega) (by omega) (by omega), Option.bind_some, if_pos (by omega), if_pos (by omega), rd_at8]
      have hnx : RC false st (at8 l i) → ∃ b, rightF false (nxt st (at8 l i)) ((l.drop (i + 1)).map toN) = some b ∧ ∀ q, q = K ∨ q = K + 1 → cracknelref08_Right.l0 q l ((i + 1 : Nat) : Int) = some b := by
        intro hR
        obtain ⟨b, e1, e2⟩ := ref_loop l hz hl n (i + 1) _ K (by omega) (by omega) (by omega) (inv_step l i st hI h1 hR) (by omega)
        obtain ⟨b', e1', e2'⟩ := ref_loop l hz hl n (i + 1) _ (K + 1) (by omega) (by omega) (by omega) (inv_step l i st hI h1 hR) (by omega)
        obtain rfl : b = b' := Option.some.inj (e1.symm.trans e1')
        exact ⟨b, e1, fun q hq => by rcases hq with rfl | rfl <;> assumption⟩
      rcases a5 with k6 | k7
      · rw [if_pos k6, if_pos (by omega), if_pos (by omega), rd_at8]
        by_cases ck : (at8 l i).f2.toList = []
        · have hR : RC false st (at8 l i) := by
            refine ⟨⟨by omega, by omega, ⟨fun e => by omega, fun e => by (cases e)⟩⟩, ⟨m1, m2, m3, m4⟩, m8, ?_, fun e => ?_⟩
            · rw [hg, a4, k6, if_neg (by decide)]; exact ck
            · by_cases e64 : (at8 l i).f0 = 64; (have := m6 e64; omega); omega
          obtain ⟨b, e1, e2⟩ := hnx hR
          refine ⟨b, (hy hR).trans e1, ?_⟩
          rw [ck, cracknelref08_Right.j4, if_neg (by decide), if_pos (by omega), if_pos (by omega), rd_at8, if_neg (by omega), w64 (by omega) (by omega), show (i : Int) + 1 = ((i + 1 : Nat) : Int) by omega]
          exact e2 K (Or.inl rfl)
        · have hR : ¬ RC false st (at8 l i) := by
            rintro ⟨_, _, _, e, _⟩
            rw [hg, a4, k6, if_neg (by decide)] at e
            exact ck e
          refine ⟨false, hno hR, ?_⟩
          rw [cracknelref08_Right.j4, if_pos (bne_iff_ne.2 ck)]
      · rw [if_neg (by omega), cracknelref08_Right.j4, if_neg (by decide), if_pos (by omega), if_pos (by omega), rd_at8, if_pos k7]
        unfold cracknelref08_alone.f
        obtain ⟨b0, f1, f2⟩ := alone_l0 l i hi' hl (i - (h + 1)) K (h + 1) rfl (by omega) (by omega)
        rw [w64 (x := (h : Int) + 1) (by omega) (by omega), show (h : Int) + 1 = ((h + 1 : Nat) : Int) by omega, f1, Option.bind_some]
        have hmem : (at8 l i).f2 ∉ (st.getD d (0, [])).2 ↔ b0 = true := by
          rw [f2, a6 k7]
          constructor
          · exact fun e j b1 b2 b3 b4 => e ⟨j, by omega, b2, by omega, b4⟩
          · rintro e ⟨j, b1, b2, b3, b4⟩
            exact e j (by omega) b2 (by omega) b4
        by_cases cb : b0 = true
        · have hR : RC false st (at8 l i) := by
            refine ⟨⟨by omega, by omega, ⟨fun e => by omega, fun e => by (cases e)⟩⟩, ⟨m1, m2, m3, m4⟩, m8, ?_, fun e => ?_⟩
            · rw [hg, a4, k7, if_pos rfl]; exact ⟨m7, hmem.2 cb⟩
            · by_cases e64 : (at8 l i).f0 = 64; (have := m6 e64; omega); omega
          obtain ⟨b, e1, e2⟩ := hnx hR
          refine ⟨b, (hy hR).trans e1, ?_⟩
          rw [if_pos cb, w64 (by omega) (by omega), show (i : Int) + 1 = ((i + 1 : Nat) : Int) by omega]
          exact e2 K (Or.inl rfl)
        · have hR : ¬ RC false st (at8 l i) := by
            rintro ⟨_, _, _, e, _⟩
            rw [hg, a4, k7, if_pos rfl] at e
            exact cb (hmem.1 e.2)
          refine ⟨false, hno hR, ?_⟩
          rw [if_neg cb]
    · have hR : ¬ RC false st (at8 l i) := by
        rintro ⟨⟨b1, b2, b3⟩, ⟨b4, b5, b6, b7⟩, b8, b9, b10⟩
        have hp : (at8 l i).f0 ≠ 0 := fun e => by have := b3.1 e; cases this
        refine c ⟨⟨b4, b5, b6, b7, by omega, fun e => ?_, ?_, b8⟩, by omega, by omega⟩
        · by_cases c6 : 6 ≤ (at8 l i).f1; (have := b10 c6; omega); omega
        · split at b9
          · exact b9.1
          · exact v8_nil b9
      refine ⟨false, hno hR, ?_⟩
      by_cases cm : bm = true
      · rw [if_pos cm]
        have cm' := hbi.1 cm
        by_cases c1 : (at8 l i).f0 < 1
        · rw [if_pos c1, cracknelref08_Right.j3, if_pos rfl]
        · rw [if_neg c1, show decide ((at8 l i).f0 > mostN l i) = true from decide_eq_true (by by_cases e : (at8 l i).f0 > mostN l i; exact e; exact absurd ⟨cm', by omega, by omega⟩ c), cracknelref08_Right.j3, if_pos rfl]
      · rw [if_neg cm, cracknelref08_Right.j3, if_pos rfl]
/-- what the code says of any row is what the document says -/
theorem right_ref (l : List S81) (hz : ∀ i, i < l.length → Okz (at8 l i)) (hl : l.length ≤ 1000000) (K : Nat) (hK : 1000060 + 6 * l.length ≤ K) : ∃ b, json_Right.f (l.map toN) = some b ∧ cracknelref08_Right.f K l = some b := by
  unfold json_Right.f cracknelref08_Right.f
  rw [if_pos (by rw [List.length_map]; omega)]
  obtain ⟨K, rfl⟩ : ∃ m, K = m + 1 := ⟨K - 1, by omega⟩
  by_cases c0 : (l.length : Int) = 0
  · obtain rfl : l = [] := List.eq_nil_of_length_eq_zero (by omega)
    refine ⟨false, ?_, ?_⟩
    · rw [List.map_nil, rightF]; rfl
    · rw [if_pos c0, cracknelref08_Right.j0, if_pos rfl]
  · rw [if_neg c0, if_pos (by omega), show (0 : Int) = ((0 : Nat) : Int) from rfl, rd_at8, show ((0 : Nat) : Int) = 0 from rfl]
    have hz0 := hz 0 (by omega)
    have hd : l.map toN = toN (at8 l 0) :: (l.drop 1).map toN := by
      have := drop8 l 0 (by omega)
      rw [List.drop_zero] at this
      conv => lhs; rw [this]
      rfl
    have hpos : decide (0 < (l.map toN).length) = true := decide_eq_true (by rw [List.length_map]; omega)
    rw [hpos, hd]
    obtain ⟨hy, hno⟩ := right_step true [(6, [])] (at8 l 0) ((l.drop 1).map toN) hz0 (by
      cases (at8 l 0).f0.toNat with
      | zero => exact Nat.zero_le _
      | succ d => exact Nat.zero_le _)
    obtain ⟨bm, hbm, hbi⟩ := may_val (at8 l 0) hz0 (K + 1) (by omega)
    have hnoR : (¬ RC true [(6, [])] (at8 l 0)) → Option.map (fun r => r && true) (rightF true [(6, [])] (toN (at8 l 0) :: (l.drop 1).map toN)) = some false := fun h => by rw [hno h]; rfl
    have hj : cracknelref08_Right.j0 (K + 1) l true = some false := by rw [cracknelref08_Right.j0, if_pos rfl]
    have imp : RC true [(6, [])] (at8 l 0) → (at8 l 0).f0 = 0 ∧ (at8 l 0).f2.toList = [] ∧ May (at8 l 0) := by
      rintro ⟨⟨b1, b2, b3⟩, ⟨b4, b5, b6, b7⟩, b8, b9, b10⟩
      have e := b3.2 rfl
      rw [e, Int.toNat_zero] at b9
      have b9' : (at8 l 0).f2.toList = [] := b9
      exact ⟨e, b9', b4, b5, b6, b7, by omega, fun x => by omega, v8_nil b9', b8⟩
    by_cases c1 : (at8 l 0).f0 = 0
    · rw [if_pos c1]
      by_cases c2 : (at8 l 0).f2.toList = []
      · rw [if_pos c2, hbm, Option.bind_some]
        by_cases cm : bm = true
        · obtain ⟨m1, m2, m3, m4, m5, m6, m7, m8⟩ := hbi.1 cm
          have hR : RC true [(6, [])] (at8 l 0) := by
            refine ⟨⟨by omega, by rw [c1]; decide, ⟨fun _ => rfl, fun _ => c1⟩⟩, ⟨m1, m2, m3, m4⟩, m8, ?_, fun e => by omega⟩
            rw [c1, Int.toNat_zero]
            exact c2
          obtain ⟨b, e1, e2⟩ := ref_loop l hz hl (l.length - 1) 1 _ K rfl (Nat.le_refl _) (by omega) (inv_first l hR) (by omega)
          refine ⟨b, by rw [hy hR, e1]; simp, ?_⟩
          rw [cm, cracknelref08_Right.j0, if_neg (by decide)]
          exact e2
        · refine ⟨false, hnoR (fun h => cm (hbi.2 (imp h).2.2)), ?_⟩
          rw [show bm = false by simpa using cm]
          exact hj
      · rw [if_neg c2]
        exact ⟨false, hnoR (fun h => c2 (imp h).2.1), hj⟩
    · rw [if_neg c1]
      exact ⟨false, hnoR (fun h => c1 (imp h).1), hj⟩
end Go.Proofs.YthhmmaihbjhhgaaDoor.Giv
namespace Go.Proofs.YthhmmaihbjhhgaaDoor.J2
open Go.Proofs.YthhmmaihbjhhgaaDoor.Giv Go.Proofs.YthhmmaihbjhhgaaDoor.U1 Go.Proofs.YthhmmaihbjhhgaaDoor.Q1 Go.Proofs.YthhmmaihbjhhgaaDoor.J0 Go.Proofs.YthhmmaihbjhhgaaDoor.J1 Go.RowKit Go.Proofs.YthhmmaihbjhhgaaDoorW.PrintWords Go.Proofs.YthhmmaihbjhhgaaDoorW.PrintLast Go.Proofs.YthhmmaihbjhhgaaDoorW.PrintMore
attribute [local go_sem] max2_int min2_int max_two min_two max_three min_three max_four min_four   -- for this text's walks alone
set_option linter.unusedVariables false
set_option linter.unusedSimpArgs false
def cracknellaw08_JsonApart.j0 : Nat → List (S81) → List (S81) → Bool → Option (Bool)
  | 0, _, _, _ => none
  | k + 1, x0, x1, x22 => if x22 = true then ((cracknellaw08_alive.f).bind fun t198 => (some t198)) else ((cracknellaw08_alive.f).bind fun t199 => (if t199 = true then ((cracknellaw08_News.f x0).bind fun t200 => ((json_Print.f t200).bind fun t203 => ((cracknellaw08_News.f x1).bind fun t204 => ((json_Print.f t204).bind fun t207 => ((cracknelref08_Same.f k x0 x1).bind fun t208 => (some ((t203.toList == t207.toList) == t208))))))) else (some false)))
def cracknellaw08_JsonApart.f (k : Nat) (l0 : List (S81)) (l1 : List (S81)) : Option (Bool) := (cracknellaw08_small.f k l0).bind fun t194 => (if t194 = true then ((cracknellaw08_small.f k l1).bind fun t195 => (if t195 = true then ((cracknelref08_Right.f k l0).bind fun t196 => (if t196 = true then ((cracknelref08_Right.f k l1).bind fun t197 => (cracknellaw08_JsonApart.j0 k l0 l1 (!t197))) else (cracknellaw08_JsonApart.j0 k l0 l1 true))) else (cracknellaw08_JsonApart.j0 k l0 l1 true))) else (cracknellaw08_JsonApart.j0 k l0 l1 true))
set_option maxHeartbeats 8000000 in
set_option maxRecDepth 100000 in
theorem cracknellaw08_JsonApart.calls (k : Nat) (A0 : Option Addr) (c0 : Nat) (l0 : List (S81)) (A1 : Option Addr) (c1 : Nat) (l1 : List (S81)) (r : Bool) (w : World) (hr0 : Kd.C k81 w A0 l0.length l0) (hc0 : l0.length ≤ c0) (hr1 : Kd.C k81 w A1 l1.length l1) (hc1 : l1.length ≤ c1) (h : cracknellaw08_JsonApart.f k l0 l1 = some r) (TJ_ : JTabs w := by first | assumption | (refine JTabs.step (by assumption) ?_; repeat (first | exact Aside0.out (by assumption) | apply below_alloc | apply pw_below_drewN | apply below_drew1 | exact Below.refl _ _))) (TB_ : Tabs w := by first | assumption | (refine Tabs.step (by assumption) ?_; repeat (first | exact Aside0.out (by assumption) | apply below_alloc | apply pw_below_drewN | apply below_drew1 | exact Below.refl _ _))) :
    Calls Tryd.prog 19 #[.slice A0 l0.length c0, .slice A1 l1.length c1] w fun e w' => e = .returned (.bool r) ∧ Below w.heap.size w w' := by
  have HR0 := Aside0.mk hr0
  have HC0 := Aside0.mk hc0
  clear hr0 hc0
  have HR1 := Aside0.mk hr1
  have HC1 := Aside0.mk hc1
  clear hr1 hc1
  have HB := Aside0.mk (Below.refl w.heap.size w)
  have H : ((cracknellaw08_small.f k l0).bind fun t194 => (if t194 = true then ((cracknellaw08_small.f k l1).bind fun t195 => (if t195 = true then ((cracknelref08_Right.f k l0).bind fun t196 => (if t196 = true then ((cracknelref08_Right.f k l1).bind fun t197 => (cracknellaw08_JsonApart.j0 k l0 l1 (!t197))) else (cracknellaw08_JsonApart.j0 k l0 l1 true))) else (cracknellaw08_JsonApart.j0 k l0 l1 true))) else (cracknellaw08_JsonApart.j0 k l0 l1 true))) = some r := h
  clear h
  have HC3 := Aside0.mk H
  clear H
  go_enter Tryd.func19, Tryd.ntmps19
  go_upto_region 1 with (fail)
  go_cut [22] (fun v22 wc => ∃ (kq : Nat) (x22_2 : Bool), v22 = .bool x22_2 ∧ Aside0 (cracknellaw08_JsonApart.j0 kq l0 l1 x22_2 = some r) ∧ Aside0 (kq ≤ k) ∧ Aside0 (Below w.heap.size w wc))
  case first =>
    have H := HC3.out
    clear HC3
    replace H := Option.bind_eq_some_iff.mp H
    obtain ⟨t194, A40, H⟩ := H
    replace H : (if t194 = true then ((cracknellaw08_small.f k l1).bind fun t195 => (if t195 = true then ((cracknelref08_Right.f k l0).bind fun t196 => (if t196 = true then ((cracknelref08_Right.f k l1).bind fun t197 => (cracknellaw08_JsonApart.j0 k l0 l1 (!t197))) else (cracknellaw08_JsonApart.j0 k l0 l1 true))) else (cracknellaw08_JsonApart.j0 k l0 l1 true))) else (cracknellaw08_JsonApart.j0 k l0 l1 true)) = some r := H
    have A4 := Aside0.mk A40
    clear A40
    by_cases c5 : t194 = true
    · subst c5
      have H1 : ((cracknellaw08_small.f k l1).bind fun t195 => (if t195 = true then ((cracknelref08_Right.f k l0).bind fun t196 => (if t196 = true then ((cracknelref08_Right.f k l1).bind fun t197 => (cracknellaw08_JsonApart.j0 k l0 l1 (!t197))) else (cracknellaw08_JsonApart.j0 k l0 l1 true))) else (cracknellaw08_JsonApart.j0 k l0 l1 true))) = some r := by rw [if_pos rfl] at H; exact H
      clear H
      have H := H1
      clear H1
      replace H := Option.bind_eq_some_iff.mp H
      obtain ⟨t195, A60, H⟩ := H
      replace H : (if t195 = true then ((cracknelref08_Right.f k l0).bind fun t196 => (if t196 = true then ((cracknelref08_Right.f k l1).bind fun t197 => (cracknellaw08_JsonApart.j0 k l0 l1 (!t197))) else (cracknellaw08_JsonApart.j0 k l0 l1 true))) else (cracknellaw08_JsonApart.j0 k l0 l1 true)) = some r := H
      have A6 := Aside0.mk A60
      clear A60
      by_cases c7 : t195 = true
      · subst c7
        have H1 : ((cracknelref08_Right.f k l0).bind fun t196 => (if t196 = true then ((cracknelref08_Right.f k l1).bind fun t197 => (cracknellaw08_JsonApart.j0 k l0 l1 (!t197))) else (cracknellaw08_JsonApart.j0 k l0 l1 true))) = some r := by rw [if_pos rfl] at H; exact H
        clear H
        have H := H1
        clear H1
        replace H := Option.bind_eq_some_iff.mp H
        obtain ⟨t196, A80, H⟩ := H
        replace H : (if t196 = true then ((cracknelref08_Right.f k l1).bind fun t197 => (cracknellaw08_JsonApart.j0 k l0 l1 (!t197))) else (cracknellaw08_JsonApart.j0 k l0 l1 true)) = some r := H
        have A8 := Aside0.mk A80
        clear A80
        by_cases c9 : t196 = true
        · subst c9
          have H1 : ((cracknelref08_Right.f k l1).bind fun t197 => (cracknellaw08_JsonApart.j0 k l0 l1 (!t197))) = some r := by rw [if_pos rfl] at H; exact H
          clear H
          have H := H1
          clear H1
          replace H := Option.bind_eq_some_iff.mp H
          obtain ⟨t197, A100, H⟩ := H
          replace H : (cracknellaw08_JsonApart.j0 k l0 l1 (!t197)) = some r := H
          have A10 := Aside0.mk A100
          clear A100
          have H' := Aside0.mk H
          clear H
          go_wp2_with (first | ((with_reducible refine gate_callee (f := 39) rfl ?_); refine goesL_ (some 6) rfl rfl Tryd.func39 (by kernel_rfl) rfl #[.slice A0 l0.length c0] rfl (by (try simp only [List.map_toArray, List.map_cons, List.map_nil]); first | done | rfl | (simp only [List.length_drop, List.length_take]; rfl)) ?_; (with_reducible refine (cracknellaw08_small.calls k _ _ l0 true _ ?side1 ?side2 A4.out).mono ?_); (case side1 => repeat (first | exact (Kd.C_below HR0.out HB.out) | (with_reducible refine Kd.C_alloc ?_ _) | (with_reducible refine Kd.C_drewN ?_ _) | (with_reducible refine Kd.C_drew ?_))); (case side2 => exact HC0.out); rintro e w11 ⟨rfl, hb⟩; refine ⟨_, rfl, ?_⟩; have n0_ := Aside0.mk (below_step (by repeat (first | (with_reducible first | exact HB.out | apply below_alloc | apply pw_below_drewN | apply below_drew1) | exact HB.out)) hb); clear HB; have HB := n0_; clear n0_; (try clear hb); (try clear hb2); (try clear hk); (try clear hi)) | (go_at_call 39; (with_reducible refine (cracknellaw08_small.calls k _ _ l1 true _ ?side1 ?side2 A6.out).mono ?_); (case side1 => repeat (first | exact (Kd.C_below HR1.out HB.out) | (with_reducible refine Kd.C_alloc ?_ _) | (with_reducible refine Kd.C_drewN ?_ _) | (with_reducible refine Kd.C_drew ?_))); (case side2 => exact HC1.out); rintro e w12 ⟨rfl, hb⟩; have n0_ := Aside0.mk (below_step (by repeat (first | (with_reducible first | exact HB.out | apply below_alloc | apply pw_below_drewN | apply below_drew1) | exact HB.out)) hb); clear HB; have HB := n0_; clear n0_; (try clear hb); (try clear hb2); (try clear hk); (try clear hi)) | (go_at_call 43; (with_reducible refine (cracknelref08_Right.calls k _ _ l0 true _ ?side1 ?side2 A8.out).mono ?_); (case side1 => repeat (first | exact (Kd.C_below HR0.out HB.out) | (with_reducible refine Kd.C_alloc ?_ _) | (with_reducible refine Kd.C_drewN ?_ _) | (with_reducible refine Kd.C_drew ?_))); (case side2 => exact HC0.out); rintro e w13 ⟨rfl, hb⟩; have n0_ := Aside0.mk (below_step (by repeat (first | (with_reducible first | exact HB.out | apply below_alloc | apply pw_below_drewN | apply below_drew1) | exact HB.out)) hb); clear HB; have HB := n0_; clear n0_; (try clear hb); (try clear hb2); (try clear hk); (try clear hi)) | (go_at_call 43; (with_reducible refine (cracknelref08_Right.calls k _ _ l1 t197 _ ?side1 ?side2 A10.out).mono ?_); (case side1 => repeat (first | exact (Kd.C_below HR1.out HB.out) | (with_reducible refine Kd.C_alloc ?_ _) | (with_reducible refine Kd.C_drewN ?_ _) | (with_reducible refine Kd.C_drew ?_))); (case side2 => exact HC1.out); rintro e w14 ⟨rfl, hb⟩; have n0_ := Aside0.mk (below_step (by repeat (first | (with_reducible first | exact HB.out | apply below_alloc | apply pw_below_drewN | apply below_drew1) | exact HB.out)) hb); clear HB; have HB := n0_; clear n0_; (try clear hb); (try clear hb2); (try clear hk); (try clear hi)))
          go_meet
          case rel => exact ⟨_, (!t197), (by first | rfl | (simp; done) | (simp [*]; done)), H', ⟨by first | omega | exact Nat.le_refl _⟩, ⟨by repeat (first | (with_reducible first | exact HB.out | apply below_alloc | apply pw_below_drewN | apply below_drew1) | exact HB.out)⟩⟩
        · replace c9 := Bool.eq_false_iff.mpr c9
          subst c9
          have H1 : (cracknellaw08_JsonApart.j0 k l0 l1 true) = some r := by rw [if_neg (show ¬ (false = true) by decide)] at H; exact H
          clear H
          have H := H1
          clear H1
          have H' := Aside0.mk H
          clear H
          go_wp2_with (first | ((with_reducible refine gate_callee (f := 39) rfl ?_); refine goesL_ (some 6) rfl rfl Tryd.func39 (by kernel_rfl) rfl #[.slice A0 l0.length c0] rfl (by (try simp only [List.map_toArray, List.map_cons, List.map_nil]); first | done | rfl | (simp only [List.length_drop, List.length_take]; rfl)) ?_; (with_reducible refine (cracknellaw08_small.calls k _ _ l0 true _ ?side1 ?side2 A4.out).mono ?_); (case side1 => repeat (first | exact (Kd.C_below HR0.out HB.out) | (with_reducible refine Kd.C_alloc ?_ _) | (with_reducible refine Kd.C_drewN ?_ _) | (with_reducible refine Kd.C_drew ?_))); (case side2 => exact HC0.out); rintro e w15 ⟨rfl, hb⟩; refine ⟨_, rfl, ?_⟩; have n0_ := Aside0.mk (below_step (by repeat (first | (with_reducible first | exact HB.out | apply below_alloc | apply pw_below_drewN | apply below_drew1) | exact HB.out)) hb); clear HB; have HB := n0_; clear n0_; (try clear hb); (try clear hb2); (try clear hk); (try clear hi)) | (go_at_call 39; (with_reducible refine (cracknellaw08_small.calls k _ _ l1 true _ ?side1 ?side2 A6.out).mono ?_); (case side1 => repeat (first | exact (Kd.C_below HR1.out HB.out) | (with_reducible refine Kd.C_alloc ?_ _) | (with_reducible refine Kd.C_drewN ?_ _) | (with_reducible refine Kd.C_drew ?_))); (case side2 => exact HC1.out); rintro e w16 ⟨rfl, hb⟩; have n0_ := Aside0.mk (below_step (by repeat (first | (with_reducible first | exact HB.out | apply below_alloc | apply pw_below_drewN | apply below_drew1) | exact HB.out)) hb); clear HB; have HB := n0_; clear n0_; (try clear hb); (try clear hb2); (try clear hk); (try clear hi)) | (go_at_call 43; (with_reducible refine (cracknelref08_Right.calls k _ _ l0 false _ ?side1 ?side2 A8.out).mono ?_); (case side1 => repeat (first | exact (Kd.C_below HR0.out HB.out) | (with_reducible refine Kd.C_alloc ?_ _) | (with_reducible refine Kd.C_drewN ?_ _) | (with_reducible refine Kd.C_drew ?_))); (case side2 => exact HC0.out); rintro e w17 ⟨rfl, hb⟩; have n0_ := Aside0.mk (below_step (by repeat (first | (with_reducible first | exact HB.out | apply below_alloc | apply pw_below_drewN | apply below_drew1) | exact HB.out)) hb); clear HB; have HB := n0_; clear n0_; (try clear hb); (try clear hb2); (try clear hk); (try clear hi)))
          go_meet
          case rel => exact ⟨_, (true), (by first | rfl | (simp; done) | (simp [*]; done)), H', ⟨by first | omega | exact Nat.le_refl _⟩, ⟨by repeat (first | (with_reducible first | exact HB.out | apply below_alloc | apply pw_below_drewN | apply below_drew1) | exact HB.out)⟩⟩
      · replace c7 := Bool.eq_false_iff.mpr c7
        subst c7
        have H1 : (cracknellaw08_JsonApart.j0 k l0 l1 true) = some r := by rw [if_neg (show ¬ (false = true) by decide)] at H; exact H
        clear H
        have H := H1
        clear H1
        have H' := Aside0.mk H
        clear H
        go_wp2_with (first | ((with_reducible refine gate_callee (f := 39) rfl ?_); refine goesL_ (some 6) rfl rfl Tryd.func39 (by kernel_rfl) rfl #[.slice A0 l0.length c0] rfl (by (try simp only [List.map_toArray, List.map_cons, List.map_nil]); first | done | rfl | (simp only [List.length_drop, List.length_take]; rfl)) ?_; (with_reducible refine (cracknellaw08_small.calls k _ _ l0 true _ ?side1 ?side2 A4.out).mono ?_); (case side1 => repeat (first | exact (Kd.C_below HR0.out HB.out) | (with_reducible refine Kd.C_alloc ?_ _) | (with_reducible refine Kd.C_drewN ?_ _) | (with_reducible refine Kd.C_drew ?_))); (case side2 => exact HC0.out); rintro e w18 ⟨rfl, hb⟩; refine ⟨_, rfl, ?_⟩; have n0_ := Aside0.mk (below_step (by repeat (first | (with_reducible first | exact HB.out | apply below_alloc | apply pw_below_drewN | apply below_drew1) | exact HB.out)) hb); clear HB; have HB := n0_; clear n0_; (try clear hb); (try clear hb2); (try clear hk); (try clear hi)) | (go_at_call 39; (with_reducible refine (cracknellaw08_small.calls k _ _ l1 false _ ?side1 ?side2 A6.out).mono ?_); (case side1 => repeat (first | exact (Kd.C_below HR1.out HB.out) | (with_reducible refine Kd.C_alloc ?_ _) | (with_reducible refine Kd.C_drewN ?_ _) | (with_reducible refine Kd.C_drew ?_))); (case side2 => exact HC1.out); rintro e w19 ⟨rfl, hb⟩; have n0_ := Aside0.mk (below_step (by repeat (first | (with_reducible first | exact HB.out | apply below_alloc | apply pw_below_drewN | apply below_drew1) | exact HB.out)) hb); clear HB; have HB := n0_; clear n0_; (try clear hb); (try clear hb2); (try clear hk); (try clear hi)))
        go_meet
        case rel => exact ⟨_, (true), (by first | rfl | (simp; done) | (simp [*]; done)), H', ⟨by first | omega | exact Nat.le_refl _⟩, ⟨by repeat (first | (with_reducible first | exact HB.out | apply below_alloc | apply pw_below_drewN | apply below_drew1) | exact HB.out)⟩⟩
    · replace c5 := Bool.eq_false_iff.mpr c5
      subst c5
      have H1 : (cracknellaw08_JsonApart.j0 k l0 l1 true) = some r := by rw [if_neg (show ¬ (false = true) by decide)] at H; exact H
      clear H
      have H := H1
      clear H1
      have H' := Aside0.mk H
      clear H
      go_wp2_with (first | ((with_reducible refine gate_callee (f := 39) rfl ?_); refine goesL_ (some 6) rfl rfl Tryd.func39 (by kernel_rfl) rfl #[.slice A0 l0.length c0] rfl (by (try simp only [List.map_toArray, List.map_cons, List.map_nil]); first | done | rfl | (simp only [List.length_drop, List.length_take]; rfl)) ?_; (with_reducible refine (cracknellaw08_small.calls k _ _ l0 false _ ?side1 ?side2 A4.out).mono ?_); (case side1 => repeat (first | exact (Kd.C_below HR0.out HB.out) | (with_reducible refine Kd.C_alloc ?_ _) | (with_reducible refine Kd.C_drewN ?_ _) | (with_reducible refine Kd.C_drew ?_))); (case side2 => exact HC0.out); rintro e w20 ⟨rfl, hb⟩; refine ⟨_, rfl, ?_⟩; have n0_ := Aside0.mk (below_step (by repeat (first | (with_reducible first | exact HB.out | apply below_alloc | apply pw_below_drewN | apply below_drew1) | exact HB.out)) hb); clear HB; have HB := n0_; clear n0_; (try clear hb); (try clear hb2); (try clear hk); (try clear hi)))
      go_meet
      case rel => exact ⟨_, (true), (by first | rfl | (simp; done) | (simp [*]; done)), H', ⟨by first | omega | exact Nat.le_refl _⟩, ⟨by repeat (first | (with_reducible first | exact HB.out | apply below_alloc | apply pw_below_drewN | apply below_drew1) | exact HB.out)⟩⟩
  case rest =>
    clear HC3
    try clear c1
    try clear p2
    try clear c3
    try clear c5
    try clear c7
    try clear c9
    try clear c19
    obtain ⟨kq, x22_2, rfl, HA, HJ2, HB⟩ := hcut
    cases kq with
    | zero => exact absurd HA.out (by simp [cracknellaw08_JsonApart.j0])
    | succ kj2 =>
      have H := HA.out
      clear HA
      simp only [cracknellaw08_JsonApart.j0] at H
      by_cases c21 : x22_2 = true
      · subst c21
        have H1 : ((cracknellaw08_alive.f).bind fun t198 => (some t198)) = some r := by rw [if_pos rfl] at H; exact H
        clear H
        have H := H1
        clear H1
        replace H := Option.bind_eq_some_iff.mp H
        obtain ⟨t198, A220, H⟩ := H
        replace H : (some t198) = some r := H
        have A22 := Aside0.mk A220
        clear A220
        obtain rfl := Option.some.inj H
        go_wp2_with (first | ((with_reducible refine gate_callee (f := 40) rfl ?_); refine goesL_ (some 23) rfl rfl Tryd.func40 (by kernel_rfl) rfl #[] rfl (by (try simp only [List.map_toArray, List.map_cons, List.map_nil]); first | done | rfl | (simp only [List.length_drop, List.length_take]; rfl)) ?_; (with_reducible refine (cracknellaw08_alive.calls  t198 _ A22.out).mono ?_); rintro e w23 ⟨rfl, hb⟩; refine ⟨_, rfl, ?_⟩; have n0_ := Aside0.mk (below_step (by repeat (first | (with_reducible first | exact HB.out | apply below_alloc | apply pw_below_drewN | apply below_drew1) | exact HB.out)) hb); clear HB; have HB := n0_; clear n0_; (try clear hb); (try clear hb2); (try clear hk); (try clear hi)))
        go_ret
        exact ⟨by first | rfl | exact congrArg (fun b => Ending.returned (Value.bool b)) (isE2 _) | (simp [errW_none, errW_some] <;> rfl) | (simp [*, errW_none, errW_some] <;> rfl), by repeat (first | (with_reducible first | exact HB.out | apply below_alloc | apply pw_below_drewN | apply below_drew1) | exact HB.out)⟩
      · replace c21 := Bool.eq_false_iff.mpr c21
        subst c21
        have H1 : ((cracknellaw08_alive.f).bind fun t199 => (if t199 = true then ((cracknellaw08_News.f l0).bind fun t200 => ((json_Print.f t200).bind fun t203 => ((cracknellaw08_News.f l1).bind fun t204 => ((json_Print.f t204).bind fun t207 => ((cracknelref08_Same.f kj2 l0 l1).bind fun t208 => (some ((t203.toList == t207.toList) == t208))))))) else (some false))) = some r := by rw [if_neg (show ¬ (false = true) by decide)] at H; exact H
        clear H
        have H := H1
        clear H1
        replace H := Option.bind_eq_some_iff.mp H
        obtain ⟨t199, A240, H⟩ := H
        replace H : (if t199 = true then ((cracknellaw08_News.f l0).bind fun t200 => ((json_Print.f t200).bind fun t203 => ((cracknellaw08_News.f l1).bind fun t204 => ((json_Print.f t204).bind fun t207 => ((cracknelref08_Same.f kj2 l0 l1).bind fun t208 => (some ((t203.toList == t207.toList) == t208))))))) else (some false)) = some r := H
        have A24 := Aside0.mk A240
        clear A240
        by_cases c25 : t199 = true
        · subst c25
          have H1 : ((cracknellaw08_News.f l0).bind fun t200 => ((json_Print.f t200).bind fun t203 => ((cracknellaw08_News.f l1).bind fun t204 => ((json_Print.f t204).bind fun t207 => ((cracknelref08_Same.f kj2 l0 l1).bind fun t208 => (some ((t203.toList == t207.toList) == t208))))))) = some r := by rw [if_pos rfl] at H; exact H
          clear H
          have H := H1
          clear H1
          replace H := Option.bind_eq_some_iff.mp H
          obtain ⟨t200, A260, H⟩ := H
          replace H : ((json_Print.f t200).bind fun t203 => ((cracknellaw08_News.f l1).bind fun t204 => ((json_Print.f t204).bind fun t207 => ((cracknelref08_Same.f kj2 l0 l1).bind fun t208 => (some ((t203.toList == t207.toList) == t208)))))) = some r := H
          have A26 := Aside0.mk A260
          clear A260
          replace H := Option.bind_eq_some_iff.mp H
          obtain ⟨t203, A270, H⟩ := H
          replace H : ((cracknellaw08_News.f l1).bind fun t204 => ((json_Print.f t204).bind fun t207 => ((cracknelref08_Same.f kj2 l0 l1).bind fun t208 => (some ((t203.toList == t207.toList) == t208))))) = some r := H
          have A27 := Aside0.mk A270
          clear A270
          replace H := Option.bind_eq_some_iff.mp H
          obtain ⟨t204, A280, H⟩ := H
          replace H : ((json_Print.f t204).bind fun t207 => ((cracknelref08_Same.f kj2 l0 l1).bind fun t208 => (some ((t203.toList == t207.toList) == t208)))) = some r := H
          have A28 := Aside0.mk A280
          clear A280
          replace H := Option.bind_eq_some_iff.mp H
          obtain ⟨t207, A290, H⟩ := H
          replace H : ((cracknelref08_Same.f kj2 l0 l1).bind fun t208 => (some ((t203.toList == t207.toList) == t208))) = some r := H
          have A29 := Aside0.mk A290
          clear A290
          replace H := Option.bind_eq_some_iff.mp H
          obtain ⟨t208, A300, H⟩ := H
          replace H : (some ((t203.toList == t207.toList) == t208)) = some r := H
          have A30 := Aside0.mk A300
          clear A300
          obtain rfl := Option.some.inj H
          go_wp2_with (first | ((with_reducible refine gate_callee (f := 40) rfl ?_); refine goesL_ (some 24) rfl rfl Tryd.func40 (by kernel_rfl) rfl #[] rfl (by (try simp only [List.map_toArray, List.map_cons, List.map_nil]); first | done | rfl | (simp only [List.length_drop, List.length_take]; rfl)) ?_; (with_reducible refine (cracknellaw08_alive.calls  true _ A24.out).mono ?_); rintro e w31 ⟨rfl, hb⟩; refine ⟨_, rfl, ?_⟩; have n0_ := Aside0.mk (below_step (by repeat (first | (with_reducible first | exact HB.out | apply below_alloc | apply pw_below_drewN | apply below_drew1) | exact HB.out)) hb); clear HB; have HB := n0_; clear n0_; (try clear hb); (try clear hb2); (try clear hk); (try clear hi)) | (go_at_call 41; (with_reducible refine (cracknellaw08_News.calls _ _ l0 t200 _ ?side1 ?side2 A26.out).mono ?_); (case side1 => repeat (first | exact (Kd.C_below HR0.out HB.out) | (with_reducible refine Kd.C_alloc ?_ _) | (with_reducible refine Kd.C_drewN ?_ _) | (with_reducible refine Kd.C_drew ?_))); (case side2 => exact HC0.out); rintro e w32 ⟨v201, rfl, ho0, hb⟩; have n0_ := Aside0.mk (Kd.R_lower ho0 (below_size (by repeat (first | (with_reducible first | exact HB.out | apply below_alloc | apply pw_below_drewN | apply below_drew1) | exact HB.out)))); have n1_ := Aside0.mk (below_step (by repeat (first | (with_reducible first | exact HB.out | apply below_alloc | apply pw_below_drewN | apply below_drew1) | exact HB.out)) hb); clear HB; have HO202 := n0_; have HB := n1_; clear n0_ n1_; (try clear hb); (try clear hb2); (try clear hk); (try clear hi); (try clear ho0); obtain ⟨Ao33, co33, eo33⟩ := Kd.R_slice HO202.out; subst eo33) | (go_at_call 47; (with_reducible refine (json_Print.calls _ _ t200 t203 _ ?side1 ?side2 A27.out).mono ?_); (case side1 => repeat (first | exact (Kd.R_reads' HO202.out).2.2 | (with_reducible refine Kd.C_alloc ?_ _) | (with_reducible refine Kd.C_drewN ?_ _) | (with_reducible refine Kd.C_drew ?_))); (case side2 => exact (Kd.R_reads' HO202.out).2.1); rintro e w34 ⟨rfl, hb⟩; have n0_ := Aside0.mk (Kd.R_below (by (with_reducible repeat (first | apply Kd.R_alloc | apply Kd.R_drewN | apply Kd.R_drew)); exact HO202.out) hb); have n1_ := Aside0.mk (below_step (by repeat (first | (with_reducible first | exact HB.out | apply below_alloc | apply pw_below_drewN | apply below_drew1) | exact HB.out)) hb); clear HO202; clear HB; have HO202 := n0_; have HB := n1_; clear n0_ n1_; (try clear hb); (try clear hb2); (try clear hk); (try clear hi)) | (go_at_call 41; (with_reducible refine (cracknellaw08_News.calls _ _ l1 t204 _ ?side1 ?side2 A28.out).mono ?_); (case side1 => repeat (first | exact (Kd.C_below HR1.out HB.out) | (with_reducible refine Kd.C_alloc ?_ _) | (with_reducible refine Kd.C_drewN ?_ _) | (with_reducible refine Kd.C_drew ?_))); (case side2 => exact HC1.out); rintro e w35 ⟨v205, rfl, ho0, hb⟩; have n0_ := Aside0.mk (Kd.R_elder' (by (with_reducible repeat (first | apply Kd.R_alloc | apply Kd.R_drewN | apply Kd.R_drew)); exact HO202.out) (Kd.R_base ho0) hb); have n1_ := Aside0.mk (Kd.R_lower (Kd.R_new' ho0 (Kd.R_lt (by (with_reducible repeat (first | apply Kd.R_alloc | apply Kd.R_drewN | apply Kd.R_drew)); exact HO202.out))) (below_size (by repeat (first | (with_reducible first | exact HB.out | apply below_alloc | apply pw_below_drewN | apply below_drew1) | exact HB.out)))); have n2_ := Aside0.mk (below_step (by repeat (first | (with_reducible first | exact HB.out | apply below_alloc | apply pw_below_drewN | apply below_drew1) | exact HB.out)) hb); clear HO202; clear HB; have HO202 := n0_; have HO206 := n1_; have HB := n2_; clear n0_ n1_ n2_; (try clear hb); (try clear hb2); (try clear hk); (try clear hi); (try clear ho0); obtain ⟨Ao36, co36, eo36⟩ := Kd.R_slice HO206.out; subst eo36) | (go_at_call 47; (with_reducible refine (json_Print.calls _ _ t204 t207 _ ?side1 ?side2 A29.out).mono ?_); (case side1 => repeat (first | exact (Kd.R_reads' HO206.out).2.2 | (with_reducible refine Kd.C_alloc ?_ _) | (with_reducible refine Kd.C_drewN ?_ _) | (with_reducible refine Kd.C_drew ?_))); (case side2 => exact (Kd.R_reads' HO206.out).2.1); rintro e w37 ⟨rfl, hb⟩; have n0_ := Aside0.mk (Kd.R_below (by (with_reducible repeat (first | apply Kd.R_alloc | apply Kd.R_drewN | apply Kd.R_drew)); exact HO202.out) hb); have n1_ := Aside0.mk (Kd.R_below (by (with_reducible repeat (first | apply Kd.R_alloc | apply Kd.R_drewN | apply Kd.R_drew)); exact HO206.out) hb); have n2_ := Aside0.mk (below_step (by repeat (first | (with_reducible first | exact HB.out | apply below_alloc | apply pw_below_drewN | apply below_drew1) | exact HB.out)) hb); clear HO202; clear HO206; clear HB; have HO202 := n0_; have HO206 := n1_; have HB := n2_; clear n0_ n1_ n2_; (try clear hb); (try clear hb2); (try clear hk); (try clear hi)) | (go_at_call 44; (with_reducible refine (cracknelref08_Same.calls kj2 _ _ l0 _ _ l1 t208 _ ?side1 ?side2 ?side3 ?side4 A30.out).mono ?_); (case side1 => repeat (first | exact (Kd.C_below HR0.out HB.out) | (with_reducible refine Kd.C_alloc ?_ _) | (with_reducible refine Kd.C_drewN ?_ _) | (with_reducible refine Kd.C_drew ?_))); (case side2 => exact HC0.out); (case side3 => repeat (first | exact (Kd.C_below HR1.out HB.out) | (with_reducible refine Kd.C_alloc ?_ _) | (with_reducible refine Kd.C_drewN ?_ _) | (with_reducible refine Kd.C_drew ?_))); (case side4 => exact HC1.out); rintro e w' ⟨rfl, ⟨nd, rfl⟩⟩))
          go_ret
          exact ⟨by first | rfl | exact congrArg (fun b => Ending.returned (Value.bool b)) (isE2 _) | (simp [errW_none, errW_some] <;> rfl) | (simp [*, errW_none, errW_some] <;> rfl), by repeat (first | (with_reducible first | exact HB.out | apply below_alloc | apply pw_below_drewN | apply below_drew1) | exact HB.out)⟩
        · replace c25 := Bool.eq_false_iff.mpr c25
          subst c25
          have H1 : (some false) = some r := by rw [if_neg (show ¬ (false = true) by decide)] at H; exact H
          clear H
          have H := H1
          clear H1
          obtain rfl := Option.some.inj H
          go_wp2_with (first | ((with_reducible refine gate_callee (f := 40) rfl ?_); refine goesL_ (some 24) rfl rfl Tryd.func40 (by kernel_rfl) rfl #[] rfl (by (try simp only [List.map_toArray, List.map_cons, List.map_nil]); first | done | rfl | (simp only [List.length_drop, List.length_take]; rfl)) ?_; (with_reducible refine (cracknellaw08_alive.calls  false _ A24.out).mono ?_); rintro e w38 ⟨rfl, hb⟩; refine ⟨_, rfl, ?_⟩; have n0_ := Aside0.mk (below_step (by repeat (first | (with_reducible first | exact HB.out | apply below_alloc | apply pw_below_drewN | apply below_drew1) | exact HB.out)) hb); clear HB; have HB := n0_; clear n0_; (try clear hb); (try clear hb2); (try clear hk); (try clear hi)))
          go_ret
          exact ⟨by first | rfl | exact congrArg (fun b => Ending.returned (Value.bool b)) (isE2 _) | (simp [errW_none, errW_some] <;> rfl) | (simp [*, errW_none, errW_some] <;> rfl), by repeat (first | (with_reducible first | exact HB.out | apply below_alloc | apply pw_below_drewN | apply below_drew1) | exact HB.out)⟩
end Go.Proofs.YthhmmaihbjhhgaaDoor.J2
namespace Go.Proofs.YthhmmaihbjhhgaaDoor.Giv
open Go.RowKit Go.Proofs.YthhmmaihbjhhgaaDoorW.PrintWords Go.Proofs.YthhmmaihbjhhgaaDoorW.PrintLast Go.Proofs.YthhmmaihbjhhgaaDoorW.PrintMore
open Go.Proofs.YthhmmaihbjhhgaaDoor.U1 Go.Proofs.YthhmmaihbjhhgaaDoor.Q1 Go.Proofs.YthhmmaihbjhhgaaDoor.J0 Go.Proofs.YthhmmaihbjhhgaaDoor.J1 Go.Proofs.YthhmmaihbjhhgaaDoor.J2
set_option linter.unusedSimpArgs false
set_option linter.unusedVariables false
theorem small_l0 (l : List S81) (hm : l.length ≤ 9223372036854775806) (h1 : l.length ≤ 100) : ∀ d k i n, l.length - i = d → i ≤ l.length → 0 ≤ n → n ≤ 1000 → d < k → ∃ b, cracknellaw08_small.l0 k l n l (l.length : Int) (i : Int) = some b ∧ (b = true → ∀ j, i ≤ j → j < l.length → (at8 l j).f2.size ≤ 1000 ∧ (at8 l j).f3.size ≤ 1000)
  | 0, k, i, n, e, hi, h0, hn, hk => by
    obtain ⟨k, rfl⟩ : ∃ m, k = m + 1 := ⟨k - 1, by omega⟩
    rw [cracknellaw08_small.l0, if_neg (by omega)]
    exact ⟨true, rfl, fun _ j a b => by omega⟩
  | d + 1, k, i, n, e, hi, h0, hn, hk => by
    obtain ⟨k, rfl⟩ : ∃ m, k = m + 1 := ⟨k - 1, by omega⟩
    have m1 : 0 ≤ mn ((at8 l i).f2.size : Int) 3000 ∧ mn ((at8 l i).f2.size : Int) 3000 ≤ 3000 ∧ (mn ((at8 l i).f2.size : Int) 3000 ≤ 1000 → (at8 l i).f2.size ≤ 1000) := by unfold mn; split <;> omega
    have m2 : 0 ≤ mn ((at8 l i).f3.size : Int) 3000 ∧ mn ((at8 l i).f3.size : Int) 3000 ≤ 3000 ∧ (mn ((at8 l i).f3.size : Int) 3000 ≤ 1000 → (at8 l i).f3.size ≤ 1000) := by unfold mn; split <;> omega
    rw [cracknellaw08_small.l0, if_pos (by omega), if_pos (by omega), if_pos (by omega), rd_at8]
    generalize mn ((at8 l i).f2.size : Int) 3000 = p at *
    generalize mn ((at8 l i).f3.size : Int) 3000 = q at *
    rw [w64 (x := n + (p + q)) (by omega) (by omega)]
    by_cases c : n + (p + q) > 1000
    · rw [if_pos c]; exact ⟨false, rfl, fun x => by (cases x)⟩
    · rw [if_neg c, if_neg (by omega), w64 (by omega) (by omega), show (i : Int) + 1 = ((i + 1 : Nat) : Int) by omega]
      obtain ⟨b, hb, hx⟩ := small_l0 l hm h1 d k (i + 1) (n + (p + q)) (by omega) (by omega) (by omega) (by omega) (by omega)
      refine ⟨b, hb, fun x j a1 a2 => ?_⟩
      by_cases z : j = i
      · rw [z]; exact ⟨m1.2.2 (by omega), m2.2.2 (by omega)⟩
      · exact hx x j (by omega) a2
theorem small_f (l : List S81) (hm : l.length ≤ 9223372036854775807) (k : Nat) (hk : 102 < k) : ∃ b, cracknellaw08_small.f k l = some b ∧ (b = true → l.length ≤ 100 ∧ ∀ j, j < l.length → (at8 l j).f2.size ≤ 1000 ∧ (at8 l j).f3.size ≤ 1000) := by
  unfold cracknellaw08_small.f
  by_cases h : l.length ≤ 100
  · obtain ⟨b, hb, hx⟩ := small_l0 l (by omega) h l.length k 0 0 rfl (Nat.zero_le _) (by omega) (by omega) (by omega)
    exact ⟨b, hb, fun x => ⟨h, fun j hj => hx x j (Nat.zero_le _) hj⟩⟩
  · obtain ⟨k, rfl⟩ : ∃ m, k = m + 1 := ⟨k - 1, by omega⟩
    refine ⟨false, ?_, fun x => by (cases x)⟩
    rw [cracknellaw08_small.l0, if_pos (by omega), if_pos (by omega), if_pos (by omega)]
    split
    · rfl
    · rw [if_pos (by omega)]
def OkI (z : S81) : Prop := I64 z.f0 ∧ I64 z.f1 ∧ I64 z.f4
theorem at8_mem (l : List S81) (i : Nat) (h : i < l.length) : at8 l i ∈ l := by
  unfold at8
  rw [List.getD_eq_getElem?_getD, List.getElem?_eq_getElem h]
  exact List.getElem_mem h
theorem okz_of (l : List S81) (ho : ∀ z ∈ l, OkI z) (hs : ∀ j, j < l.length → (at8 l j).f2.size ≤ 1000 ∧ (at8 l j).f3.size ≤ 1000) : ∀ i, i < l.length → Okz (at8 l i) := fun i hi => by
  obtain ⟨a, b⟩ := hs i hi
  obtain ⟨c, d, e⟩ := ho _ (at8_mem l i hi)
  exact ⟨by omega, by omega, c, d, e⟩
theorem alive8 : cracknellaw08_alive.f = some true := rfl
theorem e0_of {s : ByteArray} (h : s.toList = []) : s = e0 := ba_ext (by rw [h, Lib.toList_data]; rfl)
theorem jv_leaf (x : S81) (d : Nat) (hx : x.f0 = d) (h1 : 1 ≤ x.f1) (h5 : x.f1 ≤ 5) (h : (x.f1 ≠ 4 → x.f4 = 0) ∧ (x.f1 ≠ 5 → x.f3.toList = [])) (hv : V8 x.f3) (ho : I64 x.f4) : ∃ t, JV (.v d x.f2) [toN x] t := by
  obtain ⟨f0, f1, f2, f3, f4⟩ := x
  simp only at *
  subst hx
  have e3 : f1 ≠ 5 → f3 = e0 := fun e => e0_of (h.2 e)
  rcases (by omega : f1 = 1 ∨ f1 = 2 ∨ f1 = 3 ∨ f1 = 4 ∨ f1 = 5) with rfl | rfl | rfl | rfl | rfl
  · obtain rfl := e3 (by decide); obtain rfl := h.1 (by decide); exact ⟨_, JV.null d f2⟩
  · obtain rfl := e3 (by decide); obtain rfl := h.1 (by decide); exact ⟨_, JV.fls d f2⟩
  · obtain rfl := e3 (by decide); obtain rfl := h.1 (by decide); exact ⟨_, JV.tru d f2⟩
  · obtain rfl := e3 (by decide); exact ⟨_, JV.num d f2 f4 ho⟩
  · obtain rfl := h.1 (by decide); exact ⟨_, JV.str d f2 f3 hv⟩
theorem jv_open (x : S81) (d : Nat) (hx : x.f0 = d) (h6 : 6 ≤ x.f1) (h7 : x.f1 ≤ 7) (h : (x.f1 ≠ 4 → x.f4 = 0) ∧ (x.f1 ≠ 5 → x.f3.toList = [])) (h64 : d < 64) (rows : List S59) (t : B) (hm : JV (.m (d + 1) (x.f1 == 7) [] true) rows t) : ∃ t, JV (.v d x.f2) (toN x :: rows) t := by
  obtain ⟨f0, f1, f2, f3, f4⟩ := x
  simp only at *
  subst hx
  obtain rfl : f3 = e0 := e0_of (h.2 (by omega))
  obtain rfl := h.1 (by omega)
  rcases (by omega : f1 = 6 ∨ f1 = 7) with rfl | rfl
  · exact ⟨_, JV.arr d f2 rows t h64 hm⟩
  · exact ⟨_, JV.obj d f2 rows t h64 hm⟩
theorem jv_member (d : Nat) (k : Int) (hk : k = 6 ∨ k = 7) (keys keys' : List ByteArray) (fst : Bool) (x : S81) (hc : if k = 7 then V8 x.f2 ∧ x.f2 ∉ keys else x.f2.toList = []) (hk' : keys' = if k = 7 then keys ++ [x.f2] else keys) (rows rows' : List S59) (t t' : B) (hv : JV (.v d x.f2) rows t) (hm : JV (.m d (k == 7) keys' false) rows' t') : ∃ t, JV (.m d (k == 7) keys fst) (rows ++ rows') t := by
  rcases hk with rfl | rfl
  · rw [if_neg (by decide)] at hc hk'
    subst hk'
    rw [show x.f2 = e0 from e0_of hc] at hv
    exact ⟨_, JV.elem d keys' fst rows t rows' t' hv hm⟩
  · rw [if_pos rfl] at hc hk'
    subst hk'
    exact ⟨_, JV.memb d keys fst x.f2 hc.1 hc.2 rows t rows' t' hv hm⟩
/-- the members of what was opened last, and what is behind them -/
theorem right_members : ∀ (n : Nat) (l : List S81), l.length ≤ n → (∀ z ∈ l, Okz z) → ∀ (st : List LvS) (k : Int) (keys : List ByteArray) (fst : Bool), 1 ≤ st.length → st.length ≤ 64 → (k = 6 ∨ k = 7) → (∀ d, ((st ++ [(k, keys)]).getD d (0, [])).2.length + l.length ≤ 1000000) → rightF false (st ++ [(k, keys)]) (l.map toN) = some true →
    ∃ l1 l2 t, l = l1 ++ l2 ∧ JV (.m st.length (k == 7) keys fst) (l1.map toN) t ∧ rightF false st (l2.map toN) = some true
  | _, [], _, _, st, k, keys, fst, h1, h64, hk, hz, h => ⟨[], [], [], rfl, JV.none _ _ _ _, by rw [List.map_nil, rightF]⟩
  | 0, x :: l, hn, _, _, _, _, _, _, _, _, _, _ => by simp at hn
  | n + 1, x :: l, hn, ho, st, k, keys, fst, h1, h64, hk, hz, h => by
    rw [List.length_cons] at hn
    have hox := ho x List.mem_cons_self
    obtain ⟨hy, hno⟩ := right_step false (st ++ [(k, keys)]) x (l.map toN) hox (by have := hz x.f0.toNat; rw [List.length_cons] at this; omega)
    rw [List.map_cons] at h
    have hR : RC false (st ++ [(k, keys)]) x := by
      by_cases c : RC false (st ++ [(k, keys)]) x
      · exact c
      · rw [hno c] at h; cases h
    have hR' := hR
    obtain ⟨⟨b1, b2, b3⟩, ⟨b4, b5, b6⟩, b8, b9, b10⟩ := hR
    have hlen : (st ++ [(k, keys)]).length = st.length + 1 := by rw [List.length_append]; rfl
    rw [hlen] at b2
    by_cases c : x.f0 < (st.length : Int)
    · refine ⟨[], x :: l, [], rfl, JV.none _ _ _ _, ?_⟩
      have hs : shallow (toN x :: l.map toN) (st.length - 1) := by
        intro y hy'
        obtain rfl : toN x = y := Option.some.inj hy'
        show x.f0 ≤ _
        omega
      have e := right_take false (st ++ [(k, keys)]) (toN x :: l.map toN) (st.length - 1) hs (by omega)
      rw [List.map_cons, ← h, e, show st.length - 1 + 1 = st.length by omega, List.take_left]
    · have hd : x.f0 = st.length := by omega
      have hg : (st ++ [(k, keys)]).getD x.f0.toNat (0, []) = (k, keys) := by
        rw [hd, Int.toNat_natCast, List.getD_eq_getElem?_getD, List.getElem?_append_right (Nat.le_refl _), Nat.sub_self]; rfl
      have ht : (st ++ [(k, keys)]).take x.f0.toNat = st := by rw [hd, Int.toNat_natCast, List.take_left]
      rw [hy hR'] at h
      unfold nxt at h
      rw [hg, ht] at h
      rw [hg] at b9
      have hzk : keys.length + (l.length + 1) ≤ 1000000 := by have := hz x.f0.toNat; rw [hg, List.length_cons] at this; exact this
      have hzd : ∀ d, (st.getD d (0, [])).2.length + (l.length + 1) ≤ 1000000 := by
        intro d
        by_cases cd : d < st.length
        · have := hz d
          rw [List.getD_eq_getElem?_getD, List.getElem?_append_left cd, ← List.getD_eq_getElem?_getD, List.length_cons] at this
          exact this
        · rw [List.getD_eq_getElem?_getD, List.getElem?_eq_none (by omega)]
          have : 0 + (l.length + 1) ≤ 1000000 := by omega
          exact this
      have hzn : ∀ (keys2 : List ByteArray), keys2.length ≤ keys.length + 1 → ∀ (l2 : List S81), l2.length ≤ l.length → ∀ d, ((st ++ [(k, keys2)]).getD d (0, [])).2.length + l2.length ≤ 1000000 := by
        intro keys2 hk2 l2 hl2 d
        by_cases cd : d < st.length
        · have := hzd d
          rw [List.getD_eq_getElem?_getD, List.getElem?_append_left cd, ← List.getD_eq_getElem?_getD]
          omega
        · rw [List.getD_eq_getElem?_getD, List.getElem?_append_right (by omega)]
          cases hq : d - st.length with
          | zero => show keys2.length + l2.length ≤ _; omega
          | succ q => show 0 + l2.length ≤ _; omega
      generalize hkeys' : (if (k, keys).1 = 7 then (k, keys).2 ++ [x.f2] else (k, keys).2) = keys' at h
      have hkl : keys'.length ≤ keys.length + 1 := by
        rw [← hkeys']
        split
        · rw [List.length_append]; exact Nat.le_refl _
        · exact Nat.le_succ _
      have hol : ∀ z ∈ l, Okz z := fun z hz => ho z (List.mem_cons_of_mem _ hz)
      by_cases c6 : 6 ≤ x.f1
      · rw [if_pos c6] at h
        have h64' := b10 c6
        rw [show st ++ [((k, keys).1, keys'), (x.f1, [])] = (st ++ [(k, keys')]) ++ [(x.f1, [])] by simp] at h
        have hl1 : (st ++ [(k, keys')]).length = st.length + 1 := by rw [List.length_append]; rfl
        obtain ⟨m1, m2, t1, e1, j1, r1⟩ := right_members n l (by omega) hol (st ++ [(k, keys')]) x.f1 [] true (by omega) (by omega) (by omega) (by
          intro d
          by_cases cd : d < (st ++ [(k, keys')]).length
          · rw [List.getD_eq_getElem?_getD, List.getElem?_append_left cd, ← List.getD_eq_getElem?_getD]
            exact hzn keys' hkl l (Nat.le_refl _) d
          · rw [List.getD_eq_getElem?_getD, List.getElem?_append_right (by omega)]
            cases hq : d - (st ++ [(k, keys')]).length with
            | zero => show 0 + l.length ≤ _; omega
            | succ q => show 0 + l.length ≤ _; omega) h
        have hm2 : m2.length ≤ l.length := by rw [e1, List.length_append]; omega
        obtain ⟨m3, m4, t2, e2, j2, r2⟩ := right_members n m2 (by omega) (fun z hz => hol z (by rw [e1]; exact List.mem_append_right _ hz)) st k keys' false h1 h64 hk (hzn keys' hkl m2 hm2) r1
        rw [hl1] at j1
        obtain ⟨tv, jv⟩ := jv_open x st.length hd c6 b5 b6 (by omega) _ t1 j1
        obtain ⟨tm, jm⟩ := jv_member st.length k hk keys keys' fst x b9 hkeys'.symm _ _ tv t2 jv j2
        refine ⟨x :: (m1 ++ m3), m4, tm, by rw [e1, e2]; simp, ?_, r2⟩
        rw [List.map_cons, List.map_append]
        exact jm
      · rw [if_neg c6] at h
        obtain ⟨m3, m4, t2, e2, j2, r2⟩ := right_members n l (by omega) hol st k keys' false h1 h64 hk (hzn keys' hkl l (Nat.le_refl _)) h
        obtain ⟨tv, jv⟩ := jv_leaf x st.length hd b4 (by omega) b6 b8 hox.2.2.2.2
        obtain ⟨tm, jm⟩ := jv_member st.length k hk keys keys' fst x b9 hkeys'.symm _ _ tv t2 jv j2
        exact ⟨x :: m3, m4, tm, by rw [e2]; rfl, jm, r2⟩
theorem right_end (l : List S81) (ho : ∀ z ∈ l, Okz z) (q : LvS) (hq : q.2.length ≤ 1000000) (h : rightF false [q] (l.map toN) = some true) : l = [] := by
  cases l with
  | nil => rfl
  | cons x l =>
    obtain ⟨hy, hno⟩ := right_step false [q] x (l.map toN) (ho x List.mem_cons_self) (by
      cases x.f0.toNat with
      | zero => exact hq
      | succ d => exact Nat.zero_le _)
    have hn : ¬ RC false [q] x := by
      rintro ⟨⟨b1, b2, b3⟩, _⟩
      have b2' : x.f0 < 1 := b2
      have := b3.1 (by omega)
      cases this
    rw [List.map_cons, hno hn] at h
    cases h
/-- a right row has a text -/
theorem right_jv (l : List S81) (ho : ∀ z ∈ l, Okz z) (hl : l.length ≤ 900000) (h : json_Right.f (l.map toN) = some true) : ∃ t, JV (.v 0 e0) (l.map toN) t := by
  unfold json_Right.f at h
  rw [if_pos (by rw [List.length_map]; omega)] at h
  obtain ⟨r, hr, h⟩ := Option.map_eq_some_iff.1 h
  cases l with
  | nil => simp at h
  | cons x l =>
    have h' : r = true := by cases r; cases h; rfl
    subst h'
    have hox := ho x List.mem_cons_self
    obtain ⟨hy, hno⟩ := right_step true [(6, [])] x (l.map toN) hox (by
      cases x.f0.toNat with
      | zero => exact Nat.zero_le _
      | succ d => exact Nat.zero_le _)
    rw [List.map_cons] at hr
    have hR : RC true [(6, [])] x := by
      by_cases c : RC true [(6, [])] x
      · exact c
      · rw [hno c] at hr; cases hr
    rw [hy hR] at hr
    obtain ⟨⟨b1, b2, b3⟩, ⟨b4, b5, b6⟩, b8, b9, b10⟩ := hR
    have hz : x.f0 = 0 := b3.2 rfl
    rw [hz, Int.toNat_zero] at b9
    have b9' : x.f2.toList = [] := b9
    have hk2 : x.f2 = e0 := e0_of b9'
    have hol : ∀ z ∈ l, Okz z := fun z hz => ho z (List.mem_cons_of_mem _ hz)
    rw [List.length_cons] at hl
    unfold nxt at hr
    rw [hz, Int.toNat_zero] at hr
    by_cases c6 : 6 ≤ x.f1
    · rw [if_pos c6] at hr
      have hr' : rightF false ([((6 : Int), ([] : List ByteArray))] ++ [(x.f1, [])]) (l.map toN) = some true := hr
      obtain ⟨m1, m2, t1, e1, j1, r1⟩ := right_members l.length l (Nat.le_refl _) hol [(6, [])] x.f1 [] true (Nat.le_refl _) (by decide) (by omega) (by
        intro d
        match d with
        | 0 => show 0 + l.length ≤ _; omega
        | 1 => show 0 + l.length ≤ _; omega
        | d + 2 => show 0 + l.length ≤ _; omega) hr'
      obtain rfl := right_end m2 (fun z hz => hol z (by rw [e1]; exact List.mem_append_right _ hz)) (6, []) (Nat.zero_le _) r1
      rw [List.append_nil] at e1
      subst e1
      rw [← hk2]
      exact jv_open x 0 hz c6 b5 b6 (by decide) _ t1 j1
    · rw [if_neg c6] at hr
      have hr' : rightF false [((6 : Int), ([] : List ByteArray))] (l.map toN) = some true := hr
      obtain rfl := right_end l hol (6, []) (Nat.zero_le _) hr'
      rw [← hk2]
      exact jv_leaf x 0 hz b4 (by omega) b6 b8 hox.2.2.2.2
theorem sm_l0 (a b : List S81) (hl : a.length ≤ 1099511627776) (he : a.length = b.length) : ∀ (n k i : Nat), a.length - i = n → i ≤ a.length → n < k → ∃ r, cracknelref08_Same.l0 k a b (i : Int) = some r ∧ (r = true ↔ a.drop i = b.drop i)
  | 0, k, i, h1, h2, h3 => by
    obtain ⟨k, rfl⟩ : ∃ m, k = m + 1 := ⟨k - 1, by omega⟩
    rw [cracknelref08_Same.l0, if_neg (by omega)]
    refine ⟨true, rfl, fun _ => ?_, fun _ => rfl⟩
    rw [List.drop_eq_nil_of_le (by omega), List.drop_eq_nil_of_le (by omega)]
  | n + 1, k, i, h1, h2, h3 => by
    obtain ⟨k, rfl⟩ : ∃ m, k = m + 1 := ⟨k - 1, by omega⟩
    obtain ⟨r, hr, hx⟩ := sm_l0 a b hl he n k (i + 1) (by omega) (by omega) (by omega)
    rw [cracknelref08_Same.l0, if_pos (by omega), if_pos (by omega), if_pos (by omega), w64 (x := (i : Int) + 1) (by omega) (by omega), show (i : Int) + 1 = ((i + 1 : Nat) : Int) by omega, hr, rd_at8, rd_at8]
    rw [drop8 a i (by omega), drop8 b i (by omega)]
    obtain ⟨a0, a1, a2, a3, a4⟩ := at8 a i
    obtain ⟨b0, b1, b2, b3, b4⟩ := at8 b i
    by_cases c : (⟨a0, a1, a2, a3, a4⟩ : S81) = ⟨b0, b1, b2, b3, b4⟩
    · cases c
      rw [if_neg (by simp)]
      exact ⟨r, rfl, fun e => by rw [hx.1 e], fun e => hx.2 (List.cons.inj e).2⟩
    · rw [if_pos ?_]
      · exact ⟨false, rfl, fun e => by (cases e), fun e => absurd (List.cons.inj e).1 c⟩
      · by_cases d0 : a0 = b0
        · by_cases d1 : a1 = b1
          · by_cases d2 : a2.toList = b2.toList
            · by_cases d3 : a3.toList = b3.toList
              · by_cases d4 : a4 = b4
                · exact absurd (by rw [d0, d1, ba_ext d2, ba_ext d3, d4]) c
                · simp [d4]
              · simp [d3]
            · simp [d2]
          · simp [d1]
        · simp [d0]
theorem sm_f (a b : List S81) (hl : a.length ≤ 1099511627776) (k : Nat) (hk : a.length < k) : ∃ r, cracknelref08_Same.f k a b = some r ∧ (r = true ↔ a = b) := by
  unfold cracknelref08_Same.f
  by_cases c : (a.length : Int) = (b.length : Int)
  · rw [if_pos c]
    obtain ⟨r, h1, h2⟩ := sm_l0 a b hl (by omega) a.length k 0 rfl (Nat.zero_le _) hk
    exact ⟨r, h1, by simpa using h2⟩
  · rw [if_neg c]
    exact ⟨false, rfl, fun e => by (cases e), fun e => absurd (by rw [e]) c⟩
theorem wt_small : ∀ l : List S81, (∀ j, j < l.length → (at8 l j).f2.size ≤ 1000 ∧ (at8 l j).f3.size ≤ 1000) → wt (l.map toN) ≤ 2001 * l.length
  | [], _ => Nat.le_refl _
  | x :: l, h => by
    have h0 := h 0 (by simp)
    have := wt_small l (fun j hj => h (j + 1) (by simpa using hj))
    rw [List.map_cons, wt, List.length_cons]
    have e1 : (toN x).f2.size ≤ 1000 := h0.1
    have e2 : (toN x).f3.size ≤ 1000 := h0.2
    omega
theorem toN_inj {l m : List S81} (h : l.map toN = m.map toN) : l = m := by
  have := congrArg (List.map toO) h
  rwa [List.map_map, List.map_map, show toO ∘ toN = id from rfl, List.map_id, List.map_id] at this
theorem JsonApart (l m : List S81) (hm1 : l.length ≤ 9223372036854775807) (hm2 : m.length ≤ 9223372036854775807) (ho1 : ∀ z ∈ l, OkI z) (ho2 : ∀ z ∈ m, OkI z) : ∃ k, cracknellaw08_JsonApart.f k l m = some true := by
  refine ⟨2000001, ?_⟩
  have ht : cracknellaw08_JsonApart.j0 2000001 l m true = some true := by rw [cracknellaw08_JsonApart.j0, if_pos rfl, alive8]; rfl
  unfold cracknellaw08_JsonApart.f
  obtain ⟨b1, hb1, hs1⟩ := small_f l hm1 2000001 (by omega)
  obtain ⟨b2, hb2, hs2⟩ := small_f m hm2 2000001 (by omega)
  rw [hb1, Option.bind_some]
  cases b1 with
  | false => rw [if_neg (by decide)]; exact ht
  | true =>
    rw [if_pos rfl, hb2, Option.bind_some]
    cases b2 with
    | false => rw [if_neg (by decide)]; exact ht
    | true =>
      obtain ⟨p1, p2⟩ := hs1 rfl
      obtain ⟨q1, q2⟩ := hs2 rfl
      have z1 := okz_of l ho1 p2
      have z2 := okz_of m ho2 q2
      have z1' : ∀ z ∈ l, Okz z := fun z hz => by
        obtain ⟨i, hi, rfl⟩ := List.getElem_of_mem hz
        have := z1 i hi
        unfold at8 at this
        rwa [List.getD_eq_getElem?_getD, List.getElem?_eq_getElem hi] at this
      have z2' : ∀ z ∈ m, Okz z := fun z hz => by
        obtain ⟨i, hi, rfl⟩ := List.getElem_of_mem hz
        have := z2 i hi
        unfold at8 at this
        rwa [List.getD_eq_getElem?_getD, List.getElem?_eq_getElem hi] at this
      obtain ⟨r1, hr1, hr1'⟩ := right_ref l z1 (by omega) 2000001 (by omega)
      obtain ⟨r2, hr2, hr2'⟩ := right_ref m z2 (by omega) 2000001 (by omega)
      rw [if_pos rfl, hr1', Option.bind_some]
      cases r1 with
      | false => rw [if_neg (by decide)]; exact ht
      | true =>
        rw [if_pos rfl, hr2', Option.bind_some]
        cases r2 with
        | false => exact ht
        | true =>
          obtain ⟨t1, j1⟩ := right_jv l z1' (by omega) hr1
          obtain ⟨t2, j2⟩ := right_jv m z2' (by omega) hr2
          have w1 := wt_small l p2
          have w2 := wt_small m q2
          have l1 : t1.length + 6 * e0.size + 4 ≤ 30 * wt (l.map toN) := j1.len
          have l2 : t2.length + 6 * e0.size + 4 ≤ 30 * wt (m.map toN) := j2.len
          obtain ⟨r, hr, hx⟩ := sm_f l m (by omega) 2000000 (by omega)
          show cracknellaw08_JsonApart.j0 (2000000 + 1) l m (!true) = some true
          rw [cracknellaw08_JsonApart.j0, if_neg (by decide), alive8, Option.bind_some, if_pos rfl, show cracknellaw08_News.f l = some (l.map toN) by unfold cracknellaw08_News.f; rw [if_pos (by omega)], Option.bind_some, j1.print_f (by omega), Option.bind_some, show cracknellaw08_News.f m = some (m.map toN) by unfold cracknellaw08_News.f; rw [if_pos (by omega)], Option.bind_some, j2.print_f (by omega), Option.bind_some, hr, Option.bind_some, Lib.toList_data, Lib.toList_data]
          congr 1
          have key : t1 = t2 ↔ l = m := by
            constructor
            · intro e
              have u1 := top_text j1
              have u2 := top_text j2
              rw [e, u2] at u1
              exact (toN_inj (Prod.mk.inj u1).1).symm
            · rintro rfl
              have v1 := j1.print_f (by omega)
              have v2 := j2.print_f (by omega)
              have := Option.some.inj (v1.symm.trans v2)
              have := congrArg (fun x : ByteArray => x.data.toList) this
              simpa using this
          by_cases c : l = m
          · rw [hx.2 c]
            simpa using key.2 c
          · have hrf : r = false := by cases r; rfl; exact absurd (hx.1 rfl) c
            rw [hrf]
            have : t1 ≠ t2 := fun e => c (key.1 e)
            simpa using this
end Go.Proofs.YthhmmaihbjhhgaaDoor.Giv
namespace Go.Proofs.YthhmmaihbjhhgaaDoor.Giv
open Go.ChangeShapes Go.WideShapes Go.Deep
open Go.RowKit Go.Proofs.YthhmmaihbjhhgaaDoorW.PrintWords Go.Proofs.YthhmmaihbjhhgaaDoorW.PrintLast Go.Proofs.YthhmmaihbjhhgaaDoorW.PrintMore
open Go.Proofs.YthhmmaihbjhhgaaDoor.J1
section
variable {H : Type} {enc : TypeId × Value → H} {P : Program} {w : World} {base : Nat} {spare : Nat → Bool} {held : Bool}
/-- the elements' cells and the fields' own readings, whatever the number of fields -/
theorem slice_fields {t e : TypeId} {fs : Array Field} {fuel : Nat} {cs : List Value} {x : DataW H × List MemPlace} (ht : P.underlying t = some (.slice e)) (he : P.underlying e = some (.struct fs))
    (hone : oneCellFields P fs = true) (hC : P.cellsOf e = fs.size) (h : DataW.trod enc P w base spare held fuel t cs = some x) :
    cs = [.slice none 0 0] ∨ ∃ (a : Addr) (len cap : Nat), cs = [.slice (some a) len cap] ∧ len ≤ cap ∧ cap ≤ maxLen ∧
      ∀ i, i < len → ∀ (j : Nat) (f : Field), fs[j]? = some f → ∃ (v : Value) (y : DataW H × List MemPlace) (n : Nat), w.cell? (a.add (i * fs.size + j)) = some v ∧ DataW.trod enc P w base spare held n f.type [v] = some y := by
  rcases open_slice ht h with ⟨h0, _⟩ | ⟨a, len, cap, m, n, D, Pl, hcs, hb, hl, hm, hmm, hx, hi⟩
  · exact .inl h0
  · refine .inr ⟨a, len, cap, hcs, hl, hm, fun i him j f hj => ?_⟩
    obtain ⟨cs', hc, ht'⟩ := hi i (by rw [hmm]; split <;> omega)
    rw [hC] at hc
    obtain ⟨ys, n', hn', hy, hlen, hyl, hf⟩ := DataW.trod_struct he ht'
    obtain ⟨_, hcl, hat⟩ := World.cells?_some hc
    obtain ⟨ho, hk⟩ := hone_of hone j f hj
    have hjl : j < fs.size := (Array.getElem?_eq_some_iff.1 hj).1
    have hcell := hat j hjl
    have hv : cs'[j]? = some (cs'[j]'(by omega)) := List.getElem?_eq_getElem (by omega)
    have h1 := hf j f hj
    rw [ho, hk] at h1
    have hone' : (cs'.drop j).take 1 = [cs'[j]'(by omega)] := by
      rw [List.drop_eq_getElem_cons (by omega)]
      rfl
    rw [hone'] at h1
    have hys : ys[j]? = some (ys[j]'(by omega)) := List.getElem?_eq_getElem (by omega)
    refine ⟨_, _, _, ?_, h1.trans hys⟩
    rw [← Go.Deep.add_add, hcell, hv]
def OkS (z : S81) : Prop := (Lit.int .i64 z.f0).wf = true ∧ (Lit.int .i64 z.f1).wf = true ∧ (Lit.int .i64 z.f4).wf = true
theorem open_S81 {t e : TypeId} {f0 f1 f2 f3 f4 : Field} {fuel : Nat} {cs : List Value} {x : DataW H × List MemPlace} (ht : P.underlying t = some (.slice e)) (he : P.underlying e = some (.struct #[f0, f1, f2, f3, f4]))
    (hone : oneCellFields P #[f0, f1, f2, f3, f4] = true) (hC : P.cellsOf e = 5) (h0 : P.underlying f0.type = some (.int .i64)) (h1 : P.underlying f1.type = some (.int .i64)) (h2 : P.underlying f2.type = some .string) (h3 : P.underlying f3.type = some .string) (h4 : P.underlying f4.type = some (.int .i64))
    (h : DataW.trod enc P w base spare held fuel t cs = some x) :
    ∃ (a : Option Addr) (len cap : Nat) (zs : List S81), cs = [.slice a len cap] ∧ len ≤ cap ∧ zs.length = len ∧ Kd.C k81 w a len zs ∧ ∀ z ∈ zs, OkS z := by
  rcases slice_fields ht he hone (hC.trans rfl) h with rfl | ⟨a, len, cap, rfl, hl, hm, hf⟩
  · exact ⟨none, 0, 0, [], rfl, Nat.le_refl _, rfl, Kd.C_nil _ _, fun z hz => by cases hz⟩
  · have each : ∀ i : Nat, ∃ z : S81, i < len → (w.cell? (a.add (i * 5 + 0)) = some (.int .i64 z.f0) ∧ w.cell? (a.add (i * 5 + 1)) = some (.int .i64 z.f1) ∧ w.cell? (a.add (i * 5 + 2)) = some (.string z.f2) ∧ w.cell? (a.add (i * 5 + 3)) = some (.string z.f3) ∧ w.cell? (a.add (i * 5 + 4)) = some (.int .i64 z.f4)) ∧ OkS z := by
      intro i
      by_cases hi : i < len
      · obtain ⟨v0, y0, n0, c0, t0⟩ := hf i hi 0 f0 rfl
        obtain ⟨v1, y1, n1, c1, t1⟩ := hf i hi 1 f1 rfl
        obtain ⟨v2, y2, n2, c2, t2⟩ := hf i hi 2 f2 rfl
        obtain ⟨v3, y3, n3, c3, t3⟩ := hf i hi 3 f3 rfl
        obtain ⟨v4, y4, n4, c4, t4⟩ := hf i hi 4 f4 rfl
        obtain ⟨z0, e0, _, q0⟩ := DataW.trod_int h0 t0
        obtain ⟨z1, e1, _, q1⟩ := DataW.trod_int h1 t1
        obtain ⟨z2, e2, _, q2⟩ := DataW.trod_string h2 t2
        obtain ⟨z3, e3, _, q3⟩ := DataW.trod_string h3 t3
        obtain ⟨z4, e4, _, q4⟩ := DataW.trod_int h4 t4
        cases e0; cases e1; cases e2; cases e3; cases e4
        exact ⟨⟨z0, z1, z2, z3, z4⟩, fun _ => ⟨⟨c0, c1, c2, c3, c4⟩, q0, q1, q4⟩⟩
      · exact ⟨z81, fun h => absurd h hi⟩
    obtain ⟨f, hf⟩ := Classical.axiomOfChoice each
    refine ⟨some a, len, cap, (List.range len).map f, rfl, hl, by simp, ⟨by simp, Nat.le_trans hl hm, fun _ => ⟨a, rfl, fun j p hj => ?_⟩⟩, fun z hz => ?_⟩
    · have hjl : j < len := by
        have := (List.getElem?_eq_some_iff.1 hj).1
        simpa using this
      have hp : p = f j := by
        rw [List.getElem?_map, List.getElem?_range hjl] at hj
        exact (Option.some.inj hj).symm
      subst hp
      obtain ⟨⟨g0, g1, g2, g3, g4⟩, _⟩ := hf j hjl
      refine ⟨_, rfl, k81_mk w (f j), fun i u hi => ?_⟩
      match i, hi with
      | 0, hi => cases hi; exact g0
      | 1, hi => cases hi; exact g1
      | 2, hi => cases hi; exact g2
      | 3, hi => cases hi; exact g3
      | 4, hi => cases hi; exact g4
      | i + 5, hi => simp at hi
    · obtain ⟨i, hi, rfl⟩ := List.mem_map.1 hz
      exact (hf i (List.mem_range.1 hi)).2
end
end Go.Proofs.YthhmmaihbjhhgaaDoor.Giv
namespace Go.Proofs.YthhmmaihbjhhgaaDoor.Giv
open Go.RowKit Go.Proofs.YthhmmaihbjhhgaaDoorW.PrintWords Go.Proofs.YthhmmaihbjhhgaaDoorW.PrintLast Go.Proofs.YthhmmaihbjhhgaaDoorW.PrintMore
open Go.Proofs.YthhmmaihbjhhgaaDoor.U1 Go.Proofs.YthhmmaihbjhhgaaDoor.Q1 Go.Proofs.YthhmmaihbjhhgaaDoor.J0 Go.Proofs.YthhmmaihbjhhgaaDoor.J1 Go.Proofs.YthhmmaihbjhhgaaDoor.J2
theorem i64_wf {n : Int} (h : (Lit.int .i64 n).wf = true) : I64 n := bounds_i64 h
theorem okI_of {zs : List S81} (h : ∀ z ∈ zs, OkS z) : ∀ z ∈ zs, OkI z := fun z hz => ⟨i64_wf (h z hz).1, i64_wf (h z hz).2.1, i64_wf (h z hz).2.2⟩
abbrev ArgOk (W : World) (a : Option Addr) (len cap : Nat) (zs : List S81) : Prop := zs.length = len ∧ len ≤ cap ∧ Kd.C k81 W a zs.length zs ∧ ∀ z ∈ zs, OkS z
theorem jsonApart_walk (a : Option Addr) (len cap : Nat) (zs : List S81) (a2 : Option Addr) (len2 cap2 : Nat) (zs2 : List S81) (w : World) (h : ArgOk w a len cap zs) (h2 : ArgOk w a2 len2 cap2 zs2) (tj : JTabs w) (tb : Tabs w) : Calls Tryd.prog 19 #[.slice a len cap, .slice a2 len2 cap2] w fun e w' => e = .returned (.bool true) ∧ Below w.heap.size w w' := by
  obtain ⟨rfl, hc, hC, hO⟩ := h
  obtain ⟨rfl, hc2, hC2, hO2⟩ := h2
  obtain ⟨k, hk⟩ := JsonApart zs zs2 (Kd.C_max hC) (Kd.C_max hC2) (okI_of hO) (okI_of hO2)
  exact cracknellaw08_JsonApart.calls k a cap zs a2 cap2 zs2 true w hC hc hC2 hc2 hk tj tb
end Go.Proofs.YthhmmaihbjhhgaaDoor.Giv
