-- written for this claim by pr.py of the session (the printer's text with hand-proved callees). Not trusted: Lean checks it.
import Derived.Test.YthhmmaihbjhhgaaDoorQ1x0
import Derived.Test.YthhmmaihbjhhgaaDoorQ1x2
import Derived.Test.YthhmmaihbjhhgaaDoorQ1x3
namespace Go.Proofs.YthhmmaihbjhhgaaDoor.Q1
open Go.Proofs.YthhmmaihbjhhgaaDoor.Giv Go.Proofs.YthhmmaihbjhhgaaDoor.U1 Go.RowKit Go.Proofs.YthhmmaihbjhhgaaDoorW.PrintWords Go.Proofs.YthhmmaihbjhhgaaDoorW.PrintLast Go.Proofs.YthhmmaihbjhhgaaDoorW.PrintMore
attribute [local go_sem] max2_int min2_int max_two min_two max_three min_three max_four min_four   -- for this text's walks alone
set_option linter.unusedVariables false
set_option linter.unusedSimpArgs false

/-! ### cracknelref07_escape: function 85 -/
mutual
def cracknelref07_escape.j0 : Nat → ByteArray → Int → Int → Bool → Option (Int × Int)
  | 0, _, _, _, _ => none
  | k + 1, x0, x1, x6, x28 => if x28 = true then (some (wrap64 (x6), 2)) else (cracknelref07_escape.l0 k x0 x1 x6 8)
def cracknelref07_escape.l0 : Nat → ByteArray → Int → Int → Int → Option (Int × Int)
  | 0, _, _, _, _ => none
  | k + 1, x0, x1, x6, x7 => if x7 ≤ 13 then (if x6 > 92 then ((cracknelref07_short.f k ((x7) % 256)).bind fun t159 => (if t159 = x6 then (some (x7, 2)) else (cracknelref07_escape.l0 k x0 x1 x6 (wrap64 (x7 + 1))))) else (cracknelref07_escape.l0 k x0 x1 x6 (wrap64 (x7 + 1)))) else ((cracknelref07_number.f k x0 (wrap64 (x1 + 1))).bind fun t160 => (if t160 < 0 then (cracknelref07_escape.j2 k x0 x1 t160 true) else (if t160 ≥ 56320 then (cracknelref07_escape.j2 k x0 x1 t160 (decide (t160 ≤ 57343))) else (cracknelref07_escape.j2 k x0 x1 t160 false))))
def cracknelref07_escape.j2 : Nat → ByteArray → Int → Int → Bool → Option (Int × Int)
  | 0, _, _, _, _ => none
  | k + 1, x0, x1, x8, x58 => if x58 = true then (some (0, 0)) else (if x8 < 55296 then (cracknelref07_escape.j3 k x0 x1 x8 true) else (cracknelref07_escape.j3 k x0 x1 x8 (decide (x8 > 57343))))
def cracknelref07_escape.j3 : Nat → ByteArray → Int → Int → Bool → Option (Int × Int)
  | 0, _, _, _, _ => none
  | k + 1, x0, x1, x8, x64 => if x64 = true then (some (x8, 6)) else (if (wrap64 ((x0.size : Int) - x1)) < 12 then (cracknelref07_escape.j4 k x0 x1 x8 true) else (if 0 ≤ (wrap64 (x1 + 6)) then (if (wrap64 (x1 + 6)) < (x0.size : Int) then (cracknelref07_escape.j4 k x0 x1 x8 ((bt x0 (wrap64 (x1 + 6))) != 92)) else (none)) else (none)))
def cracknelref07_escape.j4 : Nat → ByteArray → Int → Int → Bool → Option (Int × Int)
  | 0, _, _, _, _ => none
  | k + 1, x0, x1, x8, x77 => if x77 = true then (some (0, 0)) else ((cracknelref07_number.f k x0 (wrap64 (x1 + 7))).bind fun t161 => (if t161 < 56320 then (some (0, 0)) else (if t161 > 57343 then (some (0, 0)) else (some (wrap64 ((wrap64 ((wrap64 (65536 + (wrap64 (1024 * (wrap64 (x8 - 55296)))))) + t161)) - 56320), 12)))))
end
def cracknelref07_escape.f (k : Nat) (a0 : ByteArray) (a1 : Int) : Option (Int × Int) := if (wrap64 (a1 + 1)) ≥ (a0.size : Int) then (some (0, 0)) else (if 0 ≤ (wrap64 (a1 + 1)) then (if (wrap64 (a1 + 1)) < (a0.size : Int) then (if (bt a0 (wrap64 (a1 + 1))) = 34 then (cracknelref07_escape.j0 k a0 a1 (bt a0 (wrap64 (a1 + 1))) true) else (if (bt a0 (wrap64 (a1 + 1))) = 92 then (cracknelref07_escape.j0 k a0 a1 (bt a0 (wrap64 (a1 + 1))) true) else (cracknelref07_escape.j0 k a0 a1 (bt a0 (wrap64 (a1 + 1))) ((bt a0 (wrap64 (a1 + 1))) == 47)))) else (none)) else (none))
theorem cracknelref07_escape.mono_l : ∀ k, (∀ y0 y1 y2 y3, LeO (cracknelref07_escape.j0 k y0 y1 y2 y3) (cracknelref07_escape.j0 (k + 1) y0 y1 y2 y3)) ∧ (∀ y0 y1 y2 y3, LeO (cracknelref07_escape.l0 k y0 y1 y2 y3) (cracknelref07_escape.l0 (k + 1) y0 y1 y2 y3)) ∧ (∀ y0 y1 y2 y3, LeO (cracknelref07_escape.j2 k y0 y1 y2 y3) (cracknelref07_escape.j2 (k + 1) y0 y1 y2 y3)) ∧ (∀ y0 y1 y2 y3, LeO (cracknelref07_escape.j3 k y0 y1 y2 y3) (cracknelref07_escape.j3 (k + 1) y0 y1 y2 y3)) ∧ (∀ y0 y1 y2 y3, LeO (cracknelref07_escape.j4 k y0 y1 y2 y3) (cracknelref07_escape.j4 (k + 1) y0 y1 y2 y3))
  | 0 => ⟨fun _ _ _ _ r h => by simp [cracknelref07_escape.j0] at h, fun _ _ _ _ r h => by simp [cracknelref07_escape.l0] at h, fun _ _ _ _ r h => by simp [cracknelref07_escape.j2] at h, fun _ _ _ _ r h => by simp [cracknelref07_escape.j3] at h, fun _ _ _ _ r h => by simp [cracknelref07_escape.j4] at h⟩
  | k + 1 => by
    obtain ⟨ih0, ih1, ih2, ih3, ih4⟩ := cracknelref07_escape.mono_l k
    refine ⟨?_, ?_, ?_, ?_, ?_⟩
    · intro y0 y1 y2 y3
      unfold cracknelref07_escape.j0
      repeat' first
      | (with_reducible exact ih0 _ _ _ _)
      | (with_reducible exact ih1 _ _ _ _)
      | (with_reducible exact ih2 _ _ _ _)
      | (with_reducible exact ih3 _ _ _ _)
      | (with_reducible exact ih4 _ _ _ _)
      | (with_reducible exact cracknelref07_number.mono _ _ _)
      | (with_reducible exact cracknelref07_short.mono _ _)
      | (with_reducible exact LeO.refl _)
      | (with_reducible exact LeO.none _)
      | (with_reducible refine LeO.ite ?_ ?_)
      | (with_reducible refine LeO.bind ?_ (fun _ => ?_))
      | exact ih0 _ _ _ _
      | exact ih1 _ _ _ _
      | exact ih2 _ _ _ _
      | exact ih3 _ _ _ _
      | exact ih4 _ _ _ _
      | exact cracknelref07_number.mono _ _ _
      | exact cracknelref07_short.mono _ _
      | exact LeO.none _
      | refine LeO.ite ?_ ?_
      | refine LeO.bind ?_ (fun _ => ?_)
    · intro y0 y1 y2 y3
      unfold cracknelref07_escape.l0
      repeat' first
      | (with_reducible exact ih0 _ _ _ _)
      | (with_reducible exact ih1 _ _ _ _)
      | (with_reducible exact ih2 _ _ _ _)
      | (with_reducible exact ih3 _ _ _ _)
      | (with_reducible exact ih4 _ _ _ _)
      | (with_reducible exact cracknelref07_number.mono _ _ _)
      | (with_reducible exact cracknelref07_short.mono _ _)
      | (with_reducible exact LeO.refl _)
      | (with_reducible exact LeO.none _)
      | (with_reducible refine LeO.ite ?_ ?_)
      | (with_reducible refine LeO.bind ?_ (fun _ => ?_))
      | exact ih0 _ _ _ _
      | exact ih1 _ _ _ _
      | exact ih2 _ _ _ _
      | exact ih3 _ _ _ _
      | exact ih4 _ _ _ _
      | exact cracknelref07_number.mono _ _ _
      | exact cracknelref07_short.mono _ _
      | exact LeO.none _
      | refine LeO.ite ?_ ?_
      | refine LeO.bind ?_ (fun _ => ?_)
    · intro y0 y1 y2 y3
      unfold cracknelref07_escape.j2
      repeat' first
      | (with_reducible exact ih0 _ _ _ _)
      | (with_reducible exact ih1 _ _ _ _)
      | (with_reducible exact ih2 _ _ _ _)
      | (with_reducible exact ih3 _ _ _ _)
      | (with_reducible exact ih4 _ _ _ _)
      | (with_reducible exact cracknelref07_number.mono _ _ _)
      | (with_reducible exact cracknelref07_short.mono _ _)
      | (with_reducible exact LeO.refl _)
      | (with_reducible exact LeO.none _)
      | (with_reducible refine LeO.ite ?_ ?_)
      | (with_reducible refine LeO.bind ?_ (fun _ => ?_))
      | exact ih0 _ _ _ _
      | exact ih1 _ _ _ _
      | exact ih2 _ _ _ _
      | exact ih3 _ _ _ _
      | exact ih4 _ _ _ _
      | exact cracknelref07_number.mono _ _ _
      | exact cracknelref07_short.mono _ _
      | exact LeO.none _
      | refine LeO.ite ?_ ?_
      | refine LeO.bind ?_ (fun _ => ?_)
    · intro y0 y1 y2 y3
      unfold cracknelref07_escape.j3
      repeat' first
      | (with_reducible exact ih0 _ _ _ _)
      | (with_reducible exact ih1 _ _ _ _)
      | (with_reducible exact ih2 _ _ _ _)
      | (with_reducible exact ih3 _ _ _ _)
      | (with_reducible exact ih4 _ _ _ _)
      | (with_reducible exact cracknelref07_number.mono _ _ _)
      | (with_reducible exact cracknelref07_short.mono _ _)
      | (with_reducible exact LeO.refl _)
      | (with_reducible exact LeO.none _)
      | (with_reducible refine LeO.ite ?_ ?_)
      | (with_reducible refine LeO.bind ?_ (fun _ => ?_))
      | exact ih0 _ _ _ _
      | exact ih1 _ _ _ _
      | exact ih2 _ _ _ _
      | exact ih3 _ _ _ _
      | exact ih4 _ _ _ _
      | exact cracknelref07_number.mono _ _ _
      | exact cracknelref07_short.mono _ _
      | exact LeO.none _
      | refine LeO.ite ?_ ?_
      | refine LeO.bind ?_ (fun _ => ?_)
    · intro y0 y1 y2 y3
      unfold cracknelref07_escape.j4
      repeat' first
      | (with_reducible exact ih0 _ _ _ _)
      | (with_reducible exact ih1 _ _ _ _)
      | (with_reducible exact ih2 _ _ _ _)
      | (with_reducible exact ih3 _ _ _ _)
      | (with_reducible exact ih4 _ _ _ _)
      | (with_reducible exact cracknelref07_number.mono _ _ _)
      | (with_reducible exact cracknelref07_short.mono _ _)
      | (with_reducible exact LeO.refl _)
      | (with_reducible exact LeO.none _)
      | (with_reducible refine LeO.ite ?_ ?_)
      | (with_reducible refine LeO.bind ?_ (fun _ => ?_))
      | exact ih0 _ _ _ _
      | exact ih1 _ _ _ _
      | exact ih2 _ _ _ _
      | exact ih3 _ _ _ _
      | exact ih4 _ _ _ _
      | exact cracknelref07_number.mono _ _ _
      | exact cracknelref07_short.mono _ _
      | exact LeO.none _
      | refine LeO.ite ?_ ?_
      | refine LeO.bind ?_ (fun _ => ?_)
theorem cracknelref07_escape.mono : ∀ a0 a1 k, LeO (cracknelref07_escape.f k a0 a1) (cracknelref07_escape.f (k + 1) a0 a1) := by
  intro a0 a1 k
  obtain ⟨ih0, ih1, ih2, ih3, ih4⟩ := cracknelref07_escape.mono_l k
  unfold cracknelref07_escape.f
  repeat' first
      | (with_reducible exact ih0 _ _ _ _)
      | (with_reducible exact ih1 _ _ _ _)
      | (with_reducible exact ih2 _ _ _ _)
      | (with_reducible exact ih3 _ _ _ _)
      | (with_reducible exact ih4 _ _ _ _)
      | (with_reducible exact cracknelref07_number.mono _ _ _)
      | (with_reducible exact cracknelref07_short.mono _ _)
      | (with_reducible exact LeO.refl _)
      | (with_reducible exact LeO.none _)
      | (with_reducible refine LeO.ite ?_ ?_)
      | (with_reducible refine LeO.bind ?_ (fun _ => ?_))
      | exact ih0 _ _ _ _
      | exact ih1 _ _ _ _
      | exact ih2 _ _ _ _
      | exact ih3 _ _ _ _
      | exact ih4 _ _ _ _
      | exact cracknelref07_number.mono _ _ _
      | exact cracknelref07_short.mono _ _
      | exact LeO.none _
      | refine LeO.ite ?_ ?_
      | refine LeO.bind ?_ (fun _ => ?_)
set_option maxHeartbeats 8000000 in
set_option maxRecDepth 100000 in
theorem cracknelref07_escape.calls (k : Nat) (a0 : ByteArray) (a1 : Int) (r1 : Int) (r2 : Int) (w : World) (h : cracknelref07_escape.f k a0 a1 = some (r1, r2)) :
    Calls Tryd.prog 85 #[.string a0, .int .i64 a1] w fun e w' => e = .returned (.tuple #[.int .i64 r1, .int .i64 r2]) ∧ Drawn0 w w' := by
  have H : (if (wrap64 (a1 + 1)) ≥ (a0.size : Int) then (some (0, 0)) else (if 0 ≤ (wrap64 (a1 + 1)) then (if (wrap64 (a1 + 1)) < (a0.size : Int) then (if (bt a0 (wrap64 (a1 + 1))) = 34 then (cracknelref07_escape.j0 k a0 a1 (bt a0 (wrap64 (a1 + 1))) true) else (if (bt a0 (wrap64 (a1 + 1))) = 92 then (cracknelref07_escape.j0 k a0 a1 (bt a0 (wrap64 (a1 + 1))) true) else (cracknelref07_escape.j0 k a0 a1 (bt a0 (wrap64 (a1 + 1))) ((bt a0 (wrap64 (a1 + 1))) == 47)))) else (none)) else (none))) = some (r1, r2) := h
  clear h
  by_cases c3 : (wrap64 (a1 + 1)) ≥ (a0.size : Int)
  · rw [if_pos c3] at H
    have c3b0 : decide ((a0.size : Int) ≤ (wrap64 (a1 + 1))) = true := decide_eq_true c3
    clear c3
    simp only [Option.some.injEq, Prod.mk.injEq] at H
    obtain ⟨rfl, rfl⟩ := H
    go_enter Tryd.func85, Tryd.ntmps85
    go_wp2
    go_ret2
    exact ⟨by first | rfl | (simp; done) | (simp [*]; done), by repeat (first | exact Drawn0.refl _ | apply Drawn0.step)⟩
  · rw [if_neg c3] at H
    have c3b0 : decide ((a0.size : Int) ≤ (wrap64 (a1 + 1))) = false := decide_eq_false c3
    clear c3
    obtain ⟨ji4, hji4⟩ : ∃ j_ : Int, (wrap64 (a1 + 1)) = j_ := ⟨_, rfl⟩
    replace H : (if 0 ≤ (ji4) then (if (ji4) < (a0.size : Int) then (if (bt a0 (ji4)) = 34 then (cracknelref07_escape.j0 k a0 a1 (bt a0 (ji4)) true) else (if (bt a0 (ji4)) = 92 then (cracknelref07_escape.j0 k a0 a1 (bt a0 (ji4)) true) else (cracknelref07_escape.j0 k a0 a1 (bt a0 (ji4)) ((bt a0 (ji4)) == 47)))) else (none)) else (none)) = some (r1, r2) := by first | (rw [hji4] at H; exact H) | (simp only [hji4] at H ⊢; exact H)
    (try rw [hji4] at c3b0)
    have hji4w : (IntKind.i64.wrap (a1 + 1)) = ji4 := (i64_w _).trans hji4
    by_cases c5 : 0 ≤ (ji4)
    · rw [if_pos c5] at H
      have c5b0 : decide (0 ≤ (ji4)) = true := decide_eq_true c5
      clear c5
      by_cases c6 : (ji4) < (a0.size : Int)
      · rw [if_pos c6] at H
        have c6b0 : decide ((ji4) < (a0.size : Int)) = true := decide_eq_true c6
        clear c6
        have HC8 := Aside0.mk H
        clear H
        have p7 : 0 ≤ ((ji4) : Int) := of_decide_eq_true (by first | (with_reducible assumption) | assumption)
        have q7 : (ji4) < (a0.size : Int) := of_decide_eq_true (by first | (with_reducible assumption) | assumption)
        have hx7 := bt_at a0 (ji4)
        replace p7 := eq_true p7
        replace q7 := eq_true q7
        go_enter Tryd.func85, Tryd.ntmps85
        go_upto_region 4 with (fail)
        go_cut [28] (fun v28 wc => ∃ (kq : Nat) (x28_7 : Bool), v28 = .bool x28_7 ∧ Aside0 (cracknelref07_escape.j0 kq a0 a1 (bt a0 (ji4)) x28_7 = some (r1, r2)) ∧ Aside0 (kq ≤ k) ∧ Drawn0 w wc)
        case first =>
          have H := HC8.out
          clear HC8
          by_cases c9 : (bt a0 (ji4)) = 34
          · rw [if_pos c9] at H
            have c9b0 : ((bt a0 (ji4)) == 34) = true := beq_iff_eq.mpr c9
            have c9b1 : ((bt a0 (ji4)) != 34) = false := bne_eq_false_iff_eq.mpr c9
            clear c9
            (first | rw [c9b0] | (simp only [i64_w, i32_w]; rw [c9b0]) | skip)
            have H' := Aside0.mk H
            clear H
            go_wp2
            go_meet
            case rel => exact ⟨_, (true), (by first | rfl | (simp; done) | (simp [*]; done)), H', ⟨by first | omega | exact Nat.le_refl _⟩, by repeat (first | exact Drawn0.refl _ | apply Drawn0.step)⟩
          · rw [if_neg c9] at H
            have c9b0 : ((bt a0 (ji4)) == 34) = false := beq_eq_false_iff_ne.mpr c9
            have c9b1 : ((bt a0 (ji4)) != 34) = true := bne_iff_ne.mpr c9
            (first | rw [c9b0] | (simp only [i64_w, i32_w]; rw [c9b0]) | skip)
            by_cases c10 : (bt a0 (ji4)) = 92
            · rw [if_pos c10] at H
              have c10b0 : ((bt a0 (ji4)) == 92) = true := beq_iff_eq.mpr c10
              have c10b1 : ((bt a0 (ji4)) != 92) = false := bne_eq_false_iff_eq.mpr c10
              clear c10
              have H' := Aside0.mk H
              clear H
              go_wp2
              go_meet
              case rel => exact ⟨_, (true), (by first | rfl | (simp; done) | (simp [*]; done)), H', ⟨by first | omega | exact Nat.le_refl _⟩, by repeat (first | exact Drawn0.refl _ | apply Drawn0.step)⟩
            · rw [if_neg c10] at H
              have c10b0 : ((bt a0 (ji4)) == 92) = false := beq_eq_false_iff_ne.mpr c10
              have c10b1 : ((bt a0 (ji4)) != 92) = true := bne_iff_ne.mpr c10
              have H' := Aside0.mk H
              clear H
              go_wp2
              go_meet
              case rel => exact ⟨_, (((bt a0 (ji4)) == 47)), (by first | rfl | (simp; done) | (simp only [← hji4] <;> (first | rfl | simp)) | (simp [*]; done)), H', ⟨by first | omega | exact Nat.le_refl _⟩, by repeat (first | exact Drawn0.refl _ | apply Drawn0.step)⟩
        case rest =>
          clear HC8
          try clear c1
          try clear p2
          try clear c3
          try clear c3b0
          try clear c5
          try clear c5b0
          try clear c6
          try clear c6b0
          try clear p6
          try clear p7
          try clear q7
          try clear hx7
          try clear c8
          try clear c9
          try clear c9b0
          try clear c9b1
          try clear c10
          try clear c10b0
          try clear c10b1
          try clear p7
          try clear q7
          obtain ⟨kq, x28_7, rfl, HA, HJ7, ⟨mc7, rfl⟩⟩ := hcut
          cases kq with
          | zero => exact absurd HA.out (by simp [cracknelref07_escape.j0])
          | succ kj7 =>
            have H := HA.out
            clear HA
            simp only [cracknelref07_escape.j0] at H
            by_cases c11 : x28_7 = true
            · subst c11
              have H1 : (some (wrap64 ((bt a0 (ji4))), 2)) = some (r1, r2) := by rw [if_pos rfl] at H; exact H
              clear H
              have H := H1
              clear H1
              simp only [Option.some.injEq, Prod.mk.injEq] at H
              obtain ⟨rfl, rfl⟩ := H
              go_wp2
              go_ret2
              exact ⟨by first | rfl | (simp; done) | (simp only [← hji4] <;> (first | rfl | simp)) | (simp [*]; done), by repeat (first | exact Drawn0.refl _ | apply Drawn0.step)⟩
            · replace c11 := Bool.eq_false_iff.mpr c11
              subst c11
              have H1 : (cracknelref07_escape.l0 kj7 a0 a1 (bt a0 (ji4)) 8) = some (r1, r2) := by rw [if_neg (show ¬ (false = true) by decide)] at H; exact H
              clear H
              have H := H1
              clear H1
              have H' := Aside0.mk H
              clear H
              go_wp2
              go_loopg [7] kj7 (fun kq v7 w' => ∃ (x7_2 : Int), v7 = .int .i64 x7_2 ∧ Aside0 (cracknelref07_escape.l0 kq a0 a1 (bt a0 (ji4)) x7_2 = some (r1, r2)) ∧ Aside0 (kq ≤ kj7) ∧ Drawn0 w w')
              case atStart => exact ⟨(8), (by first | rfl | (simp; done) | (simp [*]; done)), H', ⟨Nat.le_refl _⟩, by repeat (first | exact Drawn0.refl _ | apply Drawn0.step)⟩
              case round =>
                clear H'
                try clear c1
                try clear p2
                try clear c3
                try clear c3b0
                try clear c5
                try clear c5b0
                try clear c6
                try clear c6b0
                try clear p6
                try clear c7
                try clear p7
                try clear q7
                try clear hx7
                try clear c8
                try clear c9
                try clear c9b0
                try clear c9b1
                try clear c10
                try clear c10b0
                try clear c10b1
                try clear c11
                try clear p2
                try clear p6
                try clear p7
                try clear q7
                obtain ⟨x7_2, rfl, HA, HK2, ⟨m2, rfl⟩⟩ := hrel
                cases gk with
                | zero => exact absurd HA.out (by simp [cracknelref07_escape.l0])
                | succ k2 =>
                  have H := HA.out
                  clear HA
                  simp only [cracknelref07_escape.l0] at H
                  by_cases c12 : x7_2 ≤ 13
                  · rw [if_pos c12] at H
                    have c12b0 : decide (x7_2 ≤ 13) = true := decide_eq_true c12
                    clear c12
                    by_cases c13 : (bt a0 (ji4)) > 92
                    · rw [if_pos c13] at H
                      have c13b0 : decide (92 < (bt a0 (ji4))) = true := decide_eq_true c13
                      clear c13
                      replace H := Option.bind_eq_some_iff.mp H
                      obtain ⟨t159, A140, H⟩ := H
                      replace H : (if t159 = (bt a0 (ji4)) then (some (x7_2, 2)) else (cracknelref07_escape.l0 k2 a0 a1 (bt a0 (ji4)) (wrap64 (x7_2 + 1)))) = some (r1, r2) := H
                      have A14 := Aside0.mk A140
                      clear A140
                      by_cases c15 : t159 = (bt a0 (ji4))
                      · rw [if_pos c15] at H
                        have c15b0 : (t159 == (bt a0 (ji4))) = true := beq_iff_eq.mpr c15
                        have c15b1 : (t159 != (bt a0 (ji4))) = false := bne_eq_false_iff_eq.mpr c15
                        clear c15
                        simp only [Option.some.injEq, Prod.mk.injEq] at H
                        obtain ⟨rfl, rfl⟩ := H
                        go_wp2_with (first | (go_at_call 59; (with_reducible refine (cracknelref07_short.calls k2 ((x7_2) % 256) t159 _ A14.out).mono ?_); rintro e w' ⟨rfl, ⟨nd, rfl⟩⟩))
                        go_ret2
                        exact ⟨by first | rfl | (simp; done) | (simp only [← hji4] <;> (first | rfl | simp)) | (simp [*]; done), by repeat (first | exact Drawn0.refl _ | apply Drawn0.step)⟩
                      · rw [if_neg c15] at H
                        have c15b0 : (t159 == (bt a0 (ji4))) = false := beq_eq_false_iff_ne.mpr c15
                        have c15b1 : (t159 != (bt a0 (ji4))) = true := bne_iff_ne.mpr c15
                        have H' := Aside0.mk H
                        clear H
                        go_wp2_with (first | (go_at_call 59; (with_reducible refine (cracknelref07_short.calls k2 ((x7_2) % 256) t159 _ A14.out).mono ?_); rintro e w' ⟨rfl, ⟨nd, rfl⟩⟩))
                        go_roundg k2
                        case measure => have := HJ7.out; have := HK2.out; omega
                        case rel => exact ⟨(wrap64 (x7_2 + 1)), (by first | rfl | (simp; done) | (simp [*]; done)), H', ⟨by have := HJ7.out; have := HK2.out; omega⟩, by repeat (first | exact Drawn0.refl _ | apply Drawn0.step)⟩
                    · rw [if_neg c13] at H
                      have c13b0 : decide (92 < (bt a0 (ji4))) = false := decide_eq_false c13
                      clear c13
                      have H' := Aside0.mk H
                      clear H
                      go_wp2
                      go_roundg k2
                      case measure => have := HJ7.out; have := HK2.out; omega
                      case rel => exact ⟨(wrap64 (x7_2 + 1)), (by first | rfl | (simp; done) | (simp [*]; done)), H', ⟨by have := HJ7.out; have := HK2.out; omega⟩, by repeat (first | exact Drawn0.refl _ | apply Drawn0.step)⟩
                  · rw [if_neg c12] at H
                    have c12b0 : decide (x7_2 ≤ 13) = false := decide_eq_false c12
                    clear c12
                    replace H := Option.bind_eq_some_iff.mp H
                    obtain ⟨t160, A160, H⟩ := H
                    replace H : (if t160 < 0 then (cracknelref07_escape.j2 k2 a0 a1 t160 true) else (if t160 ≥ 56320 then (cracknelref07_escape.j2 k2 a0 a1 t160 (decide (t160 ≤ 57343))) else (cracknelref07_escape.j2 k2 a0 a1 t160 false))) = some (r1, r2) := H
                    rw [hji4] at A160
                    have A16 := Aside0.mk A160
                    clear A160
                    have HC17 := Aside0.mk H
                    clear H
                    go_upto_region 12 with (first | ((with_reducible refine gate_callee (f := 99) rfl ?_); refine goesL_ (some 48) rfl rfl Tryd.func99 (by kernel_rfl) rfl #[.string a0, .int .i64 ji4] rfl (by (try simp only [List.map_toArray, List.map_cons, List.map_nil]); first | done | rfl | (simp only [List.length_drop, List.length_take]; rfl)) ?_; (with_reducible refine (cracknelref07_number.calls k2 a0 ji4 t160 _ A16.out).mono ?_); rintro e w' ⟨rfl, ⟨nd, rfl⟩⟩; refine ⟨_, rfl, ?_⟩))
                    (try simp only [Act.put, List.setIfInBounds_toArray, List.set_cons_zero, List.set_cons_succ])
                    go_cut [58] (fun v58 wc => ∃ (kq : Nat) (x58_16 : Bool), v58 = .bool x58_16 ∧ Aside0 (cracknelref07_escape.j2 kq a0 a1 t160 x58_16 = some (r1, r2)) ∧ Aside0 (kq ≤ k2) ∧ Drawn0 w wc)
                    case first =>
                      have H := HC17.out
                      clear HC17
                      by_cases c18 : t160 < 0
                      · rw [if_pos c18] at H
                        have c18b0 : decide (t160 < 0) = true := decide_eq_true c18
                        clear c18
                        (first | rw [c18b0] | (simp only [i64_w, i32_w]; rw [c18b0]) | skip)
                        have H' := Aside0.mk H
                        clear H
                        go_wp2
                        go_meet
                        case rel => exact ⟨_, (true), (by first | rfl | (simp; done) | (simp [*]; done)), H', ⟨by have := HJ7.out; have := HK2.out; first | omega | exact Nat.le_refl _⟩, by repeat (first | exact Drawn0.refl _ | apply Drawn0.step)⟩
                      · rw [if_neg c18] at H
                        have c18b0 : decide (t160 < 0) = false := decide_eq_false c18
                        clear c18
                        (first | rw [c18b0] | (simp only [i64_w, i32_w]; rw [c18b0]) | skip)
                        by_cases c19 : t160 ≥ 56320
                        · rw [if_pos c19] at H
                          have c19b0 : decide (56320 ≤ t160) = true := decide_eq_true c19
                          clear c19
                          have H' := Aside0.mk H
                          clear H
                          go_wp2
                          go_meet
                          case rel => exact ⟨_, (decide (t160 ≤ 57343)), (by first | rfl | (simp; done) | (simp [*]; done)), H', ⟨by have := HJ7.out; have := HK2.out; first | omega | exact Nat.le_refl _⟩, by repeat (first | exact Drawn0.refl _ | apply Drawn0.step)⟩
                        · rw [if_neg c19] at H
                          have c19b0 : decide (56320 ≤ t160) = false := decide_eq_false c19
                          clear c19
                          have H' := Aside0.mk H
                          clear H
                          go_wp2
                          go_meet
                          case rel => exact ⟨_, (false), (by first | rfl | (simp; done) | (simp [*]; done)), H', ⟨by have := HJ7.out; have := HK2.out; first | omega | exact Nat.le_refl _⟩, by repeat (first | exact Drawn0.refl _ | apply Drawn0.step)⟩
                    case rest =>
                      clear HC17
                      try clear c1
                      try clear p2
                      try clear c3
                      try clear c3b0
                      try clear c5
                      try clear c5b0
                      try clear c6
                      try clear c6b0
                      try clear p6
                      try clear c7
                      try clear p7
                      try clear q7
                      try clear hx7
                      try clear c8
                      try clear c9
                      try clear c9b0
                      try clear c9b1
                      try clear c10
                      try clear c10b0
                      try clear c10b1
                      try clear c11
                      try clear c12
                      try clear c12b0
                      try clear c13
                      try clear c13b0
                      try clear c15
                      try clear c15b0
                      try clear c15b1
                      try clear c18
                      try clear c18b0
                      try clear c19
                      try clear c19b0
                      try clear p2
                      try clear p6
                      try clear p7
                      try clear q7
                      obtain ⟨kq, x58_16, rfl, HA, HJ16, ⟨mc16, rfl⟩⟩ := hcut
                      cases kq with
                      | zero => exact absurd HA.out (by simp [cracknelref07_escape.j2])
                      | succ kj16 =>
                        have H := HA.out
                        clear HA
                        simp only [cracknelref07_escape.j2] at H
                        by_cases c20 : x58_16 = true
                        · subst c20
                          have H1 : (some (0, 0)) = some (r1, r2) := by rw [if_pos rfl] at H; exact H
                          clear H
                          have H := H1
                          clear H1
                          simp only [Option.some.injEq, Prod.mk.injEq] at H
                          obtain ⟨rfl, rfl⟩ := H
                          go_wp2
                          go_ret2
                          exact ⟨by first | rfl | (simp; done) | (simp only [← hji4] <;> (first | rfl | simp)) | (simp [*]; done), by repeat (first | exact Drawn0.refl _ | apply Drawn0.step)⟩
                        · replace c20 := Bool.eq_false_iff.mpr c20
                          subst c20
                          have H1 : (if t160 < 55296 then (cracknelref07_escape.j3 kj16 a0 a1 t160 true) else (cracknelref07_escape.j3 kj16 a0 a1 t160 (decide (t160 > 57343)))) = some (r1, r2) := by rw [if_neg (show ¬ (false = true) by decide)] at H; exact H
                          clear H
                          have H := H1
                          clear H1
                          have HC21 := Aside0.mk H
                          clear H
                          go_upto_region 14 with (fail)
                          go_cut [64] (fun v64 wc => ∃ (kq : Nat) (x64_20 : Bool), v64 = .bool x64_20 ∧ Aside0 (cracknelref07_escape.j3 kq a0 a1 t160 x64_20 = some (r1, r2)) ∧ Aside0 (kq ≤ kj16) ∧ Drawn0 w wc)
                          case first =>
                            have H := HC21.out
                            clear HC21
                            by_cases c22 : t160 < 55296
                            · rw [if_pos c22] at H
                              have c22b0 : decide (t160 < 55296) = true := decide_eq_true c22
                              clear c22
                              (first | rw [c22b0] | (simp only [i64_w, i32_w]; rw [c22b0]) | skip)
                              have H' := Aside0.mk H
                              clear H
                              go_wp2
                              go_meet
                              case rel => exact ⟨_, (true), (by first | rfl | (simp; done) | (simp [*]; done)), H', ⟨by have := HJ7.out; have := HK2.out; have := HJ16.out; first | omega | exact Nat.le_refl _⟩, by repeat (first | exact Drawn0.refl _ | apply Drawn0.step)⟩
                            · rw [if_neg c22] at H
                              have c22b0 : decide (t160 < 55296) = false := decide_eq_false c22
                              clear c22
                              (first | rw [c22b0] | (simp only [i64_w, i32_w]; rw [c22b0]) | skip)
                              have H' := Aside0.mk H
                              clear H
                              go_wp2
                              go_meet
                              case rel => exact ⟨_, (decide (t160 > 57343)), (by first | rfl | (simp; done) | (simp [*]; done)), H', ⟨by have := HJ7.out; have := HK2.out; have := HJ16.out; first | omega | exact Nat.le_refl _⟩, by repeat (first | exact Drawn0.refl _ | apply Drawn0.step)⟩
                          case rest =>
                            clear HC21
                            try clear c1
                            try clear c2
                            try clear p2
                            try clear c3
                            try clear c3b0
                            try clear c5
                            try clear c5b0
                            try clear c6
                            try clear c6b0
                            try clear p6
                            try clear c7
                            try clear p7
                            try clear q7
                            try clear hx7
                            try clear c8
                            try clear c9
                            try clear c9b0
                            try clear c9b1
                            try clear c10
                            try clear c10b0
                            try clear c10b1
                            try clear c11
                            try clear c12
                            try clear c12b0
                            try clear c13
                            try clear c13b0
                            try clear c15
                            try clear c15b0
                            try clear c15b1
                            try clear c16
                            try clear c18
                            try clear c18b0
                            try clear c19
                            try clear c19b0
                            try clear c20
                            try clear c22
                            try clear c22b0
                            try clear p2
                            try clear p6
                            try clear p7
                            try clear q7
                            obtain ⟨kq, x64_20, rfl, HA, HJ20, ⟨mc20, rfl⟩⟩ := hcut
                            cases kq with
                            | zero => exact absurd HA.out (by simp [cracknelref07_escape.j3])
                            | succ kj20 =>
                              have H := HA.out
                              clear HA
                              simp only [cracknelref07_escape.j3] at H
                              by_cases c23 : x64_20 = true
                              · subst c23
                                have H1 : (some (t160, 6)) = some (r1, r2) := by rw [if_pos rfl] at H; exact H
                                clear H
                                have H := H1
                                clear H1
                                simp only [Option.some.injEq, Prod.mk.injEq] at H
                                obtain ⟨rfl, rfl⟩ := H
                                go_wp2
                                go_ret2
                                exact ⟨by first | rfl | (simp; done) | (simp only [← hji4] <;> (first | rfl | simp)) | (simp [*]; done), by repeat (first | exact Drawn0.refl _ | apply Drawn0.step)⟩
                              · replace c23 := Bool.eq_false_iff.mpr c23
                                subst c23
                                have H1 : (if (wrap64 ((a0.size : Int) - a1)) < 12 then (cracknelref07_escape.j4 kj20 a0 a1 t160 true) else (if 0 ≤ (wrap64 (a1 + 6)) then (if (wrap64 (a1 + 6)) < (a0.size : Int) then (cracknelref07_escape.j4 kj20 a0 a1 t160 ((bt a0 (wrap64 (a1 + 6))) != 92)) else (none)) else (none))) = some (r1, r2) := by rw [if_neg (show ¬ (false = true) by decide)] at H; exact H
                                clear H
                                have H := H1
                                clear H1
                                have HC24 := Aside0.mk H
                                clear H
                                go_upto_region 16 with (fail)
                                go_cut [77] (fun v77 wc => ∃ (kq : Nat) (x77_23 : Bool), v77 = .bool x77_23 ∧ Aside0 (cracknelref07_escape.j4 kq a0 a1 t160 x77_23 = some (r1, r2)) ∧ Aside0 (kq ≤ kj20) ∧ Drawn0 w wc)
                                case first =>
                                  have H := HC24.out
                                  clear HC24
                                  by_cases c25 : (wrap64 ((a0.size : Int) - a1)) < 12
                                  · rw [if_pos c25] at H
                                    have c25b0 : decide ((wrap64 ((a0.size : Int) - a1)) < 12) = true := decide_eq_true c25
                                    clear c25
                                    (first | rw [c25b0] | (simp only [i64_w, i32_w]; rw [c25b0]) | skip)
                                    have H' := Aside0.mk H
                                    clear H
                                    go_wp2
                                    go_meet
                                    case rel => exact ⟨_, (true), (by first | rfl | (simp; done) | (simp [*]; done)), H', ⟨by have := HJ7.out; have := HK2.out; have := HJ16.out; have := HJ20.out; first | omega | exact Nat.le_refl _⟩, by repeat (first | exact Drawn0.refl _ | apply Drawn0.step)⟩
                                  · rw [if_neg c25] at H
                                    have c25b0 : decide ((wrap64 ((a0.size : Int) - a1)) < 12) = false := decide_eq_false c25
                                    clear c25
                                    (first | rw [c25b0] | (simp only [i64_w, i32_w]; rw [c25b0]) | skip)
                                    obtain ⟨ji26, hji26⟩ : ∃ j_ : Int, (wrap64 (a1 + 6)) = j_ := ⟨_, rfl⟩
                                    replace H : (if 0 ≤ (ji26) then (if (ji26) < (a0.size : Int) then (cracknelref07_escape.j4 kj20 a0 a1 t160 ((bt a0 (ji26)) != 92)) else (none)) else (none)) = some (r1, r2) := by first | (rw [hji26] at H; exact H) | (simp only [hji26] at H ⊢; exact H)
                                    have hji26w : (IntKind.i64.wrap (a1 + 6)) = ji26 := (i64_w _).trans hji26
                                    by_cases c27 : 0 ≤ (ji26)
                                    · rw [if_pos c27] at H
                                      have c27b0 : decide (0 ≤ (ji26)) = true := decide_eq_true c27
                                      clear c27
                                      by_cases c28 : (ji26) < (a0.size : Int)
                                      · rw [if_pos c28] at H
                                        have c28b0 : decide ((ji26) < (a0.size : Int)) = true := decide_eq_true c28
                                        clear c28
                                        have H' := Aside0.mk H
                                        clear H
                                        have p29 : 0 ≤ ((ji26) : Int) := of_decide_eq_true (by first | (with_reducible assumption) | assumption)
                                        have q29 : (ji26) < (a0.size : Int) := of_decide_eq_true (by first | (with_reducible assumption) | assumption)
                                        have hx29 := bt_at a0 (ji26)
                                        replace p29 := eq_true p29
                                        replace q29 := eq_true q29
                                        go_wp2
                                        go_meet
                                        case rel => exact ⟨_, (((bt a0 (ji26)) != 92)), (by first | rfl | (simp; done) | (simp only [← hji26] <;> (first | rfl | simp)) | (simp [*]; done)), H', ⟨by have := HJ7.out; have := HK2.out; have := HJ16.out; have := HJ20.out; first | omega | exact Nat.le_refl _⟩, by repeat (first | exact Drawn0.refl _ | apply Drawn0.step)⟩
                                      · rw [if_neg c28] at H
                                        exact absurd H (by simp)
                                    · rw [if_neg c27] at H
                                      exact absurd H (by simp)
                                case rest =>
                                  clear HC24
                                  try clear c1
                                  try clear c2
                                  try clear p2
                                  try clear q2
                                  try clear hx2
                                  try clear c3
                                  try clear c3b0
                                  try clear c5
                                  try clear c5b0
                                  try clear c6
                                  try clear c6b0
                                  try clear p6
                                  try clear c7
                                  try clear p7
                                  try clear q7
                                  try clear hx7
                                  try clear c8
                                  try clear c9
                                  try clear c9b0
                                  try clear c9b1
                                  try clear c10
                                  try clear c10b0
                                  try clear c10b1
                                  try clear c11
                                  try clear c12
                                  try clear c12b0
                                  try clear c13
                                  try clear c13b0
                                  try clear c15
                                  try clear c15b0
                                  try clear c15b1
                                  try clear c16
                                  try clear c18
                                  try clear c18b0
                                  try clear c19
                                  try clear c19b0
                                  try clear c20
                                  try clear c22
                                  try clear c22b0
                                  try clear c23
                                  try clear c25
                                  try clear c25b0
                                  try clear c27
                                  try clear c27b0
                                  try clear c28
                                  try clear c28b0
                                  try clear p29
                                  try clear q29
                                  try clear hx29
                                  try clear p2
                                  try clear p29
                                  try clear p6
                                  try clear p7
                                  try clear q29
                                  try clear q7
                                  obtain ⟨kq, x77_23, rfl, HA, HJ23, ⟨mc23, rfl⟩⟩ := hcut
                                  cases kq with
                                  | zero => exact absurd HA.out (by simp [cracknelref07_escape.j4])
                                  | succ kj23 =>
                                    have H := HA.out
                                    clear HA
                                    simp only [cracknelref07_escape.j4] at H
                                    by_cases c30 : x77_23 = true
                                    · subst c30
                                      have H1 : (some (0, 0)) = some (r1, r2) := by rw [if_pos rfl] at H; exact H
                                      clear H
                                      have H := H1
                                      clear H1
                                      simp only [Option.some.injEq, Prod.mk.injEq] at H
                                      obtain ⟨rfl, rfl⟩ := H
                                      go_wp2
                                      go_ret2
                                      exact ⟨by first | rfl | (simp; done) | (simp only [← hji4] <;> (first | rfl | simp)) | (simp [*]; done), by repeat (first | exact Drawn0.refl _ | apply Drawn0.step)⟩
                                    · replace c30 := Bool.eq_false_iff.mpr c30
                                      subst c30
                                      have H1 : ((cracknelref07_number.f kj23 a0 (wrap64 (a1 + 7))).bind fun t161 => (if t161 < 56320 then (some (0, 0)) else (if t161 > 57343 then (some (0, 0)) else (some (wrap64 ((wrap64 ((wrap64 (65536 + (wrap64 (1024 * (wrap64 (t160 - 55296)))))) + t161)) - 56320), 12))))) = some (r1, r2) := by rw [if_neg (show ¬ (false = true) by decide)] at H; exact H
                                      clear H
                                      have H := H1
                                      clear H1
                                      replace H := Option.bind_eq_some_iff.mp H
                                      obtain ⟨t161, A310, H⟩ := H
                                      replace H : (if t161 < 56320 then (some (0, 0)) else (if t161 > 57343 then (some (0, 0)) else (some (wrap64 ((wrap64 ((wrap64 (65536 + (wrap64 (1024 * (wrap64 (t160 - 55296)))))) + t161)) - 56320), 12)))) = some (r1, r2) := H
                                      have A31 := Aside0.mk A310
                                      clear A310
                                      by_cases c32 : t161 < 56320
                                      · rw [if_pos c32] at H
                                        have c32b0 : decide (t161 < 56320) = true := decide_eq_true c32
                                        clear c32
                                        simp only [Option.some.injEq, Prod.mk.injEq] at H
                                        obtain ⟨rfl, rfl⟩ := H
                                        go_wp2_with (first | ((with_reducible refine gate_callee (f := 99) rfl ?_); refine goesL_ (some 81) rfl rfl Tryd.func99 (by kernel_rfl) rfl #[.string a0, .int .i64 (wrap64 (a1 + 7))] rfl (by (try simp only [List.map_toArray, List.map_cons, List.map_nil]); first | done | rfl | (simp only [List.length_drop, List.length_take]; rfl)) ?_; (with_reducible refine (cracknelref07_number.calls kj23 a0 (wrap64 (a1 + 7)) t161 _ A31.out).mono ?_); rintro e w' ⟨rfl, ⟨nd, rfl⟩⟩; refine ⟨_, rfl, ?_⟩))
                                        go_ret2
                                        exact ⟨by first | rfl | (simp; done) | (simp only [← hji4] <;> (first | rfl | simp)) | (simp [*]; done), by repeat (first | exact Drawn0.refl _ | apply Drawn0.step)⟩
                                      · rw [if_neg c32] at H
                                        have c32b0 : decide (t161 < 56320) = false := decide_eq_false c32
                                        clear c32
                                        by_cases c33 : t161 > 57343
                                        · rw [if_pos c33] at H
                                          have c33b0 : decide (57343 < t161) = true := decide_eq_true c33
                                          clear c33
                                          simp only [Option.some.injEq, Prod.mk.injEq] at H
                                          obtain ⟨rfl, rfl⟩ := H
                                          go_wp2_with (first | ((with_reducible refine gate_callee (f := 99) rfl ?_); refine goesL_ (some 81) rfl rfl Tryd.func99 (by kernel_rfl) rfl #[.string a0, .int .i64 (wrap64 (a1 + 7))] rfl (by (try simp only [List.map_toArray, List.map_cons, List.map_nil]); first | done | rfl | (simp only [List.length_drop, List.length_take]; rfl)) ?_; (with_reducible refine (cracknelref07_number.calls kj23 a0 (wrap64 (a1 + 7)) t161 _ A31.out).mono ?_); rintro e w' ⟨rfl, ⟨nd, rfl⟩⟩; refine ⟨_, rfl, ?_⟩))
                                          go_ret2
                                          exact ⟨by first | rfl | (simp; done) | (simp only [← hji4] <;> (first | rfl | simp)) | (simp [*]; done), by repeat (first | exact Drawn0.refl _ | apply Drawn0.step)⟩
                                        · rw [if_neg c33] at H
                                          have c33b0 : decide (57343 < t161) = false := decide_eq_false c33
                                          clear c33
                                          simp only [Option.some.injEq, Prod.mk.injEq] at H
                                          obtain ⟨rfl, rfl⟩ := H
                                          go_wp2_with (first | ((with_reducible refine gate_callee (f := 99) rfl ?_); refine goesL_ (some 81) rfl rfl Tryd.func99 (by kernel_rfl) rfl #[.string a0, .int .i64 (wrap64 (a1 + 7))] rfl (by (try simp only [List.map_toArray, List.map_cons, List.map_nil]); first | done | rfl | (simp only [List.length_drop, List.length_take]; rfl)) ?_; (with_reducible refine (cracknelref07_number.calls kj23 a0 (wrap64 (a1 + 7)) t161 _ A31.out).mono ?_); rintro e w' ⟨rfl, ⟨nd, rfl⟩⟩; refine ⟨_, rfl, ?_⟩))
                                          go_ret2
                                          exact ⟨by first | rfl | (simp; done) | (simp only [← hji4] <;> (first | rfl | simp)) | (simp [*]; done), by repeat (first | exact Drawn0.refl _ | apply Drawn0.step)⟩
      · rw [if_neg c6] at H
        exact absurd H (by simp)
    · rw [if_neg c5] at H
      exact absurd H (by simp)

end Go.Proofs.YthhmmaihbjhhgaaDoor.Q1
