-- written for this claim by pr.py of the session (the printer's text with hand-proved callees). Not trusted: Lean checks it.
import Derived.Test.YtgpbdfkhpkijcaaQCrcStepsx0
namespace Go.Proofs.Ytgpbdfkhpkijcaa.QCrcSteps
open Go.Proofs.Ytgpbdfkhpkijcaa.Crc Go.Proofs.Ytgpbdfkhpkijcaa.S1 Go.RowKit Go.Proofs.YtgpbdfkhpkijcaaW.PrintWords Go.Proofs.YtgpbdfkhpkijcaaW.PrintLast Go.Proofs.YtgpbdfkhpkijcaaW.PrintMore
attribute [local go_sem] max2_int min2_int max_two min_two max_three min_three max_four min_four   -- for this text's walks alone
set_option linter.unusedVariables false
set_option linter.unusedSimpArgs false

/-! ### crc_entry: function 21 -/
def crc_entry.l0 : Nat → Int → Int → Option (Int)
  | 0, _, _ => none
  | k + 1, x3, x6 => if x6 < 8 then (if (Go.bits .and .u32 x3 1) = 1 then (crc_entry.l0 k (Go.bits .xor .u32 (x3 / 2) 3988292384) (wrap64 (x6 + 1))) else (crc_entry.l0 k (x3 / 2) (wrap64 (x6 + 1)))) else (some x3)
def crc_entry.f (k : Nat) (a0 : Int) : Option (Int) := crc_entry.l0 k ((a0) % 4294967296) 0
theorem crc_entry.mono_l : ∀ k, (∀ y0 y1, LeO (crc_entry.l0 k y0 y1) (crc_entry.l0 (k + 1) y0 y1))
  | 0 => fun _ _ r h => by simp [crc_entry.l0] at h
  | k + 1 => by
    have ih0 := crc_entry.mono_l k
    · intro y0 y1
      unfold crc_entry.l0
      repeat' first
      | (with_reducible exact ih0 _ _)
      | (with_reducible exact LeO.refl _)
      | (with_reducible exact LeO.none _)
      | (with_reducible refine LeO.ite ?_ ?_)
      | (with_reducible refine LeO.bind ?_ (fun _ => ?_))
      | exact ih0 _ _
      | exact LeO.none _
      | refine LeO.ite ?_ ?_
      | refine LeO.bind ?_ (fun _ => ?_)
theorem crc_entry.mono : ∀ a0 k, LeO (crc_entry.f k a0) (crc_entry.f (k + 1) a0) := by
  intro a0 k
  have ih0 := crc_entry.mono_l k
  unfold crc_entry.f
  repeat' first
      | (with_reducible exact ih0 _ _)
      | (with_reducible exact LeO.refl _)
      | (with_reducible exact LeO.none _)
      | (with_reducible refine LeO.ite ?_ ?_)
      | (with_reducible refine LeO.bind ?_ (fun _ => ?_))
      | exact ih0 _ _
      | exact LeO.none _
      | refine LeO.ite ?_ ?_
      | refine LeO.bind ?_ (fun _ => ?_)
set_option maxHeartbeats 8000000 in
set_option maxRecDepth 100000 in
theorem crc_entry.calls (k : Nat) (a0 : Int) (r : Int) (w : World) (h : crc_entry.f k a0 = some r) :
    Calls Try.prog 21 #[.int .u8 a0] w fun e w' => e = .returned (.int .u32 r) ∧ Drawn0 w w' := by
  have H : (crc_entry.l0 k ((a0) % 4294967296) 0) = some r := h
  clear h
  have H' := Aside0.mk H
  clear H
  go_enter Try.func21, Try.ntmps21
  go_wp2
  go_loopg [3, 6] k (fun kq v3 v6 w' => ∃ (x3_1 : Int) (x6_1 : Int), v3 = .int .u32 x3_1 ∧ v6 = .int .i64 x6_1 ∧ Aside0 (crc_entry.l0 kq x3_1 x6_1 = some r) ∧ Aside0 (kq ≤ k) ∧ Drawn0 w w')
  case atStart => exact ⟨((a0) % 4294967296), (0), (by first | rfl | (simp; done) | (simp [*]; done)), (by first | rfl | (simp; done) | (simp [*]; done)), H', ⟨Nat.le_refl _⟩, by repeat (first | exact Drawn0.refl _ | apply Drawn0.step)⟩
  case round =>
    clear H'
    obtain ⟨x3_1, x6_1, rfl, rfl, HA, HK1, ⟨m1, rfl⟩⟩ := hrel
    cases gk with
    | zero => exact absurd HA.out (by simp [crc_entry.l0])
    | succ k1 =>
      have H := HA.out
      clear HA
      simp only [crc_entry.l0] at H
      by_cases c2 : x6_1 < 8
      · rw [if_pos c2] at H
        have c2b0 : decide (x6_1 < 8) = true := decide_eq_true c2
        clear c2
        by_cases c3 : (Go.bits .and .u32 x3_1 1) = 1
        · rw [if_pos c3] at H
          have c3b0 : ((Go.bits .and .u32 x3_1 1) == 1) = true := beq_iff_eq.mpr c3
          have c3b1 : ((Go.bits .and .u32 x3_1 1) != 1) = false := bne_eq_false_iff_eq.mpr c3
          clear c3
          have H' := Aside0.mk H
          clear H
          go_wp2
          go_roundg k1
          case measure => have := HK1.out; omega
          case rel => exact ⟨(Go.bits .xor .u32 (x3_1 / 2) 3988292384), (wrap64 (x6_1 + 1)), (by first | rfl | (simp; done) | (simp [*]; done)), (by first | rfl | (simp; done) | (simp [*]; done)), H', ⟨by have := HK1.out; omega⟩, by repeat (first | exact Drawn0.refl _ | apply Drawn0.step)⟩
        · rw [if_neg c3] at H
          have c3b0 : ((Go.bits .and .u32 x3_1 1) == 1) = false := beq_eq_false_iff_ne.mpr c3
          have c3b1 : ((Go.bits .and .u32 x3_1 1) != 1) = true := bne_iff_ne.mpr c3
          have H' := Aside0.mk H
          clear H
          go_wp2
          go_roundg k1
          case measure => have := HK1.out; omega
          case rel => exact ⟨(x3_1 / 2), (wrap64 (x6_1 + 1)), (by first | rfl | (simp; done) | (simp [*]; done)), (by first | rfl | (simp; done) | (simp [*]; done)), H', ⟨by have := HK1.out; omega⟩, by repeat (first | exact Drawn0.refl _ | apply Drawn0.step)⟩
      · rw [if_neg c2] at H
        have c2b0 : decide (x6_1 < 8) = false := decide_eq_false c2
        clear c2
        obtain rfl := Option.some.inj H
        go_wp2
        go_ret
        exact ⟨by first | rfl | (simp; done) | (simp [*]; done), by repeat (first | exact Drawn0.refl _ | apply Drawn0.step)⟩

-- NOT PRINTED: function 10 (crc_Table)

/-! ### cracknellaw04_CrcSteps: function 4 -/
def cracknellaw04_CrcSteps.f (k : Nat) (a0 : Int) (a1 : Int) : Option (Bool) := (cracknellaw04_alive.f).bind fun t101 => (if t101 = true then ((crc_Step.f k a0 a1).bind fun t102 => ((cracknelref04_Step.f k (wrap64 (a0)) (wrap64 (a1))).bind fun t103 => (some ((wrap64 (t102)) == t103)))) else (some false))
theorem cracknellaw04_CrcSteps.mono : ∀ a0 a1 k, LeO (cracknellaw04_CrcSteps.f k a0 a1) (cracknellaw04_CrcSteps.f (k + 1) a0 a1) := by
  intro a0 a1 k
  unfold cracknellaw04_CrcSteps.f
  repeat' first
      | (with_reducible exact cracknelref04_Step.mono _ _ _)
      | (with_reducible exact crc_Step.mono _ _ _)
      | (with_reducible exact LeO.refl _)
      | (with_reducible exact LeO.none _)
      | (with_reducible refine LeO.ite ?_ ?_)
      | (with_reducible refine LeO.bind ?_ (fun _ => ?_))
      | exact cracknelref04_Step.mono _ _ _
      | exact crc_Step.mono _ _ _
      | exact LeO.none _
      | refine LeO.ite ?_ ?_
      | refine LeO.bind ?_ (fun _ => ?_)
set_option maxHeartbeats 8000000 in
set_option maxRecDepth 100000 in
theorem cracknellaw04_CrcSteps.calls (k : Nat) (a0 : Int) (a1 : Int) (r : Bool) (w : World) (h : cracknellaw04_CrcSteps.f k a0 a1 = some r) :
    Calls Try.prog 4 #[.int .u32 a0, .int .u8 a1] w fun e w' => e = .returned (.bool r) ∧ Below w.heap.size w w' := by
  have HB := Aside0.mk (Below.refl w.heap.size w)
  have H : ((cracknellaw04_alive.f).bind fun t101 => (if t101 = true then ((crc_Step.f k a0 a1).bind fun t102 => ((cracknelref04_Step.f k (wrap64 (a0)) (wrap64 (a1))).bind fun t103 => (some ((wrap64 (t102)) == t103)))) else (some false))) = some r := h
  clear h
  replace H := Option.bind_eq_some_iff.mp H
  obtain ⟨t101, A30, H⟩ := H
  replace H : (if t101 = true then ((crc_Step.f k a0 a1).bind fun t102 => ((cracknelref04_Step.f k (wrap64 (a0)) (wrap64 (a1))).bind fun t103 => (some ((wrap64 (t102)) == t103)))) else (some false)) = some r := H
  have A3 := Aside0.mk A30
  clear A30
  by_cases c4 : t101 = true
  · subst c4
    have H1 : ((crc_Step.f k a0 a1).bind fun t102 => ((cracknelref04_Step.f k (wrap64 (a0)) (wrap64 (a1))).bind fun t103 => (some ((wrap64 (t102)) == t103)))) = some r := by rw [if_pos rfl] at H; exact H
    clear H
    have H := H1
    clear H1
    replace H := Option.bind_eq_some_iff.mp H
    obtain ⟨t102, A50, H⟩ := H
    replace H : ((cracknelref04_Step.f k (wrap64 (a0)) (wrap64 (a1))).bind fun t103 => (some ((wrap64 (t102)) == t103))) = some r := H
    have A5 := Aside0.mk A50
    clear A50
    replace H := Option.bind_eq_some_iff.mp H
    obtain ⟨t103, A60, H⟩ := H
    replace H : (some ((wrap64 (t102)) == t103)) = some r := H
    have A6 := Aside0.mk A60
    clear A60
    obtain rfl := Option.some.inj H
    go_enter Try.func4, Try.ntmps4
    go_wp2_with (first | ((with_reducible refine gate_callee (f := 11) rfl ?_); refine goesL_ (some 5) rfl rfl Try.func11 (by kernel_rfl) rfl #[] rfl (by (try simp only [List.map_toArray, List.map_cons, List.map_nil]); first | done | rfl | (simp only [List.length_drop, List.length_take]; rfl)) ?_; (with_reducible refine (cracknellaw04_alive.calls  true _ A3.out).mono ?_); rintro e w7 ⟨rfl, hb⟩; refine ⟨_, rfl, ?_⟩; have n0_ := Aside0.mk (below_step (by repeat (first | (with_reducible first | exact HB.out | apply below_alloc | apply pw_below_drewN | apply below_drew1) | exact HB.out)) hb); clear HB; have HB := n0_; clear n0_; (try clear hb); (try clear hb2); (try clear hk); (try clear hi)) | (go_at_call 13; (with_reducible refine (crc_Step.calls k a0 a1 t102 _ A5.out).mono ?_); rintro e w' ⟨rfl, ⟨nd, rfl⟩⟩) | (go_at_call 14; (with_reducible refine (cracknelref04_Step.calls k (wrap64 (a0)) (wrap64 (a1)) t103 _ A6.out).mono ?_); rintro e w' ⟨rfl, ⟨nd, rfl⟩⟩))
    go_ret
    exact ⟨by first | rfl | (simp [errW_none, errW_some] <;> rfl) | (simp [*, errW_none, errW_some] <;> rfl), by repeat (first | (with_reducible first | exact HB.out | apply below_alloc | apply pw_below_drewN | apply below_drew1) | exact HB.out)⟩
  · replace c4 := Bool.eq_false_iff.mpr c4
    subst c4
    have H1 : (some false) = some r := by rw [if_neg (show ¬ (false = true) by decide)] at H; exact H
    clear H
    have H := H1
    clear H1
    obtain rfl := Option.some.inj H
    go_enter Try.func4, Try.ntmps4
    go_wp2_with (first | ((with_reducible refine gate_callee (f := 11) rfl ?_); refine goesL_ (some 5) rfl rfl Try.func11 (by kernel_rfl) rfl #[] rfl (by (try simp only [List.map_toArray, List.map_cons, List.map_nil]); first | done | rfl | (simp only [List.length_drop, List.length_take]; rfl)) ?_; (with_reducible refine (cracknellaw04_alive.calls  false _ A3.out).mono ?_); rintro e w8 ⟨rfl, hb⟩; refine ⟨_, rfl, ?_⟩; have n0_ := Aside0.mk (below_step (by repeat (first | (with_reducible first | exact HB.out | apply below_alloc | apply pw_below_drewN | apply below_drew1) | exact HB.out)) hb); clear HB; have HB := n0_; clear n0_; (try clear hb); (try clear hb2); (try clear hk); (try clear hi)))
    go_ret
    exact ⟨by first | rfl | (simp [errW_none, errW_some] <;> rfl) | (simp [*, errW_none, errW_some] <;> rfl), by repeat (first | (with_reducible first | exact HB.out | apply below_alloc | apply pw_below_drewN | apply below_drew1) | exact HB.out)⟩

/-- THE ONE PURE STATEMENT of cracknellaw04_CrcSteps: yours. -/
def cracknellaw04_CrcSteps.Pure : Prop := ∀ (a0 : Int) (a1 : Int), (Lit.int .u32 a0).wf = true → (Lit.int .u8 a1).wf = true → ∃ k, cracknellaw04_CrcSteps.f k a0 a1 = some true
theorem cracknellaw04_CrcSteps.walk (P : cracknellaw04_CrcSteps.Pure) (a0 : Int) (a1 : Int) (w : World) (w0 : (Lit.int .u32 a0).wf = true) (w1 : (Lit.int .u8 a1).wf = true) :
    Calls Try.prog 4 #[.int .u32 a0, .int .u8 a1] w fun e w' => e = .returned (.bool true) ∧ Below w.heap.size w w' := by
  obtain ⟨k, h⟩ := P a0 a1 w0 w1
  refine (cracknellaw04_CrcSteps.calls k a0 a1 true w h).mono ?_
  rintro e w' ⟨rfl, hd⟩
  exact ⟨rfl, hd⟩

end Go.Proofs.Ytgpbdfkhpkijcaa.QCrcSteps
