-- written for this claim by pr.py of the session (the printer's text with hand-proved callees). Not trusted: Lean checks it.
import Derived.Test.YthhmmaihbjhhgaaDoorQ1x0
import Derived.Test.YthhmmaihbjhhgaaDoorQ1x4
namespace Go.Proofs.YthhmmaihbjhhgaaDoor.Q1
open Go.Proofs.YthhmmaihbjhhgaaDoor.Giv Go.Proofs.YthhmmaihbjhhgaaDoor.U1 Go.RowKit Go.Proofs.YthhmmaihbjhhgaaDoorW.PrintWords Go.Proofs.YthhmmaihbjhhgaaDoorW.PrintLast Go.Proofs.YthhmmaihbjhhgaaDoorW.PrintMore
attribute [local go_sem] max2_int min2_int max_two min_two max_three min_three max_four min_four   -- for this text's walks alone
set_option linter.unusedVariables false
set_option linter.unusedSimpArgs false

/-! ### cracknelref07_Piece: function 62 -/
def cracknelref07_Piece.f (k : Nat) (a0 : ByteArray) (a1 : Int) : Option (ByteArray × Int × Int) := if a1 ≥ (a0.size : Int) then (some ((⟨#[]⟩ : ByteArray), 0, 71)) else (if 0 ≤ a1 then (if a1 < (a0.size : Int) then (if (bt a0 a1) < 32 then (some ((⟨#[]⟩ : ByteArray), 0, 72)) else (if (bt a0 a1) = 92 then ((cracknelref07_escape.f k a0 a1).bind fun bt162 => (if bt162.2 = 0 then (some ((⟨#[]⟩ : ByteArray), 0, 73)) else ((cracknelref05_Put.f bt162.1).bind fun bt164 => (some (bt164.1, bt162.2, 0))))) else (if a1 ≤ (a0.size : Int) then ((cracknelref05_Take.f k (a0.extract (a1 : Int).toNat a0.size)).bind fun bt166 => (if bt166.2.2 = true then (if a1 ≤ (wrap64 (a1 + bt166.2.1)) then (if (wrap64 (a1 + bt166.2.1)) ≤ (a0.size : Int) then (some (a0.extract (a1 : Int).toNat ((wrap64 (a1 + bt166.2.1)) : Int).toNat, bt166.2.1, 0)) else (none)) else (none)) else (some ((⟨#[]⟩ : ByteArray), 0, 74)))) else (none)))) else (none)) else (none))
theorem cracknelref07_Piece.mono : ∀ a0 a1 k, LeO (cracknelref07_Piece.f k a0 a1) (cracknelref07_Piece.f (k + 1) a0 a1) := by
  intro a0 a1 k
  unfold cracknelref07_Piece.f
  repeat' first
      | (with_reducible exact cracknelref05_Take.mono _ _)
      | (with_reducible exact cracknelref07_escape.mono _ _ _)
      | (with_reducible exact LeO.refl _)
      | (with_reducible exact LeO.none _)
      | (with_reducible refine LeO.ite ?_ ?_)
      | (with_reducible refine LeO.bind ?_ (fun _ => ?_))
      | exact cracknelref05_Take.mono _ _
      | exact cracknelref07_escape.mono _ _ _
      | exact LeO.none _
      | refine LeO.ite ?_ ?_
      | refine LeO.bind ?_ (fun _ => ?_)
set_option maxHeartbeats 8000000 in
set_option maxRecDepth 100000 in
theorem cracknelref07_Piece.calls (k : Nat) (a0 : ByteArray) (a1 : Int) (r1 : ByteArray) (r2 : Int) (r3 : Int) (w : World) (h : cracknelref07_Piece.f k a0 a1 = some (r1, r2, r3)) :
    Calls Tryd.prog 62 #[.string a0, .int .i64 a1] w fun e w' => e = .returned (.tuple #[.string r1, .int .i64 r2, .int .i64 r3]) ∧ Below w.heap.size w w' := by
  have HB := Aside0.mk (Below.refl w.heap.size w)
  have H : (if a1 ≥ (a0.size : Int) then (some ((⟨#[]⟩ : ByteArray), 0, 71)) else (if 0 ≤ a1 then (if a1 < (a0.size : Int) then (if (bt a0 a1) < 32 then (some ((⟨#[]⟩ : ByteArray), 0, 72)) else (if (bt a0 a1) = 92 then ((cracknelref07_escape.f k a0 a1).bind fun bt162 => (if bt162.2 = 0 then (some ((⟨#[]⟩ : ByteArray), 0, 73)) else ((cracknelref05_Put.f bt162.1).bind fun bt164 => (some (bt164.1, bt162.2, 0))))) else (if a1 ≤ (a0.size : Int) then ((cracknelref05_Take.f k (a0.extract (a1 : Int).toNat a0.size)).bind fun bt166 => (if bt166.2.2 = true then (if a1 ≤ (wrap64 (a1 + bt166.2.1)) then (if (wrap64 (a1 + bt166.2.1)) ≤ (a0.size : Int) then (some (a0.extract (a1 : Int).toNat ((wrap64 (a1 + bt166.2.1)) : Int).toNat, bt166.2.1, 0)) else (none)) else (none)) else (some ((⟨#[]⟩ : ByteArray), 0, 74)))) else (none)))) else (none)) else (none))) = some (r1, r2, r3) := h
  clear h
  by_cases c3 : a1 ≥ (a0.size : Int)
  · rw [if_pos c3] at H
    have c3b0 : decide ((a0.size : Int) ≤ a1) = true := decide_eq_true c3
    clear c3
    simp only [Option.some.injEq, Prod.mk.injEq] at H
    obtain ⟨rfl, rfl, rfl⟩ := H
    go_enter Tryd.func62, Tryd.ntmps62
    go_wp2
    go_ret3
    exact ⟨by first | rfl | (simp [errW_none, errW_some] <;> rfl) | (simp [*, errW_none, errW_some] <;> rfl), by repeat (first | (with_reducible first | exact HB.out | apply below_alloc | apply pw_below_drewN | apply below_drew1) | exact HB.out)⟩
  · rw [if_neg c3] at H
    have c3b0 : decide ((a0.size : Int) ≤ a1) = false := decide_eq_false c3
    clear c3
    by_cases c4 : 0 ≤ a1
    · rw [if_pos c4] at H
      have c4b0 : decide (0 ≤ a1) = true := decide_eq_true c4
      clear c4
      by_cases c5 : a1 < (a0.size : Int)
      · rw [if_pos c5] at H
        have c5b0 : decide (a1 < (a0.size : Int)) = true := decide_eq_true c5
        clear c5
        by_cases c7 : (bt a0 a1) < 32
        · rw [if_pos c7] at H
          have c7b0 : decide ((bt a0 a1) < 32) = true := decide_eq_true c7
          clear c7
          simp only [Option.some.injEq, Prod.mk.injEq] at H
          obtain ⟨rfl, rfl, rfl⟩ := H
          have p6 : 0 ≤ (a1 : Int) := of_decide_eq_true (by first | (with_reducible assumption) | assumption)
          have q6 : a1 < (a0.size : Int) := of_decide_eq_true (by first | (with_reducible assumption) | assumption)
          have hx6 := bt_at a0 a1
          replace p6 := eq_true p6
          replace q6 := eq_true q6
          go_enter Tryd.func62, Tryd.ntmps62
          go_wp2
          go_ret3
          exact ⟨by first | rfl | (simp [errW_none, errW_some] <;> rfl) | (simp [*, errW_none, errW_some] <;> rfl), by repeat (first | (with_reducible first | exact HB.out | apply below_alloc | apply pw_below_drewN | apply below_drew1) | exact HB.out)⟩
        · rw [if_neg c7] at H
          have c7b0 : decide ((bt a0 a1) < 32) = false := decide_eq_false c7
          clear c7
          by_cases c9 : (bt a0 a1) = 92
          · rw [if_pos c9] at H
            have c9b0 : ((bt a0 a1) == 92) = true := beq_iff_eq.mpr c9
            have c9b1 : ((bt a0 a1) != 92) = false := bne_eq_false_iff_eq.mpr c9
            clear c9
            replace H := Option.bind_eq_some_iff.mp H
            obtain ⟨⟨t162, t163⟩, A100, H⟩ := H
            replace H : (if t163 = 0 then (some ((⟨#[]⟩ : ByteArray), 0, 73)) else ((cracknelref05_Put.f t162).bind fun bt164 => (some (bt164.1, t163, 0)))) = some (r1, r2, r3) := H
            have A10 := Aside0.mk A100
            clear A100
            by_cases c11 : t163 = 0
            · rw [if_pos c11] at H
              have c11b0 : (t163 == 0) = true := beq_iff_eq.mpr c11
              have c11b1 : (t163 != 0) = false := bne_eq_false_iff_eq.mpr c11
              clear c11
              simp only [Option.some.injEq, Prod.mk.injEq] at H
              obtain ⟨rfl, rfl, rfl⟩ := H
              have p6 : 0 ≤ (a1 : Int) := of_decide_eq_true (by first | (with_reducible assumption) | assumption)
              have q6 : a1 < (a0.size : Int) := of_decide_eq_true (by first | (with_reducible assumption) | assumption)
              have hx6 := bt_at a0 a1
              replace p6 := eq_true p6
              replace q6 := eq_true q6
              have p8 : 0 ≤ (a1 : Int) := of_decide_eq_true (by first | (with_reducible assumption) | assumption)
              have q8 : a1 < (a0.size : Int) := of_decide_eq_true (by first | (with_reducible assumption) | assumption)
              have hx8 := bt_at a0 a1
              replace p8 := eq_true p8
              replace q8 := eq_true q8
              go_enter Tryd.func62, Tryd.ntmps62
              go_wp2_with (first | ((with_reducible refine gate_callee (f := 85) rfl ?_); refine goesL_ (some 29) rfl rfl Tryd.func85 (by kernel_rfl) rfl #[.string a0, .int .i64 a1] rfl (by (try simp only [List.map_toArray, List.map_cons, List.map_nil]); first | done | rfl | (simp only [List.length_drop, List.length_take]; rfl)) ?_; (with_reducible refine (cracknelref07_escape.calls k a0 a1 t162 t163 _ A10.out).mono ?_); rintro e w' ⟨rfl, ⟨nd, rfl⟩⟩; refine ⟨_, rfl, ?_⟩))
              go_ret3
              exact ⟨by first | rfl | (simp [errW_none, errW_some] <;> rfl) | (simp [*, errW_none, errW_some] <;> rfl), by repeat (first | (with_reducible first | exact HB.out | apply below_alloc | apply pw_below_drewN | apply below_drew1) | exact HB.out)⟩
            · rw [if_neg c11] at H
              have c11b0 : (t163 == 0) = false := beq_eq_false_iff_ne.mpr c11
              have c11b1 : (t163 != 0) = true := bne_iff_ne.mpr c11
              replace H := Option.bind_eq_some_iff.mp H
              obtain ⟨⟨t164, t165⟩, A120, H⟩ := H
              replace H : (some (t164, t163, 0)) = some (r1, r2, r3) := H
              have A12 := Aside0.mk A120
              clear A120
              simp only [Option.some.injEq, Prod.mk.injEq] at H
              obtain ⟨rfl, rfl, rfl⟩ := H
              have p6 : 0 ≤ (a1 : Int) := of_decide_eq_true (by first | (with_reducible assumption) | assumption)
              have q6 : a1 < (a0.size : Int) := of_decide_eq_true (by first | (with_reducible assumption) | assumption)
              have hx6 := bt_at a0 a1
              replace p6 := eq_true p6
              replace q6 := eq_true q6
              have p8 : 0 ≤ (a1 : Int) := of_decide_eq_true (by first | (with_reducible assumption) | assumption)
              have q8 : a1 < (a0.size : Int) := of_decide_eq_true (by first | (with_reducible assumption) | assumption)
              have hx8 := bt_at a0 a1
              replace p8 := eq_true p8
              replace q8 := eq_true q8
              go_enter Tryd.func62, Tryd.ntmps62
              go_wp2_with (first | ((with_reducible refine gate_callee (f := 85) rfl ?_); refine goesL_ (some 29) rfl rfl Tryd.func85 (by kernel_rfl) rfl #[.string a0, .int .i64 a1] rfl (by (try simp only [List.map_toArray, List.map_cons, List.map_nil]); first | done | rfl | (simp only [List.length_drop, List.length_take]; rfl)) ?_; (with_reducible refine (cracknelref07_escape.calls k a0 a1 t162 t163 _ A10.out).mono ?_); rintro e w' ⟨rfl, ⟨nd, rfl⟩⟩; refine ⟨_, rfl, ?_⟩) | ((with_reducible refine gate_callee (f := 22) rfl ?_); refine goesL_ (some 36) rfl rfl Tryd.func22 (by kernel_rfl) rfl #[.int .i64 t162] rfl (by (try simp only [List.map_toArray, List.map_cons, List.map_nil]); first | done | rfl | (simp only [List.length_drop, List.length_take]; rfl)) ?_; (with_reducible refine (cracknelref05_Put.calls t162 t164 t165 _ A12.out).mono ?_); rintro e w13 ⟨rfl, hb⟩; refine ⟨_, rfl, ?_⟩; have n0_ := Aside0.mk (below_step (by repeat (first | (with_reducible first | exact HB.out | apply below_alloc | apply pw_below_drewN | apply below_drew1) | exact HB.out)) hb); clear HB; have HB := n0_; clear n0_; (try clear hb); (try clear hb2); (try clear hk); (try clear hi)))
              go_ret3
              exact ⟨by first | rfl | (simp [errW_none, errW_some] <;> rfl) | (simp [*, errW_none, errW_some] <;> rfl), by repeat (first | (with_reducible first | exact HB.out | apply below_alloc | apply pw_below_drewN | apply below_drew1) | exact HB.out)⟩
          · rw [if_neg c9] at H
            have c9b0 : ((bt a0 a1) == 92) = false := beq_eq_false_iff_ne.mpr c9
            have c9b1 : ((bt a0 a1) != 92) = true := bne_iff_ne.mpr c9
            have c14b0 := eq_true (of_decide_eq_true (by first | (with_reducible assumption) | assumption) : 0 ≤ a1)
            by_cases c15 : a1 ≤ (a0.size : Int)
            · rw [if_pos c15] at H
              have c15b0 := eq_true c15
              have c15b1 : decide (a1 ≤ (a0.size : Int)) = true := decide_eq_true c15
              clear c15
              replace H := Option.bind_eq_some_iff.mp H
              obtain ⟨⟨t166, t167, t168⟩, A160, H⟩ := H
              replace H : (if t168 = true then (if a1 ≤ (wrap64 (a1 + t167)) then (if (wrap64 (a1 + t167)) ≤ (a0.size : Int) then (some (a0.extract (a1 : Int).toNat ((wrap64 (a1 + t167)) : Int).toNat, t167, 0)) else (none)) else (none)) else (some ((⟨#[]⟩ : ByteArray), 0, 74))) = some (r1, r2, r3) := H
              have A16 := Aside0.mk A160
              clear A160
              by_cases c17 : t168 = true
              · subst c17
                have H1 : (if a1 ≤ (wrap64 (a1 + t167)) then (if (wrap64 (a1 + t167)) ≤ (a0.size : Int) then (some (a0.extract (a1 : Int).toNat ((wrap64 (a1 + t167)) : Int).toNat, t167, 0)) else (none)) else (none)) = some (r1, r2, r3) := by rw [if_pos rfl] at H; exact H
                clear H
                have H := H1
                clear H1
                have c18b0 := eq_true (of_decide_eq_true (by first | (with_reducible assumption) | assumption) : 0 ≤ a1)
                by_cases c19 : a1 ≤ (wrap64 (a1 + t167))
                · rw [if_pos c19] at H
                  have c19b0 := eq_true c19
                  have c19b1 : decide (a1 ≤ (wrap64 (a1 + t167))) = true := decide_eq_true c19
                  by_cases c20 : (wrap64 (a1 + t167)) ≤ (a0.size : Int)
                  · rw [if_pos c20] at H
                    have c20b0 := eq_true c20
                    have c20b1 : decide ((wrap64 (a1 + t167)) ≤ (a0.size : Int)) = true := decide_eq_true c20
                    simp only [Option.some.injEq, Prod.mk.injEq] at H
                    obtain ⟨rfl, rfl, rfl⟩ := H
                    have p6 : 0 ≤ (a1 : Int) := of_decide_eq_true (by first | (with_reducible assumption) | assumption)
                    have q6 : a1 < (a0.size : Int) := of_decide_eq_true (by first | (with_reducible assumption) | assumption)
                    have hx6 := bt_at a0 a1
                    replace p6 := eq_true p6
                    replace q6 := eq_true q6
                    have p8 : 0 ≤ (a1 : Int) := of_decide_eq_true (by first | (with_reducible assumption) | assumption)
                    have q8 : a1 < (a0.size : Int) := of_decide_eq_true (by first | (with_reducible assumption) | assumption)
                    have hx8 := bt_at a0 a1
                    replace p8 := eq_true p8
                    replace q8 := eq_true q8
                    go_enter Tryd.func62, Tryd.ntmps62
                    go_wp2_with (first | ((with_reducible refine gate_callee (f := 25) rfl ?_); refine goesL_ (some 45) rfl rfl Tryd.func25 (by kernel_rfl) rfl #[.string (a0.extract (a1 : Int).toNat a0.size)] rfl (by (try simp only [List.map_toArray, List.map_cons, List.map_nil]); first | done | rfl | (simp only [List.length_drop, List.length_take]; rfl)) ?_; (with_reducible refine (cracknelref05_Take.calls k (a0.extract (a1 : Int).toNat a0.size) t166 t167 true _ A16.out).mono ?_); rintro e w21 ⟨rfl, hb⟩; refine ⟨_, rfl, ?_⟩; have n0_ := Aside0.mk (below_step (by repeat (first | (with_reducible first | exact HB.out | apply below_alloc | apply pw_below_drewN | apply below_drew1) | exact HB.out)) hb); clear HB; have HB := n0_; clear n0_; (try clear hb); (try clear hb2); (try clear hk); (try clear hi)))
                    go_ret3
                    exact ⟨by first | rfl | (simp [errW_none, errW_some] <;> rfl) | (simp [*, errW_none, errW_some] <;> rfl), by repeat (first | (with_reducible first | exact HB.out | apply below_alloc | apply pw_below_drewN | apply below_drew1) | exact HB.out)⟩
                  · rw [if_neg c20] at H
                    exact absurd H (by simp)
                · rw [if_neg c19] at H
                  exact absurd H (by simp)
              · replace c17 := Bool.eq_false_iff.mpr c17
                subst c17
                have H1 : (some ((⟨#[]⟩ : ByteArray), 0, 74)) = some (r1, r2, r3) := by rw [if_neg (show ¬ (false = true) by decide)] at H; exact H
                clear H
                have H := H1
                clear H1
                simp only [Option.some.injEq, Prod.mk.injEq] at H
                obtain ⟨rfl, rfl, rfl⟩ := H
                have p6 : 0 ≤ (a1 : Int) := of_decide_eq_true (by first | (with_reducible assumption) | assumption)
                have q6 : a1 < (a0.size : Int) := of_decide_eq_true (by first | (with_reducible assumption) | assumption)
                have hx6 := bt_at a0 a1
                replace p6 := eq_true p6
                replace q6 := eq_true q6
                have p8 : 0 ≤ (a1 : Int) := of_decide_eq_true (by first | (with_reducible assumption) | assumption)
                have q8 : a1 < (a0.size : Int) := of_decide_eq_true (by first | (with_reducible assumption) | assumption)
                have hx8 := bt_at a0 a1
                replace p8 := eq_true p8
                replace q8 := eq_true q8
                go_enter Tryd.func62, Tryd.ntmps62
                go_wp2_with (first | ((with_reducible refine gate_callee (f := 25) rfl ?_); refine goesL_ (some 45) rfl rfl Tryd.func25 (by kernel_rfl) rfl #[.string (a0.extract (a1 : Int).toNat a0.size)] rfl (by (try simp only [List.map_toArray, List.map_cons, List.map_nil]); first | done | rfl | (simp only [List.length_drop, List.length_take]; rfl)) ?_; (with_reducible refine (cracknelref05_Take.calls k (a0.extract (a1 : Int).toNat a0.size) t166 t167 false _ A16.out).mono ?_); rintro e w22 ⟨rfl, hb⟩; refine ⟨_, rfl, ?_⟩; have n0_ := Aside0.mk (below_step (by repeat (first | (with_reducible first | exact HB.out | apply below_alloc | apply pw_below_drewN | apply below_drew1) | exact HB.out)) hb); clear HB; have HB := n0_; clear n0_; (try clear hb); (try clear hb2); (try clear hk); (try clear hi)))
                go_ret3
                exact ⟨by first | rfl | (simp [errW_none, errW_some] <;> rfl) | (simp [*, errW_none, errW_some] <;> rfl), by repeat (first | (with_reducible first | exact HB.out | apply below_alloc | apply pw_below_drewN | apply below_drew1) | exact HB.out)⟩
            · rw [if_neg c15] at H
              exact absurd H (by simp)
      · rw [if_neg c5] at H
        exact absurd H (by simp)
    · rw [if_neg c4] at H
      exact absurd H (by simp)

/-! ### cracknelref07_Read: function 36 -/
mutual
def cracknelref07_Read.j0 : Nat → ByteArray → Bool → Option (ByteArray × Int × Int)
  | 0, _, _ => none
  | k + 1, x0, x17 => if x17 = true then (some ((⟨#[]⟩ : ByteArray), 0, 70)) else (cracknelref07_Read.l0 k x0 (⟨#[]⟩ : ByteArray) 1)
def cracknelref07_Read.l0 : Nat → ByteArray → ByteArray → Int → Option (ByteArray × Int × Int)
  | 0, _, _, _ => none
  | k + 1, x0, x5, x6 => if x6 ≥ (x0.size : Int) then (cracknelref07_Read.j2 k x0 x5 x6 true) else (if 0 ≤ x6 then (if x6 < (x0.size : Int) then (cracknelref07_Read.j2 k x0 x5 x6 ((bt x0 x6) != 34)) else (none)) else (none))
def cracknelref07_Read.j2 : Nat → ByteArray → ByteArray → Int → Bool → Option (ByteArray × Int × Int)
  | 0, _, _, _, _ => none
  | k + 1, x0, x5, x6, x27 => if x27 = true then ((cracknelref07_Piece.f k x0 x6).bind fun bt169 => (if bt169.2.2 = 0 then (if x5.size + bt169.1.size ≤ 9223372036854775807 then (cracknelref07_Read.l0 k x0 (x5 ++ bt169.1) (wrap64 (x6 + bt169.2.1))) else (none)) else (some ((⟨#[]⟩ : ByteArray), 0, bt169.2.2)))) else (some (x5, wrap64 (x6 + 1), 0))
end
def cracknelref07_Read.f (k : Nat) (a0 : ByteArray) : Option (ByteArray × Int × Int) := if (a0.size : Int) = 0 then (cracknelref07_Read.j0 k a0 true) else (if 0 < (a0.size : Int) then (cracknelref07_Read.j0 k a0 ((bt a0 0) != 34)) else (none))
theorem cracknelref07_Read.mono_l : ∀ k, (∀ y0 y1, LeO (cracknelref07_Read.j0 k y0 y1) (cracknelref07_Read.j0 (k + 1) y0 y1)) ∧ (∀ y0 y1 y2, LeO (cracknelref07_Read.l0 k y0 y1 y2) (cracknelref07_Read.l0 (k + 1) y0 y1 y2)) ∧ (∀ y0 y1 y2 y3, LeO (cracknelref07_Read.j2 k y0 y1 y2 y3) (cracknelref07_Read.j2 (k + 1) y0 y1 y2 y3))
  | 0 => ⟨fun _ _ r h => by simp [cracknelref07_Read.j0] at h, fun _ _ _ r h => by simp [cracknelref07_Read.l0] at h, fun _ _ _ _ r h => by simp [cracknelref07_Read.j2] at h⟩
  | k + 1 => by
    obtain ⟨ih0, ih1, ih2⟩ := cracknelref07_Read.mono_l k
    refine ⟨?_, ?_, ?_⟩
    · intro y0 y1
      unfold cracknelref07_Read.j0
      repeat' first
      | (with_reducible exact ih0 _ _)
      | (with_reducible exact ih1 _ _ _)
      | (with_reducible exact ih2 _ _ _ _)
      | (with_reducible exact cracknelref07_Piece.mono _ _ _)
      | (with_reducible exact LeO.refl _)
      | (with_reducible exact LeO.none _)
      | (with_reducible refine LeO.ite ?_ ?_)
      | (with_reducible refine LeO.bind ?_ (fun _ => ?_))
      | exact ih0 _ _
      | exact ih1 _ _ _
      | exact ih2 _ _ _ _
      | exact cracknelref07_Piece.mono _ _ _
      | exact LeO.none _
      | refine LeO.ite ?_ ?_
      | refine LeO.bind ?_ (fun _ => ?_)
    · intro y0 y1 y2
      unfold cracknelref07_Read.l0
      repeat' first
      | (with_reducible exact ih0 _ _)
      | (with_reducible exact ih1 _ _ _)
      | (with_reducible exact ih2 _ _ _ _)
      | (with_reducible exact cracknelref07_Piece.mono _ _ _)
      | (with_reducible exact LeO.refl _)
      | (with_reducible exact LeO.none _)
      | (with_reducible refine LeO.ite ?_ ?_)
      | (with_reducible refine LeO.bind ?_ (fun _ => ?_))
      | exact ih0 _ _
      | exact ih1 _ _ _
      | exact ih2 _ _ _ _
      | exact cracknelref07_Piece.mono _ _ _
      | exact LeO.none _
      | refine LeO.ite ?_ ?_
      | refine LeO.bind ?_ (fun _ => ?_)
    · intro y0 y1 y2 y3
      unfold cracknelref07_Read.j2
      repeat' first
      | (with_reducible exact ih0 _ _)
      | (with_reducible exact ih1 _ _ _)
      | (with_reducible exact ih2 _ _ _ _)
      | (with_reducible exact cracknelref07_Piece.mono _ _ _)
      | (with_reducible exact LeO.refl _)
      | (with_reducible exact LeO.none _)
      | (with_reducible refine LeO.ite ?_ ?_)
      | (with_reducible refine LeO.bind ?_ (fun _ => ?_))
      | exact ih0 _ _
      | exact ih1 _ _ _
      | exact ih2 _ _ _ _
      | exact cracknelref07_Piece.mono _ _ _
      | exact LeO.none _
      | refine LeO.ite ?_ ?_
      | refine LeO.bind ?_ (fun _ => ?_)
theorem cracknelref07_Read.mono : ∀ a0 k, LeO (cracknelref07_Read.f k a0) (cracknelref07_Read.f (k + 1) a0) := by
  intro a0 k
  obtain ⟨ih0, ih1, ih2⟩ := cracknelref07_Read.mono_l k
  unfold cracknelref07_Read.f
  repeat' first
      | (with_reducible exact ih0 _ _)
      | (with_reducible exact ih1 _ _ _)
      | (with_reducible exact ih2 _ _ _ _)
      | (with_reducible exact cracknelref07_Piece.mono _ _ _)
      | (with_reducible exact LeO.refl _)
      | (with_reducible exact LeO.none _)
      | (with_reducible refine LeO.ite ?_ ?_)
      | (with_reducible refine LeO.bind ?_ (fun _ => ?_))
      | exact ih0 _ _
      | exact ih1 _ _ _
      | exact ih2 _ _ _ _
      | exact cracknelref07_Piece.mono _ _ _
      | exact LeO.none _
      | refine LeO.ite ?_ ?_
      | refine LeO.bind ?_ (fun _ => ?_)
set_option maxHeartbeats 8000000 in
set_option maxRecDepth 100000 in
theorem cracknelref07_Read.calls (k : Nat) (a0 : ByteArray) (r1 : ByteArray) (r2 : Int) (r3 : Int) (w : World) (h : cracknelref07_Read.f k a0 = some (r1, r2, r3)) :
    Calls Tryd.prog 36 #[.string a0] w fun e w' => e = .returned (.tuple #[.string r1, .int .i64 r2, .int .i64 r3]) ∧ Below w.heap.size w w' := by
  have HB := Aside0.mk (Below.refl w.heap.size w)
  have H : (if (a0.size : Int) = 0 then (cracknelref07_Read.j0 k a0 true) else (if 0 < (a0.size : Int) then (cracknelref07_Read.j0 k a0 ((bt a0 0) != 34)) else (none))) = some (r1, r2, r3) := h
  clear h
  have HC2 := Aside0.mk H
  clear H
  go_enter Tryd.func36, Tryd.ntmps36
  go_upto_region 1 with (fail)
  go_cut [17] (fun v17 wc => ∃ (kq : Nat) (x17_1 : Bool), v17 = .bool x17_1 ∧ Aside0 (cracknelref07_Read.j0 kq a0 x17_1 = some (r1, r2, r3)) ∧ Aside0 (kq ≤ k) ∧ Aside0 (Below w.heap.size w wc))
  case first =>
    have H := HC2.out
    clear HC2
    by_cases c3 : (a0.size : Int) = 0
    · rw [if_pos c3] at H
      have c3b0 : ((a0.size : Int) == 0) = true := beq_iff_eq.mpr c3
      have c3b1 : ((a0.size : Int) != 0) = false := bne_eq_false_iff_eq.mpr c3
      clear c3
      (first | rw [c3b0] | (simp only [i64_w, i32_w]; rw [c3b0]) | skip)
      have H' := Aside0.mk H
      clear H
      go_wp2
      go_meet
      case rel => exact ⟨_, (true), (by first | rfl | (simp; done) | (simp [*]; done)), H', ⟨by first | omega | exact Nat.le_refl _⟩, ⟨by repeat (first | (with_reducible first | exact HB.out | apply below_alloc | apply pw_below_drewN | apply below_drew1) | exact HB.out)⟩⟩
    · rw [if_neg c3] at H
      have c3b0 : ((a0.size : Int) == 0) = false := beq_eq_false_iff_ne.mpr c3
      have c3b1 : ((a0.size : Int) != 0) = true := bne_iff_ne.mpr c3
      (first | rw [c3b0] | (simp only [i64_w, i32_w]; rw [c3b0]) | skip)
      by_cases c4 : 0 < (a0.size : Int)
      · rw [if_pos c4] at H
        have c4b0 : decide (0 < (a0.size : Int)) = true := decide_eq_true c4
        have c4b1 : decide (0 < a0.size) = true := decide_eq_true (by omega)
        clear c4
        have H' := Aside0.mk H
        clear H
        have p5 : 0 ≤ (0 : Int) := (by omega)
        have q5 : 0 < a0.size := (by have : (0 : Int) < (a0.size : Int) := of_decide_eq_true (by first | (with_reducible assumption) | assumption); omega)
        have hx5 : ∀ h : 0 < a0.size, ((a0[0]'h).toNat : Int) = bt a0 0 := bt_at a0 0
        clear p5
        have qi5 : (0 < (a0.size : Int)) = True := eq_true (of_decide_eq_true (by first | (with_reducible assumption) | assumption))
        replace q5 := eq_true q5
        go_wp2
        go_meet
        case rel => exact ⟨_, (((bt a0 0) != 34)), (by first | rfl | (simp; done) | (simp [*]; done)), H', ⟨by first | omega | exact Nat.le_refl _⟩, ⟨by repeat (first | (with_reducible first | exact HB.out | apply below_alloc | apply pw_below_drewN | apply below_drew1) | exact HB.out)⟩⟩
      · rw [if_neg c4] at H
        exact absurd H (by simp)
  case rest =>
    clear HC2
    try clear p2
    try clear c3
    try clear c3b0
    try clear c3b1
    try clear c4
    try clear c4b0
    try clear c4b1
    try clear p5
    try clear q5
    try clear hx5
    try clear qi5
    try clear p5
    try clear q5
    obtain ⟨kq, x17_1, rfl, HA, HJ1, HB⟩ := hcut
    cases kq with
    | zero => exact absurd HA.out (by simp [cracknelref07_Read.j0])
    | succ kj1 =>
      have H := HA.out
      clear HA
      simp only [cracknelref07_Read.j0] at H
      by_cases c6 : x17_1 = true
      · subst c6
        have H1 : (some ((⟨#[]⟩ : ByteArray), 0, 70)) = some (r1, r2, r3) := by rw [if_pos rfl] at H; exact H
        clear H
        have H := H1
        clear H1
        simp only [Option.some.injEq, Prod.mk.injEq] at H
        obtain ⟨rfl, rfl, rfl⟩ := H
        go_wp2
        go_ret3
        exact ⟨by first | rfl | (simp [errW_none, errW_some] <;> rfl) | (simp [*, errW_none, errW_some] <;> rfl), by repeat (first | (with_reducible first | exact HB.out | apply below_alloc | apply pw_below_drewN | apply below_drew1) | exact HB.out)⟩
      · replace c6 := Bool.eq_false_iff.mpr c6
        subst c6
        have H1 : (cracknelref07_Read.l0 kj1 a0 (⟨#[]⟩ : ByteArray) 1) = some (r1, r2, r3) := by rw [if_neg (show ¬ (false = true) by decide)] at H; exact H
        clear H
        have H := H1
        clear H1
        have H' := Aside0.mk H
        clear H
        go_wp2
        go_loopg [5, 6] kj1 (fun kq v5 v6 w' => ∃ (x5_2 : ByteArray) (x6_2 : Int), v5 = .string x5_2 ∧ v6 = .int .i64 x6_2 ∧ Aside0 (cracknelref07_Read.l0 kq a0 x5_2 x6_2 = some (r1, r2, r3)) ∧ Aside0 (kq ≤ kj1) ∧ Aside0 (Below w.heap.size w w'))
        case atStart => exact ⟨((⟨#[]⟩ : ByteArray)), (1), (by first | rfl | (simp; done) | (simp [*]; done)), (by first | rfl | (simp; done) | (simp [*]; done)), H', ⟨Nat.le_refl _⟩, ⟨by repeat (first | (with_reducible first | exact HB.out | apply below_alloc | apply pw_below_drewN | apply below_drew1) | exact HB.out)⟩⟩
        case round =>
          clear H'
          try clear p2
          try clear c3
          try clear c3b0
          try clear c3b1
          try clear c4
          try clear c4b0
          try clear c4b1
          try clear p5
          try clear q5
          try clear hx5
          try clear qi5
          try clear c6
          try clear p2
          try clear p5
          try clear q5
          obtain ⟨x5_2, x6_2, rfl, rfl, HA, HK2, HB⟩ := hrel
          cases gk with
          | zero => exact absurd HA.out (by simp [cracknelref07_Read.l0])
          | succ k2 =>
            have H := HA.out
            clear HA
            simp only [cracknelref07_Read.l0] at H
            have HC7 := Aside0.mk H
            clear H
            go_upto_region 5 with (fail)
            go_cut [27] (fun v27 wc => ∃ (kq : Nat) (x27_6 : Bool), v27 = .bool x27_6 ∧ Aside0 (cracknelref07_Read.j2 kq a0 x5_2 x6_2 x27_6 = some (r1, r2, r3)) ∧ Aside0 (kq ≤ k2) ∧ Aside0 (Below w.heap.size w wc))
            case first =>
              have H := HC7.out
              clear HC7
              by_cases c8 : x6_2 ≥ (a0.size : Int)
              · rw [if_pos c8] at H
                have c8b0 : decide ((a0.size : Int) ≤ x6_2) = true := decide_eq_true c8
                clear c8
                (first | rw [c8b0] | (simp only [i64_w, i32_w]; rw [c8b0]) | skip)
                have H' := Aside0.mk H
                clear H
                go_wp2
                go_meet
                case rel => exact ⟨_, (true), (by first | rfl | (simp; done) | (simp [*]; done)), H', ⟨by have := HJ1.out; have := HK2.out; first | omega | exact Nat.le_refl _⟩, ⟨by repeat (first | (with_reducible first | exact HB.out | apply below_alloc | apply pw_below_drewN | apply below_drew1) | exact HB.out)⟩⟩
              · rw [if_neg c8] at H
                have c8b0 : decide ((a0.size : Int) ≤ x6_2) = false := decide_eq_false c8
                clear c8
                (first | rw [c8b0] | (simp only [i64_w, i32_w]; rw [c8b0]) | skip)
                by_cases c9 : 0 ≤ x6_2
                · rw [if_pos c9] at H
                  have c9b0 : decide (0 ≤ x6_2) = true := decide_eq_true c9
                  clear c9
                  by_cases c10 : x6_2 < (a0.size : Int)
                  · rw [if_pos c10] at H
                    have c10b0 : decide (x6_2 < (a0.size : Int)) = true := decide_eq_true c10
                    clear c10
                    have H' := Aside0.mk H
                    clear H
                    have p11 : 0 ≤ (x6_2 : Int) := of_decide_eq_true (by first | (with_reducible assumption) | assumption)
                    have q11 : x6_2 < (a0.size : Int) := of_decide_eq_true (by first | (with_reducible assumption) | assumption)
                    have hx11 := bt_at a0 x6_2
                    replace p11 := eq_true p11
                    replace q11 := eq_true q11
                    go_wp2
                    go_meet
                    case rel => exact ⟨_, (((bt a0 x6_2) != 34)), (by first | rfl | (simp; done) | (simp [*]; done)), H', ⟨by have := HJ1.out; have := HK2.out; first | omega | exact Nat.le_refl _⟩, ⟨by repeat (first | (with_reducible first | exact HB.out | apply below_alloc | apply pw_below_drewN | apply below_drew1) | exact HB.out)⟩⟩
                  · rw [if_neg c10] at H
                    exact absurd H (by simp)
                · rw [if_neg c9] at H
                  exact absurd H (by simp)
            case rest =>
              clear HC7
              try clear c1
              try clear p1
              try clear q1
              try clear hx1
              try clear p2
              try clear c3
              try clear c3b0
              try clear c3b1
              try clear c4
              try clear c4b0
              try clear c4b1
              try clear p5
              try clear q5
              try clear hx5
              try clear qi5
              try clear c6
              try clear c8
              try clear c8b0
              try clear c9
              try clear c9b0
              try clear c10
              try clear c10b0
              try clear p11
              try clear q11
              try clear hx11
              try clear p11
              try clear p2
              try clear p5
              try clear q11
              try clear q5
              obtain ⟨kq, x27_6, rfl, HA, HJ6, HB⟩ := hcut
              cases kq with
              | zero => exact absurd HA.out (by simp [cracknelref07_Read.j2])
              | succ kj6 =>
                have H := HA.out
                clear HA
                simp only [cracknelref07_Read.j2] at H
                by_cases c12 : x27_6 = true
                · subst c12
                  have H1 : ((cracknelref07_Piece.f kj6 a0 x6_2).bind fun bt169 => (if bt169.2.2 = 0 then (if x5_2.size + bt169.1.size ≤ 9223372036854775807 then (cracknelref07_Read.l0 kj6 a0 (x5_2 ++ bt169.1) (wrap64 (x6_2 + bt169.2.1))) else (none)) else (some ((⟨#[]⟩ : ByteArray), 0, bt169.2.2)))) = some (r1, r2, r3) := by rw [if_pos rfl] at H; exact H
                  clear H
                  have H := H1
                  clear H1
                  replace H := Option.bind_eq_some_iff.mp H
                  obtain ⟨⟨t169, t170, t171⟩, A130, H⟩ := H
                  replace H : (if t171 = 0 then (if x5_2.size + t169.size ≤ 9223372036854775807 then (cracknelref07_Read.l0 kj6 a0 (x5_2 ++ t169) (wrap64 (x6_2 + t170))) else (none)) else (some ((⟨#[]⟩ : ByteArray), 0, t171))) = some (r1, r2, r3) := H
                  have A13 := Aside0.mk A130
                  clear A130
                  by_cases c14 : t171 = 0
                  · rw [if_pos c14] at H
                    have c14b0 : (t171 == 0) = true := beq_iff_eq.mpr c14
                    have c14b1 : (t171 != 0) = false := bne_eq_false_iff_eq.mpr c14
                    clear c14
                    by_cases c15 : x5_2.size + t169.size ≤ 9223372036854775807
                    · rw [if_pos c15] at H
                      have c15b0 := eq_true c15
                      have c15b1 : decide (x5_2.size + t169.size ≤ 9223372036854775807) = true := decide_eq_true c15
                      try have c15b2 : (9223372036854775807 < x5_2.size + t169.size) = False := eq_false (Nat.not_lt.2 c15)
                      have H' := Aside0.mk H
                      clear H
                      go_wp2_with (first | ((with_reducible refine gate_callee (f := 62) rfl ?_); refine goesL_ (some 31) rfl rfl Tryd.func62 (by kernel_rfl) rfl #[.string a0, .int .i64 x6_2] rfl (by (try simp only [List.map_toArray, List.map_cons, List.map_nil]); first | done | rfl | (simp only [List.length_drop, List.length_take]; rfl)) ?_; (with_reducible refine (cracknelref07_Piece.calls kj6 a0 x6_2 t169 t170 t171 _ A13.out).mono ?_); rintro e w16 ⟨rfl, hb⟩; refine ⟨_, rfl, ?_⟩; have n0_ := Aside0.mk (below_step (by repeat (first | (with_reducible first | exact HB.out | apply below_alloc | apply pw_below_drewN | apply below_drew1) | exact HB.out)) hb); clear HB; have HB := n0_; clear n0_; (try clear hb); (try clear hb2); (try clear hk); (try clear hi)))
                      go_roundg kj6
                      case measure => have := HJ1.out; have := HK2.out; have := HJ6.out; omega
                      case rel => exact ⟨(x5_2 ++ t169), (wrap64 (x6_2 + t170)), (by first | rfl | (simp; done) | (simp [*]; done)), (by first | rfl | (simp; done) | (simp [*]; done)), H', ⟨by have := HJ1.out; have := HK2.out; have := HJ6.out; omega⟩, ⟨by repeat (first | (with_reducible first | exact HB.out | apply below_alloc | apply pw_below_drewN | apply below_drew1) | exact HB.out)⟩⟩
                    · rw [if_neg c15] at H
                      exact absurd H (by simp)
                  · rw [if_neg c14] at H
                    have c14b0 : (t171 == 0) = false := beq_eq_false_iff_ne.mpr c14
                    have c14b1 : (t171 != 0) = true := bne_iff_ne.mpr c14
                    simp only [Option.some.injEq, Prod.mk.injEq] at H
                    obtain ⟨rfl, rfl, rfl⟩ := H
                    go_wp2_with (first | ((with_reducible refine gate_callee (f := 62) rfl ?_); refine goesL_ (some 31) rfl rfl Tryd.func62 (by kernel_rfl) rfl #[.string a0, .int .i64 x6_2] rfl (by (try simp only [List.map_toArray, List.map_cons, List.map_nil]); first | done | rfl | (simp only [List.length_drop, List.length_take]; rfl)) ?_; (with_reducible refine (cracknelref07_Piece.calls kj6 a0 x6_2 t169 t170 t171 _ A13.out).mono ?_); rintro e w17 ⟨rfl, hb⟩; refine ⟨_, rfl, ?_⟩; have n0_ := Aside0.mk (below_step (by repeat (first | (with_reducible first | exact HB.out | apply below_alloc | apply pw_below_drewN | apply below_drew1) | exact HB.out)) hb); clear HB; have HB := n0_; clear n0_; (try clear hb); (try clear hb2); (try clear hk); (try clear hi)))
                    go_ret3
                    exact ⟨by first | rfl | (simp [errW_none, errW_some] <;> rfl) | (simp [*, errW_none, errW_some] <;> rfl), by repeat (first | (with_reducible first | exact HB.out | apply below_alloc | apply pw_below_drewN | apply below_drew1) | exact HB.out)⟩
                · replace c12 := Bool.eq_false_iff.mpr c12
                  subst c12
                  have H1 : (some (x5_2, wrap64 (x6_2 + 1), 0)) = some (r1, r2, r3) := by rw [if_neg (show ¬ (false = true) by decide)] at H; exact H
                  clear H
                  have H := H1
                  clear H1
                  simp only [Option.some.injEq, Prod.mk.injEq] at H
                  obtain ⟨rfl, rfl, rfl⟩ := H
                  go_wp2
                  go_ret3
                  exact ⟨by first | rfl | (simp [errW_none, errW_some] <;> rfl) | (simp [*, errW_none, errW_some] <;> rfl), by repeat (first | (with_reducible first | exact HB.out | apply below_alloc | apply pw_below_drewN | apply below_drew1) | exact HB.out)⟩

-- NOT PRINTED: function 10 (cracknellaw07_QuoteReads)

-- NOT PRINTED: function 11 (cracknellaw07_QuoteDigits)

-- NOT PRINTED: function 12 (cracknellaw07_QuoteCuts)

-- NOT PRINTED: function 13 (cracknellaw07_QuoteJoins)

-- NOT PRINTED: function 14 (cracknellaw07_QuoteApart)

end Go.Proofs.YthhmmaihbjhhgaaDoor.Q1
