/- What the proof of JsonDepth stands on: cut and merged by a program out of this session's texts. -/
import Derived.Test.YthhmmaihbjhhgaaDoorKB6
import Derived.WalkMore
set_option linter.unusedVariables false
set_option linter.unusedSimpArgs false
namespace Go.Proofs.YthhmmaihbjhhgaaDoor.Giv
open Go.RowKit Go.Proofs.YthhmmaihbjhhgaaDoorW.PrintWords Go.Proofs.YthhmmaihbjhhgaaDoorW.PrintLast Go.Proofs.YthhmmaihbjhhgaaDoorW.PrintMore
open Go.Proofs.YthhmmaihbjhhgaaDoor.U1 Go.Proofs.YthhmmaihbjhhgaaDoor.Q1 Go.Proofs.YthhmmaihbjhhgaaDoor.J0 Go.Proofs.YthhmmaihbjhhgaaDoor.J1
set_option linter.unusedSimpArgs false
set_option linter.unusedVariables false
set_option maxHeartbeats 4000000
set_option maxRecDepth 100000
abbrev Ret (f : Nat) (args : Array Value) (w : World) : Prop := Calls Tryd.prog f args w fun e w' => e = .returned (.bool true) ∧ Below w.heap.size w w'
theorem depth_lo (n : Int) (o : Bool) (w : World) (ht : JTabs w) (h : n < 1) : Ret 20 #[.int .i64 n, .bool o] w := by
  have HT := Aside0.mk ht
  have c1 : decide (n < 1) = true := decide_eq_true h
  clear h ht
  go_enter Tryd.func20, Tryd.ntmps20
  go_wp2_with (first
    | (go_at_call 40; with_reducible refine (cracknellaw08_alive.calls true _ rfl HT.out).mono ?_; rintro e w1 ⟨rfl, hb⟩; have HB := Aside0.mk hb))
  go_ret
  exact ⟨rfl, HB.out⟩
theorem depth_hi (n : Int) (o : Bool) (w : World) (ht : JTabs w) (h1 : ¬ n < 1) (h : 200 < n) : Ret 20 #[.int .i64 n, .bool o] w := by
  have HT := Aside0.mk ht
  have c1 : decide (n < 1) = false := decide_eq_false h1
  have c2 : decide (200 < n) = true := decide_eq_true h
  clear h h1 ht
  go_enter Tryd.func20, Tryd.ntmps20
  go_wp2_with (first
    | (go_at_call 40; with_reducible refine (cracknellaw08_alive.calls true _ rfl HT.out).mono ?_; rintro e w1 ⟨rfl, hb⟩; have HB := Aside0.mk hb))
  go_ret
  exact ⟨rfl, HB.out⟩
theorem add_at (G n : Nat) : (⟨G, 0, none⟩ : Addr).add n = ⟨G, n, none⟩ := by
  unfold Addr.add
  split
  · next h => rw [h]
  · simp
/-- too deep -/
theorem depth_no (n : Nat) (w : World) (ht : JTabs w) (h1 : 64 < n) (h2 : n ≤ 200) (k : Nat) (A B : ByteArray) (hz : A.size + B.size ≤ 4000) (hA : strings_Repeat.f ⟨#[91]⟩ (n : Int) = some A) (hB : strings_Repeat.f ⟨#[93]⟩ (n : Int) = some B)
    (hP : json_Parse.f k (A ++ B) = some ([], 81)) : Ret 20 #[.int .i64 (n : Int), .bool false] w := by
  have HT := Aside0.mk ht
  have FA := Aside0.mk hA
  have FB := Aside0.mk hB
  have FP := Aside0.mk hP
  have c1 : decide ((n : Int) < 1) = false := decide_eq_false (by omega)
  have c2 : decide (200 < (n : Int)) = false := decide_eq_false (by omega)
  have c3 : decide (64 < (n : Int)) = true := decide_eq_true (by omega)
  have c4 : decide (64 < n) = true := decide_eq_true (by omega)
  have c5 : decide (200 < n) = false := decide_eq_false (by omega)
  have q6 : (9223372036854775807 < A.size + B.size) = False := eq_false (by omega)
  have HB := Aside0.mk (Below.refl w.heap.size w)
  clear hA hB hP ht h1 h2 hz
  go_enter Tryd.func20, Tryd.ntmps20
  go_wp2_with (first
    | (go_at_call 49; with_reducible refine (strings_Repeat.calls _ _ _ _ FA.out).mono ?_; rintro e w1 ⟨rfl, hb⟩; have HB := Aside0.mk (below_step HB.out hb))
    | (go_at_call 49; with_reducible refine (strings_Repeat.calls _ _ _ _ FB.out).mono ?_; rintro e w1 ⟨rfl, hb⟩; have HB := Aside0.mk (below_step HB.out hb))
    | (go_at_call 46; (with_reducible refine (json_Parse.calls k (A ++ B) [] 81 _ FP.out (HT.out.step HB.out)).mono ?_); rintro e w1 ⟨v1, rfl, ho1, hb1⟩; have HO1 := Aside0.mk ho1; have HB := Aside0.mk (below_step HB.out hb1); clear ho1 hb1; obtain ⟨A1, c1, rfl⟩ := Kd.R_slice HO1.out)
    | (go_at_call 40; with_reducible refine (cracknellaw08_alive.calls true _ rfl (HT.out.step HB.out)).mono ?_; rintro e w1 ⟨rfl, hb⟩; have HB := Aside0.mk (below_step HB.out hb)))
  go_ret
  exact ⟨rfl, HB.out⟩
theorem depth_no_obj (n : Nat) (w : World) (ht : JTabs w) (h1 : 64 < n) (h2 : n ≤ 200) (k : Nat) (A B : ByteArray) (hz : A.size + B.size ≤ 4000) (hA : strings_Repeat.f ⟨#[91]⟩ (n : Int) = some A) (hB : strings_Repeat.f ⟨#[93]⟩ (n : Int) = some B)
    (C D : ByteArray) (hzo : C.size + D.size ≤ 4000) (hC : strings_Repeat.f ⟨#[123, 34, 34, 58]⟩ ((n : Int) - 1) = some C) (hD : strings_Repeat.f ⟨#[125]⟩ ((n : Int) - 1) = some D)
    (hP : json_Parse.f k (C ++ ⟨#[123, 125]⟩ ++ D) = some ([], 81)) : Ret 20 #[.int .i64 (n : Int), .bool true] w := by
  have HT := Aside0.mk ht
  have FA := Aside0.mk hA
  have FB := Aside0.mk hB
  have FC := Aside0.mk hC
  have FD := Aside0.mk hD
  have FP := Aside0.mk hP
  have c1 : decide ((n : Int) < 1) = false := decide_eq_false (by omega)
  have c2 : decide (200 < (n : Int)) = false := decide_eq_false (by omega)
  have c3 : decide (64 < (n : Int)) = true := decide_eq_true (by omega)
  have c4 : decide (64 < n) = true := decide_eq_true (by omega)
  have c5 : decide (200 < n) = false := decide_eq_false (by omega)
  have e0 : wrap64 ((n : Int) - 1) = (n : Int) - 1 := by unfold wrap64; omega
  have e1 : IntKind.i64.wrap ((n : Int) - 1) = (n : Int) - 1 := by rw [i64_w]; exact e0
  have q6 : (9223372036854775807 < A.size + B.size) = False := eq_false (by omega)
  have q7 : (9223372036854775807 < C.size + 2) = False := eq_false (by omega)
  have q8 : (9223372036854775807 < C.size + 2 + D.size) = False := eq_false (by omega)
  have HB := Aside0.mk (Below.refl w.heap.size w)
  clear hA hB hC hD hP ht h1 h2 hz hzo
  go_enter Tryd.func20, Tryd.ntmps20
  go_wp2_with (first
    | (go_at_call 49; with_reducible refine (strings_Repeat.calls _ _ _ _ FA.out).mono ?_; rintro e w1 ⟨rfl, hb⟩; have HB := Aside0.mk (below_step HB.out hb))
    | (go_at_call 49; with_reducible refine (strings_Repeat.calls _ _ _ _ FB.out).mono ?_; rintro e w1 ⟨rfl, hb⟩; have HB := Aside0.mk (below_step HB.out hb))
    | (go_at_call 49; with_reducible refine (strings_Repeat.calls _ _ _ _ FC.out).mono ?_; rintro e w1 ⟨rfl, hb⟩; have HB := Aside0.mk (below_step HB.out hb))
    | (go_at_call 49; with_reducible refine (strings_Repeat.calls _ _ _ _ FD.out).mono ?_; rintro e w1 ⟨rfl, hb⟩; have HB := Aside0.mk (below_step HB.out hb))
    | (go_at_call 46; (with_reducible refine (json_Parse.calls k _ [] 81 _ FP.out (HT.out.step HB.out)).mono ?_); rintro e w1 ⟨v1, rfl, ho1, hb1⟩; have HO1 := Aside0.mk ho1; have HB := Aside0.mk (below_step HB.out hb1); clear ho1 hb1; obtain ⟨A1, c1, rfl⟩ := Kd.R_slice HO1.out)
    | (go_at_call 40; with_reducible refine (cracknellaw08_alive.calls true _ rfl (HT.out.step HB.out)).mono ?_; rintro e w1 ⟨rfl, hb⟩; have HB := Aside0.mk (below_step HB.out hb)))
  go_ret
  exact ⟨rfl, HB.out⟩
theorem depth_ok (n m : Nat) (hm : n = m + 1) (w : World) (ht : JTabs w) (h1 : 1 ≤ n) (h2 : n ≤ 64) (k : Nat) (A B : ByteArray) (hz : A.size + B.size ≤ 4000) (hA : strings_Repeat.f ⟨#[91]⟩ (n : Int) = some A) (hB : strings_Repeat.f ⟨#[93]⟩ (n : Int) = some B)
     (rows : List S59) (hl : rows.length = n) (hr : (rd_T59 rows (m : Int)).f0 = (m : Int)) (hW : json_Print.f rows = some (A ++ B))
    (hP : json_Parse.f k (A ++ B) = some (rows, 0)) : Ret 20 #[.int .i64 (n : Int), .bool false] w := by
  have HT := Aside0.mk ht
  have FA := Aside0.mk hA
  have FB := Aside0.mk hB
  have FP := Aside0.mk hP
  have FW := Aside0.mk hW
  have c1 : decide ((n : Int) < 1) = false := decide_eq_false (by omega)
  have c1b : decide (n < 1) = false := decide_eq_false (by omega)
  have c1c : (n = 0) = False := eq_false (by omega)
  have c2 : decide (200 < (n : Int)) = false := decide_eq_false (by omega)
  have c3 : decide (64 < (n : Int)) = false := decide_eq_false (by omega)
  have c4 : decide (64 < n) = false := decide_eq_false (by omega)
  have c5 : decide (200 < n) = false := decide_eq_false (by omega)
  have e0 : wrap64 ((n : Int) - 1) = (m : Int) := by unfold wrap64; omega
  have e1 : IntKind.i64.wrap ((n : Int) - 1) = (m : Int) := by rw [i64_w]; exact e0
  have q6 : (9223372036854775807 < A.size + B.size) = False := eq_false (by omega)
  have q9 : (m < n) = True := eq_true (by omega)
  have q10 : ((m : Int) < (n : Int)) = True := eq_true (by omega)
  have HM := Aside0.mk hm
  have HB := Aside0.mk (Below.refl w.heap.size w)
  have HL := Aside0.mk hl
  have HR := Aside0.mk hr
  have H1 := Aside0.mk h1
  clear hA hB hP hW hl hr ht h1 h2 hz hm 
  go_enter Tryd.func20, Tryd.ntmps20
  go_upto_region 7 with (first
    | (go_at_call 49; with_reducible refine (strings_Repeat.calls _ _ _ _ FA.out).mono ?_; rintro e w1 ⟨rfl, hb⟩; have HB := Aside0.mk (below_step HB.out hb))
    | (go_at_call 49; with_reducible refine (strings_Repeat.calls _ _ _ _ FB.out).mono ?_; rintro e w1 ⟨rfl, hb⟩; have HB := Aside0.mk (below_step HB.out hb))
    | (go_at_call 46; (with_reducible refine (json_Parse.calls k _ rows 0 _ FP.out (HT.out.step HB.out)).mono ?_); rintro e w1 ⟨v1, rfl, ho1, hb1⟩; have HO1 := Aside0.mk ho1; have HB := Aside0.mk (below_step HB.out hb1); clear ho1 hb1))
  obtain ⟨G, cc, rfl, _, _, _⟩ := Kd.R_form HO1.out (by rw [HL.out]; exact H1.out)
  have hC1 := (Kd.R_reads' HO1.out).2.2
  have hcc := (Kd.R_reads' HO1.out).2.1
  rw [HL.out] at hC1 hcc
  obtain ⟨ad, hA, a0, a1, a2, a3, a4⟩ := at_T59 hC1 (m : Int) (by omega) (by have := HM.out; omega)
  injection hA with hA
  subst hA
  rw [HR.out] at a0
  simp only [Int.toNat_natCast] at a0
  rw [add_at] at a0
  have FR : Aside0 (∀ W, Below w1.heap.size w1 W → JTabs W → Calls Tryd.prog 47 #[.slice (some ⟨G, 0, none⟩) n cc] W fun e w' => e = .returned (.string (A ++ B)) ∧ Below W.heap.size W w') := ⟨fun W hb hj => by
    have := json_Print.calls (some ⟨G, 0, none⟩) cc rows _ W (by rw [HL.out]; exact Kd.C_below hC1 hb) (by rw [HL.out]; exact hcc) FW.out hj
    rw [HL.out] at this
    exact this⟩
  rw [HL.out]
  have HB1 := Aside0.mk (Below.refl w1.heap.size w1)
  clear a1 a2 a3 a4 hC1 hcc
  go_wp2_with (first
    | (go_at_call 40; with_reducible refine (cracknellaw08_alive.calls true _ rfl (HT.out.step (below_step HB.out HB1.out))).mono ?_; rintro e w2 ⟨rfl, hb⟩; have a0 := (hb.cell (World.block_lt_of_cell? _ _ a0)).trans a0; have HB1 := Aside0.mk (below_step HB1.out hb))
    | (go_at_call 47; with_reducible refine (FR.out _ HB1.out (HT.out.step (below_step HB.out HB1.out))).mono ?_; rintro e w2 ⟨rfl, hb⟩; have HB1 := Aside0.mk (below_step HB1.out hb)))
  go_ret
  exact ⟨rfl, below_step HB.out HB1.out⟩
theorem depth_ok_obj (n m : Nat) (hm : n = m + 1) (w : World) (ht : JTabs w) (h1 : 1 ≤ n) (h2 : n ≤ 64) (k : Nat) (A B : ByteArray) (hz : A.size + B.size ≤ 4000) (hA : strings_Repeat.f ⟨#[91]⟩ (n : Int) = some A) (hB : strings_Repeat.f ⟨#[93]⟩ (n : Int) = some B)
    (C D : ByteArray) (hzo : C.size + D.size ≤ 4000) (hC : strings_Repeat.f ⟨#[123, 34, 34, 58]⟩ (m : Int) = some C) (hD : strings_Repeat.f ⟨#[125]⟩ (m : Int) = some D) (rows : List S59) (hl : rows.length = n) (hr : (rd_T59 rows (m : Int)).f0 = (m : Int)) (hW : json_Print.f rows = some (C ++ ⟨#[123, 125]⟩ ++ D))
    (hP : json_Parse.f k (C ++ ⟨#[123, 125]⟩ ++ D) = some (rows, 0)) : Ret 20 #[.int .i64 (n : Int), .bool true] w := by
  have HT := Aside0.mk ht
  have FA := Aside0.mk hA
  have FB := Aside0.mk hB
  have FC := Aside0.mk hC
  have FD := Aside0.mk hD
  have q7 : (9223372036854775807 < C.size + 2) = False := eq_false (by omega)
  have q8 : (9223372036854775807 < C.size + 2 + D.size) = False := eq_false (by omega)
  have FP := Aside0.mk hP
  have FW := Aside0.mk hW
  have c1 : decide ((n : Int) < 1) = false := decide_eq_false (by omega)
  have c1b : decide (n < 1) = false := decide_eq_false (by omega)
  have c1c : (n = 0) = False := eq_false (by omega)
  have c2 : decide (200 < (n : Int)) = false := decide_eq_false (by omega)
  have c3 : decide (64 < (n : Int)) = false := decide_eq_false (by omega)
  have c4 : decide (64 < n) = false := decide_eq_false (by omega)
  have c5 : decide (200 < n) = false := decide_eq_false (by omega)
  have e0 : wrap64 ((n : Int) - 1) = (m : Int) := by unfold wrap64; omega
  have e1 : IntKind.i64.wrap ((n : Int) - 1) = (m : Int) := by rw [i64_w]; exact e0
  have q6 : (9223372036854775807 < A.size + B.size) = False := eq_false (by omega)
  have q9 : (m < n) = True := eq_true (by omega)
  have q10 : ((m : Int) < (n : Int)) = True := eq_true (by omega)
  have HM := Aside0.mk hm
  have HB := Aside0.mk (Below.refl w.heap.size w)
  have HL := Aside0.mk hl
  have HR := Aside0.mk hr
  have H1 := Aside0.mk h1
  clear hA hB hP hW hl hr ht h1 h2 hz hm hC hD hzo
  go_enter Tryd.func20, Tryd.ntmps20
  go_upto_region 7 with (first
    | (go_at_call 49; with_reducible refine (strings_Repeat.calls _ _ _ _ FA.out).mono ?_; rintro e w1 ⟨rfl, hb⟩; have HB := Aside0.mk (below_step HB.out hb))
    | (go_at_call 49; with_reducible refine (strings_Repeat.calls _ _ _ _ FB.out).mono ?_; rintro e w1 ⟨rfl, hb⟩; have HB := Aside0.mk (below_step HB.out hb))
    | (go_at_call 49; with_reducible refine (strings_Repeat.calls _ _ _ _ FC.out).mono ?_; rintro e w1 ⟨rfl, hb⟩; have HB := Aside0.mk (below_step HB.out hb))
    | (go_at_call 49; with_reducible refine (strings_Repeat.calls _ _ _ _ FD.out).mono ?_; rintro e w1 ⟨rfl, hb⟩; have HB := Aside0.mk (below_step HB.out hb))
    | (go_at_call 46; (with_reducible refine (json_Parse.calls k _ rows 0 _ FP.out (HT.out.step HB.out)).mono ?_); rintro e w1 ⟨v1, rfl, ho1, hb1⟩; have HO1 := Aside0.mk ho1; have HB := Aside0.mk (below_step HB.out hb1); clear ho1 hb1))
  obtain ⟨G, cc, rfl, _, _, _⟩ := Kd.R_form HO1.out (by rw [HL.out]; exact H1.out)
  have hC1 := (Kd.R_reads' HO1.out).2.2
  have hcc := (Kd.R_reads' HO1.out).2.1
  rw [HL.out] at hC1 hcc
  obtain ⟨ad, hA, a0, a1, a2, a3, a4⟩ := at_T59 hC1 (m : Int) (by omega) (by have := HM.out; omega)
  injection hA with hA
  subst hA
  rw [HR.out] at a0
  simp only [Int.toNat_natCast] at a0
  rw [add_at] at a0
  have FR : Aside0 (∀ W, Below w1.heap.size w1 W → JTabs W → Calls Tryd.prog 47 #[.slice (some ⟨G, 0, none⟩) n cc] W fun e w' => e = .returned (.string (C ++ ⟨#[123, 125]⟩ ++ D)) ∧ Below W.heap.size W w') := ⟨fun W hb hj => by
    have := json_Print.calls (some ⟨G, 0, none⟩) cc rows _ W (by rw [HL.out]; exact Kd.C_below hC1 hb) (by rw [HL.out]; exact hcc) FW.out hj
    rw [HL.out] at this
    exact this⟩
  rw [HL.out]
  have HB1 := Aside0.mk (Below.refl w1.heap.size w1)
  clear a1 a2 a3 a4 hC1 hcc
  go_wp2_with (first
    | (go_at_call 40; with_reducible refine (cracknellaw08_alive.calls true _ rfl (HT.out.step (below_step HB.out HB1.out))).mono ?_; rintro e w2 ⟨rfl, hb⟩; have a0 := (hb.cell (World.block_lt_of_cell? _ _ a0)).trans a0; have HB1 := Aside0.mk (below_step HB1.out hb))
    | (go_at_call 47; with_reducible refine (FR.out _ HB1.out (HT.out.step (below_step HB.out HB1.out))).mono ?_; rintro e w2 ⟨rfl, hb⟩; have HB1 := Aside0.mk (below_step HB1.out hb)))
  go_ret
  exact ⟨rfl, below_step HB.out HB1.out⟩
end Go.Proofs.YthhmmaihbjhhgaaDoor.Giv
namespace Go.Proofs.YthhmmaihbjhhgaaDoor.Giv
open Go.RowKit Go.Proofs.YthhmmaihbjhhgaaDoorW.PrintWords Go.Proofs.YthhmmaihbjhhgaaDoorW.PrintLast Go.Proofs.YthhmmaihbjhhgaaDoorW.PrintMore
open Go.Proofs.YthhmmaihbjhhgaaDoor.U1 Go.Proofs.YthhmmaihbjhhgaaDoor.Q1 Go.Proofs.YthhmmaihbjhhgaaDoor.J0 Go.Proofs.YthhmmaihbjhhgaaDoor.J1
set_option linter.unusedSimpArgs false
set_option linter.unusedVariables false
theorem cont_eq (L L' : B → Int × B × List S59) (l : B) (ob : Bool) (hL : ∀ x, (L x).1 ≠ -1 → L' x = L x) (h : (cont L l ob).1 ≠ -1) : cont L' l ob = cont L l ob := by
  unfold cont at h ⊢
  split
  · rfl
  · next c =>
    rw [if_neg c] at h
    split
    · next c2 => rw [if_pos c2] at h; exact hL _ h
    · rfl
theorem pma_eq (L L' : B → Int × B × List S59) (V V' : Int × B × List S59) (ob : Bool) (hV : V.1 ≠ -1 → V' = V) (hL : ∀ x, (L x).1 ≠ -1 → L' x = L x) (h : (pma L V ob).1 ≠ -1) : pma L' V' ob = pma L V ob := by
  have h0 := h
  unfold pma at h
  by_cases c : V.1 = 0
  · rw [if_pos c] at h
    rw [hV (by omega)]
    unfold pma
    rw [if_pos c, if_pos c, cont_eq L L' _ ob hL h]
  · rw [if_neg c] at h
    rw [hV h]
    unfold pma
    rw [if_neg c, if_neg c]
theorem p_fuel : ∀ n : Nat, (∀ l d key, (pv n l d key).1 ≠ -1 → pv (n + 1) l d key = pv n l d key) ∧ (∀ l d ob, (pms n l d ob).1 ≠ -1 → pms (n + 1) l d ob = pms n l d ob) ∧ (∀ l d ob keys, (pml n l d ob keys).1 ≠ -1 → pml (n + 1) l d ob keys = pml n l d ob keys)
  | 0 => ⟨fun l d key h => absurd (by rw [pv]) h, fun l d ob h => absurd (by rw [pms]) h, fun l d ob keys h => absurd (by rw [pml]) h⟩
  | n + 1 => by
    obtain ⟨hv, hm, hl⟩ := p_fuel n
    refine ⟨fun l d key h => ?_, fun l d ob h => ?_, fun l d ob keys h => ?_⟩
    · rw [pv] at h
      rw [pv, pv.eq_2 l d key n]
      by_cases c1 : hd l = 91
      · rw [if_pos c1] at h ⊢
        rw [if_pos c1]
        by_cases c2 : 64 ≤ d
        · rw [if_pos c2, if_pos c2]
        · rw [if_neg c2] at h ⊢
          rw [if_neg c2, hm _ _ _ h]
      · rw [if_neg c1] at h ⊢
        rw [if_neg c1]
        by_cases c2 : hd l = 123
        · rw [if_pos c2] at h ⊢
          rw [if_pos c2]
          by_cases c3 : 64 ≤ d
          · rw [if_pos c3, if_pos c3]
          · rw [if_neg c3] at h ⊢
            rw [if_neg c3, hm _ _ _ h]
        · rw [if_neg c2] at h ⊢
          rw [if_neg c2]
    · rw [pms] at h
      rw [pms, pms.eq_2 l d ob n]
      by_cases c : (tk1 l (en ob)).1 = true
      · rw [if_pos c, if_pos c]
      · rw [if_neg c] at h ⊢
        rw [if_neg c, hl _ _ _ _ h]
    · rw [pml] at h
      rw [pml, pml.eq_2 l d ob keys n]
      cases ob with
      | true =>
        rw [if_pos rfl] at h ⊢
        rw [if_pos rfl]
        by_cases c : (pk l keys).2.2 = 0
        · rw [if_pos c] at h ⊢
          rw [if_pos c]
          exact pma_eq _ _ _ _ _ (hv _ _ _) (fun x hx => hl _ _ _ _ hx) h
        · rw [if_neg c, if_neg c]
      | false =>
        rw [if_neg (by decide)] at h ⊢
        rw [if_neg (by decide)]
        exact pma_eq _ _ _ _ _ (hv _ _ _) (fun x hx => hl _ _ _ _ hx) h
theorem pv_up (n m : Nat) (l : B) (d : Nat) (key : ByteArray) (h : 3 * l.length + 1 ≤ n) (hm : n ≤ m) : pv m l d key = pv n l d key := by
  obtain ⟨j, rfl⟩ : ∃ j, m = n + j := ⟨m - n, by omega⟩
  clear hm
  induction j with
  | zero => rfl
  | succ j ih => rw [← ih]; exact (p_fuel (n + j)).1 l d key ((p_total (n + j)).1 l d key (by omega))
end Go.Proofs.YthhmmaihbjhhgaaDoor.Giv
namespace Go.Proofs.YthhmmaihbjhhgaaDoor.Giv
open Go.RowKit Go.Proofs.YthhmmaihbjhhgaaDoorW.PrintWords Go.Proofs.YthhmmaihbjhhgaaDoorW.PrintLast Go.Proofs.YthhmmaihbjhhgaaDoorW.PrintMore
open Go.Proofs.YthhmmaihbjhhgaaDoor.U1 Go.Proofs.YthhmmaihbjhhgaaDoor.Q1 Go.Proofs.YthhmmaihbjhhgaaDoor.J0 Go.Proofs.YthhmmaihbjhhgaaDoor.J1
set_option linter.unusedSimpArgs false
set_option linter.unusedVariables false
abbrev RL := Lib.repeatL
theorem repL_succ (x : B) : ∀ m, RL x m ++ x = x ++ RL x m
  | 0 => by simp [RL, Lib.repeatL]
  | m + 1 => by
    show (x ++ RL x m) ++ x = x ++ (x ++ RL x m)
    rw [List.append_assoc, repL_succ x m]
/-- one in the other: m + 1 of them -/
def nest (k : Int) : Nat → Nat → List S59
  | d, 0 => [row d k e0 e0 0]
  | d, m + 1 => row d k e0 e0 0 :: nest k (d + 1) m
theorem nest_len (k : Int) : ∀ m d, (nest k d m).length = m + 1
  | 0, d => rfl
  | m + 1, d => by rw [nest, List.length_cons, nest_len k m (d + 1)]
theorem nest_last (k : Int) : ∀ m d, (rd_T59 (nest k d m) (m : Int)).f0 = ((d + m : Nat) : Int)
  | 0, d => rfl
  | m + 1, d => by
    have h := nest_last k m (d + 1)
    unfold rd_T59 at h ⊢
    rw [Int.toNat_natCast] at h ⊢
    rw [nest, List.getD_cons_succ, h]
    omega
theorem nest_arr : ∀ m d, d + m < 64 → JV (.v d e0) (nest 6 d m) (RL [91] (m + 1) ++ RL [93] (m + 1))
  | 0, d, h => JV.arr d e0 [] [] (by omega) (JV.none _ _ _ _)
  | m + 1, d, h => by
    have hv := nest_arr m (d + 1) (by omega)
    have hm := JV.elem (d + 1) [] true _ _ [] [] hv (JV.none (d + 1) false [] false)
    have := JV.arr d e0 _ _ (by omega) hm
    rw [List.append_nil, sep_true, List.append_nil, List.append_assoc, repL_succ] at this
    exact this
theorem nest_obj : ∀ m d, d + m < 64 → JV (.v d e0) (nest 7 d m) (RL [123, 34, 34, 58] m ++ [123, 125] ++ RL [125] m)
  | 0, d, h => JV.obj d e0 [] [] (by omega) (JV.none _ _ _ _)
  | m + 1, d, h => by
    have hv := nest_obj m (d + 1) (by omega)
    have hm := JV.memb (d + 1) [] true e0 valid_e0 (by simp) _ _ [] [] hv (JV.none (d + 1) true _ false)
    have := JV.obj d e0 _ _ (by omega) hm
    rw [List.append_nil, sep_true, List.append_nil] at this
    have e : (123 : UInt8) :: (quoted e0.data.toList ++ 58 :: (RL [123, 34, 34, 58] m ++ [123, 125] ++ RL [125] m) ++ [125]) = RL [123, 34, 34, 58] (m + 1) ++ [123, 125] ++ RL [125] (m + 1) := by
      show _ = ([123, 34, 34, 58] ++ RL [123, 34, 34, 58] m) ++ [123, 125] ++ ([125] ++ RL [125] m)
      rw [← repL_succ [125] m]
      show (123 : UInt8) :: ([34, 34] ++ 58 :: (RL [123, 34, 34, 58] m ++ [123, 125] ++ RL [125] m) ++ [125]) = _
      simp
    rw [← e]
    exact this
theorem pma_81 (L : B → Int × B × List S59) (V : Int × B × List S59) (ob : Bool) (h : V.1 = 81) : (pma L V ob).1 = 81 := by
  unfold pma
  rw [if_neg (by omega)]
  exact h
/-- too many, one in the other -/
theorem deep_arr : ∀ (q d m n : Nat) (x : B), d + q = 64 → q < m → 3 * q + 1 ≤ n → (pv n (RL [91] m ++ x) d e0).1 = 81
  | 0, d, m, n, x, h1, h2, h3 => by
    obtain ⟨n, rfl⟩ : ∃ j, n = j + 1 := ⟨n - 1, by omega⟩
    obtain ⟨m, rfl⟩ : ∃ j, m = j + 1 := ⟨m - 1, by omega⟩
    have hn : notblank (RL [91] (m + 1) ++ x) := (rfl : blank 91 = false)
    have hh : hd (RL [91] (m + 1) ++ x) = 91 := by rw [hd_id hn]; rfl
    rw [pv, hh, if_pos rfl, if_pos (by omega)]
  | q + 1, d, m, n, x, h1, h2, h3 => by
    obtain ⟨n, rfl⟩ : ∃ j, n = j + 1 + 1 + 1 := ⟨n - 3, by omega⟩
    obtain ⟨m, rfl⟩ : ∃ j, m = j + 1 + 1 := ⟨m - 2, by omega⟩
    have hn : notblank (RL [91] (m + 1 + 1) ++ x) := (rfl : blank 91 = false)
    have hh : hd (RL [91] (m + 1 + 1) ++ x) = 91 := by rw [hd_id hn]; rfl
    have ih := deep_arr q (d + 1) (m + 1) n x (by omega) (by omega) (by omega)
    rw [pv, hh, sk_id hn, if_pos rfl, if_neg (by omega)]
    show (pms (n + 1 + 1) (RL [91] (m + 1) ++ x) d false).1 = 81
    have ht : tk1 (RL [91] (m + 1) ++ x) (en false) = (false, RL [91] (m + 1) ++ x) := tk1_no _ _ (rfl : blank 91 = false) (show (91 : Nat) ≠ 93 by decide)
    rw [pms, ht, if_neg (show ¬ false = true from Bool.noConfusion), pml, if_neg (by decide)]
    exact pma_81 _ _ _ ih
theorem deep_obj : ∀ (q d m n : Nat) (x : B), d + q = 64 → q ≤ m → 3 * q + 1 ≤ n → (pv n (RL [123, 34, 34, 58] m ++ (123 :: x)) d e0).1 = 81
  | 0, d, m, n, x, h1, h2, h3 => by
    obtain ⟨n, rfl⟩ : ∃ j, n = j + 1 := ⟨n - 1, by omega⟩
    have hg : (RL [123, 34, 34, 58] m ++ (123 :: x)).getD 0 0 = 123 := by cases m <;> rfl
    have hn : notblank (RL [123, 34, 34, 58] m ++ (123 :: x)) := by unfold notblank; rw [hg]; rfl
    have hh : hd (RL [123, 34, 34, 58] m ++ (123 :: x)) = 123 := by rw [hd_id hn, hg]; rfl
    rw [pv, hh, if_neg (by decide), if_pos rfl, if_pos (by omega)]
  | q + 1, d, m, n, x, h1, h2, h3 => by
    obtain ⟨n, rfl⟩ : ∃ j, n = j + 1 + 1 + 1 := ⟨n - 3, by omega⟩
    obtain ⟨m, rfl⟩ : ∃ j, m = j + 1 := ⟨m - 1, by omega⟩
    have hn : notblank (RL [123, 34, 34, 58] (m + 1) ++ (123 :: x)) := (rfl : blank 123 = false)
    have hh : hd (RL [123, 34, 34, 58] (m + 1) ++ (123 :: x)) = 123 := by rw [hd_id hn]; rfl
    have ih := deep_obj q (d + 1) m n x (by omega) (by omega) (by omega)
    rw [pv, hh, sk_id hn, if_neg (by decide), if_pos rfl, if_neg (by omega)]
    show (pms (n + 1 + 1) (quoted e0.data.toList ++ (58 :: (RL [123, 34, 34, 58] m ++ (123 :: x)))) d true).1 = 81
    have ht : tk1 (quoted e0.data.toList ++ (58 :: (RL [123, 34, 34, 58] m ++ (123 :: x)))) (en true) = (false, quoted e0.data.toList ++ (58 :: (RL [123, 34, 34, 58] m ++ (123 :: x)))) := tk1_no _ _ (rfl : blank 34 = false) (show (34 : Nat) ≠ 125 by decide)
    rw [pms, ht, if_neg (show ¬ false = true from Bool.noConfusion), pml, if_pos rfl, pk_quoted e0 [] _ valid_e0 (by simp), if_pos rfl]
    exact pma_81 _ _ _ ih
theorem top_deep (l : B) (h : (pv (3 * l.length + 200) l 0 e0).1 = 81) : topS l = ([], 81) := by
  have hu := pv_up (3 * l.length + 1) (3 * l.length + 200) l 0 e0 (Nat.le_refl _) (by omega)
  unfold topS
  rw [← hu, h, if_neg (by decide)]
theorem rep_f (x : B) (m : Nat) (hx : x.length ≤ 65536) (hm : m ≤ 1073741824) : strings_Repeat.f ⟨x.toArray⟩ (m : Int) = some ⟨(RL x m).toArray⟩ := by
  unfold strings_Repeat.f
  have hz : (⟨x.toArray⟩ : ByteArray).size = x.length := by show x.toArray.size = _; rw [List.size_toArray]
  rw [if_pos ⟨by omega, by omega, by rw [hz]; exact hx⟩, Int.toNat_natCast]
theorem size_mk (l : B) : (⟨l.toArray⟩ : ByteArray).size = l.length := by show l.toArray.size = _; rw [List.size_toArray]
theorem app_mk (a b : B) : (⟨a.toArray⟩ : ByteArray) ++ ⟨b.toArray⟩ = ⟨(a ++ b).toArray⟩ := by
  apply ofList_eq
  simp [ByteArray.data_append]
/-- JsonDepth: whatever the number -/
theorem jsonDepth_walk (n : Int) (o : Bool) (w : World) (hw : (Lit.int .i64 n).wf = true) (tj : JTabs w) (tb : Tabs w) : Calls Tryd.prog 20 #[.int .i64 n, .bool o] w fun e w' => e = .returned (.bool true) ∧ Below w.heap.size w w' := by
  by_cases c1 : n < 1
  · exact depth_lo n o w tj c1
  · by_cases c2 : 200 < n
    · exact depth_hi n o w tj c1 c2
    · obtain ⟨m, rfl⟩ : ∃ m : Nat, n = ((m + 1 : Nat) : Int) := ⟨(n - 1).toNat, by omega⟩
      have hA := rep_f [91] (m + 1) (by decide) (by omega)
      have hB := rep_f [93] (m + 1) (by decide) (by omega)
      have lA : (RL [91] (m + 1)).length = (m + 1) * 1 := Lib.repeatL_length _ _
      have lB : (RL [93] (m + 1)).length = (m + 1) * 1 := Lib.repeatL_length _ _
      have hC := rep_f [123, 34, 34, 58] m (by decide) (by omega)
      have hD := rep_f [125] m (by decide) (by omega)
      have lC : (RL [123, 34, 34, 58] m).length = m * 4 := Lib.repeatL_length _ _
      have lD : (RL [125] m).length = m * 1 := Lib.repeatL_length _ _
      have e1 : ((m + 1 : Nat) : Int) - 1 = (m : Int) := by omega
      have eO : (⟨(RL [123, 34, 34, 58] m).toArray⟩ : ByteArray) ++ ⟨#[123, 125]⟩ ++ ⟨(RL [125] m).toArray⟩ = ⟨(RL [123, 34, 34, 58] m ++ [123, 125] ++ RL [125] m).toArray⟩ := by
        rw [show (⟨#[123, 125]⟩ : ByteArray) = ⟨([123, 125] : B).toArray⟩ from rfl, app_mk, app_mk]
      cases o with
      | false =>
        have zA : (⟨(RL [91] (m + 1)).toArray⟩ : ByteArray).size + (⟨(RL [93] (m + 1)).toArray⟩ : ByteArray).size ≤ 4000 := by rw [size_mk, size_mk]; omega
        by_cases c3 : 63 < m
        · refine depth_no (m + 1) w tj (by omega) (by omega) 10000 _ _ zA hA hB ?_
          rw [app_mk, parse_top _ (by rw [size_mk, List.length_append]; omega) 10000 (by rw [size_mk, List.length_append]; omega), top_deep]
          exact deep_arr 64 0 (m + 1) _ _ rfl (by omega) (by omega)
        · have hj := nest_arr m 0 (by omega)
          refine depth_ok (m + 1) m rfl w tj (by omega) (by omega) 10000 _ _ zA hA hB (nest 6 0 m) (nest_len _ _ _) (by have := nest_last 6 m 0; rw [Nat.zero_add] at this; exact this) ?_ ?_
          · rw [app_mk]; exact hj.print_f (by rw [List.length_append]; omega)
          · rw [app_mk, parse_top _ (by rw [size_mk, List.length_append]; omega) 10000 (by rw [size_mk, List.length_append]; omega)]
            exact congrArg some (top_text hj)
      | true =>
        have zA : (⟨(RL [91] (m + 1)).toArray⟩ : ByteArray).size + (⟨(RL [93] (m + 1)).toArray⟩ : ByteArray).size ≤ 4000 := by rw [size_mk, size_mk]; omega
        have zC : (⟨(RL [123, 34, 34, 58] m).toArray⟩ : ByteArray).size + (⟨(RL [125] m).toArray⟩ : ByteArray).size ≤ 4000 := by rw [size_mk, size_mk]; omega
        have lO : (RL [123, 34, 34, 58] m ++ [123, 125] ++ RL [125] m).length = 5 * m + 2 := by simp only [List.length_append, lC, lD, List.length_cons, List.length_nil]; omega
        by_cases c3 : 63 < m
        · refine depth_no_obj (m + 1) w tj (by omega) (by omega) 10000 _ _ zA hA hB _ _ zC (by rw [e1]; exact hC) (by rw [e1]; exact hD) ?_
          rw [eO, parse_top _ (by rw [size_mk]; omega) 10000 (by rw [size_mk]; omega), top_deep]
          have := deep_obj 64 0 m (3 * (RL [123, 34, 34, 58] m ++ [123, 125] ++ RL [125] m).length + 200) (125 :: RL [125] m) rfl (by omega) (by omega)
          rw [List.append_assoc] at *
          exact this
        · have hj := nest_obj m 0 (by omega)
          refine depth_ok_obj (m + 1) m rfl w tj (by omega) (by omega) 10000 _ _ zA hA hB _ _ zC hC hD (nest 7 0 m) (nest_len _ _ _) (by have := nest_last 7 m 0; rw [Nat.zero_add] at this; exact this) ?_ ?_
          · rw [eO]; exact hj.print_f (by omega)
          · rw [eO, parse_top _ (by rw [size_mk]; omega) 10000 (by rw [size_mk]; omega)]
            exact congrArg some (top_text hj)
end Go.Proofs.YthhmmaihbjhhgaaDoor.Giv
