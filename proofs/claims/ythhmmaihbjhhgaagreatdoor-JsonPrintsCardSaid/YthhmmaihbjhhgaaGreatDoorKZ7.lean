/- What the proof of JsonPrints stands on, part 7: cut and merged by a program out of this session's texts. -/
import Derived.Test.YthhmmaihbjhhgaaGreatDoorKZ6
import Derived.Deep.Slices
import Derived.Deep.Fields
import Derived.ChangeSame
import Derived.SliceStrings
import Derived.OpenShut
set_option linter.unusedVariables false
set_option linter.unusedSimpArgs false
namespace Go.Proofs.YthhmmaihbjhhgaaGreatDoor.J3
open Go.Proofs.YthhmmaihbjhhgaaGreatDoor.Giv Go.Proofs.YthhmmaihbjhhgaaGreatDoor.U1 Go.Proofs.YthhmmaihbjhhgaaGreatDoor.Q1 Go.Proofs.YthhmmaihbjhhgaaGreatDoor.J0 Go.Proofs.YthhmmaihbjhhgaaGreatDoor.J1 Go.Proofs.YthhmmaihbjhhgaaGreatDoor.J2 Go.RowKit Go.Proofs.YthhmmaihbjhhgaaGreatDoorW.PrintWords Go.Proofs.YthhmmaihbjhhgaaGreatDoorW.PrintLast Go.Proofs.YthhmmaihbjhhgaaGreatDoorW.PrintMore
attribute [local go_sem] max2_int min2_int max_two min_two max_three min_three max_four min_four
set_option linter.unusedVariables false
set_option linter.unusedSimpArgs false
mutual
def cracknelref08_text.l0 : Nat → List (S39) → Int → ByteArray → Int → Int → Int → ByteArray → ByteArray → Int → Option (ByteArray)
 | 0, _, _, _, _, _, _, _, _, _ => none
 | k + 1, x0, x1, x8, x9, x113000, x113001, x113002, x113003, x113004 => (cracknelref08_end.f k x0 x1).bind fun t116 => (if x9 < t116 then (if x9 > (wrap64 (x1 + 1)) then (if x8.size + 1 ≤ 9223372036854775807 then (cracknelref08_text.j1 k x0 x1 (x8 ++ (⟨#[44]⟩ : ByteArray)) x9 x113000 x113001 x113002 x113003 x113004) else (none)) else (cracknelref08_text.j1 k x0 x1 x8 x9 x113000 x113001 x113002 x113003 x113004)) else (if x113001 = 6 then (if 1 + x8.size ≤ 9223372036854775807 then (if ((⟨#[91]⟩ : ByteArray) ++ x8).size + 1 ≤ 9223372036854775807 then (some (((⟨#[91]⟩ : ByteArray) ++ x8) ++ (⟨#[93]⟩ : ByteArray))) else (none)) else (none)) else (if 1 + x8.size ≤ 9223372036854775807 then (if ((⟨#[123]⟩ : ByteArray) ++ x8).size + 1 ≤ 9223372036854775807 then (some (((⟨#[123]⟩ : ByteArray) ++ x8) ++ (⟨#[125]⟩ : ByteArray))) else (none)) else (none))))
def cracknelref08_text.j1 : Nat → List (S39) → Int → ByteArray → Int → Int → Int → ByteArray → ByteArray → Int → Option (ByteArray)
 | 0, _, _, _, _, _, _, _, _, _ => none
 | k + 1, x0, x1, x8, x9, x113000, x113001, x113002, x113003, x113004 => if x113001 = 7 then (if 0 ≤ x9 then (if x9 < (x0.length : Int) then ((cracknelref07_Write.f k ((rd_T39 x0 x9).f2)).bind fun bt118 => (if x8.size + bt118.1.size ≤ 9223372036854775807 then (if (x8 ++ bt118.1).size + 1 ≤ 9223372036854775807 then ((cracknelref08_text.f k x0 x9).bind fun t120 => (if ((x8 ++ bt118.1) ++ (⟨#[58]⟩ : ByteArray)).size + t120.size ≤ 9223372036854775807 then ((cracknelref08_end.f k x0 x9).bind fun t121 => (cracknelref08_text.l0 k x0 x1 (((x8 ++ bt118.1) ++ (⟨#[58]⟩ : ByteArray)) ++ t120) t121 x113000 x113001 x113002 x113003 x113004)) else (none))) else (none)) else (none))) else (none)) else (none)) else ((cracknelref08_text.f k x0 x9).bind fun t122 => (if x8.size + t122.size ≤ 9223372036854775807 then ((cracknelref08_end.f k x0 x9).bind fun t123 => (cracknelref08_text.l0 k x0 x1 (x8 ++ t122) t123 x113000 x113001 x113002 x113003 x113004)) else (none)))
def cracknelref08_text.f : Nat → List (S39) → Int → Option (ByteArray)
 | 0, _, _ => none
 | k + 1, l0, a1 => if 0 ≤ a1 then (if a1 < (l0.length : Int) then (if ((rd_T39 l0 a1).f1) = 1 then (some (⟨#[110, 117, 108, 108]⟩ : ByteArray)) else (if ((rd_T39 l0 a1).f1) = 2 then (some (⟨#[102, 97, 108, 115, 101]⟩ : ByteArray)) else (if ((rd_T39 l0 a1).f1) = 3 then (some (⟨#[116, 114, 117, 101]⟩ : ByteArray)) else (if ((rd_T39 l0 a1).f1) = 4 then ((cracknelref02_Print.f k ((rd_T39 l0 a1).f4)).bind fun t113 => (some t113)) else (if ((rd_T39 l0 a1).f1) = 5 then ((cracknelref07_Write.f k ((rd_T39 l0 a1).f3)).bind fun bt114 => (some bt114.1)) else (cracknelref08_text.l0 k l0 a1 (⟨#[]⟩ : ByteArray) (wrap64 (a1 + 1)) ((rd_T39 l0 a1).f0) ((rd_T39 l0 a1).f1) ((rd_T39 l0 a1).f2) ((rd_T39 l0 a1).f3) ((rd_T39 l0 a1).f4))))))) else (none)) else (none)
end
set_option maxHeartbeats 8000000 in
set_option maxRecDepth 100000 in
theorem cracknelref08_text.calls (k : Nat) : ∀ (A0 : Option Addr) (c0 : Nat) (l0 : List (S39)) (a1 : Int) (r : ByteArray) (w : World) (hr0 : Kd.C k39 w A0 l0.length l0) (hc0 : l0.length ≤ c0) (h : cracknelref08_text.f k l0 a1 = some r),
  Calls Tryz.prog 21 #[.slice A0 l0.length c0, .int .i64 a1] w fun e w' => e = .returned (.string r) ∧ Below w.heap.size w w' := by
 induction k using Nat.strongRecOn with
 | _ k ih =>
 intro A0 c0 l0 a1 r w hr0 hc0 h
 cases k with
 | zero => exact absurd h (by simp [cracknelref08_text.f])
 | succ k =>
 simp only [cracknelref08_text.f] at h
 have hu39 := Tryz.underlying39
 have HR0 := Aside0.mk hr0
 have HC0 := Aside0.mk hc0
 clear hr0 hc0
 have HB := Aside0.mk (Below.refl w.heap.size w)
 have H : (if 0 ≤ a1 then (if a1 < (l0.length : Int) then (if ((rd_T39 l0 a1).f1) = 1 then (some (⟨#[110, 117, 108, 108]⟩ : ByteArray)) else (if ((rd_T39 l0 a1).f1) = 2 then (some (⟨#[102, 97, 108, 115, 101]⟩ : ByteArray)) else (if ((rd_T39 l0 a1).f1) = 3 then (some (⟨#[116, 114, 117, 101]⟩ : ByteArray)) else (if ((rd_T39 l0 a1).f1) = 4 then ((cracknelref02_Print.f k ((rd_T39 l0 a1).f4)).bind fun t113 => (some t113)) else (if ((rd_T39 l0 a1).f1) = 5 then ((cracknelref07_Write.f k ((rd_T39 l0 a1).f3)).bind fun bt114 => (some bt114.1)) else (cracknelref08_text.l0 k l0 a1 (⟨#[]⟩ : ByteArray) (wrap64 (a1 + 1)) ((rd_T39 l0 a1).f0) ((rd_T39 l0 a1).f1) ((rd_T39 l0 a1).f2) ((rd_T39 l0 a1).f3) ((rd_T39 l0 a1).f4))))))) else (none)) else (none)) = some r := h
 clear h
 by_cases c3 : 0 ≤ a1
 ·rw [if_pos c3] at H
  have c3b0 : decide (0 ≤ a1) = true := decide_eq_true c3
  clear c3
  by_cases c4 : a1 < (l0.length : Int)
  ·rw [if_pos c4] at H
   have c4b0 : decide (a1 < (l0.length : Int)) = true := decide_eq_true c4
   clear c4
   by_cases c5 : ((rd_T39 l0 a1).f1) = 1
   ·rw [if_pos c5] at H
    have c5b0 : (((rd_T39 l0 a1).f1) == 1) = true := beq_iff_eq.mpr c5
    have c5b1 : (((rd_T39 l0 a1).f1) != 1) = false := bne_eq_false_iff_eq.mpr c5
    clear c5
    obtain rfl := Option.some.inj H
    have p111 : 0 ≤ (a1 : Int) := of_decide_eq_true (by first | (with_reducible assumption) | assumption)
    have q111 : a1 < (l0.length : Int) := of_decide_eq_true (by first | (with_reducible assumption) | assumption)
    obtain ⟨ad111, e111, hx111_0, hx111_1, hx111_2, hx111_3, hx111_4⟩ := at_T39 HR0.out a1 p111 q111
    cases e111
    replace p111 := eq_true p111
    replace q111 := eq_true q111
    go_enter Tryz.func21, Tryz.ntmps21
    go_wp2_with (first | ((with_reducible refine gate_dst (N := 5) rfl ?_); refine box_event ?hg (N := 5) ?hd (cs := #[.int .i64 0, .int .i64 0, .string (⟨#[]⟩ : ByteArray), .string (⟨#[]⟩ : ByteArray), .int .i64 0]) (t := 39) ?hr ?_; (case hd => rfl); (case hg => rfl); (case hr => first | (go_simp; done) | (go_simp; rfl)); intro gb112 hg w6 hbox hb; have n0_ := Aside0.mk (below_step (by repeat (first | (with_reducible first | exact HB.out | apply below_alloc | apply pw_below_drewN | apply below_drew1) | exact HB.out)) hb); have n1_ := Aside0.mk (hbox); have n2_ := Aside0.mk ((by rw [hg]; exact (below_size (by repeat (first | (with_reducible first | exact HB.out | apply below_alloc | apply pw_below_drewN | apply below_drew1) | exact HB.out))) : w.heap.size ≤ gb112)); have n3_ := Aside0.mk ((by rw [hg]; exact (below_size (by repeat (first | (with_reducible first | exact HB.out | apply below_alloc | apply pw_below_drewN | apply below_drew1) | exact HB.out))) : w.heap.size ≤ gb112)); clear HB; have HB := n0_; have BK112 := n1_; have GW112 := n2_; have GE112 := n3_; clear n0_ n1_ n2_ n3_; clear hb hbox hg; have hcz7_0 : w6.cell? ⟨gb112, 0, none⟩ = some (.int .i64 0) := (blk_cell BK112.out 0).trans rfl; have hcz7_1 : w6.cell? ⟨gb112, 1, none⟩ = some (.int .i64 0) := (blk_cell BK112.out 1).trans rfl; have hcz7_2 : w6.cell? ⟨gb112, 2, none⟩ = some (.string (⟨#[]⟩ : ByteArray)) := (blk_cell BK112.out 2).trans rfl; have hcz7_3 : w6.cell? ⟨gb112, 3, none⟩ = some (.string (⟨#[]⟩ : ByteArray)) := (blk_cell BK112.out 3).trans rfl; have hcz7_4 : w6.cell? ⟨gb112, 4, none⟩ = some (.int .i64 0) := (blk_cell BK112.out 4).trans rfl; have hfz7_0 := blk_frozen BK112.out 0; have hfz7_1 := blk_frozen BK112.out 1; have hfz7_2 := blk_frozen BK112.out 2; have hfz7_3 := blk_frozen BK112.out 3; have hfz7_4 := blk_frozen BK112.out 4))
    go_ret
    exact ⟨by first | rfl | (simp [errW_none, errW_some] <;> rfl) | (simp [*, errW_none, errW_some] <;> rfl), by repeat (first | (with_reducible first | exact HB.out | apply below_alloc | apply pw_below_drewN | apply below_drew1 | refine below_set ?_ GE112.out) | exact HB.out)⟩
   ·rw [if_neg c5] at H
    have c5b0 : (((rd_T39 l0 a1).f1) == 1) = false := beq_eq_false_iff_ne.mpr c5
    have c5b1 : (((rd_T39 l0 a1).f1) != 1) = true := bne_iff_ne.mpr c5
    by_cases c8 : ((rd_T39 l0 a1).f1) = 2
    ·rw [if_pos c8] at H
     have c8b0 : (((rd_T39 l0 a1).f1) == 2) = true := beq_iff_eq.mpr c8
     have c8b1 : (((rd_T39 l0 a1).f1) != 2) = false := bne_eq_false_iff_eq.mpr c8
     clear c8
     obtain rfl := Option.some.inj H
     have p111 : 0 ≤ (a1 : Int) := of_decide_eq_true (by first | (with_reducible assumption) | assumption)
     have q111 : a1 < (l0.length : Int) := of_decide_eq_true (by first | (with_reducible assumption) | assumption)
     obtain ⟨ad111, e111, hx111_0, hx111_1, hx111_2, hx111_3, hx111_4⟩ := at_T39 HR0.out a1 p111 q111
     cases e111
     replace p111 := eq_true p111
     replace q111 := eq_true q111
     go_enter Tryz.func21, Tryz.ntmps21
     go_wp2_with (first | ((with_reducible refine gate_dst (N := 5) rfl ?_); refine box_event ?hg (N := 5) ?hd (cs := #[.int .i64 0, .int .i64 0, .string (⟨#[]⟩ : ByteArray), .string (⟨#[]⟩ : ByteArray), .int .i64 0]) (t := 39) ?hr ?_; (case hd => rfl); (case hg => rfl); (case hr => first | (go_simp; done) | (go_simp; rfl)); intro gb112 hg w9 hbox hb; have n0_ := Aside0.mk (below_step (by repeat (first | (with_reducible first | exact HB.out | apply below_alloc | apply pw_below_drewN | apply below_drew1) | exact HB.out)) hb); have n1_ := Aside0.mk (hbox); have n2_ := Aside0.mk ((by rw [hg]; exact (below_size (by repeat (first | (with_reducible first | exact HB.out | apply below_alloc | apply pw_below_drewN | apply below_drew1) | exact HB.out))) : w.heap.size ≤ gb112)); have n3_ := Aside0.mk ((by rw [hg]; exact (below_size (by repeat (first | (with_reducible first | exact HB.out | apply below_alloc | apply pw_below_drewN | apply below_drew1) | exact HB.out))) : w.heap.size ≤ gb112)); clear HB; have HB := n0_; have BK112 := n1_; have GW112 := n2_; have GE112 := n3_; clear n0_ n1_ n2_ n3_; clear hb hbox hg; have hcz10_0 : w9.cell? ⟨gb112, 0, none⟩ = some (.int .i64 0) := (blk_cell BK112.out 0).trans rfl; have hcz10_1 : w9.cell? ⟨gb112, 1, none⟩ = some (.int .i64 0) := (blk_cell BK112.out 1).trans rfl; have hcz10_2 : w9.cell? ⟨gb112, 2, none⟩ = some (.string (⟨#[]⟩ : ByteArray)) := (blk_cell BK112.out 2).trans rfl; have hcz10_3 : w9.cell? ⟨gb112, 3, none⟩ = some (.string (⟨#[]⟩ : ByteArray)) := (blk_cell BK112.out 3).trans rfl; have hcz10_4 : w9.cell? ⟨gb112, 4, none⟩ = some (.int .i64 0) := (blk_cell BK112.out 4).trans rfl; have hfz10_0 := blk_frozen BK112.out 0; have hfz10_1 := blk_frozen BK112.out 1; have hfz10_2 := blk_frozen BK112.out 2; have hfz10_3 := blk_frozen BK112.out 3; have hfz10_4 := blk_frozen BK112.out 4))
     go_ret
     exact ⟨by first | rfl | (simp [errW_none, errW_some] <;> rfl) | (simp [*, errW_none, errW_some] <;> rfl), by repeat (first | (with_reducible first | exact HB.out | apply below_alloc | apply pw_below_drewN | apply below_drew1 | refine below_set ?_ GE112.out) | exact HB.out)⟩
    ·rw [if_neg c8] at H
     have c8b0 : (((rd_T39 l0 a1).f1) == 2) = false := beq_eq_false_iff_ne.mpr c8
     have c8b1 : (((rd_T39 l0 a1).f1) != 2) = true := bne_iff_ne.mpr c8
     by_cases c11 : ((rd_T39 l0 a1).f1) = 3
     ·rw [if_pos c11] at H
      have c11b0 : (((rd_T39 l0 a1).f1) == 3) = true := beq_iff_eq.mpr c11
      have c11b1 : (((rd_T39 l0 a1).f1) != 3) = false := bne_eq_false_iff_eq.mpr c11
      clear c11
      obtain rfl := Option.some.inj H
      have p111 : 0 ≤ (a1 : Int) := of_decide_eq_true (by first | (with_reducible assumption) | assumption)
      have q111 : a1 < (l0.length : Int) := of_decide_eq_true (by first | (with_reducible assumption) | assumption)
      obtain ⟨ad111, e111, hx111_0, hx111_1, hx111_2, hx111_3, hx111_4⟩ := at_T39 HR0.out a1 p111 q111
      cases e111
      replace p111 := eq_true p111
      replace q111 := eq_true q111
      go_enter Tryz.func21, Tryz.ntmps21
      go_wp2_with (first | ((with_reducible refine gate_dst (N := 5) rfl ?_); refine box_event ?hg (N := 5) ?hd (cs := #[.int .i64 0, .int .i64 0, .string (⟨#[]⟩ : ByteArray), .string (⟨#[]⟩ : ByteArray), .int .i64 0]) (t := 39) ?hr ?_; (case hd => rfl); (case hg => rfl); (case hr => first | (go_simp; done) | (go_simp; rfl)); intro gb112 hg w12 hbox hb; have n0_ := Aside0.mk (below_step (by repeat (first | (with_reducible first | exact HB.out | apply below_alloc | apply pw_below_drewN | apply below_drew1) | exact HB.out)) hb); have n1_ := Aside0.mk (hbox); have n2_ := Aside0.mk ((by rw [hg]; exact (below_size (by repeat (first | (with_reducible first | exact HB.out | apply below_alloc | apply pw_below_drewN | apply below_drew1) | exact HB.out))) : w.heap.size ≤ gb112)); have n3_ := Aside0.mk ((by rw [hg]; exact (below_size (by repeat (first | (with_reducible first | exact HB.out | apply below_alloc | apply pw_below_drewN | apply below_drew1) | exact HB.out))) : w.heap.size ≤ gb112)); clear HB; have HB := n0_; have BK112 := n1_; have GW112 := n2_; have GE112 := n3_; clear n0_ n1_ n2_ n3_; clear hb hbox hg; have hcz13_0 : w12.cell? ⟨gb112, 0, none⟩ = some (.int .i64 0) := (blk_cell BK112.out 0).trans rfl; have hcz13_1 : w12.cell? ⟨gb112, 1, none⟩ = some (.int .i64 0) := (blk_cell BK112.out 1).trans rfl; have hcz13_2 : w12.cell? ⟨gb112, 2, none⟩ = some (.string (⟨#[]⟩ : ByteArray)) := (blk_cell BK112.out 2).trans rfl; have hcz13_3 : w12.cell? ⟨gb112, 3, none⟩ = some (.string (⟨#[]⟩ : ByteArray)) := (blk_cell BK112.out 3).trans rfl; have hcz13_4 : w12.cell? ⟨gb112, 4, none⟩ = some (.int .i64 0) := (blk_cell BK112.out 4).trans rfl; have hfz13_0 := blk_frozen BK112.out 0; have hfz13_1 := blk_frozen BK112.out 1; have hfz13_2 := blk_frozen BK112.out 2; have hfz13_3 := blk_frozen BK112.out 3; have hfz13_4 := blk_frozen BK112.out 4))
      go_ret
      exact ⟨by first | rfl | (simp [errW_none, errW_some] <;> rfl) | (simp [*, errW_none, errW_some] <;> rfl), by repeat (first | (with_reducible first | exact HB.out | apply below_alloc | apply pw_below_drewN | apply below_drew1 | refine below_set ?_ GE112.out) | exact HB.out)⟩
     ·rw [if_neg c11] at H
      have c11b0 : (((rd_T39 l0 a1).f1) == 3) = false := beq_eq_false_iff_ne.mpr c11
      have c11b1 : (((rd_T39 l0 a1).f1) != 3) = true := bne_iff_ne.mpr c11
      by_cases c14 : ((rd_T39 l0 a1).f1) = 4
      ·rw [if_pos c14] at H
       have c14b0 : (((rd_T39 l0 a1).f1) == 4) = true := beq_iff_eq.mpr c14
       have c14b1 : (((rd_T39 l0 a1).f1) != 4) = false := bne_eq_false_iff_eq.mpr c14
       clear c14
       replace H := Option.bind_eq_some_iff.mp H
       obtain ⟨t113, A150, H⟩ := H
       replace H : (some t113) = some r := H
       have A15 := Aside0.mk A150
       clear A150
       obtain rfl := Option.some.inj H
       have p111 : 0 ≤ (a1 : Int) := of_decide_eq_true (by first | (with_reducible assumption) | assumption)
       have q111 : a1 < (l0.length : Int) := of_decide_eq_true (by first | (with_reducible assumption) | assumption)
       obtain ⟨ad111, e111, hx111_0, hx111_1, hx111_2, hx111_3, hx111_4⟩ := at_T39 HR0.out a1 p111 q111
       cases e111
       replace p111 := eq_true p111
       replace q111 := eq_true q111
       go_enter Tryz.func21, Tryz.ntmps21
       go_wp2_with (first | ((with_reducible refine gate_dst (N := 5) rfl ?_); refine box_event ?hg (N := 5) ?hd (cs := #[.int .i64 0, .int .i64 0, .string (⟨#[]⟩ : ByteArray), .string (⟨#[]⟩ : ByteArray), .int .i64 0]) (t := 39) ?hr ?_; (case hd => rfl); (case hg => rfl); (case hr => first | (go_simp; done) | (go_simp; rfl)); intro gb112 hg w16 hbox hb; have n0_ := Aside0.mk (below_step (by repeat (first | (with_reducible first | exact HB.out | apply below_alloc | apply pw_below_drewN | apply below_drew1) | exact HB.out)) hb); have n1_ := Aside0.mk (hbox); have n2_ := Aside0.mk ((by rw [hg]; exact (below_size (by repeat (first | (with_reducible first | exact HB.out | apply below_alloc | apply pw_below_drewN | apply below_drew1) | exact HB.out))) : w.heap.size ≤ gb112)); have n3_ := Aside0.mk ((by rw [hg]; exact (below_size (by repeat (first | (with_reducible first | exact HB.out | apply below_alloc | apply pw_below_drewN | apply below_drew1) | exact HB.out))) : w.heap.size ≤ gb112)); clear HB; have HB := n0_; have BK112 := n1_; have GW112 := n2_; have GE112 := n3_; clear n0_ n1_ n2_ n3_; clear hb hbox hg; have hcz17_0 : w16.cell? ⟨gb112, 0, none⟩ = some (.int .i64 0) := (blk_cell BK112.out 0).trans rfl; have hcz17_1 : w16.cell? ⟨gb112, 1, none⟩ = some (.int .i64 0) := (blk_cell BK112.out 1).trans rfl; have hcz17_2 : w16.cell? ⟨gb112, 2, none⟩ = some (.string (⟨#[]⟩ : ByteArray)) := (blk_cell BK112.out 2).trans rfl; have hcz17_3 : w16.cell? ⟨gb112, 3, none⟩ = some (.string (⟨#[]⟩ : ByteArray)) := (blk_cell BK112.out 3).trans rfl; have hcz17_4 : w16.cell? ⟨gb112, 4, none⟩ = some (.int .i64 0) := (blk_cell BK112.out 4).trans rfl; have hfz17_0 := blk_frozen BK112.out 0; have hfz17_1 := blk_frozen BK112.out 1; have hfz17_2 := blk_frozen BK112.out 2; have hfz17_3 := blk_frozen BK112.out 3; have hfz17_4 := blk_frozen BK112.out 4) | ((with_reducible refine gate_callee (f := 37) rfl ?_); refine goesL_ (some 28) rfl rfl Tryz.func37 (by kernel_rfl) rfl #[.int .i64 ((rd_T39 l0 a1).f4)] rfl (by (try simp only [List.map_toArray, List.map_cons, List.map_nil]); first | done | rfl | (simp only [List.length_drop, List.length_take]; rfl)) ?_; (with_reducible refine (cracknelref02_Print.calls k ((rd_T39 l0 a1).f4) t113 _ A15.out).mono ?_); rintro e w18 ⟨rfl, hb⟩; refine ⟨_, rfl, ?_⟩; have n0_ := Aside0.mk (blk_below (g := gb112) (o := .cells #[.int .i64 ((rd_T39 l0 a1).f0), .int .i64 ((rd_T39 l0 a1).f1), .string ((rd_T39 l0 a1).f2), .string ((rd_T39 l0 a1).f3), .int .i64 ((rd_T39 l0 a1).f4)] 39 (0, 0)) (by (with_reducible repeat (first | refine blk_drewN ?_ _ | refine blk_drew ?_ | refine blk_alloc ?_ _)); refine blk_put (cs := #[.int .i64 ((rd_T39 l0 a1).f0), .int .i64 ((rd_T39 l0 a1).f1), .string ((rd_T39 l0 a1).f2), .string ((rd_T39 l0 a1).f3), .int .i64 0]) ?_ 4 _ rfl; (with_reducible repeat (first | refine blk_drewN ?_ _ | refine blk_drew ?_ | refine blk_alloc ?_ _)); refine blk_put (cs := #[.int .i64 ((rd_T39 l0 a1).f0), .int .i64 ((rd_T39 l0 a1).f1), .string ((rd_T39 l0 a1).f2), .string (⟨#[]⟩ : ByteArray), .int .i64 0]) ?_ 3 _ rfl; (with_reducible repeat (first | refine blk_drewN ?_ _ | refine blk_drew ?_ | refine blk_alloc ?_ _)); refine blk_put (cs := #[.int .i64 ((rd_T39 l0 a1).f0), .int .i64 ((rd_T39 l0 a1).f1), .string (⟨#[]⟩ : ByteArray), .string (⟨#[]⟩ : ByteArray), .int .i64 0]) ?_ 2 _ rfl; (with_reducible repeat (first | refine blk_drewN ?_ _ | refine blk_drew ?_ | refine blk_alloc ?_ _)); refine blk_put (cs := #[.int .i64 ((rd_T39 l0 a1).f0), .int .i64 0, .string (⟨#[]⟩ : ByteArray), .string (⟨#[]⟩ : ByteArray), .int .i64 0]) ?_ 1 _ rfl; (with_reducible repeat (first | refine blk_drewN ?_ _ | refine blk_drew ?_ | refine blk_alloc ?_ _)); refine blk_put (cs := #[.int .i64 0, .int .i64 0, .string (⟨#[]⟩ : ByteArray), .string (⟨#[]⟩ : ByteArray), .int .i64 0]) ?_ 0 _ rfl; (with_reducible repeat (first | refine blk_drewN ?_ _ | refine blk_drew ?_ | refine blk_alloc ?_ _)); exact BK112.out) hb); have n1_ := Aside0.mk (below_step (by repeat (first | (with_reducible first | exact HB.out | apply below_alloc | apply pw_below_drewN | apply below_drew1 | refine below_set ?_ GE112.out) | exact HB.out)) hb); clear BK112; clear HB; have BK112 := n0_; have HB := n1_; clear n0_ n1_; (try clear hb); (try clear hb2); (try clear hk); (try clear hi)))
       go_ret
       exact ⟨by first | rfl | (simp [errW_none, errW_some] <;> rfl) | (simp [*, errW_none, errW_some] <;> rfl), by repeat (first | (with_reducible first | exact HB.out | apply below_alloc | apply pw_below_drewN | apply below_drew1 | refine below_set ?_ GE112.out) | exact HB.out)⟩
      ·rw [if_neg c14] at H
       have c14b0 : (((rd_T39 l0 a1).f1) == 4) = false := beq_eq_false_iff_ne.mpr c14
       have c14b1 : (((rd_T39 l0 a1).f1) != 4) = true := bne_iff_ne.mpr c14
       by_cases c19 : ((rd_T39 l0 a1).f1) = 5
       ·rw [if_pos c19] at H
        have c19b0 : (((rd_T39 l0 a1).f1) == 5) = true := beq_iff_eq.mpr c19
        have c19b1 : (((rd_T39 l0 a1).f1) != 5) = false := bne_eq_false_iff_eq.mpr c19
        clear c19
        replace H := Option.bind_eq_some_iff.mp H
        obtain ⟨⟨t114, t115⟩, A200, H⟩ := H
        replace H : (some t114) = some r := H
        have A20 := Aside0.mk A200
        clear A200
        obtain rfl := Option.some.inj H
        have p111 : 0 ≤ (a1 : Int) := of_decide_eq_true (by first | (with_reducible assumption) | assumption)
        have q111 : a1 < (l0.length : Int) := of_decide_eq_true (by first | (with_reducible assumption) | assumption)
        obtain ⟨ad111, e111, hx111_0, hx111_1, hx111_2, hx111_3, hx111_4⟩ := at_T39 HR0.out a1 p111 q111
        cases e111
        replace p111 := eq_true p111
        replace q111 := eq_true q111
        go_enter Tryz.func21, Tryz.ntmps21
        go_wp2_with (first | ((with_reducible refine gate_dst (N := 5) rfl ?_); refine box_event ?hg (N := 5) ?hd (cs := #[.int .i64 0, .int .i64 0, .string (⟨#[]⟩ : ByteArray), .string (⟨#[]⟩ : ByteArray), .int .i64 0]) (t := 39) ?hr ?_; (case hd => rfl); (case hg => rfl); (case hr => first | (go_simp; done) | (go_simp; rfl)); intro gb112 hg w21 hbox hb; have n0_ := Aside0.mk (below_step (by repeat (first | (with_reducible first | exact HB.out | apply below_alloc | apply pw_below_drewN | apply below_drew1) | exact HB.out)) hb); have n1_ := Aside0.mk (hbox); have n2_ := Aside0.mk ((by rw [hg]; exact (below_size (by repeat (first | (with_reducible first | exact HB.out | apply below_alloc | apply pw_below_drewN | apply below_drew1) | exact HB.out))) : w.heap.size ≤ gb112)); have n3_ := Aside0.mk ((by rw [hg]; exact (below_size (by repeat (first | (with_reducible first | exact HB.out | apply below_alloc | apply pw_below_drewN | apply below_drew1) | exact HB.out))) : w.heap.size ≤ gb112)); clear HB; have HB := n0_; have BK112 := n1_; have GW112 := n2_; have GE112 := n3_; clear n0_ n1_ n2_ n3_; clear hb hbox hg; have hcz22_0 : w21.cell? ⟨gb112, 0, none⟩ = some (.int .i64 0) := (blk_cell BK112.out 0).trans rfl; have hcz22_1 : w21.cell? ⟨gb112, 1, none⟩ = some (.int .i64 0) := (blk_cell BK112.out 1).trans rfl; have hcz22_2 : w21.cell? ⟨gb112, 2, none⟩ = some (.string (⟨#[]⟩ : ByteArray)) := (blk_cell BK112.out 2).trans rfl; have hcz22_3 : w21.cell? ⟨gb112, 3, none⟩ = some (.string (⟨#[]⟩ : ByteArray)) := (blk_cell BK112.out 3).trans rfl; have hcz22_4 : w21.cell? ⟨gb112, 4, none⟩ = some (.int .i64 0) := (blk_cell BK112.out 4).trans rfl; have hfz22_0 := blk_frozen BK112.out 0; have hfz22_1 := blk_frozen BK112.out 1; have hfz22_2 := blk_frozen BK112.out 2; have hfz22_3 := blk_frozen BK112.out 3; have hfz22_4 := blk_frozen BK112.out 4) | ((with_reducible refine gate_callee (f := 38) rfl ?_); refine goesL_ (some 34) rfl rfl Tryz.func38 (by kernel_rfl) rfl #[.string ((rd_T39 l0 a1).f3)] rfl (by (try simp only [List.map_toArray, List.map_cons, List.map_nil]); first | done | rfl | (simp only [List.length_drop, List.length_take]; rfl)) ?_; (with_reducible refine (cracknelref07_Write.calls k ((rd_T39 l0 a1).f3) t114 t115 _ A20.out).mono ?_); rintro e w23 ⟨rfl, hb⟩; refine ⟨_, rfl, ?_⟩; have n0_ := Aside0.mk (blk_below (g := gb112) (o := .cells #[.int .i64 ((rd_T39 l0 a1).f0), .int .i64 ((rd_T39 l0 a1).f1), .string ((rd_T39 l0 a1).f2), .string ((rd_T39 l0 a1).f3), .int .i64 ((rd_T39 l0 a1).f4)] 39 (0, 0)) (by (with_reducible repeat (first | refine blk_drewN ?_ _ | refine blk_drew ?_ | refine blk_alloc ?_ _)); refine blk_put (cs := #[.int .i64 ((rd_T39 l0 a1).f0), .int .i64 ((rd_T39 l0 a1).f1), .string ((rd_T39 l0 a1).f2), .string ((rd_T39 l0 a1).f3), .int .i64 0]) ?_ 4 _ rfl; (with_reducible repeat (first | refine blk_drewN ?_ _ | refine blk_drew ?_ | refine blk_alloc ?_ _)); refine blk_put (cs := #[.int .i64 ((rd_T39 l0 a1).f0), .int .i64 ((rd_T39 l0 a1).f1), .string ((rd_T39 l0 a1).f2), .string (⟨#[]⟩ : ByteArray), .int .i64 0]) ?_ 3 _ rfl; (with_reducible repeat (first | refine blk_drewN ?_ _ | refine blk_drew ?_ | refine blk_alloc ?_ _)); refine blk_put (cs := #[.int .i64 ((rd_T39 l0 a1).f0), .int .i64 ((rd_T39 l0 a1).f1), .string (⟨#[]⟩ : ByteArray), .string (⟨#[]⟩ : ByteArray), .int .i64 0]) ?_ 2 _ rfl; (with_reducible repeat (first | refine blk_drewN ?_ _ | refine blk_drew ?_ | refine blk_alloc ?_ _)); refine blk_put (cs := #[.int .i64 ((rd_T39 l0 a1).f0), .int .i64 0, .string (⟨#[]⟩ : ByteArray), .string (⟨#[]⟩ : ByteArray), .int .i64 0]) ?_ 1 _ rfl; (with_reducible repeat (first | refine blk_drewN ?_ _ | refine blk_drew ?_ | refine blk_alloc ?_ _)); refine blk_put (cs := #[.int .i64 0, .int .i64 0, .string (⟨#[]⟩ : ByteArray), .string (⟨#[]⟩ : ByteArray), .int .i64 0]) ?_ 0 _ rfl; (with_reducible repeat (first | refine blk_drewN ?_ _ | refine blk_drew ?_ | refine blk_alloc ?_ _)); exact BK112.out) hb); have n1_ := Aside0.mk (below_step (by repeat (first | (with_reducible first | exact HB.out | apply below_alloc | apply pw_below_drewN | apply below_drew1 | refine below_set ?_ GE112.out) | exact HB.out)) hb); clear BK112; clear HB; have BK112 := n0_; have HB := n1_; clear n0_ n1_; (try clear hb); (try clear hb2); (try clear hk); (try clear hi)))
        go_ret
        exact ⟨by first | rfl | (simp [errW_none, errW_some] <;> rfl) | (simp [*, errW_none, errW_some] <;> rfl), by repeat (first | (with_reducible first | exact HB.out | apply below_alloc | apply pw_below_drewN | apply below_drew1 | refine below_set ?_ GE112.out) | exact HB.out)⟩
       ·rw [if_neg c19] at H
        have c19b0 : (((rd_T39 l0 a1).f1) == 5) = false := beq_eq_false_iff_ne.mpr c19
        have c19b1 : (((rd_T39 l0 a1).f1) != 5) = true := bne_iff_ne.mpr c19
        have H' := Aside0.mk H
        clear H
        have p111 : 0 ≤ (a1 : Int) := of_decide_eq_true (by first | (with_reducible assumption) | assumption)
        have q111 : a1 < (l0.length : Int) := of_decide_eq_true (by first | (with_reducible assumption) | assumption)
        obtain ⟨ad111, e111, hx111_0, hx111_1, hx111_2, hx111_3, hx111_4⟩ := at_T39 HR0.out a1 p111 q111
        cases e111
        replace p111 := eq_true p111
        replace q111 := eq_true q111
        go_enter Tryz.func21, Tryz.ntmps21
        go_wp2_with (first | ((with_reducible refine gate_dst (N := 5) rfl ?_); refine box_event ?hg (N := 5) ?hd (cs := #[.int .i64 0, .int .i64 0, .string (⟨#[]⟩ : ByteArray), .string (⟨#[]⟩ : ByteArray), .int .i64 0]) (t := 39) ?hr ?_; (case hd => rfl); (case hg => rfl); (case hr => first | (go_simp; done) | (go_simp; rfl)); intro gb112 hg w24 hbox hb; have n0_ := Aside0.mk (below_step (by repeat (first | (with_reducible first | exact HB.out | apply below_alloc | apply pw_below_drewN | apply below_drew1) | exact HB.out)) hb); have n1_ := Aside0.mk (hbox); have n2_ := Aside0.mk ((by rw [hg]; exact (below_size (by repeat (first | (with_reducible first | exact HB.out | apply below_alloc | apply pw_below_drewN | apply below_drew1) | exact HB.out))) : w.heap.size ≤ gb112)); have n3_ := Aside0.mk ((by rw [hg]; exact (below_size (by repeat (first | (with_reducible first | exact HB.out | apply below_alloc | apply pw_below_drewN | apply below_drew1) | exact HB.out))) : w.heap.size ≤ gb112)); clear HB; have HB := n0_; have BK112 := n1_; have GW112 := n2_; have GE112 := n3_; clear n0_ n1_ n2_ n3_; clear hb hbox hg; have hcz25_0 : w24.cell? ⟨gb112, 0, none⟩ = some (.int .i64 0) := (blk_cell BK112.out 0).trans rfl; have hcz25_1 : w24.cell? ⟨gb112, 1, none⟩ = some (.int .i64 0) := (blk_cell BK112.out 1).trans rfl; have hcz25_2 : w24.cell? ⟨gb112, 2, none⟩ = some (.string (⟨#[]⟩ : ByteArray)) := (blk_cell BK112.out 2).trans rfl; have hcz25_3 : w24.cell? ⟨gb112, 3, none⟩ = some (.string (⟨#[]⟩ : ByteArray)) := (blk_cell BK112.out 3).trans rfl; have hcz25_4 : w24.cell? ⟨gb112, 4, none⟩ = some (.int .i64 0) := (blk_cell BK112.out 4).trans rfl; have hfz25_0 := blk_frozen BK112.out 0; have hfz25_1 := blk_frozen BK112.out 1; have hfz25_2 := blk_frozen BK112.out 2; have hfz25_3 := blk_frozen BK112.out 3; have hfz25_4 := blk_frozen BK112.out 4))
        go_loopg [8, 9] k (fun kq v8 v9 w' => ∃ (x8_1 : ByteArray) (x9_1 : Int), v8 = .string x8_1 ∧ v9 = .int .i64 x9_1 ∧ Aside0 (cracknelref08_text.l0 kq l0 a1 x8_1 x9_1 ((rd_T39 l0 a1).f0) ((rd_T39 l0 a1).f1) ((rd_T39 l0 a1).f2) ((rd_T39 l0 a1).f3) ((rd_T39 l0 a1).f4) = some r) ∧ Aside0 (kq ≤ k) ∧ Aside0 (w'.heap[gb112]? = some (.cells #[.int .i64 ((rd_T39 l0 a1).f0), .int .i64 ((rd_T39 l0 a1).f1), .string ((rd_T39 l0 a1).f2), .string ((rd_T39 l0 a1).f3), .int .i64 ((rd_T39 l0 a1).f4)] 39 (0, 0))) ∧ Aside0 (Below w.heap.size w w'))
        case atStart => exact ⟨((⟨#[]⟩ : ByteArray)), (wrap64 (a1 + 1)), (by first | rfl | (simp; done) | (simp [*]; done)), (by first | rfl | (simp; done) | (simp [*]; done)), H', ⟨Nat.le_refl _⟩, ⟨by (with_reducible repeat (first | refine blk_drewN ?_ _ | refine blk_drew ?_ | refine blk_alloc ?_ _)); refine blk_put (cs := #[.int .i64 ((rd_T39 l0 a1).f0), .int .i64 ((rd_T39 l0 a1).f1), .string ((rd_T39 l0 a1).f2), .string ((rd_T39 l0 a1).f3), .int .i64 0]) ?_ 4 _ rfl; (with_reducible repeat (first | refine blk_drewN ?_ _ | refine blk_drew ?_ | refine blk_alloc ?_ _)); refine blk_put (cs := #[.int .i64 ((rd_T39 l0 a1).f0), .int .i64 ((rd_T39 l0 a1).f1), .string ((rd_T39 l0 a1).f2), .string (⟨#[]⟩ : ByteArray), .int .i64 0]) ?_ 3 _ rfl; (with_reducible repeat (first | refine blk_drewN ?_ _ | refine blk_drew ?_ | refine blk_alloc ?_ _)); refine blk_put (cs := #[.int .i64 ((rd_T39 l0 a1).f0), .int .i64 ((rd_T39 l0 a1).f1), .string (⟨#[]⟩ : ByteArray), .string (⟨#[]⟩ : ByteArray), .int .i64 0]) ?_ 2 _ rfl; (with_reducible repeat (first | refine blk_drewN ?_ _ | refine blk_drew ?_ | refine blk_alloc ?_ _)); refine blk_put (cs := #[.int .i64 ((rd_T39 l0 a1).f0), .int .i64 0, .string (⟨#[]⟩ : ByteArray), .string (⟨#[]⟩ : ByteArray), .int .i64 0]) ?_ 1 _ rfl; (with_reducible repeat (first | refine blk_drewN ?_ _ | refine blk_drew ?_ | refine blk_alloc ?_ _)); refine blk_put (cs := #[.int .i64 0, .int .i64 0, .string (⟨#[]⟩ : ByteArray), .string (⟨#[]⟩ : ByteArray), .int .i64 0]) ?_ 0 _ rfl; (with_reducible repeat (first | refine blk_drewN ?_ _ | refine blk_drew ?_ | refine blk_alloc ?_ _)); exact BK112.out⟩, ⟨by repeat (first | (with_reducible first | exact HB.out | apply below_alloc | apply pw_below_drewN | apply below_drew1 | refine below_set ?_ GE112.out) | exact HB.out)⟩⟩
        case round =>
         clear H'
         try clear c1
         try clear p1
         try clear q1
         try clear hx1
         try clear c2
         try clear p2
         try clear c3
         try clear c3b0
         try clear c4
         try clear c4b0
         try clear c5
         try clear c5b0
         try clear c5b1
         try clear p6
         try clear c8
         try clear c8b0
         try clear c8b1
         try clear c11
         try clear c11b0
         try clear c11b1
         try clear p11
         try clear q11
         try clear hx11
         try clear c14
         try clear c14b0
         try clear c14b1
         try clear c19
         try clear c19b0
         try clear c19b1
         try clear c21
         try clear hcz10_0
         try clear hcz10_1
         try clear hcz10_2
         try clear hcz10_3
         try clear hcz10_4
         try clear hcz13_0
         try clear hcz13_1
         try clear hcz13_2
         try clear hcz13_3
         try clear hcz13_4
         try clear hcz17_0
         try clear hcz17_1
         try clear hcz17_2
         try clear hcz17_3
         try clear hcz17_4
         try clear hcz22_0
         try clear hcz22_1
         try clear hcz22_2
         try clear hcz22_3
         try clear hcz22_4
         try clear hcz25_0
         try clear hcz25_1
         try clear hcz25_2
         try clear hcz25_3
         try clear hcz25_4
         try clear hcz7_0
         try clear hcz7_1
         try clear hcz7_2
         try clear hcz7_3
         try clear hcz7_4
         try clear hfz10_0
         try clear hfz10_1
         try clear hfz10_2
         try clear hfz10_3
         try clear hfz10_4
         try clear hfz13_0
         try clear hfz13_1
         try clear hfz13_2
         try clear hfz13_3
         try clear hfz13_4
         try clear hfz17_0
         try clear hfz17_1
         try clear hfz17_2
         try clear hfz17_3
         try clear hfz17_4
         try clear hfz22_0
         try clear hfz22_1
         try clear hfz22_2
         try clear hfz22_3
         try clear hfz22_4
         try clear hfz25_0
         try clear hfz25_1
         try clear hfz25_2
         try clear hfz25_3
         try clear hfz25_4
         try clear hfz7_0
         try clear hfz7_1
         try clear hfz7_2
         try clear hfz7_3
         try clear hfz7_4
         try clear hx111_0
         try clear hx111_1
         try clear hx111_2
         try clear hx111_3
         try clear hx111_4
         try clear p111
         try clear q111
         obtain ⟨x8_1, x9_1, rfl, rfl, HA, HK1, BK112, HB⟩ := hrel
         cases gk with
         | zero => exact absurd HA.out (by simp [cracknelref08_text.l0])
         | succ k1 =>
          have H := HA.out
          clear HA
          simp only [cracknelref08_text.l0] at H
          replace H := Option.bind_eq_some_iff.mp H
          obtain ⟨t116, A260, H⟩ := H
          replace H : (if x9_1 < t116 then (if x9_1 > (wrap64 (a1 + 1)) then (if x8_1.size + 1 ≤ 9223372036854775807 then (cracknelref08_text.j1 k1 l0 a1 (x8_1 ++ (⟨#[44]⟩ : ByteArray)) x9_1 ((rd_T39 l0 a1).f0) ((rd_T39 l0 a1).f1) ((rd_T39 l0 a1).f2) ((rd_T39 l0 a1).f3) ((rd_T39 l0 a1).f4)) else (none)) else (cracknelref08_text.j1 k1 l0 a1 x8_1 x9_1 ((rd_T39 l0 a1).f0) ((rd_T39 l0 a1).f1) ((rd_T39 l0 a1).f2) ((rd_T39 l0 a1).f3) ((rd_T39 l0 a1).f4))) else (if ((rd_T39 l0 a1).f1) = 6 then (if 1 + x8_1.size ≤ 9223372036854775807 then (if ((⟨#[91]⟩ : ByteArray) ++ x8_1).size + 1 ≤ 9223372036854775807 then (some (((⟨#[91]⟩ : ByteArray) ++ x8_1) ++ (⟨#[93]⟩ : ByteArray))) else (none)) else (none)) else (if 1 + x8_1.size ≤ 9223372036854775807 then (if ((⟨#[123]⟩ : ByteArray) ++ x8_1).size + 1 ≤ 9223372036854775807 then (some (((⟨#[123]⟩ : ByteArray) ++ x8_1) ++ (⟨#[125]⟩ : ByteArray))) else (none)) else (none)))) = some r := H
          have A26 := Aside0.mk A260
          clear A260
          by_cases c27 : x9_1 < t116
          ·rw [if_pos c27] at H
           have c27b0 : decide (x9_1 < t116) = true := decide_eq_true c27
           clear c27
           have HC28 := Aside0.mk H
           clear H
           go_upto_if 51 with (first | ((with_reducible refine gate_callee (f := 39) rfl ?_); refine goesL_ (some 43) rfl rfl Tryz.func39 (by kernel_rfl) rfl #[.slice (some ad111) l0.length c0, .int .i64 a1] rfl (by (try simp only [List.map_toArray, List.map_cons, List.map_nil]); first | done | rfl | (simp only [List.length_drop, List.length_take]; rfl)) ?_; (with_reducible refine (cracknelref08_end.calls k1 _ _ l0 a1 t116 _ ?side1 ?side2 A26.out).mono ?_); (case side1 => repeat (first | exact (Kd.C_below HR0.out HB.out) | (with_reducible refine Kd.C_alloc ?_ _) | (with_reducible refine Kd.C_drewN ?_ _) | (with_reducible refine Kd.C_drew ?_))); (case side2 => exact HC0.out); rintro e w' ⟨rfl, ⟨nd, rfl⟩⟩; refine ⟨_, rfl, ?_⟩))
           (try simp only [Act.put, qA, qB, qC])
           go_cut [8] (fun v8 wc => ∃ (kq : Nat) (x8_27 : ByteArray), v8 = .string x8_27 ∧ Aside0 (cracknelref08_text.j1 kq l0 a1 x8_27 x9_1 ((rd_T39 l0 a1).f0) ((rd_T39 l0 a1).f1) ((rd_T39 l0 a1).f2) ((rd_T39 l0 a1).f3) ((rd_T39 l0 a1).f4) = some r) ∧ Aside0 (kq ≤ k1) ∧ Aside0 (wc.heap[gb112]? = some (.cells #[.int .i64 ((rd_T39 l0 a1).f0), .int .i64 ((rd_T39 l0 a1).f1), .string ((rd_T39 l0 a1).f2), .string ((rd_T39 l0 a1).f3), .int .i64 ((rd_T39 l0 a1).f4)] 39 (0, 0))) ∧ Aside0 (Below w.heap.size w wc))
           case first =>
            have H := HC28.out
            clear HC28
            by_cases c29 : x9_1 > (wrap64 (a1 + 1))
            ·rw [if_pos c29] at H
             have c29b0 : decide ((wrap64 (a1 + 1)) < x9_1) = true := decide_eq_true c29
             clear c29
             (first | rw [c29b0] | (simp only [i64_w, i32_w]; rw [c29b0]) | skip)
             by_cases c30 : x8_1.size + 1 ≤ 9223372036854775807
             ·rw [if_pos c30] at H
              have c30b0 := eq_true c30
              have c30b1 : decide (x8_1.size + 1 ≤ 9223372036854775807) = true := decide_eq_true c30
              try have c30b2 : (9223372036854775807 < x8_1.size + 1) = False := eq_false (Nat.not_lt.2 c30)
              have H' := Aside0.mk H
              clear H
              go_wp2
              go_meet
              case rel => exact ⟨_, (x8_1 ++ (⟨#[44]⟩ : ByteArray)), (by first | rfl | (simp; done) | (simp [*]; done)), H', ⟨by have := HK1.out; first | omega | exact Nat.le_refl _⟩, ⟨by (with_reducible repeat (first | refine blk_drewN ?_ _ | refine blk_drew ?_ | refine blk_alloc ?_ _)); exact BK112.out⟩, ⟨by repeat (first | (with_reducible first | exact HB.out | apply below_alloc | apply pw_below_drewN | apply below_drew1 | refine below_set ?_ GE112.out) | exact HB.out)⟩⟩
             ·rw [if_neg c30] at H
              exact absurd H (by simp)
            ·rw [if_neg c29] at H
             have c29b0 : decide ((wrap64 (a1 + 1)) < x9_1) = false := decide_eq_false c29
             clear c29
             (first | rw [c29b0] | (simp only [i64_w, i32_w]; rw [c29b0]) | skip)
             have H' := Aside0.mk H
             clear H
             go_wp2
             go_meet
             case rel => exact ⟨_, (x8_1), (by first | rfl | (simp; done) | (simp [*]; done)), H', ⟨by have := HK1.out; first | omega | exact Nat.le_refl _⟩, ⟨by (with_reducible repeat (first | refine blk_drewN ?_ _ | refine blk_drew ?_ | refine blk_alloc ?_ _)); exact BK112.out⟩, ⟨by repeat (first | (with_reducible first | exact HB.out | apply below_alloc | apply pw_below_drewN | apply below_drew1 | refine below_set ?_ GE112.out) | exact HB.out)⟩⟩
           case rest =>
            clear HC28
            try clear c1
            try clear p1
            try clear q1
            try clear hx1
            try clear c2
            try clear p2
            try clear c3
            try clear c3b0
            try clear c4
            try clear c4b0
            try clear c5
            try clear c5b0
            try clear c5b1
            try clear p6
            try clear c8
            try clear c8b0
            try clear c8b1
            try clear c11
            try clear c11b0
            try clear c11b1
            try clear p11
            try clear q11
            try clear hx11
            try clear c14
            try clear c14b0
            try clear c14b1
            try clear c19
            try clear c19b0
            try clear c19b1
            try clear c21
            try clear c27
            try clear c27b0
            try clear c29
            try clear c29b0
            try clear c30
            try clear c30b0
            try clear c30b1
            try clear c30b2
            try clear hcz10_0
            try clear hcz10_1
            try clear hcz10_2
            try clear hcz10_3
            try clear hcz10_4
            try clear hcz13_0
            try clear hcz13_1
            try clear hcz13_2
            try clear hcz13_3
            try clear hcz13_4
            try clear hcz17_0
            try clear hcz17_1
            try clear hcz17_2
            try clear hcz17_3
            try clear hcz17_4
            try clear hcz22_0
            try clear hcz22_1
            try clear hcz22_2
            try clear hcz22_3
            try clear hcz22_4
            try clear hcz25_0
            try clear hcz25_1
            try clear hcz25_2
            try clear hcz25_3
            try clear hcz25_4
            try clear hcz7_0
            try clear hcz7_1
            try clear hcz7_2
            try clear hcz7_3
            try clear hcz7_4
            try clear hfz10_0
            try clear hfz10_1
            try clear hfz10_2
            try clear hfz10_3
            try clear hfz10_4
            try clear hfz13_0
            try clear hfz13_1
            try clear hfz13_2
            try clear hfz13_3
            try clear hfz13_4
            try clear hfz17_0
            try clear hfz17_1
            try clear hfz17_2
            try clear hfz17_3
            try clear hfz17_4
            try clear hfz22_0
            try clear hfz22_1
            try clear hfz22_2
            try clear hfz22_3
            try clear hfz22_4
            try clear hfz25_0
            try clear hfz25_1
            try clear hfz25_2
            try clear hfz25_3
            try clear hfz25_4
            try clear hfz7_0
            try clear hfz7_1
            try clear hfz7_2
            try clear hfz7_3
            try clear hfz7_4
            try clear hx111_0
            try clear hx111_1
            try clear hx111_2
            try clear hx111_3
            try clear hx111_4
            try clear p1
            try clear p11
            try clear p111
            try clear p2
            try clear p6
            try clear q1
            try clear q11
            try clear q111
            obtain ⟨kq, x8_27, rfl, HA, HJ27, BK112, HB⟩ := hcut
            cases kq with
            | zero => exact absurd HA.out (by simp [cracknelref08_text.j1])
            | succ kj27 =>
             have H := HA.out
             clear HA
             simp only [cracknelref08_text.j1] at H
             by_cases c31 : ((rd_T39 l0 a1).f1) = 7
             ·rw [if_pos c31] at H
              have c31b0 : (((rd_T39 l0 a1).f1) == 7) = true := beq_iff_eq.mpr c31
              have c31b1 : (((rd_T39 l0 a1).f1) != 7) = false := bne_eq_false_iff_eq.mpr c31
              clear c31
              by_cases c32 : 0 ≤ x9_1
              ·rw [if_pos c32] at H
               have c32b0 : decide (0 ≤ x9_1) = true := decide_eq_true c32
               clear c32
               by_cases c33 : x9_1 < (l0.length : Int)
               ·rw [if_pos c33] at H
                have c33b0 : decide (x9_1 < (l0.length : Int)) = true := decide_eq_true c33
                clear c33
                replace H := Option.bind_eq_some_iff.mp H
                obtain ⟨⟨t118, t119⟩, A340, H⟩ := H
                replace H : (if x8_27.size + t118.size ≤ 9223372036854775807 then (if (x8_27 ++ t118).size + 1 ≤ 9223372036854775807 then ((cracknelref08_text.f kj27 l0 x9_1).bind fun t120 => (if ((x8_27 ++ t118) ++ (⟨#[58]⟩ : ByteArray)).size + t120.size ≤ 9223372036854775807 then ((cracknelref08_end.f kj27 l0 x9_1).bind fun t121 => (cracknelref08_text.l0 kj27 l0 a1 (((x8_27 ++ t118) ++ (⟨#[58]⟩ : ByteArray)) ++ t120) t121 ((rd_T39 l0 a1).f0) ((rd_T39 l0 a1).f1) ((rd_T39 l0 a1).f2) ((rd_T39 l0 a1).f3) ((rd_T39 l0 a1).f4))) else (none))) else (none)) else (none)) = some r := H
                have A34 := Aside0.mk A340
                clear A340
                by_cases c35 : x8_27.size + t118.size ≤ 9223372036854775807
                ·rw [if_pos c35] at H
                 have c35b0 := eq_true c35
                 have c35b1 : decide (x8_27.size + t118.size ≤ 9223372036854775807) = true := decide_eq_true c35
                 try have c35b2 : (9223372036854775807 < x8_27.size + t118.size) = False := eq_false (Nat.not_lt.2 c35)
                 by_cases c36 : (x8_27 ++ t118).size + 1 ≤ 9223372036854775807
                 ·rw [if_pos c36] at H
                  have c36b0 := eq_true c36
                  have c36b1 : decide ((x8_27 ++ t118).size + 1 ≤ 9223372036854775807) = true := decide_eq_true c36
                  try have c36b2 : (9223372036854775807 < (x8_27 ++ t118).size + 1) = False := eq_false (Nat.not_lt.2 c36)
                  try have c36b3 : (9223372036854775807 < x8_27.size + t118.size + 1) = False := by have q_ := c36b2; simp only [ByteArray.size_append] at q_; exact q_
                  replace H := Option.bind_eq_some_iff.mp H
                  obtain ⟨t120, A370, H⟩ := H
                  replace H : (if ((x8_27 ++ t118) ++ (⟨#[58]⟩ : ByteArray)).size + t120.size ≤ 9223372036854775807 then ((cracknelref08_end.f kj27 l0 x9_1).bind fun t121 => (cracknelref08_text.l0 kj27 l0 a1 (((x8_27 ++ t118) ++ (⟨#[58]⟩ : ByteArray)) ++ t120) t121 ((rd_T39 l0 a1).f0) ((rd_T39 l0 a1).f1) ((rd_T39 l0 a1).f2) ((rd_T39 l0 a1).f3) ((rd_T39 l0 a1).f4))) else (none)) = some r := H
                  have A37 := Aside0.mk A370
                  clear A370
                  by_cases c38 : ((x8_27 ++ t118) ++ (⟨#[58]⟩ : ByteArray)).size + t120.size ≤ 9223372036854775807
                  ·rw [if_pos c38] at H
                   have c38b0 := eq_true c38
                   have c38b1 : decide (((x8_27 ++ t118) ++ (⟨#[58]⟩ : ByteArray)).size + t120.size ≤ 9223372036854775807) = true := decide_eq_true c38
                   try have c38b2 : (9223372036854775807 < ((x8_27 ++ t118) ++ (⟨#[58]⟩ : ByteArray)).size + t120.size) = False := eq_false (Nat.not_lt.2 c38)
                   try have c38b3 : (9223372036854775807 < x8_27.size + t118.size + 1 + t120.size) = False := by have q_ := c38b2; simp only [ByteArray.size_append] at q_; exact q_
                   replace H := Option.bind_eq_some_iff.mp H
                   obtain ⟨t121, A390, H⟩ := H
                   replace H : (cracknelref08_text.l0 kj27 l0 a1 (((x8_27 ++ t118) ++ (⟨#[58]⟩ : ByteArray)) ++ t120) t121 ((rd_T39 l0 a1).f0) ((rd_T39 l0 a1).f1) ((rd_T39 l0 a1).f2) ((rd_T39 l0 a1).f3) ((rd_T39 l0 a1).f4)) = some r := H
                   have A39 := Aside0.mk A390
                   clear A390
                   have H' := Aside0.mk H
                   clear H
                   have hcz40_0 : wc.cell? ⟨gb112, 0, none⟩ = some (.int .i64 ((rd_T39 l0 a1).f0)) := (blk_cell BK112.out 0).trans rfl
                   have hcz40_1 : wc.cell? ⟨gb112, 1, none⟩ = some (.int .i64 ((rd_T39 l0 a1).f1)) := (blk_cell BK112.out 1).trans rfl
                   have hcz40_2 : wc.cell? ⟨gb112, 2, none⟩ = some (.string ((rd_T39 l0 a1).f2)) := (blk_cell BK112.out 2).trans rfl
                   have hcz40_3 : wc.cell? ⟨gb112, 3, none⟩ = some (.string ((rd_T39 l0 a1).f3)) := (blk_cell BK112.out 3).trans rfl
                   have hcz40_4 : wc.cell? ⟨gb112, 4, none⟩ = some (.int .i64 ((rd_T39 l0 a1).f4)) := (blk_cell BK112.out 4).trans rfl
                   have hfz40_0 := blk_frozen BK112.out 0
                   have hfz40_1 := blk_frozen BK112.out 1
                   have hfz40_2 := blk_frozen BK112.out 2
                   have hfz40_3 := blk_frozen BK112.out 3
                   have hfz40_4 := blk_frozen BK112.out 4
                   have p117 : 0 ≤ (x9_1 : Int) := of_decide_eq_true (by first | (with_reducible assumption) | assumption)
                   have q117 : x9_1 < (l0.length : Int) := of_decide_eq_true (by first | (with_reducible assumption) | assumption)
                   obtain ⟨ad117, e117, hx117_0, hx117_1, hx117_2, hx117_3, hx117_4⟩ := at_T39 HR0.out x9_1 p117 q117
                   obtain rfl : ad111 = ad117 := (by injection e117)
                   replace hx117_0 := (HB.out.cell (World.block_lt_of_cell? w _ hx117_0)).trans hx117_0
                   replace hx117_1 := (HB.out.cell (World.block_lt_of_cell? w _ hx117_1)).trans hx117_1
                   replace hx117_2 := (HB.out.cell (World.block_lt_of_cell? w _ hx117_2)).trans hx117_2
                   replace hx117_3 := (HB.out.cell (World.block_lt_of_cell? w _ hx117_3)).trans hx117_3
                   replace hx117_4 := (HB.out.cell (World.block_lt_of_cell? w _ hx117_4)).trans hx117_4
                   replace p117 := eq_true p117
                   replace q117 := eq_true q117
                   go_wp2_with (first | ((with_reducible refine gate_callee (f := 38) rfl ?_); refine goesL_ (some 63) rfl rfl Tryz.func38 (by kernel_rfl) rfl #[.string ((rd_T39 l0 x9_1).f2)] rfl (by (try simp only [List.map_toArray, List.map_cons, List.map_nil]); first | done | rfl | (simp only [List.length_drop, List.length_take]; rfl)) ?_; (with_reducible refine (cracknelref07_Write.calls kj27 ((rd_T39 l0 x9_1).f2) t118 t119 _ A34.out).mono ?_); rintro e w41 ⟨rfl, hb⟩; refine ⟨_, rfl, ?_⟩; have n0_ := Aside0.mk (blk_below (g := gb112) (o := .cells #[.int .i64 ((rd_T39 l0 a1).f0), .int .i64 ((rd_T39 l0 a1).f1), .string ((rd_T39 l0 a1).f2), .string ((rd_T39 l0 a1).f3), .int .i64 ((rd_T39 l0 a1).f4)] 39 (0, 0)) (by (with_reducible repeat (first | refine blk_drewN ?_ _ | refine blk_drew ?_ | refine blk_alloc ?_ _)); exact BK112.out) hb); have n1_ := Aside0.mk (below_step (by repeat (first | (with_reducible first | exact HB.out | apply below_alloc | apply pw_below_drewN | apply below_drew1 | refine below_set ?_ GE112.out) | exact HB.out)) hb); clear BK112; clear HB; have BK112 := n0_; have HB := n1_; clear n0_ n1_; (try clear hb); (try clear hb2); (try clear hk); (try clear hi)) | ((with_reducible refine gate_callee (f := 21) rfl ?_); refine goesL_ (some 73) rfl rfl Tryz.func21 (by kernel_rfl) rfl #[.slice (some ad111) l0.length c0, .int .i64 x9_1] rfl (by (try simp only [List.map_toArray, List.map_cons, List.map_nil]); first | done | rfl | (simp only [List.length_drop, List.length_take]; rfl)) ?_; (with_reducible refine (ih kj27 (by have := HK1.out; have := HJ27.out; omega) _ _ l0 x9_1 t120 _ ?side1 ?side2 A37.out).mono ?_); (case side1 => repeat (first | exact (Kd.C_below HR0.out HB.out) | (with_reducible refine Kd.C_alloc ?_ _) | (with_reducible refine Kd.C_drewN ?_ _) | (with_reducible refine Kd.C_drew ?_))); (case side2 => exact HC0.out); rintro e w42 ⟨rfl, hb⟩; refine ⟨_, rfl, ?_⟩; have n0_ := Aside0.mk (blk_below (g := gb112) (o := .cells #[.int .i64 ((rd_T39 l0 a1).f0), .int .i64 ((rd_T39 l0 a1).f1), .string ((rd_T39 l0 a1).f2), .string ((rd_T39 l0 a1).f3), .int .i64 ((rd_T39 l0 a1).f4)] 39 (0, 0)) (by (with_reducible repeat (first | refine blk_drewN ?_ _ | refine blk_drew ?_ | refine blk_alloc ?_ _)); exact BK112.out) hb); have n1_ := Aside0.mk (below_step (by repeat (first | (with_reducible first | exact HB.out | apply below_alloc | apply pw_below_drewN | apply below_drew1 | refine below_set ?_ GE112.out) | exact HB.out)) hb); clear BK112; clear HB; have BK112 := n0_; have HB := n1_; clear n0_ n1_; (try clear hb); (try clear hb2); (try clear hk); (try clear hi)) | ((with_reducible refine gate_callee (f := 39) rfl ?_); refine goesL_ (some 47) rfl rfl Tryz.func39 (by kernel_rfl) rfl #[.slice (some ad111) l0.length c0, .int .i64 x9_1] rfl (by (try simp only [List.map_toArray, List.map_cons, List.map_nil]); first | done | rfl | (simp only [List.length_drop, List.length_take]; rfl)) ?_; (with_reducible refine (cracknelref08_end.calls kj27 _ _ l0 x9_1 t121 _ ?side1 ?side2 A39.out).mono ?_); (case side1 => repeat (first | exact (Kd.C_below HR0.out HB.out) | (with_reducible refine Kd.C_alloc ?_ _) | (with_reducible refine Kd.C_drewN ?_ _) | (with_reducible refine Kd.C_drew ?_))); (case side2 => exact HC0.out); rintro e w' ⟨rfl, ⟨nd, rfl⟩⟩; refine ⟨_, rfl, ?_⟩))
                   go_roundg kj27
                   case measure => have := HK1.out; have := HJ27.out; omega
                   case rel => exact ⟨(((x8_27 ++ t118) ++ (⟨#[58]⟩ : ByteArray)) ++ t120), (t121), (by first | rfl | (simp; done) | (simp [*]; done)), (by first | rfl | (simp; done) | (simp [*]; done)), H', ⟨by have := HK1.out; have := HJ27.out; omega⟩, ⟨by (with_reducible repeat (first | refine blk_drewN ?_ _ | refine blk_drew ?_ | refine blk_alloc ?_ _)); exact BK112.out⟩, ⟨by repeat (first | (with_reducible first | exact HB.out | apply below_alloc | apply pw_below_drewN | apply below_drew1 | refine below_set ?_ GE112.out) | exact HB.out)⟩⟩
                  ·rw [if_neg c38] at H
                   exact absurd H (by simp)
                 ·rw [if_neg c36] at H
                  exact absurd H (by simp)
                ·rw [if_neg c35] at H
                 exact absurd H (by simp)
               ·rw [if_neg c33] at H
                exact absurd H (by simp)
              ·rw [if_neg c32] at H
               exact absurd H (by simp)
             ·rw [if_neg c31] at H
              have c31b0 : (((rd_T39 l0 a1).f1) == 7) = false := beq_eq_false_iff_ne.mpr c31
              have c31b1 : (((rd_T39 l0 a1).f1) != 7) = true := bne_iff_ne.mpr c31
              replace H := Option.bind_eq_some_iff.mp H
              obtain ⟨t122, A430, H⟩ := H
              replace H : (if x8_27.size + t122.size ≤ 9223372036854775807 then ((cracknelref08_end.f kj27 l0 x9_1).bind fun t123 => (cracknelref08_text.l0 kj27 l0 a1 (x8_27 ++ t122) t123 ((rd_T39 l0 a1).f0) ((rd_T39 l0 a1).f1) ((rd_T39 l0 a1).f2) ((rd_T39 l0 a1).f3) ((rd_T39 l0 a1).f4))) else (none)) = some r := H
              have A43 := Aside0.mk A430
              clear A430
              by_cases c44 : x8_27.size + t122.size ≤ 9223372036854775807
              ·rw [if_pos c44] at H
               have c44b0 := eq_true c44
               have c44b1 : decide (x8_27.size + t122.size ≤ 9223372036854775807) = true := decide_eq_true c44
               try have c44b2 : (9223372036854775807 < x8_27.size + t122.size) = False := eq_false (Nat.not_lt.2 c44)
               replace H := Option.bind_eq_some_iff.mp H
               obtain ⟨t123, A450, H⟩ := H
               replace H : (cracknelref08_text.l0 kj27 l0 a1 (x8_27 ++ t122) t123 ((rd_T39 l0 a1).f0) ((rd_T39 l0 a1).f1) ((rd_T39 l0 a1).f2) ((rd_T39 l0 a1).f3) ((rd_T39 l0 a1).f4)) = some r := H
               have A45 := Aside0.mk A450
               clear A450
               have H' := Aside0.mk H
               clear H
               have hcz46_0 : wc.cell? ⟨gb112, 0, none⟩ = some (.int .i64 ((rd_T39 l0 a1).f0)) := (blk_cell BK112.out 0).trans rfl
               have hcz46_1 : wc.cell? ⟨gb112, 1, none⟩ = some (.int .i64 ((rd_T39 l0 a1).f1)) := (blk_cell BK112.out 1).trans rfl
               have hcz46_2 : wc.cell? ⟨gb112, 2, none⟩ = some (.string ((rd_T39 l0 a1).f2)) := (blk_cell BK112.out 2).trans rfl
               have hcz46_3 : wc.cell? ⟨gb112, 3, none⟩ = some (.string ((rd_T39 l0 a1).f3)) := (blk_cell BK112.out 3).trans rfl
               have hcz46_4 : wc.cell? ⟨gb112, 4, none⟩ = some (.int .i64 ((rd_T39 l0 a1).f4)) := (blk_cell BK112.out 4).trans rfl
               have hfz46_0 := blk_frozen BK112.out 0
               have hfz46_1 := blk_frozen BK112.out 1
               have hfz46_2 := blk_frozen BK112.out 2
               have hfz46_3 := blk_frozen BK112.out 3
               have hfz46_4 := blk_frozen BK112.out 4
               go_wp2_with (first | ((with_reducible refine gate_callee (f := 21) rfl ?_); refine goesL_ (some 73) rfl rfl Tryz.func21 (by kernel_rfl) rfl #[.slice (some ad111) l0.length c0, .int .i64 x9_1] rfl (by (try simp only [List.map_toArray, List.map_cons, List.map_nil]); first | done | rfl | (simp only [List.length_drop, List.length_take]; rfl)) ?_; (with_reducible refine (ih kj27 (by have := HK1.out; have := HJ27.out; omega) _ _ l0 x9_1 t122 _ ?side1 ?side2 A43.out).mono ?_); (case side1 => repeat (first | exact (Kd.C_below HR0.out HB.out) | (with_reducible refine Kd.C_alloc ?_ _) | (with_reducible refine Kd.C_drewN ?_ _) | (with_reducible refine Kd.C_drew ?_))); (case side2 => exact HC0.out); rintro e w47 ⟨rfl, hb⟩; refine ⟨_, rfl, ?_⟩; have n0_ := Aside0.mk (blk_below (g := gb112) (o := .cells #[.int .i64 ((rd_T39 l0 a1).f0), .int .i64 ((rd_T39 l0 a1).f1), .string ((rd_T39 l0 a1).f2), .string ((rd_T39 l0 a1).f3), .int .i64 ((rd_T39 l0 a1).f4)] 39 (0, 0)) (by (with_reducible repeat (first | refine blk_drewN ?_ _ | refine blk_drew ?_ | refine blk_alloc ?_ _)); exact BK112.out) hb); have n1_ := Aside0.mk (below_step (by repeat (first | (with_reducible first | exact HB.out | apply below_alloc | apply pw_below_drewN | apply below_drew1 | refine below_set ?_ GE112.out) | exact HB.out)) hb); clear BK112; clear HB; have BK112 := n0_; have HB := n1_; clear n0_ n1_; (try clear hb); (try clear hb2); (try clear hk); (try clear hi)) | ((with_reducible refine gate_callee (f := 39) rfl ?_); refine goesL_ (some 47) rfl rfl Tryz.func39 (by kernel_rfl) rfl #[.slice (some ad111) l0.length c0, .int .i64 x9_1] rfl (by (try simp only [List.map_toArray, List.map_cons, List.map_nil]); first | done | rfl | (simp only [List.length_drop, List.length_take]; rfl)) ?_; (with_reducible refine (cracknelref08_end.calls kj27 _ _ l0 x9_1 t123 _ ?side1 ?side2 A45.out).mono ?_); (case side1 => repeat (first | exact (Kd.C_below HR0.out HB.out) | (with_reducible refine Kd.C_alloc ?_ _) | (with_reducible refine Kd.C_drewN ?_ _) | (with_reducible refine Kd.C_drew ?_))); (case side2 => exact HC0.out); rintro e w' ⟨rfl, ⟨nd, rfl⟩⟩; refine ⟨_, rfl, ?_⟩))
               go_roundg kj27
               case measure => have := HK1.out; have := HJ27.out; omega
               case rel => exact ⟨(x8_27 ++ t122), (t123), (by first | rfl | (simp; done) | (simp [*]; done)), (by first | rfl | (simp; done) | (simp [*]; done)), H', ⟨by have := HK1.out; have := HJ27.out; omega⟩, ⟨by (with_reducible repeat (first | refine blk_drewN ?_ _ | refine blk_drew ?_ | refine blk_alloc ?_ _)); exact BK112.out⟩, ⟨by repeat (first | (with_reducible first | exact HB.out | apply below_alloc | apply pw_below_drewN | apply below_drew1 | refine below_set ?_ GE112.out) | exact HB.out)⟩⟩
              ·rw [if_neg c44] at H
               exact absurd H (by simp)
          ·rw [if_neg c27] at H
           have c27b0 : decide (x9_1 < t116) = false := decide_eq_false c27
           clear c27
           by_cases c48 : ((rd_T39 l0 a1).f1) = 6
           ·rw [if_pos c48] at H
            have c48b0 : (((rd_T39 l0 a1).f1) == 6) = true := beq_iff_eq.mpr c48
            have c48b1 : (((rd_T39 l0 a1).f1) != 6) = false := bne_eq_false_iff_eq.mpr c48
            clear c48
            by_cases c49 : 1 + x8_1.size ≤ 9223372036854775807
            ·rw [if_pos c49] at H
             have c49b0 := eq_true c49
             have c49b1 : decide (1 + x8_1.size ≤ 9223372036854775807) = true := decide_eq_true c49
             try have c49b2 : (9223372036854775807 < 1 + x8_1.size) = False := eq_false (Nat.not_lt.2 c49)
             by_cases c50 : ((⟨#[91]⟩ : ByteArray) ++ x8_1).size + 1 ≤ 9223372036854775807
             ·rw [if_pos c50] at H
              have c50b0 := eq_true c50
              have c50b1 : decide (((⟨#[91]⟩ : ByteArray) ++ x8_1).size + 1 ≤ 9223372036854775807) = true := decide_eq_true c50
              try have c50b2 : (9223372036854775807 < ((⟨#[91]⟩ : ByteArray) ++ x8_1).size + 1) = False := eq_false (Nat.not_lt.2 c50)
              try have c50b3 : (9223372036854775807 < 1 + x8_1.size + 1) = False := by have q_ := c50b2; simp only [ByteArray.size_append] at q_; exact q_
              obtain rfl := Option.some.inj H
              go_wp2_with (first | ((with_reducible refine gate_callee (f := 39) rfl ?_); refine goesL_ (some 43) rfl rfl Tryz.func39 (by kernel_rfl) rfl #[.slice (some ad111) l0.length c0, .int .i64 a1] rfl (by (try simp only [List.map_toArray, List.map_cons, List.map_nil]); first | done | rfl | (simp only [List.length_drop, List.length_take]; rfl)) ?_; (with_reducible refine (cracknelref08_end.calls k1 _ _ l0 a1 t116 _ ?side1 ?side2 A26.out).mono ?_); (case side1 => repeat (first | exact (Kd.C_below HR0.out HB.out) | (with_reducible refine Kd.C_alloc ?_ _) | (with_reducible refine Kd.C_drewN ?_ _) | (with_reducible refine Kd.C_drew ?_))); (case side2 => exact HC0.out); rintro e w' ⟨rfl, ⟨nd, rfl⟩⟩; refine ⟨_, rfl, ?_⟩; have hcz51_0 : wr.cell? ⟨gb112, 0, none⟩ = some (.int .i64 ((rd_T39 l0 a1).f0)) := (blk_cell BK112.out 0).trans rfl; have hcz51_1 : wr.cell? ⟨gb112, 1, none⟩ = some (.int .i64 ((rd_T39 l0 a1).f1)) := (blk_cell BK112.out 1).trans rfl; have hcz51_2 : wr.cell? ⟨gb112, 2, none⟩ = some (.string ((rd_T39 l0 a1).f2)) := (blk_cell BK112.out 2).trans rfl; have hcz51_3 : wr.cell? ⟨gb112, 3, none⟩ = some (.string ((rd_T39 l0 a1).f3)) := (blk_cell BK112.out 3).trans rfl; have hcz51_4 : wr.cell? ⟨gb112, 4, none⟩ = some (.int .i64 ((rd_T39 l0 a1).f4)) := (blk_cell BK112.out 4).trans rfl; have hfz51_0 := blk_frozen BK112.out 0; have hfz51_1 := blk_frozen BK112.out 1; have hfz51_2 := blk_frozen BK112.out 2; have hfz51_3 := blk_frozen BK112.out 3; have hfz51_4 := blk_frozen BK112.out 4))
              go_ret
              exact ⟨by first | rfl | (simp [errW_none, errW_some] <;> rfl) | (simp [*, errW_none, errW_some] <;> rfl), by repeat (first | (with_reducible first | exact HB.out | apply below_alloc | apply pw_below_drewN | apply below_drew1 | refine below_set ?_ GE112.out) | exact HB.out)⟩
             ·rw [if_neg c50] at H
              exact absurd H (by simp)
            ·rw [if_neg c49] at H
             exact absurd H (by simp)
           ·rw [if_neg c48] at H
            have c48b0 : (((rd_T39 l0 a1).f1) == 6) = false := beq_eq_false_iff_ne.mpr c48
            have c48b1 : (((rd_T39 l0 a1).f1) != 6) = true := bne_iff_ne.mpr c48
            by_cases c52 : 1 + x8_1.size ≤ 9223372036854775807
            ·rw [if_pos c52] at H
             have c52b0 := eq_true c52
             have c52b1 : decide (1 + x8_1.size ≤ 9223372036854775807) = true := decide_eq_true c52
             try have c52b2 : (9223372036854775807 < 1 + x8_1.size) = False := eq_false (Nat.not_lt.2 c52)
             by_cases c53 : ((⟨#[123]⟩ : ByteArray) ++ x8_1).size + 1 ≤ 9223372036854775807
             ·rw [if_pos c53] at H
              have c53b0 := eq_true c53
              have c53b1 : decide (((⟨#[123]⟩ : ByteArray) ++ x8_1).size + 1 ≤ 9223372036854775807) = true := decide_eq_true c53
              try have c53b2 : (9223372036854775807 < ((⟨#[123]⟩ : ByteArray) ++ x8_1).size + 1) = False := eq_false (Nat.not_lt.2 c53)
              try have c53b3 : (9223372036854775807 < 1 + x8_1.size + 1) = False := by have q_ := c53b2; simp only [ByteArray.size_append] at q_; exact q_
              obtain rfl := Option.some.inj H
              go_wp2_with (first | ((with_reducible refine gate_callee (f := 39) rfl ?_); refine goesL_ (some 43) rfl rfl Tryz.func39 (by kernel_rfl) rfl #[.slice (some ad111) l0.length c0, .int .i64 a1] rfl (by (try simp only [List.map_toArray, List.map_cons, List.map_nil]); first | done | rfl | (simp only [List.length_drop, List.length_take]; rfl)) ?_; (with_reducible refine (cracknelref08_end.calls k1 _ _ l0 a1 t116 _ ?side1 ?side2 A26.out).mono ?_); (case side1 => repeat (first | exact (Kd.C_below HR0.out HB.out) | (with_reducible refine Kd.C_alloc ?_ _) | (with_reducible refine Kd.C_drewN ?_ _) | (with_reducible refine Kd.C_drew ?_))); (case side2 => exact HC0.out); rintro e w' ⟨rfl, ⟨nd, rfl⟩⟩; refine ⟨_, rfl, ?_⟩; have hcz54_0 : wr.cell? ⟨gb112, 0, none⟩ = some (.int .i64 ((rd_T39 l0 a1).f0)) := (blk_cell BK112.out 0).trans rfl; have hcz54_1 : wr.cell? ⟨gb112, 1, none⟩ = some (.int .i64 ((rd_T39 l0 a1).f1)) := (blk_cell BK112.out 1).trans rfl; have hcz54_2 : wr.cell? ⟨gb112, 2, none⟩ = some (.string ((rd_T39 l0 a1).f2)) := (blk_cell BK112.out 2).trans rfl; have hcz54_3 : wr.cell? ⟨gb112, 3, none⟩ = some (.string ((rd_T39 l0 a1).f3)) := (blk_cell BK112.out 3).trans rfl; have hcz54_4 : wr.cell? ⟨gb112, 4, none⟩ = some (.int .i64 ((rd_T39 l0 a1).f4)) := (blk_cell BK112.out 4).trans rfl; have hfz54_0 := blk_frozen BK112.out 0; have hfz54_1 := blk_frozen BK112.out 1; have hfz54_2 := blk_frozen BK112.out 2; have hfz54_3 := blk_frozen BK112.out 3; have hfz54_4 := blk_frozen BK112.out 4))
              go_ret
              exact ⟨by first | rfl | (simp [errW_none, errW_some] <;> rfl) | (simp [*, errW_none, errW_some] <;> rfl), by repeat (first | (with_reducible first | exact HB.out | apply below_alloc | apply pw_below_drewN | apply below_drew1 | refine below_set ?_ GE112.out) | exact HB.out)⟩
             ·rw [if_neg c53] at H
              exact absurd H (by simp)
            ·rw [if_neg c52] at H
             exact absurd H (by simp)
  ·rw [if_neg c4] at H
   exact absurd H (by simp)
 ·rw [if_neg c3] at H
  exact absurd H (by simp)
def cracknelref08_Print.f (k : Nat) (l0 : List (S39)) : Option (ByteArray) := (cracknelref08_Right.f k l0).bind fun t124 => (if t124 = true then ((cracknelref08_text.f k l0 0).bind fun t125 => (some t125)) else (some (⟨#[]⟩ : ByteArray)))
set_option maxHeartbeats 8000000 in
set_option maxRecDepth 100000 in
theorem cracknelref08_Print.calls (k : Nat) (A0 : Option Addr) (c0 : Nat) (l0 : List (S39)) (r : ByteArray) (w : World) (hr0 : Kd.C k39 w A0 l0.length l0) (hc0 : l0.length ≤ c0) (h : cracknelref08_Print.f k l0 = some r) :
  Calls Tryz.prog 9 #[.slice A0 l0.length c0] w fun e w' => e = .returned (.string r) ∧ Below w.heap.size w w' := by
 have HR0 := Aside0.mk hr0
 have HC0 := Aside0.mk hc0
 clear hr0 hc0
 have HB := Aside0.mk (Below.refl w.heap.size w)
 have H : ((cracknelref08_Right.f k l0).bind fun t124 => (if t124 = true then ((cracknelref08_text.f k l0 0).bind fun t125 => (some t125)) else (some (⟨#[]⟩ : ByteArray)))) = some r := h
 clear h
 replace H := Option.bind_eq_some_iff.mp H
 obtain ⟨t124, A20, H⟩ := H
 replace H : (if t124 = true then ((cracknelref08_text.f k l0 0).bind fun t125 => (some t125)) else (some (⟨#[]⟩ : ByteArray))) = some r := H
 have A2 := Aside0.mk A20
 clear A20
 by_cases c3 : t124 = true
 ·subst c3
  have H1 : ((cracknelref08_text.f k l0 0).bind fun t125 => (some t125)) = some r := by rw [if_pos rfl] at H; exact H
  clear H
  have H := H1
  clear H1
  replace H := Option.bind_eq_some_iff.mp H
  obtain ⟨t125, A40, H⟩ := H
  replace H : (some t125) = some r := H
  have A4 := Aside0.mk A40
  clear A40
  obtain rfl := Option.some.inj H
  go_enter Tryz.func9, Tryz.ntmps9
  go_wp2_with (first | ((with_reducible refine gate_callee (f := 11) rfl ?_); refine goesL_ (some 4) rfl rfl Tryz.func11 (by kernel_rfl) rfl #[.slice A0 l0.length c0] rfl (by (try simp only [List.map_toArray, List.map_cons, List.map_nil]); first | done | rfl | (simp only [List.length_drop, List.length_take]; rfl)) ?_; (with_reducible refine (cracknelref08_Right.calls k _ _ l0 true _ ?side1 ?side2 A2.out).mono ?_); (case side1 => repeat (first | exact HR0.out | (with_reducible refine Kd.C_alloc ?_ _) | (with_reducible refine Kd.C_drewN ?_ _) | (with_reducible refine Kd.C_drew ?_))); (case side2 => exact HC0.out); rintro e w5 ⟨rfl, hb⟩; refine ⟨_, rfl, ?_⟩; have n0_ := Aside0.mk (below_step (by repeat (first | (with_reducible first | exact HB.out | apply below_alloc | apply pw_below_drewN | apply below_drew1) | exact HB.out)) hb); clear HB; have HB := n0_; clear n0_; (try clear hb); (try clear hb2); (try clear hk); (try clear hi)) | ((with_reducible refine gate_callee (f := 21) rfl ?_); refine goesL_ (some 7) rfl rfl Tryz.func21 (by kernel_rfl) rfl #[.slice A0 l0.length c0, .int .i64 0] rfl (by (try simp only [List.map_toArray, List.map_cons, List.map_nil]); first | done | rfl | (simp only [List.length_drop, List.length_take]; rfl)) ?_; (with_reducible refine (cracknelref08_text.calls k _ _ l0 0 t125 _ ?side1 ?side2 A4.out).mono ?_); (case side1 => repeat (first | exact (Kd.C_below HR0.out HB.out) | (with_reducible refine Kd.C_alloc ?_ _) | (with_reducible refine Kd.C_drewN ?_ _) | (with_reducible refine Kd.C_drew ?_))); (case side2 => exact HC0.out); rintro e w6 ⟨rfl, hb⟩; refine ⟨_, rfl, ?_⟩; have n0_ := Aside0.mk (below_step (by repeat (first | (with_reducible first | exact HB.out | apply below_alloc | apply pw_below_drewN | apply below_drew1) | exact HB.out)) hb); clear HB; have HB := n0_; clear n0_; (try clear hb); (try clear hb2); (try clear hk); (try clear hi)))
  go_ret
  exact ⟨by first | rfl | (simp [errW_none, errW_some] <;> rfl) | (simp [*, errW_none, errW_some] <;> rfl), by repeat (first | (with_reducible first | exact HB.out | apply below_alloc | apply pw_below_drewN | apply below_drew1) | exact HB.out)⟩
 ·replace c3 := Bool.eq_false_iff.mpr c3
  subst c3
  have H1 : (some (⟨#[]⟩ : ByteArray)) = some r := by rw [if_neg (show ¬ (false = true) by decide)] at H; exact H
  clear H
  have H := H1
  clear H1
  obtain rfl := Option.some.inj H
  go_enter Tryz.func9, Tryz.ntmps9
  go_wp2_with (first | ((with_reducible refine gate_callee (f := 11) rfl ?_); refine goesL_ (some 4) rfl rfl Tryz.func11 (by kernel_rfl) rfl #[.slice A0 l0.length c0] rfl (by (try simp only [List.map_toArray, List.map_cons, List.map_nil]); first | done | rfl | (simp only [List.length_drop, List.length_take]; rfl)) ?_; (with_reducible refine (cracknelref08_Right.calls k _ _ l0 false _ ?side1 ?side2 A2.out).mono ?_); (case side1 => repeat (first | exact HR0.out | (with_reducible refine Kd.C_alloc ?_ _) | (with_reducible refine Kd.C_drewN ?_ _) | (with_reducible refine Kd.C_drew ?_))); (case side2 => exact HC0.out); rintro e w7 ⟨rfl, hb⟩; refine ⟨_, rfl, ?_⟩; have n0_ := Aside0.mk (below_step (by repeat (first | (with_reducible first | exact HB.out | apply below_alloc | apply pw_below_drewN | apply below_drew1) | exact HB.out)) hb); clear HB; have HB := n0_; clear n0_; (try clear hb); (try clear hb2); (try clear hk); (try clear hi)))
  go_ret
  exact ⟨by first | rfl | (simp [errW_none, errW_some] <;> rfl) | (simp [*, errW_none, errW_some] <;> rfl), by repeat (first | (with_reducible first | exact HB.out | apply below_alloc | apply pw_below_drewN | apply below_drew1) | exact HB.out)⟩
end Go.Proofs.YthhmmaihbjhhgaaGreatDoor.J3
namespace Go.Proofs.YthhmmaihbjhhgaaGreatDoor.J3
open Go.Proofs.YthhmmaihbjhhgaaGreatDoor.Giv Go.Proofs.YthhmmaihbjhhgaaGreatDoor.U1 Go.Proofs.YthhmmaihbjhhgaaGreatDoor.Q1 Go.Proofs.YthhmmaihbjhhgaaGreatDoor.J0 Go.Proofs.YthhmmaihbjhhgaaGreatDoor.J1 Go.Proofs.YthhmmaihbjhhgaaGreatDoor.J2 Go.RowKit Go.Proofs.YthhmmaihbjhhgaaGreatDoorW.PrintWords Go.Proofs.YthhmmaihbjhhgaaGreatDoorW.PrintLast Go.Proofs.YthhmmaihbjhhgaaGreatDoorW.PrintMore
attribute [local go_sem] max2_int min2_int max_two min_two max_three min_three max_four min_four
set_option linter.unusedVariables false
set_option linter.unusedSimpArgs false
def cracknellaw08_JsonPrints.f (k : Nat) (l0 : List (S39)) : Option (Bool) := (cracknellaw08_small.f k l0).bind fun t165 => (if t165 = true then ((cracknellaw08_News.f l0).bind fun t167 => ((json_Print.f t167).bind fun t170 => ((cracknelref08_Print.f k l0).bind fun t171 => (if t170.toList = t171.toList then ((json_Parse.f k t170).bind fun bt172 => ((cracknellaw08_alive.f).bind fun t176 => (if t176 = true then ((cracknelref08_Right.f k l0).bind fun t177 => (if ((bt172.2 == 0) == t177) = true then (if bt172.2 = 0 then ((cracknellaw08_Olds.f bt172.1).bind fun t178 => ((cracknelref08_Same.f k t178 l0).bind fun t181 => (some t181))) else (some true)) else (some false))) else (some false)))) else (some false))))) else ((cracknellaw08_alive.f).bind fun t166 => (some t166)))
set_option maxHeartbeats 8000000 in
set_option maxRecDepth 100000 in
theorem cracknellaw08_JsonPrints.calls (k : Nat) (A0 : Option Addr) (c0 : Nat) (l0 : List (S39)) (r : Bool) (w : World) (hr0 : Kd.C k39 w A0 l0.length l0) (hc0 : l0.length ≤ c0) (h : cracknellaw08_JsonPrints.f k l0 = some r) (TJ_ : JTabs w := by first | assumption | (refine JTabs.step (by assumption) ?_; repeat (first | exact Aside0.out (by assumption) | apply below_alloc | apply pw_below_drewN | apply below_drew1 | exact Below.refl _ _))) (TB_ : Tabs w := by first | assumption | (refine Tabs.step (by assumption) ?_; repeat (first | exact Aside0.out (by assumption) | apply below_alloc | apply pw_below_drewN | apply below_drew1 | exact Below.refl _ _))) :
  Calls Tryz.prog 3 #[.slice A0 l0.length c0] w fun e w' => e = .returned (.bool r) ∧ Below w.heap.size w w' := by
 have HR0 := Aside0.mk hr0
 have HC0 := Aside0.mk hc0
 clear hr0 hc0
 have HB := Aside0.mk (Below.refl w.heap.size w)
 have H : ((cracknellaw08_small.f k l0).bind fun t165 => (if t165 = true then ((cracknellaw08_News.f l0).bind fun t167 => ((json_Print.f t167).bind fun t170 => ((cracknelref08_Print.f k l0).bind fun t171 => (if t170.toList = t171.toList then ((json_Parse.f k t170).bind fun bt172 => ((cracknellaw08_alive.f).bind fun t176 => (if t176 = true then ((cracknelref08_Right.f k l0).bind fun t177 => (if ((bt172.2 == 0) == t177) = true then (if bt172.2 = 0 then ((cracknellaw08_Olds.f bt172.1).bind fun t178 => ((cracknelref08_Same.f k t178 l0).bind fun t181 => (some t181))) else (some true)) else (some false))) else (some false)))) else (some false))))) else ((cracknellaw08_alive.f).bind fun t166 => (some t166)))) = some r := h
 clear h
 replace H := Option.bind_eq_some_iff.mp H
 obtain ⟨t165, A20, H⟩ := H
 replace H : (if t165 = true then ((cracknellaw08_News.f l0).bind fun t167 => ((json_Print.f t167).bind fun t170 => ((cracknelref08_Print.f k l0).bind fun t171 => (if t170.toList = t171.toList then ((json_Parse.f k t170).bind fun bt172 => ((cracknellaw08_alive.f).bind fun t176 => (if t176 = true then ((cracknelref08_Right.f k l0).bind fun t177 => (if ((bt172.2 == 0) == t177) = true then (if bt172.2 = 0 then ((cracknellaw08_Olds.f bt172.1).bind fun t178 => ((cracknelref08_Same.f k t178 l0).bind fun t181 => (some t181))) else (some true)) else (some false))) else (some false)))) else (some false))))) else ((cracknellaw08_alive.f).bind fun t166 => (some t166))) = some r := H
 have A2 := Aside0.mk A20
 clear A20
 by_cases c3 : t165 = true
 ·subst c3
  have H1 : ((cracknellaw08_News.f l0).bind fun t167 => ((json_Print.f t167).bind fun t170 => ((cracknelref08_Print.f k l0).bind fun t171 => (if t170.toList = t171.toList then ((json_Parse.f k t170).bind fun bt172 => ((cracknellaw08_alive.f).bind fun t176 => (if t176 = true then ((cracknelref08_Right.f k l0).bind fun t177 => (if ((bt172.2 == 0) == t177) = true then (if bt172.2 = 0 then ((cracknellaw08_Olds.f bt172.1).bind fun t178 => ((cracknelref08_Same.f k t178 l0).bind fun t181 => (some t181))) else (some true)) else (some false))) else (some false)))) else (some false))))) = some r := by rw [if_pos rfl] at H; exact H
  clear H
  have H := H1
  clear H1
  replace H := Option.bind_eq_some_iff.mp H
  obtain ⟨t167, A40, H⟩ := H
  replace H : ((json_Print.f t167).bind fun t170 => ((cracknelref08_Print.f k l0).bind fun t171 => (if t170.toList = t171.toList then ((json_Parse.f k t170).bind fun bt172 => ((cracknellaw08_alive.f).bind fun t176 => (if t176 = true then ((cracknelref08_Right.f k l0).bind fun t177 => (if ((bt172.2 == 0) == t177) = true then (if bt172.2 = 0 then ((cracknellaw08_Olds.f bt172.1).bind fun t178 => ((cracknelref08_Same.f k t178 l0).bind fun t181 => (some t181))) else (some true)) else (some false))) else (some false)))) else (some false)))) = some r := H
  have A4 := Aside0.mk A40
  clear A40
  replace H := Option.bind_eq_some_iff.mp H
  obtain ⟨t170, A50, H⟩ := H
  replace H : ((cracknelref08_Print.f k l0).bind fun t171 => (if t170.toList = t171.toList then ((json_Parse.f k t170).bind fun bt172 => ((cracknellaw08_alive.f).bind fun t176 => (if t176 = true then ((cracknelref08_Right.f k l0).bind fun t177 => (if ((bt172.2 == 0) == t177) = true then (if bt172.2 = 0 then ((cracknellaw08_Olds.f bt172.1).bind fun t178 => ((cracknelref08_Same.f k t178 l0).bind fun t181 => (some t181))) else (some true)) else (some false))) else (some false)))) else (some false))) = some r := H
  have A5 := Aside0.mk A50
  clear A50
  replace H := Option.bind_eq_some_iff.mp H
  obtain ⟨t171, A60, H⟩ := H
  replace H : (if t170.toList = t171.toList then ((json_Parse.f k t170).bind fun bt172 => ((cracknellaw08_alive.f).bind fun t176 => (if t176 = true then ((cracknelref08_Right.f k l0).bind fun t177 => (if ((bt172.2 == 0) == t177) = true then (if bt172.2 = 0 then ((cracknellaw08_Olds.f bt172.1).bind fun t178 => ((cracknelref08_Same.f k t178 l0).bind fun t181 => (some t181))) else (some true)) else (some false))) else (some false)))) else (some false)) = some r := H
  have A6 := Aside0.mk A60
  clear A60
  by_cases c7 : t170.toList = t171.toList
  ·rw [if_pos c7] at H
   have c7b0 : (t170.toList == t171.toList) = true := beq_iff_eq.mpr c7
   have c7b1 : (t170.toList != t171.toList) = false := bne_eq_false_iff_eq.mpr c7
   clear c7
   replace H := Option.bind_eq_some_iff.mp H
   obtain ⟨⟨t172, t173⟩, A80, H⟩ := H
   replace H : ((cracknellaw08_alive.f).bind fun t176 => (if t176 = true then ((cracknelref08_Right.f k l0).bind fun t177 => (if ((t173 == 0) == t177) = true then (if t173 = 0 then ((cracknellaw08_Olds.f t172).bind fun t178 => ((cracknelref08_Same.f k t178 l0).bind fun t181 => (some t181))) else (some true)) else (some false))) else (some false))) = some r := H
   have A8 := Aside0.mk A80
   clear A80
   replace H := Option.bind_eq_some_iff.mp H
   obtain ⟨t176, A90, H⟩ := H
   replace H : (if t176 = true then ((cracknelref08_Right.f k l0).bind fun t177 => (if ((t173 == 0) == t177) = true then (if t173 = 0 then ((cracknellaw08_Olds.f t172).bind fun t178 => ((cracknelref08_Same.f k t178 l0).bind fun t181 => (some t181))) else (some true)) else (some false))) else (some false)) = some r := H
   have A9 := Aside0.mk A90
   clear A90
   by_cases c10 : t176 = true
   ·subst c10
    have H1 : ((cracknelref08_Right.f k l0).bind fun t177 => (if ((t173 == 0) == t177) = true then (if t173 = 0 then ((cracknellaw08_Olds.f t172).bind fun t178 => ((cracknelref08_Same.f k t178 l0).bind fun t181 => (some t181))) else (some true)) else (some false))) = some r := by rw [if_pos rfl] at H; exact H
    clear H
    have H := H1
    clear H1
    replace H := Option.bind_eq_some_iff.mp H
    obtain ⟨t177, A110, H⟩ := H
    replace H : (if ((t173 == 0) == t177) = true then (if t173 = 0 then ((cracknellaw08_Olds.f t172).bind fun t178 => ((cracknelref08_Same.f k t178 l0).bind fun t181 => (some t181))) else (some true)) else (some false)) = some r := H
    have A11 := Aside0.mk A110
    clear A110
    by_cases c12 : ((t173 == 0) == t177) = true
    ·rw [if_pos c12] at H
     have c12b0 : ((t173 == 0) == t177) = true := c12
     (try (have c12b1 : decide ((t173 == 0) = t177) = true := by simpa using c12))
     (try (have c12b2 : ((t173 == 0) == t177) = true := by simpa using c12))
     clear c12
     by_cases c13 : t173 = 0
     ·rw [if_pos c13] at H
      have c13b0 : (t173 == 0) = true := beq_iff_eq.mpr c13
      have c13b1 : (t173 != 0) = false := bne_eq_false_iff_eq.mpr c13
      clear c13
      have t177e : t177 = true := by rw [c13b0] at c12b0; exact (beq_iff_eq.1 c12b0).symm
      replace H := Option.bind_eq_some_iff.mp H
      obtain ⟨t178, A140, H⟩ := H
      replace H : ((cracknelref08_Same.f k t178 l0).bind fun t181 => (some t181)) = some r := H
      have A14 := Aside0.mk A140
      clear A140
      replace H := Option.bind_eq_some_iff.mp H
      obtain ⟨t181, A150, H⟩ := H
      replace H : (some t181) = some r := H
      have A15 := Aside0.mk A150
      clear A150
      obtain rfl := Option.some.inj H
      go_enter Tryz.func3, Tryz.ntmps3
      go_wp2_with (first | ((with_reducible refine gate_callee (f := 5) rfl ?_); refine goesL_ (some 7) rfl rfl Tryz.func5 (by kernel_rfl) rfl #[.slice A0 l0.length c0] rfl (by (try simp only [List.map_toArray, List.map_cons, List.map_nil]); first | done | rfl | (simp only [List.length_drop, List.length_take]; rfl)) ?_; (with_reducible refine (cracknellaw08_small.calls k _ _ l0 true _ ?side1 ?side2 A2.out).mono ?_); (case side1 => repeat (first | exact HR0.out | (with_reducible refine Kd.C_alloc ?_ _) | (with_reducible refine Kd.C_drewN ?_ _) | (with_reducible refine Kd.C_drew ?_))); (case side2 => exact HC0.out); rintro e w16 ⟨rfl, hb⟩; refine ⟨_, rfl, ?_⟩; have n0_ := Aside0.mk (below_step (by repeat (first | (with_reducible first | exact HB.out | apply below_alloc | apply pw_below_drewN | apply below_drew1) | exact HB.out)) hb); clear HB; have HB := n0_; clear n0_; (try clear hb); (try clear hb2); (try clear hk); (try clear hi)) | ((with_reducible refine gate_callee (f := 8) rfl ?_); refine goesL_ (some 11) rfl rfl Tryz.func8 (by kernel_rfl) rfl #[.slice A0 l0.length c0] rfl (by (try simp only [List.map_toArray, List.map_cons, List.map_nil]); first | done | rfl | (simp only [List.length_drop, List.length_take]; rfl)) ?_; (with_reducible refine (cracknellaw08_News.calls _ _ l0 t167 _ ?side1 ?side2 A4.out).mono ?_); (case side1 => repeat (first | exact (Kd.C_below HR0.out HB.out) | (with_reducible refine Kd.C_alloc ?_ _) | (with_reducible refine Kd.C_drewN ?_ _) | (with_reducible refine Kd.C_drew ?_))); (case side2 => exact HC0.out); rintro e w17 ⟨v168, rfl, ho0, hb⟩; refine ⟨_, rfl, ?_⟩; have n0_ := Aside0.mk (Kd.R_lower ho0 (below_size (by repeat (first | (with_reducible first | exact HB.out | apply below_alloc | apply pw_below_drewN | apply below_drew1) | exact HB.out)))); have n1_ := Aside0.mk (below_step (by repeat (first | (with_reducible first | exact HB.out | apply below_alloc | apply pw_below_drewN | apply below_drew1) | exact HB.out)) hb); clear HB; have HO169 := n0_; have HB := n1_; clear n0_ n1_; (try clear hb); (try clear hb2); (try clear hk); (try clear hi); (try clear ho0); obtain ⟨Ao18, co18, eo18⟩ := Kd.R_slice HO169.out; subst eo18) | ((with_reducible refine gate_callee (f := 7) rfl ?_); refine goesL_ (some 12) rfl rfl Tryz.func7 (by kernel_rfl) rfl #[.slice Ao18 t167.length co18] rfl (by (try simp only [List.map_toArray, List.map_cons, List.map_nil]); first | done | rfl | (simp only [List.length_drop, List.length_take]; rfl)) ?_; (with_reducible refine (json_Print.calls _ _ t167 t170 _ ?side1 ?side2 A5.out).mono ?_); (case side1 => repeat (first | exact (Kd.R_reads' HO169.out).2.2 | (with_reducible refine Kd.C_alloc ?_ _) | (with_reducible refine Kd.C_drewN ?_ _) | (with_reducible refine Kd.C_drew ?_))); (case side2 => exact (Kd.R_reads' HO169.out).2.1); rintro e w19 ⟨rfl, hb⟩; refine ⟨_, rfl, ?_⟩; have n0_ := Aside0.mk (Kd.R_below (by (with_reducible repeat (first | apply Kd.R_alloc | apply Kd.R_drewN | apply Kd.R_drew)); exact HO169.out) hb); have n1_ := Aside0.mk (below_step (by repeat (first | (with_reducible first | exact HB.out | apply below_alloc | apply pw_below_drewN | apply below_drew1) | exact HB.out)) hb); clear HO169; clear HB; have HO169 := n0_; have HB := n1_; clear n0_ n1_; (try clear hb); (try clear hb2); (try clear hk); (try clear hi)) | ((with_reducible refine gate_callee (f := 9) rfl ?_); refine goesL_ (some 15) rfl rfl Tryz.func9 (by kernel_rfl) rfl #[.slice A0 l0.length c0] rfl (by (try simp only [List.map_toArray, List.map_cons, List.map_nil]); first | done | rfl | (simp only [List.length_drop, List.length_take]; rfl)) ?_; (with_reducible refine (cracknelref08_Print.calls k _ _ l0 t171 _ ?side1 ?side2 A6.out).mono ?_); (case side1 => repeat (first | exact (Kd.C_below HR0.out HB.out) | (with_reducible refine Kd.C_alloc ?_ _) | (with_reducible refine Kd.C_drewN ?_ _) | (with_reducible refine Kd.C_drew ?_))); (case side2 => exact HC0.out); rintro e w20 ⟨rfl, hb⟩; refine ⟨_, rfl, ?_⟩; have n0_ := Aside0.mk (Kd.R_below (by (with_reducible repeat (first | apply Kd.R_alloc | apply Kd.R_drewN | apply Kd.R_drew)); exact HO169.out) hb); have n1_ := Aside0.mk (below_step (by repeat (first | (with_reducible first | exact HB.out | apply below_alloc | apply pw_below_drewN | apply below_drew1) | exact HB.out)) hb); clear HO169; clear HB; have HO169 := n0_; have HB := n1_; clear n0_ n1_; (try clear hb); (try clear hb2); (try clear hk); (try clear hi)) | ((with_reducible refine gate_callee (f := 10) rfl ?_); refine goesL_ (some 19) rfl rfl Tryz.func10 (by kernel_rfl) rfl #[.string t170] rfl (by (try simp only [List.map_toArray, List.map_cons, List.map_nil]); first | done | rfl | (simp only [List.length_drop, List.length_take]; rfl)) ?_; (with_reducible refine (json_Parse.calls k t170 t172 t173 _ A8.out).mono ?_); rintro e w21 ⟨v174, rfl, ho0, hb⟩; refine ⟨_, rfl, ?_⟩; have n0_ := Aside0.mk (Kd.R_elder' (by (with_reducible repeat (first | apply Kd.R_alloc | apply Kd.R_drewN | apply Kd.R_drew)); exact HO169.out) (Kd.R_base ho0) hb); have n1_ := Aside0.mk (Kd.R_lower (Kd.R_new' ho0 (Kd.R_lt (by (with_reducible repeat (first | apply Kd.R_alloc | apply Kd.R_drewN | apply Kd.R_drew)); exact HO169.out))) (below_size (by repeat (first | (with_reducible first | exact HB.out | apply below_alloc | apply pw_below_drewN | apply below_drew1) | exact HB.out)))); have n2_ := Aside0.mk (below_step (by repeat (first | (with_reducible first | exact HB.out | apply below_alloc | apply pw_below_drewN | apply below_drew1) | exact HB.out)) hb); clear HO169; clear HB; have HO169 := n0_; have HO175 := n1_; have HB := n2_; clear n0_ n1_ n2_; (try clear hb); (try clear hb2); (try clear hk); (try clear hi); (try clear ho0)) | ((with_reducible refine gate_callee (f := 6) rfl ?_); refine goesL_ (some 22) rfl rfl Tryz.func6 (by kernel_rfl) rfl #[] rfl (by (try simp only [List.map_toArray, List.map_cons, List.map_nil]); first | done | rfl | (simp only [List.length_drop, List.length_take]; rfl)) ?_; (with_reducible refine (cracknellaw08_alive.calls  true _ A9.out).mono ?_); rintro e w22 ⟨rfl, hb⟩; refine ⟨_, rfl, ?_⟩; have n0_ := Aside0.mk (Kd.R_below (by (with_reducible repeat (first | apply Kd.R_alloc | apply Kd.R_drewN | apply Kd.R_drew)); exact HO169.out) hb); have n1_ := Aside0.mk (Kd.R_below (by (with_reducible repeat (first | apply Kd.R_alloc | apply Kd.R_drewN | apply Kd.R_drew)); exact HO175.out) hb); have n2_ := Aside0.mk (below_step (by repeat (first | (with_reducible first | exact HB.out | apply below_alloc | apply pw_below_drewN | apply below_drew1) | exact HB.out)) hb); clear HO169; clear HO175; clear HB; have HO169 := n0_; have HO175 := n1_; have HB := n2_; clear n0_ n1_ n2_; (try clear hb); (try clear hb2); (try clear hk); (try clear hi)) | (go_at_call 11; (with_reducible refine (cracknelref08_Right.calls k _ _ l0 t177 _ ?side1 ?side2 A11.out).mono ?_); (case side1 => repeat (first | exact (Kd.C_below HR0.out HB.out) | (with_reducible refine Kd.C_alloc ?_ _) | (with_reducible refine Kd.C_drewN ?_ _) | (with_reducible refine Kd.C_drew ?_))); (case side2 => exact HC0.out); rintro e w23 ⟨rfl, hb⟩; have n0_ := Aside0.mk (Kd.R_below (by (with_reducible repeat (first | apply Kd.R_alloc | apply Kd.R_drewN | apply Kd.R_drew)); exact HO169.out) hb); have n1_ := Aside0.mk (Kd.R_below (by (with_reducible repeat (first | apply Kd.R_alloc | apply Kd.R_drewN | apply Kd.R_drew)); exact HO175.out) hb); have n2_ := Aside0.mk (below_step (by repeat (first | (with_reducible first | exact HB.out | apply below_alloc | apply pw_below_drewN | apply below_drew1) | exact HB.out)) hb); clear HO169; clear HO175; clear HB; have HO169 := n0_; have HO175 := n1_; have HB := n2_; clear n0_ n1_ n2_; (try clear hb); (try clear hb2); (try clear hk); (try clear hi); obtain ⟨Ao24, co24, eo24⟩ := Kd.R_slice HO175.out; subst eo24) | (go_at_call 13; (with_reducible refine (cracknellaw08_Olds.calls _ _ t172 t178 _ ?side1 ?side2 A14.out).mono ?_); (case side1 => repeat (first | exact (Kd.R_reads' HO175.out).2.2 | (with_reducible refine Kd.C_alloc ?_ _) | (with_reducible refine Kd.C_drewN ?_ _) | (with_reducible refine Kd.C_drew ?_))); (case side2 => exact (Kd.R_reads' HO175.out).2.1); rintro e w25 ⟨v179, rfl, ho0, hb⟩; have n0_ := Aside0.mk (Kd.R_below (by (with_reducible repeat (first | apply Kd.R_alloc | apply Kd.R_drewN | apply Kd.R_drew)); exact HO169.out) hb); have n1_ := Aside0.mk (Kd.R_below (by (with_reducible repeat (first | apply Kd.R_alloc | apply Kd.R_drewN | apply Kd.R_drew)); exact HO175.out) hb); have n2_ := Aside0.mk (Kd.R_lower ho0 (below_size (by repeat (first | (with_reducible first | exact HB.out | apply below_alloc | apply pw_below_drewN | apply below_drew1) | exact HB.out)))); have n3_ := Aside0.mk (below_step (by repeat (first | (with_reducible first | exact HB.out | apply below_alloc | apply pw_below_drewN | apply below_drew1) | exact HB.out)) hb); clear HO169; clear HO175; clear HB; have HO169 := n0_; have HO175 := n1_; have HO180 := n2_; have HB := n3_; clear n0_ n1_ n2_ n3_; (try clear hb); (try clear hb2); (try clear hk); (try clear hi); (try clear ho0); obtain ⟨Ao26, co26, eo26⟩ := Kd.R_slice HO180.out; subst eo26) | (go_at_call 12; (with_reducible refine (cracknelref08_Same.calls k _ _ t178 _ _ l0 t181 _ ?side1 ?side2 ?side3 ?side4 A15.out).mono ?_); (case side1 => repeat (first | exact (Kd.R_reads' HO180.out).2.2 | (with_reducible refine Kd.C_alloc ?_ _) | (with_reducible refine Kd.C_drewN ?_ _) | (with_reducible refine Kd.C_drew ?_))); (case side2 => exact (Kd.R_reads' HO180.out).2.1); (case side3 => repeat (first | exact (Kd.C_below HR0.out HB.out) | (with_reducible refine Kd.C_alloc ?_ _) | (with_reducible refine Kd.C_drewN ?_ _) | (with_reducible refine Kd.C_drew ?_))); (case side4 => exact HC0.out); rintro e w' ⟨rfl, ⟨nd, rfl⟩⟩))
      go_ret
      exact ⟨by first | rfl | (simp [errW_none, errW_some] <;> rfl) | (simp [*, errW_none, errW_some] <;> rfl), by repeat (first | (with_reducible first | exact HB.out | apply below_alloc | apply pw_below_drewN | apply below_drew1) | exact HB.out)⟩
     ·rw [if_neg c13] at H
      have c13b0 : (t173 == 0) = false := beq_eq_false_iff_ne.mpr c13
      have c13b1 : (t173 != 0) = true := bne_iff_ne.mpr c13
      have t177e : t177 = false := by rw [c13b0] at c12b0; exact (beq_iff_eq.1 c12b0).symm
      obtain rfl := Option.some.inj H
      go_enter Tryz.func3, Tryz.ntmps3
      go_wp2_with (first | ((with_reducible refine gate_callee (f := 5) rfl ?_); refine goesL_ (some 7) rfl rfl Tryz.func5 (by kernel_rfl) rfl #[.slice A0 l0.length c0] rfl (by (try simp only [List.map_toArray, List.map_cons, List.map_nil]); first | done | rfl | (simp only [List.length_drop, List.length_take]; rfl)) ?_; (with_reducible refine (cracknellaw08_small.calls k _ _ l0 true _ ?side1 ?side2 A2.out).mono ?_); (case side1 => repeat (first | exact HR0.out | (with_reducible refine Kd.C_alloc ?_ _) | (with_reducible refine Kd.C_drewN ?_ _) | (with_reducible refine Kd.C_drew ?_))); (case side2 => exact HC0.out); rintro e w27 ⟨rfl, hb⟩; refine ⟨_, rfl, ?_⟩; have n0_ := Aside0.mk (below_step (by repeat (first | (with_reducible first | exact HB.out | apply below_alloc | apply pw_below_drewN | apply below_drew1) | exact HB.out)) hb); clear HB; have HB := n0_; clear n0_; (try clear hb); (try clear hb2); (try clear hk); (try clear hi)) | ((with_reducible refine gate_callee (f := 8) rfl ?_); refine goesL_ (some 11) rfl rfl Tryz.func8 (by kernel_rfl) rfl #[.slice A0 l0.length c0] rfl (by (try simp only [List.map_toArray, List.map_cons, List.map_nil]); first | done | rfl | (simp only [List.length_drop, List.length_take]; rfl)) ?_; (with_reducible refine (cracknellaw08_News.calls _ _ l0 t167 _ ?side1 ?side2 A4.out).mono ?_); (case side1 => repeat (first | exact (Kd.C_below HR0.out HB.out) | (with_reducible refine Kd.C_alloc ?_ _) | (with_reducible refine Kd.C_drewN ?_ _) | (with_reducible refine Kd.C_drew ?_))); (case side2 => exact HC0.out); rintro e w28 ⟨v168, rfl, ho0, hb⟩; refine ⟨_, rfl, ?_⟩; have n0_ := Aside0.mk (Kd.R_lower ho0 (below_size (by repeat (first | (with_reducible first | exact HB.out | apply below_alloc | apply pw_below_drewN | apply below_drew1) | exact HB.out)))); have n1_ := Aside0.mk (below_step (by repeat (first | (with_reducible first | exact HB.out | apply below_alloc | apply pw_below_drewN | apply below_drew1) | exact HB.out)) hb); clear HB; have HO169 := n0_; have HB := n1_; clear n0_ n1_; (try clear hb); (try clear hb2); (try clear hk); (try clear hi); (try clear ho0); obtain ⟨Ao29, co29, eo29⟩ := Kd.R_slice HO169.out; subst eo29) | ((with_reducible refine gate_callee (f := 7) rfl ?_); refine goesL_ (some 12) rfl rfl Tryz.func7 (by kernel_rfl) rfl #[.slice Ao29 t167.length co29] rfl (by (try simp only [List.map_toArray, List.map_cons, List.map_nil]); first | done | rfl | (simp only [List.length_drop, List.length_take]; rfl)) ?_; (with_reducible refine (json_Print.calls _ _ t167 t170 _ ?side1 ?side2 A5.out).mono ?_); (case side1 => repeat (first | exact (Kd.R_reads' HO169.out).2.2 | (with_reducible refine Kd.C_alloc ?_ _) | (with_reducible refine Kd.C_drewN ?_ _) | (with_reducible refine Kd.C_drew ?_))); (case side2 => exact (Kd.R_reads' HO169.out).2.1); rintro e w30 ⟨rfl, hb⟩; refine ⟨_, rfl, ?_⟩; have n0_ := Aside0.mk (Kd.R_below (by (with_reducible repeat (first | apply Kd.R_alloc | apply Kd.R_drewN | apply Kd.R_drew)); exact HO169.out) hb); have n1_ := Aside0.mk (below_step (by repeat (first | (with_reducible first | exact HB.out | apply below_alloc | apply pw_below_drewN | apply below_drew1) | exact HB.out)) hb); clear HO169; clear HB; have HO169 := n0_; have HB := n1_; clear n0_ n1_; (try clear hb); (try clear hb2); (try clear hk); (try clear hi)) | ((with_reducible refine gate_callee (f := 9) rfl ?_); refine goesL_ (some 15) rfl rfl Tryz.func9 (by kernel_rfl) rfl #[.slice A0 l0.length c0] rfl (by (try simp only [List.map_toArray, List.map_cons, List.map_nil]); first | done | rfl | (simp only [List.length_drop, List.length_take]; rfl)) ?_; (with_reducible refine (cracknelref08_Print.calls k _ _ l0 t171 _ ?side1 ?side2 A6.out).mono ?_); (case side1 => repeat (first | exact (Kd.C_below HR0.out HB.out) | (with_reducible refine Kd.C_alloc ?_ _) | (with_reducible refine Kd.C_drewN ?_ _) | (with_reducible refine Kd.C_drew ?_))); (case side2 => exact HC0.out); rintro e w31 ⟨rfl, hb⟩; refine ⟨_, rfl, ?_⟩; have n0_ := Aside0.mk (Kd.R_below (by (with_reducible repeat (first | apply Kd.R_alloc | apply Kd.R_drewN | apply Kd.R_drew)); exact HO169.out) hb); have n1_ := Aside0.mk (below_step (by repeat (first | (with_reducible first | exact HB.out | apply below_alloc | apply pw_below_drewN | apply below_drew1) | exact HB.out)) hb); clear HO169; clear HB; have HO169 := n0_; have HB := n1_; clear n0_ n1_; (try clear hb); (try clear hb2); (try clear hk); (try clear hi)) | ((with_reducible refine gate_callee (f := 10) rfl ?_); refine goesL_ (some 19) rfl rfl Tryz.func10 (by kernel_rfl) rfl #[.string t170] rfl (by (try simp only [List.map_toArray, List.map_cons, List.map_nil]); first | done | rfl | (simp only [List.length_drop, List.length_take]; rfl)) ?_; (with_reducible refine (json_Parse.calls k t170 t172 t173 _ A8.out).mono ?_); rintro e w32 ⟨v174, rfl, ho0, hb⟩; refine ⟨_, rfl, ?_⟩; have n0_ := Aside0.mk (Kd.R_elder' (by (with_reducible repeat (first | apply Kd.R_alloc | apply Kd.R_drewN | apply Kd.R_drew)); exact HO169.out) (Kd.R_base ho0) hb); have n1_ := Aside0.mk (Kd.R_lower (Kd.R_new' ho0 (Kd.R_lt (by (with_reducible repeat (first | apply Kd.R_alloc | apply Kd.R_drewN | apply Kd.R_drew)); exact HO169.out))) (below_size (by repeat (first | (with_reducible first | exact HB.out | apply below_alloc | apply pw_below_drewN | apply below_drew1) | exact HB.out)))); have n2_ := Aside0.mk (below_step (by repeat (first | (with_reducible first | exact HB.out | apply below_alloc | apply pw_below_drewN | apply below_drew1) | exact HB.out)) hb); clear HO169; clear HB; have HO169 := n0_; have HO175 := n1_; have HB := n2_; clear n0_ n1_ n2_; (try clear hb); (try clear hb2); (try clear hk); (try clear hi); (try clear ho0)) | ((with_reducible refine gate_callee (f := 6) rfl ?_); refine goesL_ (some 22) rfl rfl Tryz.func6 (by kernel_rfl) rfl #[] rfl (by (try simp only [List.map_toArray, List.map_cons, List.map_nil]); first | done | rfl | (simp only [List.length_drop, List.length_take]; rfl)) ?_; (with_reducible refine (cracknellaw08_alive.calls  true _ A9.out).mono ?_); rintro e w33 ⟨rfl, hb⟩; refine ⟨_, rfl, ?_⟩; have n0_ := Aside0.mk (Kd.R_below (by (with_reducible repeat (first | apply Kd.R_alloc | apply Kd.R_drewN | apply Kd.R_drew)); exact HO169.out) hb); have n1_ := Aside0.mk (Kd.R_below (by (with_reducible repeat (first | apply Kd.R_alloc | apply Kd.R_drewN | apply Kd.R_drew)); exact HO175.out) hb); have n2_ := Aside0.mk (below_step (by repeat (first | (with_reducible first | exact HB.out | apply below_alloc | apply pw_below_drewN | apply below_drew1) | exact HB.out)) hb); clear HO169; clear HO175; clear HB; have HO169 := n0_; have HO175 := n1_; have HB := n2_; clear n0_ n1_ n2_; (try clear hb); (try clear hb2); (try clear hk); (try clear hi)) | (go_at_call 11; (with_reducible refine (cracknelref08_Right.calls k _ _ l0 t177 _ ?side1 ?side2 A11.out).mono ?_); (case side1 => repeat (first | exact (Kd.C_below HR0.out HB.out) | (with_reducible refine Kd.C_alloc ?_ _) | (with_reducible refine Kd.C_drewN ?_ _) | (with_reducible refine Kd.C_drew ?_))); (case side2 => exact HC0.out); rintro e w34 ⟨rfl, hb⟩; have n0_ := Aside0.mk (Kd.R_below (by (with_reducible repeat (first | apply Kd.R_alloc | apply Kd.R_drewN | apply Kd.R_drew)); exact HO169.out) hb); have n1_ := Aside0.mk (Kd.R_below (by (with_reducible repeat (first | apply Kd.R_alloc | apply Kd.R_drewN | apply Kd.R_drew)); exact HO175.out) hb); have n2_ := Aside0.mk (below_step (by repeat (first | (with_reducible first | exact HB.out | apply below_alloc | apply pw_below_drewN | apply below_drew1) | exact HB.out)) hb); clear HO169; clear HO175; clear HB; have HO169 := n0_; have HO175 := n1_; have HB := n2_; clear n0_ n1_ n2_; (try clear hb); (try clear hb2); (try clear hk); (try clear hi)))
      go_ret
      exact ⟨by first | rfl | (simp [errW_none, errW_some] <;> rfl) | (simp [*, errW_none, errW_some] <;> rfl), by repeat (first | (with_reducible first | exact HB.out | apply below_alloc | apply pw_below_drewN | apply below_drew1) | exact HB.out)⟩
    ·rw [if_neg c12] at H
     have c12b0 : ((t173 == 0) == t177) = false := by simpa using c12
     (try (have c12b1 : decide ((t173 == 0) = t177) = false := by simpa using c12))
     (try (have c12b2 : ((t173 == 0) == t177) = false := by simpa using c12))
     (try (have c12b3 : ¬ ((t173 == 0) = t177) := by simpa using c12))
     clear c12
     obtain rfl := Option.some.inj H
     go_enter Tryz.func3, Tryz.ntmps3
     go_wp2_with (first | ((with_reducible refine gate_callee (f := 5) rfl ?_); refine goesL_ (some 7) rfl rfl Tryz.func5 (by kernel_rfl) rfl #[.slice A0 l0.length c0] rfl (by (try simp only [List.map_toArray, List.map_cons, List.map_nil]); first | done | rfl | (simp only [List.length_drop, List.length_take]; rfl)) ?_; (with_reducible refine (cracknellaw08_small.calls k _ _ l0 true _ ?side1 ?side2 A2.out).mono ?_); (case side1 => repeat (first | exact HR0.out | (with_reducible refine Kd.C_alloc ?_ _) | (with_reducible refine Kd.C_drewN ?_ _) | (with_reducible refine Kd.C_drew ?_))); (case side2 => exact HC0.out); rintro e w35 ⟨rfl, hb⟩; refine ⟨_, rfl, ?_⟩; have n0_ := Aside0.mk (below_step (by repeat (first | (with_reducible first | exact HB.out | apply below_alloc | apply pw_below_drewN | apply below_drew1) | exact HB.out)) hb); clear HB; have HB := n0_; clear n0_; (try clear hb); (try clear hb2); (try clear hk); (try clear hi)) | ((with_reducible refine gate_callee (f := 8) rfl ?_); refine goesL_ (some 11) rfl rfl Tryz.func8 (by kernel_rfl) rfl #[.slice A0 l0.length c0] rfl (by (try simp only [List.map_toArray, List.map_cons, List.map_nil]); first | done | rfl | (simp only [List.length_drop, List.length_take]; rfl)) ?_; (with_reducible refine (cracknellaw08_News.calls _ _ l0 t167 _ ?side1 ?side2 A4.out).mono ?_); (case side1 => repeat (first | exact (Kd.C_below HR0.out HB.out) | (with_reducible refine Kd.C_alloc ?_ _) | (with_reducible refine Kd.C_drewN ?_ _) | (with_reducible refine Kd.C_drew ?_))); (case side2 => exact HC0.out); rintro e w36 ⟨v168, rfl, ho0, hb⟩; refine ⟨_, rfl, ?_⟩; have n0_ := Aside0.mk (Kd.R_lower ho0 (below_size (by repeat (first | (with_reducible first | exact HB.out | apply below_alloc | apply pw_below_drewN | apply below_drew1) | exact HB.out)))); have n1_ := Aside0.mk (below_step (by repeat (first | (with_reducible first | exact HB.out | apply below_alloc | apply pw_below_drewN | apply below_drew1) | exact HB.out)) hb); clear HB; have HO169 := n0_; have HB := n1_; clear n0_ n1_; (try clear hb); (try clear hb2); (try clear hk); (try clear hi); (try clear ho0); obtain ⟨Ao37, co37, eo37⟩ := Kd.R_slice HO169.out; subst eo37) | ((with_reducible refine gate_callee (f := 7) rfl ?_); refine goesL_ (some 12) rfl rfl Tryz.func7 (by kernel_rfl) rfl #[.slice Ao37 t167.length co37] rfl (by (try simp only [List.map_toArray, List.map_cons, List.map_nil]); first | done | rfl | (simp only [List.length_drop, List.length_take]; rfl)) ?_; (with_reducible refine (json_Print.calls _ _ t167 t170 _ ?side1 ?side2 A5.out).mono ?_); (case side1 => repeat (first | exact (Kd.R_reads' HO169.out).2.2 | (with_reducible refine Kd.C_alloc ?_ _) | (with_reducible refine Kd.C_drewN ?_ _) | (with_reducible refine Kd.C_drew ?_))); (case side2 => exact (Kd.R_reads' HO169.out).2.1); rintro e w38 ⟨rfl, hb⟩; refine ⟨_, rfl, ?_⟩; have n0_ := Aside0.mk (Kd.R_below (by (with_reducible repeat (first | apply Kd.R_alloc | apply Kd.R_drewN | apply Kd.R_drew)); exact HO169.out) hb); have n1_ := Aside0.mk (below_step (by repeat (first | (with_reducible first | exact HB.out | apply below_alloc | apply pw_below_drewN | apply below_drew1) | exact HB.out)) hb); clear HO169; clear HB; have HO169 := n0_; have HB := n1_; clear n0_ n1_; (try clear hb); (try clear hb2); (try clear hk); (try clear hi)) | ((with_reducible refine gate_callee (f := 9) rfl ?_); refine goesL_ (some 15) rfl rfl Tryz.func9 (by kernel_rfl) rfl #[.slice A0 l0.length c0] rfl (by (try simp only [List.map_toArray, List.map_cons, List.map_nil]); first | done | rfl | (simp only [List.length_drop, List.length_take]; rfl)) ?_; (with_reducible refine (cracknelref08_Print.calls k _ _ l0 t171 _ ?side1 ?side2 A6.out).mono ?_); (case side1 => repeat (first | exact (Kd.C_below HR0.out HB.out) | (with_reducible refine Kd.C_alloc ?_ _) | (with_reducible refine Kd.C_drewN ?_ _) | (with_reducible refine Kd.C_drew ?_))); (case side2 => exact HC0.out); rintro e w39 ⟨rfl, hb⟩; refine ⟨_, rfl, ?_⟩; have n0_ := Aside0.mk (Kd.R_below (by (with_reducible repeat (first | apply Kd.R_alloc | apply Kd.R_drewN | apply Kd.R_drew)); exact HO169.out) hb); have n1_ := Aside0.mk (below_step (by repeat (first | (with_reducible first | exact HB.out | apply below_alloc | apply pw_below_drewN | apply below_drew1) | exact HB.out)) hb); clear HO169; clear HB; have HO169 := n0_; have HB := n1_; clear n0_ n1_; (try clear hb); (try clear hb2); (try clear hk); (try clear hi)) | ((with_reducible refine gate_callee (f := 10) rfl ?_); refine goesL_ (some 19) rfl rfl Tryz.func10 (by kernel_rfl) rfl #[.string t170] rfl (by (try simp only [List.map_toArray, List.map_cons, List.map_nil]); first | done | rfl | (simp only [List.length_drop, List.length_take]; rfl)) ?_; (with_reducible refine (json_Parse.calls k t170 t172 t173 _ A8.out).mono ?_); rintro e w40 ⟨v174, rfl, ho0, hb⟩; refine ⟨_, rfl, ?_⟩; have n0_ := Aside0.mk (Kd.R_elder' (by (with_reducible repeat (first | apply Kd.R_alloc | apply Kd.R_drewN | apply Kd.R_drew)); exact HO169.out) (Kd.R_base ho0) hb); have n1_ := Aside0.mk (Kd.R_lower (Kd.R_new' ho0 (Kd.R_lt (by (with_reducible repeat (first | apply Kd.R_alloc | apply Kd.R_drewN | apply Kd.R_drew)); exact HO169.out))) (below_size (by repeat (first | (with_reducible first | exact HB.out | apply below_alloc | apply pw_below_drewN | apply below_drew1) | exact HB.out)))); have n2_ := Aside0.mk (below_step (by repeat (first | (with_reducible first | exact HB.out | apply below_alloc | apply pw_below_drewN | apply below_drew1) | exact HB.out)) hb); clear HO169; clear HB; have HO169 := n0_; have HO175 := n1_; have HB := n2_; clear n0_ n1_ n2_; (try clear hb); (try clear hb2); (try clear hk); (try clear hi); (try clear ho0)) | ((with_reducible refine gate_callee (f := 6) rfl ?_); refine goesL_ (some 22) rfl rfl Tryz.func6 (by kernel_rfl) rfl #[] rfl (by (try simp only [List.map_toArray, List.map_cons, List.map_nil]); first | done | rfl | (simp only [List.length_drop, List.length_take]; rfl)) ?_; (with_reducible refine (cracknellaw08_alive.calls  true _ A9.out).mono ?_); rintro e w41 ⟨rfl, hb⟩; refine ⟨_, rfl, ?_⟩; have n0_ := Aside0.mk (Kd.R_below (by (with_reducible repeat (first | apply Kd.R_alloc | apply Kd.R_drewN | apply Kd.R_drew)); exact HO169.out) hb); have n1_ := Aside0.mk (Kd.R_below (by (with_reducible repeat (first | apply Kd.R_alloc | apply Kd.R_drewN | apply Kd.R_drew)); exact HO175.out) hb); have n2_ := Aside0.mk (below_step (by repeat (first | (with_reducible first | exact HB.out | apply below_alloc | apply pw_below_drewN | apply below_drew1) | exact HB.out)) hb); clear HO169; clear HO175; clear HB; have HO169 := n0_; have HO175 := n1_; have HB := n2_; clear n0_ n1_ n2_; (try clear hb); (try clear hb2); (try clear hk); (try clear hi)) | (go_at_call 11; (with_reducible refine (cracknelref08_Right.calls k _ _ l0 t177 _ ?side1 ?side2 A11.out).mono ?_); (case side1 => repeat (first | exact (Kd.C_below HR0.out HB.out) | (with_reducible refine Kd.C_alloc ?_ _) | (with_reducible refine Kd.C_drewN ?_ _) | (with_reducible refine Kd.C_drew ?_))); (case side2 => exact HC0.out); rintro e w42 ⟨rfl, hb⟩; have n0_ := Aside0.mk (Kd.R_below (by (with_reducible repeat (first | apply Kd.R_alloc | apply Kd.R_drewN | apply Kd.R_drew)); exact HO169.out) hb); have n1_ := Aside0.mk (Kd.R_below (by (with_reducible repeat (first | apply Kd.R_alloc | apply Kd.R_drewN | apply Kd.R_drew)); exact HO175.out) hb); have n2_ := Aside0.mk (below_step (by repeat (first | (with_reducible first | exact HB.out | apply below_alloc | apply pw_below_drewN | apply below_drew1) | exact HB.out)) hb); clear HO169; clear HO175; clear HB; have HO169 := n0_; have HO175 := n1_; have HB := n2_; clear n0_ n1_ n2_; (try clear hb); (try clear hb2); (try clear hk); (try clear hi)))
     go_ret
     exact ⟨by first | rfl | (simp [errW_none, errW_some] <;> rfl) | (simp [*, errW_none, errW_some] <;> rfl), by repeat (first | (with_reducible first | exact HB.out | apply below_alloc | apply pw_below_drewN | apply below_drew1) | exact HB.out)⟩
   ·replace c10 := Bool.eq_false_iff.mpr c10
    subst c10
    have H1 : (some false) = some r := by rw [if_neg (show ¬ (false = true) by decide)] at H; exact H
    clear H
    have H := H1
    clear H1
    obtain rfl := Option.some.inj H
    go_enter Tryz.func3, Tryz.ntmps3
    go_wp2_with (first | ((with_reducible refine gate_callee (f := 5) rfl ?_); refine goesL_ (some 7) rfl rfl Tryz.func5 (by kernel_rfl) rfl #[.slice A0 l0.length c0] rfl (by (try simp only [List.map_toArray, List.map_cons, List.map_nil]); first | done | rfl | (simp only [List.length_drop, List.length_take]; rfl)) ?_; (with_reducible refine (cracknellaw08_small.calls k _ _ l0 true _ ?side1 ?side2 A2.out).mono ?_); (case side1 => repeat (first | exact HR0.out | (with_reducible refine Kd.C_alloc ?_ _) | (with_reducible refine Kd.C_drewN ?_ _) | (with_reducible refine Kd.C_drew ?_))); (case side2 => exact HC0.out); rintro e w43 ⟨rfl, hb⟩; refine ⟨_, rfl, ?_⟩; have n0_ := Aside0.mk (below_step (by repeat (first | (with_reducible first | exact HB.out | apply below_alloc | apply pw_below_drewN | apply below_drew1) | exact HB.out)) hb); clear HB; have HB := n0_; clear n0_; (try clear hb); (try clear hb2); (try clear hk); (try clear hi)) | ((with_reducible refine gate_callee (f := 8) rfl ?_); refine goesL_ (some 11) rfl rfl Tryz.func8 (by kernel_rfl) rfl #[.slice A0 l0.length c0] rfl (by (try simp only [List.map_toArray, List.map_cons, List.map_nil]); first | done | rfl | (simp only [List.length_drop, List.length_take]; rfl)) ?_; (with_reducible refine (cracknellaw08_News.calls _ _ l0 t167 _ ?side1 ?side2 A4.out).mono ?_); (case side1 => repeat (first | exact (Kd.C_below HR0.out HB.out) | (with_reducible refine Kd.C_alloc ?_ _) | (with_reducible refine Kd.C_drewN ?_ _) | (with_reducible refine Kd.C_drew ?_))); (case side2 => exact HC0.out); rintro e w44 ⟨v168, rfl, ho0, hb⟩; refine ⟨_, rfl, ?_⟩; have n0_ := Aside0.mk (Kd.R_lower ho0 (below_size (by repeat (first | (with_reducible first | exact HB.out | apply below_alloc | apply pw_below_drewN | apply below_drew1) | exact HB.out)))); have n1_ := Aside0.mk (below_step (by repeat (first | (with_reducible first | exact HB.out | apply below_alloc | apply pw_below_drewN | apply below_drew1) | exact HB.out)) hb); clear HB; have HO169 := n0_; have HB := n1_; clear n0_ n1_; (try clear hb); (try clear hb2); (try clear hk); (try clear hi); (try clear ho0); obtain ⟨Ao45, co45, eo45⟩ := Kd.R_slice HO169.out; subst eo45) | ((with_reducible refine gate_callee (f := 7) rfl ?_); refine goesL_ (some 12) rfl rfl Tryz.func7 (by kernel_rfl) rfl #[.slice Ao45 t167.length co45] rfl (by (try simp only [List.map_toArray, List.map_cons, List.map_nil]); first | done | rfl | (simp only [List.length_drop, List.length_take]; rfl)) ?_; (with_reducible refine (json_Print.calls _ _ t167 t170 _ ?side1 ?side2 A5.out).mono ?_); (case side1 => repeat (first | exact (Kd.R_reads' HO169.out).2.2 | (with_reducible refine Kd.C_alloc ?_ _) | (with_reducible refine Kd.C_drewN ?_ _) | (with_reducible refine Kd.C_drew ?_))); (case side2 => exact (Kd.R_reads' HO169.out).2.1); rintro e w46 ⟨rfl, hb⟩; refine ⟨_, rfl, ?_⟩; have n0_ := Aside0.mk (Kd.R_below (by (with_reducible repeat (first | apply Kd.R_alloc | apply Kd.R_drewN | apply Kd.R_drew)); exact HO169.out) hb); have n1_ := Aside0.mk (below_step (by repeat (first | (with_reducible first | exact HB.out | apply below_alloc | apply pw_below_drewN | apply below_drew1) | exact HB.out)) hb); clear HO169; clear HB; have HO169 := n0_; have HB := n1_; clear n0_ n1_; (try clear hb); (try clear hb2); (try clear hk); (try clear hi)) | ((with_reducible refine gate_callee (f := 9) rfl ?_); refine goesL_ (some 15) rfl rfl Tryz.func9 (by kernel_rfl) rfl #[.slice A0 l0.length c0] rfl (by (try simp only [List.map_toArray, List.map_cons, List.map_nil]); first | done | rfl | (simp only [List.length_drop, List.length_take]; rfl)) ?_; (with_reducible refine (cracknelref08_Print.calls k _ _ l0 t171 _ ?side1 ?side2 A6.out).mono ?_); (case side1 => repeat (first | exact (Kd.C_below HR0.out HB.out) | (with_reducible refine Kd.C_alloc ?_ _) | (with_reducible refine Kd.C_drewN ?_ _) | (with_reducible refine Kd.C_drew ?_))); (case side2 => exact HC0.out); rintro e w47 ⟨rfl, hb⟩; refine ⟨_, rfl, ?_⟩; have n0_ := Aside0.mk (Kd.R_below (by (with_reducible repeat (first | apply Kd.R_alloc | apply Kd.R_drewN | apply Kd.R_drew)); exact HO169.out) hb); have n1_ := Aside0.mk (below_step (by repeat (first | (with_reducible first | exact HB.out | apply below_alloc | apply pw_below_drewN | apply below_drew1) | exact HB.out)) hb); clear HO169; clear HB; have HO169 := n0_; have HB := n1_; clear n0_ n1_; (try clear hb); (try clear hb2); (try clear hk); (try clear hi)) | ((with_reducible refine gate_callee (f := 10) rfl ?_); refine goesL_ (some 19) rfl rfl Tryz.func10 (by kernel_rfl) rfl #[.string t170] rfl (by (try simp only [List.map_toArray, List.map_cons, List.map_nil]); first | done | rfl | (simp only [List.length_drop, List.length_take]; rfl)) ?_; (with_reducible refine (json_Parse.calls k t170 t172 t173 _ A8.out).mono ?_); rintro e w48 ⟨v174, rfl, ho0, hb⟩; refine ⟨_, rfl, ?_⟩; have n0_ := Aside0.mk (Kd.R_elder' (by (with_reducible repeat (first | apply Kd.R_alloc | apply Kd.R_drewN | apply Kd.R_drew)); exact HO169.out) (Kd.R_base ho0) hb); have n1_ := Aside0.mk (Kd.R_lower (Kd.R_new' ho0 (Kd.R_lt (by (with_reducible repeat (first | apply Kd.R_alloc | apply Kd.R_drewN | apply Kd.R_drew)); exact HO169.out))) (below_size (by repeat (first | (with_reducible first | exact HB.out | apply below_alloc | apply pw_below_drewN | apply below_drew1) | exact HB.out)))); have n2_ := Aside0.mk (below_step (by repeat (first | (with_reducible first | exact HB.out | apply below_alloc | apply pw_below_drewN | apply below_drew1) | exact HB.out)) hb); clear HO169; clear HB; have HO169 := n0_; have HO175 := n1_; have HB := n2_; clear n0_ n1_ n2_; (try clear hb); (try clear hb2); (try clear hk); (try clear hi); (try clear ho0)) | ((with_reducible refine gate_callee (f := 6) rfl ?_); refine goesL_ (some 22) rfl rfl Tryz.func6 (by kernel_rfl) rfl #[] rfl (by (try simp only [List.map_toArray, List.map_cons, List.map_nil]); first | done | rfl | (simp only [List.length_drop, List.length_take]; rfl)) ?_; (with_reducible refine (cracknellaw08_alive.calls  false _ A9.out).mono ?_); rintro e w49 ⟨rfl, hb⟩; refine ⟨_, rfl, ?_⟩; have n0_ := Aside0.mk (Kd.R_below (by (with_reducible repeat (first | apply Kd.R_alloc | apply Kd.R_drewN | apply Kd.R_drew)); exact HO169.out) hb); have n1_ := Aside0.mk (Kd.R_below (by (with_reducible repeat (first | apply Kd.R_alloc | apply Kd.R_drewN | apply Kd.R_drew)); exact HO175.out) hb); have n2_ := Aside0.mk (below_step (by repeat (first | (with_reducible first | exact HB.out | apply below_alloc | apply pw_below_drewN | apply below_drew1) | exact HB.out)) hb); clear HO169; clear HO175; clear HB; have HO169 := n0_; have HO175 := n1_; have HB := n2_; clear n0_ n1_ n2_; (try clear hb); (try clear hb2); (try clear hk); (try clear hi)))
    go_ret
    exact ⟨by first | rfl | (simp [errW_none, errW_some] <;> rfl) | (simp [*, errW_none, errW_some] <;> rfl), by repeat (first | (with_reducible first | exact HB.out | apply below_alloc | apply pw_below_drewN | apply below_drew1) | exact HB.out)⟩
  ·rw [if_neg c7] at H
   have c7b0 : (t170.toList == t171.toList) = false := beq_eq_false_iff_ne.mpr c7
   have c7b1 : (t170.toList != t171.toList) = true := bne_iff_ne.mpr c7
   obtain rfl := Option.some.inj H
   go_enter Tryz.func3, Tryz.ntmps3
   go_wp2_with (first | ((with_reducible refine gate_callee (f := 5) rfl ?_); refine goesL_ (some 7) rfl rfl Tryz.func5 (by kernel_rfl) rfl #[.slice A0 l0.length c0] rfl (by (try simp only [List.map_toArray, List.map_cons, List.map_nil]); first | done | rfl | (simp only [List.length_drop, List.length_take]; rfl)) ?_; (with_reducible refine (cracknellaw08_small.calls k _ _ l0 true _ ?side1 ?side2 A2.out).mono ?_); (case side1 => repeat (first | exact HR0.out | (with_reducible refine Kd.C_alloc ?_ _) | (with_reducible refine Kd.C_drewN ?_ _) | (with_reducible refine Kd.C_drew ?_))); (case side2 => exact HC0.out); rintro e w50 ⟨rfl, hb⟩; refine ⟨_, rfl, ?_⟩; have n0_ := Aside0.mk (below_step (by repeat (first | (with_reducible first | exact HB.out | apply below_alloc | apply pw_below_drewN | apply below_drew1) | exact HB.out)) hb); clear HB; have HB := n0_; clear n0_; (try clear hb); (try clear hb2); (try clear hk); (try clear hi)) | ((with_reducible refine gate_callee (f := 8) rfl ?_); refine goesL_ (some 11) rfl rfl Tryz.func8 (by kernel_rfl) rfl #[.slice A0 l0.length c0] rfl (by (try simp only [List.map_toArray, List.map_cons, List.map_nil]); first | done | rfl | (simp only [List.length_drop, List.length_take]; rfl)) ?_; (with_reducible refine (cracknellaw08_News.calls _ _ l0 t167 _ ?side1 ?side2 A4.out).mono ?_); (case side1 => repeat (first | exact (Kd.C_below HR0.out HB.out) | (with_reducible refine Kd.C_alloc ?_ _) | (with_reducible refine Kd.C_drewN ?_ _) | (with_reducible refine Kd.C_drew ?_))); (case side2 => exact HC0.out); rintro e w51 ⟨v168, rfl, ho0, hb⟩; refine ⟨_, rfl, ?_⟩; have n0_ := Aside0.mk (Kd.R_lower ho0 (below_size (by repeat (first | (with_reducible first | exact HB.out | apply below_alloc | apply pw_below_drewN | apply below_drew1) | exact HB.out)))); have n1_ := Aside0.mk (below_step (by repeat (first | (with_reducible first | exact HB.out | apply below_alloc | apply pw_below_drewN | apply below_drew1) | exact HB.out)) hb); clear HB; have HO169 := n0_; have HB := n1_; clear n0_ n1_; (try clear hb); (try clear hb2); (try clear hk); (try clear hi); (try clear ho0); obtain ⟨Ao52, co52, eo52⟩ := Kd.R_slice HO169.out; subst eo52) | ((with_reducible refine gate_callee (f := 7) rfl ?_); refine goesL_ (some 12) rfl rfl Tryz.func7 (by kernel_rfl) rfl #[.slice Ao52 t167.length co52] rfl (by (try simp only [List.map_toArray, List.map_cons, List.map_nil]); first | done | rfl | (simp only [List.length_drop, List.length_take]; rfl)) ?_; (with_reducible refine (json_Print.calls _ _ t167 t170 _ ?side1 ?side2 A5.out).mono ?_); (case side1 => repeat (first | exact (Kd.R_reads' HO169.out).2.2 | (with_reducible refine Kd.C_alloc ?_ _) | (with_reducible refine Kd.C_drewN ?_ _) | (with_reducible refine Kd.C_drew ?_))); (case side2 => exact (Kd.R_reads' HO169.out).2.1); rintro e w53 ⟨rfl, hb⟩; refine ⟨_, rfl, ?_⟩; have n0_ := Aside0.mk (Kd.R_below (by (with_reducible repeat (first | apply Kd.R_alloc | apply Kd.R_drewN | apply Kd.R_drew)); exact HO169.out) hb); have n1_ := Aside0.mk (below_step (by repeat (first | (with_reducible first | exact HB.out | apply below_alloc | apply pw_below_drewN | apply below_drew1) | exact HB.out)) hb); clear HO169; clear HB; have HO169 := n0_; have HB := n1_; clear n0_ n1_; (try clear hb); (try clear hb2); (try clear hk); (try clear hi)) | ((with_reducible refine gate_callee (f := 9) rfl ?_); refine goesL_ (some 15) rfl rfl Tryz.func9 (by kernel_rfl) rfl #[.slice A0 l0.length c0] rfl (by (try simp only [List.map_toArray, List.map_cons, List.map_nil]); first | done | rfl | (simp only [List.length_drop, List.length_take]; rfl)) ?_; (with_reducible refine (cracknelref08_Print.calls k _ _ l0 t171 _ ?side1 ?side2 A6.out).mono ?_); (case side1 => repeat (first | exact (Kd.C_below HR0.out HB.out) | (with_reducible refine Kd.C_alloc ?_ _) | (with_reducible refine Kd.C_drewN ?_ _) | (with_reducible refine Kd.C_drew ?_))); (case side2 => exact HC0.out); rintro e w54 ⟨rfl, hb⟩; refine ⟨_, rfl, ?_⟩; have n0_ := Aside0.mk (Kd.R_below (by (with_reducible repeat (first | apply Kd.R_alloc | apply Kd.R_drewN | apply Kd.R_drew)); exact HO169.out) hb); have n1_ := Aside0.mk (below_step (by repeat (first | (with_reducible first | exact HB.out | apply below_alloc | apply pw_below_drewN | apply below_drew1) | exact HB.out)) hb); clear HO169; clear HB; have HO169 := n0_; have HB := n1_; clear n0_ n1_; (try clear hb); (try clear hb2); (try clear hk); (try clear hi)))
   go_ret
   exact ⟨by first | rfl | (simp [errW_none, errW_some] <;> rfl) | (simp [*, errW_none, errW_some] <;> rfl), by repeat (first | (with_reducible first | exact HB.out | apply below_alloc | apply pw_below_drewN | apply below_drew1) | exact HB.out)⟩
 ·replace c3 := Bool.eq_false_iff.mpr c3
  subst c3
  have H1 : ((cracknellaw08_alive.f).bind fun t166 => (some t166)) = some r := by rw [if_neg (show ¬ (false = true) by decide)] at H; exact H
  clear H
  have H := H1
  clear H1
  replace H := Option.bind_eq_some_iff.mp H
  obtain ⟨t166, A550, H⟩ := H
  replace H : (some t166) = some r := H
  have A55 := Aside0.mk A550
  clear A550
  obtain rfl := Option.some.inj H
  go_enter Tryz.func3, Tryz.ntmps3
  go_wp2_with (first | ((with_reducible refine gate_callee (f := 5) rfl ?_); refine goesL_ (some 7) rfl rfl Tryz.func5 (by kernel_rfl) rfl #[.slice A0 l0.length c0] rfl (by (try simp only [List.map_toArray, List.map_cons, List.map_nil]); first | done | rfl | (simp only [List.length_drop, List.length_take]; rfl)) ?_; (with_reducible refine (cracknellaw08_small.calls k _ _ l0 false _ ?side1 ?side2 A2.out).mono ?_); (case side1 => repeat (first | exact HR0.out | (with_reducible refine Kd.C_alloc ?_ _) | (with_reducible refine Kd.C_drewN ?_ _) | (with_reducible refine Kd.C_drew ?_))); (case side2 => exact HC0.out); rintro e w56 ⟨rfl, hb⟩; refine ⟨_, rfl, ?_⟩; have n0_ := Aside0.mk (below_step (by repeat (first | (with_reducible first | exact HB.out | apply below_alloc | apply pw_below_drewN | apply below_drew1) | exact HB.out)) hb); clear HB; have HB := n0_; clear n0_; (try clear hb); (try clear hb2); (try clear hk); (try clear hi)) | ((with_reducible refine gate_callee (f := 6) rfl ?_); refine goesL_ (some 9) rfl rfl Tryz.func6 (by kernel_rfl) rfl #[] rfl (by (try simp only [List.map_toArray, List.map_cons, List.map_nil]); first | done | rfl | (simp only [List.length_drop, List.length_take]; rfl)) ?_; (with_reducible refine (cracknellaw08_alive.calls  t166 _ A55.out).mono ?_); rintro e w57 ⟨rfl, hb⟩; refine ⟨_, rfl, ?_⟩; have n0_ := Aside0.mk (below_step (by repeat (first | (with_reducible first | exact HB.out | apply below_alloc | apply pw_below_drewN | apply below_drew1) | exact HB.out)) hb); clear HB; have HB := n0_; clear n0_; (try clear hb); (try clear hb2); (try clear hk); (try clear hi)))
  go_ret
  exact ⟨by first | rfl | (simp [errW_none, errW_some] <;> rfl) | (simp [*, errW_none, errW_some] <;> rfl), by repeat (first | (with_reducible first | exact HB.out | apply below_alloc | apply pw_below_drewN | apply below_drew1) | exact HB.out)⟩
end Go.Proofs.YthhmmaihbjhhgaaGreatDoor.J3
namespace Go.Proofs.YthhmmaihbjhhgaaGreatDoor.Giv
open Go.RowKit Go.Proofs.YthhmmaihbjhhgaaGreatDoorW.PrintWords Go.Proofs.YthhmmaihbjhhgaaGreatDoorW.PrintLast Go.Proofs.YthhmmaihbjhhgaaGreatDoorW.PrintMore
open Go.Proofs.YthhmmaihbjhhgaaGreatDoor.U1 Go.Proofs.YthhmmaihbjhhgaaGreatDoor.Q1 Go.Proofs.YthhmmaihbjhhgaaGreatDoor.J0 Go.Proofs.YthhmmaihbjhhgaaGreatDoor.J1 Go.Proofs.YthhmmaihbjhhgaaGreatDoor.J2 Go.Proofs.YthhmmaihbjhhgaaGreatDoor.J3
set_option linter.unusedSimpArgs false
set_option linter.unusedVariables false
theorem size_mk (l : B) : (⟨l.toArray⟩ : ByteArray).size = l.length := by show l.toArray.size = _; rw [List.size_toArray]
theorem app_mk (a b : B) : (⟨a.toArray⟩ : ByteArray) ++ ⟨b.toArray⟩ = ⟨(a ++ b).toArray⟩ := by
 apply ofList_eq
 simp [ByteArray.data_append]
theorem u64w {x : Int} (h0 : 0 ≤ x) (h1 : x < 18446744073709551616) : IntKind.u64.wrap x = x := by
 exact IntWalk.u64_in x ⟨h0, by omega⟩
theorem one_digit (c : Nat) (h : c < 256) : strOfNums [(c : Int)] = ⟨([UInt8.ofNat c] : B).toArray⟩ := by
 apply ofList_eq
 rw [strOfNums_data]
 simp
theorem dig_len : ∀ (n u : Nat), u < 10 ^ (n + 1) → (Lib.decDigits u).length ≤ n + 1
 | 0, u, h => by rw [Lib.decDigits, dif_pos (by simpa using h)]; exact Nat.le_refl _
 | n + 1, u, h => by
  rw [Lib.decDigits]
  split
  ·exact Nat.succ_le_succ (Nat.zero_le _)
  ·have := dig_len n (u / 10) (by rw [Nat.pow_succ] at h; omega)
   rw [List.length_append, List.length_singleton]; omega
theorem dig_l0 : ∀ (n u k : Nat) (acc : B), u < 10 ^ (n + 1) → u < 18446744073709551616 → n < k → acc.length + n ≤ 1000 → cracknelref02_digits.l0 k (u : Int) ⟨acc.toArray⟩ = some ⟨(Lib.decDigits u ++ acc).toArray⟩
 | 0, u, k, acc, h, h2, hk, ha => by
  obtain ⟨k, rfl⟩ : ∃ m, k = m + 1 := ⟨k - 1, by omega⟩
  have hu : u < 10 := by simpa using h
  have e : (IntKind.u64.wrap (48 + (u : Int))) % 256 = ((48 + u : Nat) : Int) := by rw [u64w (by omega) (by omega)]; omega
  rw [cracknelref02_digits.l0, if_neg (by omega), e, Option.bind_some, one_digit _ (by omega), if_pos (by rw [size_mk, size_mk, List.length_singleton]; omega), app_mk, Lib.decDigits, dif_pos hu]
 | n + 1, u, k, acc, h, h2, hk, ha => by
  obtain ⟨k, rfl⟩ : ∃ m, k = m + 1 := ⟨k - 1, by omega⟩
  by_cases hu : u < 10
  ·have e : (IntKind.u64.wrap (48 + (u : Int))) % 256 = ((48 + u : Nat) : Int) := by rw [u64w (by omega) (by omega)]; omega
   rw [cracknelref02_digits.l0, if_neg (by omega), e, Option.bind_some, one_digit _ (by omega), if_pos (by rw [size_mk, size_mk, List.length_singleton]; omega), app_mk, Lib.decDigits, dif_pos hu]
  ·have em : Int.tmod (u : Int) 10 = ((u % 10 : Nat) : Int) := by rw [Int.tmod_eq_emod_of_nonneg (by omega)]; omega
   have ed : Int.tdiv (u : Int) 10 = ((u / 10 : Nat) : Int) := by rw [Int.tdiv_eq_ediv_of_nonneg (by omega)]; omega
   have e : (IntKind.u64.wrap (48 + (Int.tmod (u : Int) 10))) % 256 = ((48 + u % 10 : Nat) : Int) := by rw [em, u64w (by omega) (by omega)]; omega
   rw [cracknelref02_digits.l0, if_pos (by omega), e, Option.bind_some, one_digit _ (by omega), if_pos (by rw [size_mk, size_mk, List.length_singleton]; omega), app_mk, ed, u64w (by omega) (by omega)]
   rw [dig_l0 n (u / 10) k ([UInt8.ofNat (48 + u % 10)] ++ acc) (by rw [Nat.pow_succ] at h; omega) (by omega) (by omega) (by simp; omega)]
   conv => rhs; rw [Lib.decDigits, dif_neg hu]
   rw [List.append_assoc]
theorem ref_print (k : Nat) (n : Int) (h : I64 n) (hk : 25 < k) : cracknelref02_Print.f k n = some ⟨(Lib.itoa n).toArray⟩ := by
 obtain ⟨h0, h1⟩ := h
 unfold cracknelref02_Print.f cracknelref02_digits.f Lib.itoa
 by_cases c : n < 0
 ·rw [if_pos c, if_pos c]
  have e : IntKind.u64.wrap (IntKind.u64.wrap (wrap64 (-(wrap64 (n + 1)))) + 1) = ((n.natAbs : Nat) : Int) := by
   rw [w64 (x := n + 1) (by omega) (by omega), w64 (by omega) (by omega), u64w (x := -(n + 1)) (by omega) (by omega), u64w (by omega) (by omega)]; omega
  have hz : (⟨#[]⟩ : ByteArray) = ⟨([] : B).toArray⟩ := rfl
  rw [e, hz, dig_l0 19 n.natAbs k [] (by omega) (by omega) (by omega) (by simp), Option.bind_some, List.append_nil]
  have hl := dig_len 19 n.natAbs (by omega)
  rw [if_pos (by rw [size_mk]; omega), show (⟨#[45]⟩ : ByteArray) = ⟨([45] : B).toArray⟩ from rfl, app_mk]
  rfl
 ·rw [if_neg c, if_neg c, u64w (by omega) (by omega)]
  obtain ⟨m, rfl⟩ : ∃ m : Nat, n = m := ⟨n.toNat, by omega⟩
  have hz : (⟨#[]⟩ : ByteArray) = ⟨([] : B).toArray⟩ := rfl
  rw [hz, dig_l0 19 m k [] (by omega) (by omega) (by omega) (by simp), Option.bind_some, List.append_nil, Int.toNat_natCast]
theorem end_l0 (l : List S39) (p q : Nat) (hl : l.length ≤ 1000000) (hp : p < l.length) (hq : q ≤ l.length) (hstop : q < l.length → (at8 l q).f0 ≤ (at8 l p).f0) (hdeep : ∀ j, p < j → j < q → (at8 l p).f0 < (at8 l j).f0) : ∀ n k i, q - i = n → p < i → i ≤ q → n < k → cracknelref08_end.l0 k l (p : Int) (i : Int) = some (q : Int)
 | 0, k, i, h1, h2, h3, h4 => by
  obtain ⟨k, rfl⟩ : ∃ m, k = m + 1 := ⟨k - 1, by omega⟩
  obtain rfl : i = q := by omega
  rw [cracknelref08_end.l0]
  by_cases c : (i : Int) < (l.length : Int)
  ·rw [if_pos c, if_pos (by omega), if_pos (by omega), if_pos (by omega), rd_at8, rd_at8, if_neg (by have := hstop (by omega); omega)]
  ·rw [if_neg c]
 | n + 1, k, i, h1, h2, h3, h4 => by
  obtain ⟨k, rfl⟩ : ∃ m, k = m + 1 := ⟨k - 1, by omega⟩
  rw [cracknelref08_end.l0, if_pos (by omega), if_pos (by omega), if_pos (by omega), if_pos (by omega), rd_at8, rd_at8, if_pos (hdeep i h2 (by omega)), w64 (by omega) (by omega), show (i : Int) + 1 = ((i + 1 : Nat) : Int) by omega]
  exact end_l0 l p q hl hp hq hstop hdeep n k (i + 1) (by omega) (by omega) (by omega) (by omega)
theorem end_f (l : List S39) (p q : Nat) (hl : l.length ≤ 1000000) (hp : p < q) (hq : q ≤ l.length) (hstop : q < l.length → (at8 l q).f0 ≤ (at8 l p).f0) (hdeep : ∀ j, p < j → j < q → (at8 l p).f0 < (at8 l j).f0) (k : Nat) (hk : l.length < k) : cracknelref08_end.f k l (p : Int) = some (q : Int) := by
 unfold cracknelref08_end.f
 rw [w64 (by omega) (by omega), show (p : Int) + 1 = ((p + 1 : Nat) : Int) by omega]
 exact end_l0 l p q hl (by omega) hq hstop hdeep (q - (p + 1)) k (p + 1) rfl (by omega) (by omega) (by omega)
theorem JV.low {K : Node} {rows : List S40} {t : B} (h : JV K rows t) : match K with
  | .v d _ => ∃ x l, rows = x :: l ∧ x.f0 = d ∧ ∀ y ∈ l, (d : Int) < y.f0
  | .m d _ _ _ => ∀ y ∈ rows, (d : Int) ≤ y.f0 := by
 induction h with
 | null => exact ⟨_, _, rfl, rfl, fun y hy => by cases hy⟩
 | fls => exact ⟨_, _, rfl, rfl, fun y hy => by cases hy⟩
 | tru => exact ⟨_, _, rfl, rfl, fun y hy => by cases hy⟩
 | num => exact ⟨_, _, rfl, rfl, fun y hy => by cases hy⟩
 | str => exact ⟨_, _, rfl, rfl, fun y hy => by cases hy⟩
 | arr d key rows t h hm im => exact ⟨_, _, rfl, rfl, fun y hy => by have := im y hy; omega⟩
 | obj d key rows t h hm im => exact ⟨_, _, rfl, rfl, fun y hy => by have := im y hy; omega⟩
 | none => intro x hx; cases hx
 | elem d keys fst rows t rows' t' hv hm iv im =>
  obtain ⟨x, l, rfl, hx, hl⟩ := iv
  intro y hy
  rcases List.mem_append.1 hy with hy | hy
  ·rcases List.mem_cons.1 hy with rfl | hy
   ·omega
   ·have := hl y hy; omega
  ·exact im y hy
 | memb d keys fst key hk hn rows t rows' t' hv hm iv im =>
  obtain ⟨x, l, rfl, hx, hl⟩ := iv
  intro y hy
  rcases List.mem_append.1 hy with hy | hy
  ·rcases List.mem_cons.1 hy with rfl | hy
   ·omega
   ·have := hl y hy; omega
  ·exact im y hy
end Go.Proofs.YthhmmaihbjhhgaaGreatDoor.Giv
namespace Go.Proofs.YthhmmaihbjhhgaaGreatDoor.Giv
open Go.RowKit Go.Proofs.YthhmmaihbjhhgaaGreatDoorW.PrintWords Go.Proofs.YthhmmaihbjhhgaaGreatDoorW.PrintLast Go.Proofs.YthhmmaihbjhhgaaGreatDoorW.PrintMore
open Go.Proofs.YthhmmaihbjhhgaaGreatDoor.U1 Go.Proofs.YthhmmaihbjhhgaaGreatDoor.Q1 Go.Proofs.YthhmmaihbjhhgaaGreatDoor.J0 Go.Proofs.YthhmmaihbjhhgaaGreatDoor.J1 Go.Proofs.YthhmmaihbjhhgaaGreatDoor.J2 Go.Proofs.YthhmmaihbjhhgaaGreatDoor.J3
set_option linter.unusedSimpArgs false
set_option linter.unusedVariables false
theorem at_map (l : List S39) (L : List S40) (h : l.map toN = L) (i : Nat) : toN (at8 l i) = L.getD i z40 := by
 subst h
 unfold at8
 rw [List.getD_eq_getElem?_getD, List.getD_eq_getElem?_getD, List.getElem?_map]
 cases l[i]? <;> rfl
theorem at_in (l : List S39) (pre rows suf : List S40) (h : l.map toN = pre ++ (rows ++ suf)) (i : Nat) (hi : i < rows.length) : toN (at8 l (pre.length + i)) ∈ rows := by
 rw [at_map l _ h, List.getD_eq_getElem?_getD, List.getElem?_append_right (by omega), Nat.add_sub_cancel_left, List.getElem?_append_left hi, List.getElem?_eq_getElem hi]
 exact List.getElem_mem hi
theorem at_fst (l : List S39) (pre r suf : List S40) (x : S40) (h : l.map toN = pre ++ ((x :: r) ++ suf)) : toN (at8 l pre.length) = x := by
 rw [at_map l _ h, List.getD_eq_getElem?_getD, List.getElem?_append_right (Nat.le_refl _), Nat.sub_self]; rfl
theorem at_suf (l : List S39) (pre rows suf : List S40) (h : l.map toN = pre ++ (rows ++ suf)) (hq : pre.length + rows.length < l.length) : suf.head? = some (toN (at8 l (pre.length + rows.length))) := by
 have hl : l.length = pre.length + (rows.length + suf.length) := by rw [← List.length_map (f := toN), h]; simp
 have hs : suf ≠ [] := fun e => by rw [e] at hl; simp at hl; omega
 obtain ⟨y, s, rfl⟩ := List.exists_cons_of_ne_nil hs
 have h' : l.map toN = (pre ++ rows) ++ ((y :: s) ++ []) := by rw [h]; simp
 have := at_fst l (pre ++ rows) s [] y h'
 rw [List.length_append] at this
 rw [this]; rfl
theorem tail_in (l : List S39) (pre r suf : List S40) (x : S40) (h : l.map toN = pre ++ ((x :: r) ++ suf)) (j : Nat) (h1 : pre.length < j) (h2 : j < pre.length + (r.length + 1)) : toN (at8 l j) ∈ r := by
 have h' : l.map toN = (pre ++ [x]) ++ (r ++ suf) := by rw [h]; simp
 obtain ⟨i, rfl⟩ : ∃ i, j = (pre ++ [x]).length + i := ⟨j - (pre.length + 1), by simp; omega⟩
 exact at_in l (pre ++ [x]) r suf h' i (by simp at h2; omega)
abbrev FU : Nat := 1000100
theorem end_v {d : Nat} {key : ByteArray} {rows : List S40} {t : B} (h : JV (.v d key) rows t) (l : List S39) (pre suf : List S40) (hm : l.map toN = pre ++ (rows ++ suf)) (hl : l.length ≤ 1000000) (hs : shallow suf d) (k : Nat) (hk : FU ≤ k) : cracknelref08_end.f k l (pre.length : Int) = some ((pre.length + rows.length : Nat) : Int) := by
 obtain ⟨x, r, rfl, hx, hr⟩ := h.low
 have hlen : l.length = pre.length + ((x :: r).length + suf.length) := by rw [← List.length_map (f := toN), hm, List.length_append, List.length_append]
 have h0 : (at8 l pre.length).f0 = d := by
  have := at_fst l pre r suf x hm
  rw [← hx, ← this]; rfl
 refine end_f l pre.length (pre.length + (x :: r).length) hl (by simp) (by omega) (fun hq => ?_) (fun j h1 h2 => ?_) k (by unfold FU at hk; omega)
 ·have := hs _ (at_suf l pre (x :: r) suf hm hq)
  rw [h0]; exact this
 ·have := hr _ (tail_in l pre r suf x hm j h1 (by simpa using h2))
  rw [h0]; exact this
def opB (ob : Bool) : UInt8 := if ob then 123 else 91
def TP : Node → List S40 → B → Prop
 | .v d key, rows, t => ∀ (l : List S39) (pre suf : List S40), l.map toN = pre ++ (rows ++ suf) → l.length ≤ 1000000 → (∀ i, i < l.length → Okz (at8 l i)) → shallow suf d → t.length ≤ 1000000000 → ∀ k, FU + 4 * rows.length ≤ k → cracknelref08_text.f k l (pre.length : Int) = some ⟨t.toArray⟩
 | .m d ob keys fst, rows, t => ∀ (l : List S39) (pre suf : List S40) (q : Nat) (out : B), l.map toN = pre ++ (rows ++ suf) → l.length ≤ 1000000 → (∀ i, i < l.length → Okz (at8 l i)) → (∀ x, suf.head? = some x → x.f0 < (d : Int)) → (fst = true → pre.length = q + 1) → (fst = false → q + 1 < pre.length) → (at8 l q).f0 + 1 = d →
  (∀ j, q < j → j < pre.length → (at8 l q).f0 < (at8 l j).f0) → out.length + t.length ≤ 1000000000 → ∀ k, FU + 4 * rows.length + 2 ≤ k → ∀ y0 y2 y3 y4, cracknelref08_text.l0 k l (q : Int) ⟨out.toArray⟩ (pre.length : Int) y0 (kindOf ob) y2 y3 y4 = some ⟨(opB ob :: (out ++ t ++ [enB ob])).toArray⟩
theorem fin (ob : Bool) (out : B) (h : out.length ≤ 1000000000) : (if kindOf ob = 6 then (if 1 + (⟨out.toArray⟩ : ByteArray).size ≤ 9223372036854775807 then (if ((⟨#[91]⟩ : ByteArray) ++ ⟨out.toArray⟩).size + 1 ≤ 9223372036854775807 then (some (((⟨#[91]⟩ : ByteArray) ++ ⟨out.toArray⟩) ++ (⟨#[93]⟩ : ByteArray))) else (none)) else (none)) else (if 1 + (⟨out.toArray⟩ : ByteArray).size ≤ 9223372036854775807 then (if ((⟨#[123]⟩ : ByteArray) ++ ⟨out.toArray⟩).size + 1 ≤ 9223372036854775807 then (some (((⟨#[123]⟩ : ByteArray) ++ ⟨out.toArray⟩) ++ (⟨#[125]⟩ : ByteArray))) else (none)) else (none))) = some ⟨(opB ob :: (out ++ [enB ob])).toArray⟩ := by
 cases ob with
 | false =>
  rw [if_pos (show kindOf false = 6 from rfl), if_pos (by rw [size_mk]; omega), show (⟨#[91]⟩ : ByteArray) = ⟨([91] : B).toArray⟩ from rfl, app_mk, if_pos (by rw [size_mk]; simp only [List.length_append, List.length_cons, List.length_nil]; omega), show (⟨#[93]⟩ : ByteArray) = ⟨([93] : B).toArray⟩ from rfl, app_mk]
  rfl
 | true =>
  rw [if_neg (show ¬ kindOf true = 6 by decide), if_pos (by rw [size_mk]; omega), show (⟨#[123]⟩ : ByteArray) = ⟨([123] : B).toArray⟩ from rfl, app_mk, if_pos (by rw [size_mk]; simp only [List.length_append, List.length_cons, List.length_nil]; omega), show (⟨#[125]⟩ : ByteArray) = ⟨([125] : B).toArray⟩ from rfl, app_mk]
  rfl
theorem end_m {d : Nat} {ob : Bool} {keys : List ByteArray} {fst : Bool} {rows : List S40} {t : B} (h : JV (.m d ob keys fst) rows t) (l : List S39) (pre suf : List S40) (q : Nat) (hm : l.map toN = pre ++ (rows ++ suf)) (hl : l.length ≤ 1000000) (hs : ∀ x, suf.head? = some x → x.f0 < (d : Int)) (hq : q < pre.length) (hd : (at8 l q).f0 + 1 = d)
  (hdp : ∀ j, q < j → j < pre.length → (at8 l q).f0 < (at8 l j).f0) (k : Nat) (hk : FU ≤ k) : cracknelref08_end.f k l (q : Int) = some ((pre.length + rows.length : Nat) : Int) := by
 have hlen : l.length = pre.length + (rows.length + suf.length) := by rw [← List.length_map (f := toN), hm]; simp
 have hr : ∀ y ∈ rows, (d : Int) ≤ y.f0 := h.low
 refine end_f l q (pre.length + rows.length) hl (by omega) (by omega) (fun hq => ?_) (fun j h1 h2 => ?_) k (by unfold FU at hk; omega)
 ·have : (at8 l (pre.length + rows.length)).f0 < (d : Int) := hs _ (at_suf l pre rows suf hm hq)
  omega
 ·by_cases c : j < pre.length
  ·exact hdp j h1 c
  ·have := hr _ (at_in l pre rows suf hm (j - pre.length) (by omega))
   rw [show pre.length + (j - pre.length) = j by omega] at this
   have : (d : Int) ≤ (at8 l j).f0 := this
   omega
theorem f1_fst (l : List S39) (pre r suf : List S40) (x : S40) (h : l.map toN = pre ++ ((x :: r) ++ suf)) : rd_T39 l (pre.length : Int) = toO x := by
 rw [rd_at8, ← at_fst l pre r suf x h]; rfl
theorem loop_end (ob : Bool) (l : List S39) (p q : Nat) (out : B) (k : Nat) (y0 : Int) (y2 y3 : ByteArray) (y4 : Int) (he : cracknelref08_end.f k l (q : Int) = some ((p : Nat) : Int)) (ho : out.length ≤ 1000000000) : cracknelref08_text.l0 (k + 1) l (q : Int) ⟨out.toArray⟩ (p : Int) y0 (kindOf ob) y2 y3 y4 = some ⟨(opB ob :: (out ++ [enB ob])).toArray⟩ := by
 rw [cracknelref08_text.l0, he, Option.bind_some, if_neg (by omega)]
 exact fin ob out ho
theorem loop_more (fst : Bool) (l : List S39) (p q e : Nat) (out : B) (k : Nat) (y0 y1 : Int) (y2 y3 : ByteArray) (y4 : Int) (he : cracknelref08_end.f k l (q : Int) = some ((e : Nat) : Int)) (hp : p < e) (h1 : fst = true → p = q + 1) (h2 : fst = false → q + 1 < p) (ho : out.length ≤ 1000000000) (hq : q ≤ 1000000) :
  cracknelref08_text.l0 (k + 1) l (q : Int) ⟨out.toArray⟩ (p : Int) y0 y1 y2 y3 y4 = cracknelref08_text.j1 k l (q : Int) ⟨(out ++ sepa fst).toArray⟩ (p : Int) y0 y1 y2 y3 y4 := by
 rw [cracknelref08_text.l0, he, Option.bind_some, if_pos (by omega), w64 (by omega) (by omega)]
 cases fst with
 | true => rw [if_neg (by have := h1 rfl; omega)]; show _ = cracknelref08_text.j1 k l (q : Int) ⟨(out ++ []).toArray⟩ (p : Int) y0 y1 y2 y3 y4; rw [List.append_nil]
 | false => rw [if_pos (by have := h2 rfl; omega), if_pos (by rw [size_mk]; omega), show (⟨#[44]⟩ : ByteArray) = ⟨([44] : B).toArray⟩ from rfl, app_mk]; rfl
theorem mem_okz {l : List S39} (hz : ∀ i, i < l.length → Okz (at8 l i)) {x : S40} {pre r suf : List S40} (h : l.map toN = pre ++ ((x :: r) ++ suf)) : x.f2.size ≤ 1000000 ∧ x.f3.size ≤ 1000000 ∧ pre.length < l.length := by
 have hlen : l.length = pre.length + ((x :: r).length + suf.length) := by rw [← List.length_map (f := toN), h, List.length_append, List.length_append]
 have hp : pre.length < l.length := by rw [hlen, List.length_cons]; omega
 have := hz _ hp
 have e := at_fst l pre r suf x h
 rw [← e]
 exact ⟨this.1, this.2.1, hp⟩
theorem JV.text {K : Node} {rows : List S40} {t : B} (h : JV K rows t) : TP K rows t := by
 induction h with
 | null d key =>
  intro l pre suf hm hl hz hs ht k hk
  obtain ⟨k, rfl⟩ : ∃ m, k = m + 1 := ⟨k - 1, by unfold FU at hk; omega⟩
  obtain ⟨_, _, hp⟩ := mem_okz hz hm
  rw [cracknelref08_text.f, if_pos (by omega), if_pos (by omega), f1_fst l pre _ suf _ hm]; rfl
 | fls d key =>
  intro l pre suf hm hl hz hs ht k hk
  obtain ⟨k, rfl⟩ : ∃ m, k = m + 1 := ⟨k - 1, by unfold FU at hk; omega⟩
  obtain ⟨_, _, hp⟩ := mem_okz hz hm
  rw [cracknelref08_text.f, if_pos (by omega), if_pos (by omega), f1_fst l pre _ suf _ hm]; rfl
 | tru d key =>
  intro l pre suf hm hl hz hs ht k hk
  obtain ⟨k, rfl⟩ : ∃ m, k = m + 1 := ⟨k - 1, by unfold FU at hk; omega⟩
  obtain ⟨_, _, hp⟩ := mem_okz hz hm
  rw [cracknelref08_text.f, if_pos (by omega), if_pos (by omega), f1_fst l pre _ suf _ hm]; rfl
 | num d key n h =>
  intro l pre suf hm hl hz hs ht k hk
  obtain ⟨k, rfl⟩ : ∃ m, k = m + 1 := ⟨k - 1, by unfold FU at hk; omega⟩
  obtain ⟨_, _, hp⟩ := mem_okz hz hm
  have hpr := ref_print k n h (by unfold FU at hk; omega)
  rw [cracknelref08_text.f, if_pos (by omega), if_pos (by omega), f1_fst l pre _ suf _ hm]
  show (cracknelref02_Print.f k n).bind _ = _
  rw [hpr]; rfl
 | str d key t h =>
  intro l pre suf hm hl hz hs ht k hk
  obtain ⟨k, rfl⟩ : ∃ m, k = m + 1 := ⟨k - 1, by unfold FU at hk; omega⟩
  obtain ⟨_, h3, hp⟩ := mem_okz hz hm
  have h3' : t.size ≤ 1000000 := h3
  have hw := refWrite k t (by unfold FU at hk; omega) (by omega)
  rw [cracknelref08_text.f, if_pos (by omega), if_pos (by omega), f1_fst l pre _ suf _ hm]
  show (cracknelref07_Write.f k t).bind _ = _
  rw [hw, writeS_yes t h]; rfl
 | arr d key rows t h hm0 im =>
  intro l pre suf hm hl hz hs ht k hk
  obtain ⟨k, rfl⟩ : ∃ m, k = m + 1 := ⟨k - 1, by unfold FU at hk; omega⟩
  obtain ⟨_, _, hp⟩ := mem_okz hz hm
  have hf := f1_fst l pre rows suf _ hm
  have hm' : l.map toN = (pre ++ [row d 6 key e0 0]) ++ (rows ++ suf) := by rw [hm]; simp
  have h0 : (at8 l pre.length).f0 = d := by rw [rd_at8] at hf; rw [hf]; rfl
  have hlen : (pre ++ [row d 6 key e0 0]).length = pre.length + 1 := by rw [List.length_append]; rfl
  simp only [List.length_cons] at hk
  have := im l (pre ++ [row d 6 key e0 0]) suf pre.length [] hm' hl hz (fun x hx => by have := hs x hx; omega) (fun _ => hlen) (fun e => by (cases e)) (by omega) (fun j h1 h2 => by omega) (by simp only [List.length_cons, List.length_append, List.length_nil] at ht ⊢; omega) k (by omega) (d : Int) key e0 0
  rw [hlen] at this
  rw [cracknelref08_text.f, if_pos (by omega), if_pos (by omega), hf, w64 (by omega) (by omega), show (pre.length : Int) + 1 = ((pre.length + 1 : Nat) : Int) by omega]
  exact this
 | obj d key rows t h hm0 im =>
  intro l pre suf hm hl hz hs ht k hk
  obtain ⟨k, rfl⟩ : ∃ m, k = m + 1 := ⟨k - 1, by unfold FU at hk; omega⟩
  obtain ⟨_, _, hp⟩ := mem_okz hz hm
  have hf := f1_fst l pre rows suf _ hm
  have hm' : l.map toN = (pre ++ [row d 7 key e0 0]) ++ (rows ++ suf) := by rw [hm]; simp
  have h0 : (at8 l pre.length).f0 = d := by rw [rd_at8] at hf; rw [hf]; rfl
  have hlen : (pre ++ [row d 7 key e0 0]).length = pre.length + 1 := by rw [List.length_append]; rfl
  simp only [List.length_cons] at hk
  have := im l (pre ++ [row d 7 key e0 0]) suf pre.length [] hm' hl hz (fun x hx => by have := hs x hx; omega) (fun _ => hlen) (fun e => by (cases e)) (by omega) (fun j h1 h2 => by omega) (by simp only [List.length_cons, List.length_append, List.length_nil] at ht ⊢; omega) k (by omega) (d : Int) key e0 0
  rw [hlen] at this
  rw [cracknelref08_text.f, if_pos (by omega), if_pos (by omega), hf, w64 (by omega) (by omega), show (pre.length : Int) + 1 = ((pre.length + 1 : Nat) : Int) by omega]
  exact this
 | none d ob keys fst =>
  intro l pre suf q out hm hl hz hs h1 h2 hd hdp ht k hk y0 y2 y3 y4
  obtain ⟨k, rfl⟩ : ∃ m, k = m + 1 := ⟨k - 1, by unfold FU at hk; omega⟩
  have hq : q < pre.length := by cases fst; exact Nat.lt_of_succ_lt (h2 rfl); (have := h1 rfl; omega)
  have he := end_m (JV.none d ob keys fst) l pre suf q hm hl hs hq hd hdp k (by simp only [List.length_nil] at hk; omega)
  rw [List.append_nil]
  exact loop_end ob l pre.length q out k y0 y2 y3 y4 he (by simp only [List.length_nil] at ht; omega)
 | elem d keys fst rows t rows' t' hv hm0 iv im =>
  intro l pre suf q out hm hl hz hs h1 h2 hd hdp ht k hk y0 y2 y3 y4
  obtain ⟨k, rfl⟩ : ∃ m, k = m + 1 + 1 := ⟨k - 2, by unfold FU at hk; omega⟩
  have hq : q < pre.length := by cases fst; exact Nat.lt_of_succ_lt (h2 rfl); (have := h1 rfl; omega)
  have he := end_m (JV.elem d keys fst rows t rows' t' hv hm0) l pre suf q hm hl hs hq hd hdp (k + 1) (by omega)
  obtain ⟨x, r, hxr, hx, hr⟩ := hv.low
  have hne : 1 ≤ rows.length := by rw [hxr]; simp
  have hm1 : l.map toN = pre ++ (rows ++ (rows' ++ suf)) := by rw [hm]; simp
  have hm2 : l.map toN = (pre ++ rows) ++ (rows' ++ suf) := by rw [hm]; simp
  have hsh : shallow (rows' ++ suf) d := shallow_app hm0.deep (fun y hy => by have := hs y hy; omega)
  rw [List.length_append] at he hk
  simp only [List.length_append] at ht
  have hsl : (sepa fst).length ≤ 1 := by cases fst <;> decide
  have hlen : l.length = pre.length + (rows.length + (rows' ++ suf).length) := by rw [← List.length_map (f := toN), hm1]; simp
  have ht1 := iv l pre (rows' ++ suf) hm1 hl hz hsh (by omega) k (by omega)
  have he1 := end_v hv l pre (rows' ++ suf) hm1 hl hsh k (by omega)
  have hdp2 : ∀ j, q < j → j < (pre ++ rows).length → (at8 l q).f0 < (at8 l j).f0 := fun j a b => by
   by_cases c : j < pre.length
   ·exact hdp j a c
   ·rw [List.length_append] at b
    have := (JV.elem d keys fst rows t rows' t' hv hm0).low _ (at_in l pre (rows ++ rows') suf hm (j - pre.length) (by rw [List.length_append]; omega))
    rw [show pre.length + (j - pre.length) = j by omega] at this
    have : (d : Int) ≤ (at8 l j).f0 := this
    omega
  have hi := im l (pre ++ rows) suf q (out ++ sepa fst ++ t) hm2 hl hz hs (fun e => by (cases e)) (fun _ => by rw [List.length_append]; omega) hd hdp2 (by simp only [List.length_append]; omega) k (by omega) y0 y2 y3 y4
  rw [List.length_append] at hi
  rw [loop_more fst l pre.length q (pre.length + (rows.length + rows'.length)) out (k + 1) y0 _ y2 y3 y4 he (by omega) h1 h2 (by omega) (by omega), cracknelref08_text.j1, if_neg (show ¬ kindOf false = 7 by decide), ht1, Option.bind_some, if_pos (by rw [size_mk, size_mk, List.length_append]; omega), he1, Option.bind_some, app_mk, hi]
  congr 3
  simp
 | memb d keys fst key hk0 hn rows t rows' t' hv hm0 iv im =>
  intro l pre suf q out hm hl hz hs h1 h2 hd hdp ht k hk y0 y2 y3 y4
  obtain ⟨k, rfl⟩ : ∃ m, k = m + 1 + 1 := ⟨k - 2, by unfold FU at hk; omega⟩
  have hq : q < pre.length := by cases fst; exact Nat.lt_of_succ_lt (h2 rfl); (have := h1 rfl; omega)
  have he := end_m (JV.memb d keys fst key hk0 hn rows t rows' t' hv hm0) l pre suf q hm hl hs hq hd hdp (k + 1) (by omega)
  obtain ⟨x, r, hxr, hxk⟩ := keyOf hv
  have hne : 1 ≤ rows.length := by rw [hxr]; simp
  have hm1 : l.map toN = pre ++ (rows ++ (rows' ++ suf)) := by rw [hm]; simp
  have hm2 : l.map toN = (pre ++ rows) ++ (rows' ++ suf) := by rw [hm]; simp
  have hsh : shallow (rows' ++ suf) d := shallow_app hm0.deep (fun y hy => by have := hs y hy; omega)
  rw [List.length_append] at he hk
  simp only [List.length_append, List.length_cons] at ht
  have hsl : (sepa fst).length ≤ 1 := by cases fst <;> decide
  have hlen : l.length = pre.length + (rows.length + (rows' ++ suf).length) := by rw [← List.length_map (f := toN), hm1]; simp
  have ht1 := iv l pre (rows' ++ suf) hm1 hl hz hsh (by omega) k (by omega)
  have he1 := end_v hv l pre (rows' ++ suf) hm1 hl hsh k (by omega)
  have hdp2 : ∀ j, q < j → j < (pre ++ rows).length → (at8 l q).f0 < (at8 l j).f0 := fun j a b => by
   by_cases c : j < pre.length
   ·exact hdp j a c
   ·rw [List.length_append] at b
    have := (JV.memb d keys fst key hk0 hn rows t rows' t' hv hm0).low _ (at_in l pre (rows ++ rows') suf hm (j - pre.length) (by rw [List.length_append]; omega))
    rw [show pre.length + (j - pre.length) = j by omega] at this
    have : (d : Int) ≤ (at8 l j).f0 := this
    omega
  have hi := im l (pre ++ rows) suf q (out ++ sepa fst ++ quoted key.data.toList ++ [58] ++ t) hm2 hl hz hs (fun e => by (cases e)) (fun _ => by rw [List.length_append]; omega) hd hdp2 (by simp only [List.length_append, List.length_cons, List.length_nil]; omega) k (by omega) y0 y2 y3 y4
  rw [List.length_append] at hi
  have hfk : (rd_T39 l (pre.length : Int)).f2 = key := by
   rw [hxr] at hm1
   rw [f1_fst l pre r (rows' ++ suf) x hm1]
   exact hxk
  have hks : key.size ≤ 1000000 := by
   rw [hxr] at hm1
   have := (mem_okz hz hm1).1
   rwa [hxk] at this
  have hw := refWrite k key (by unfold FU at hk; omega) (by omega)
  rw [writeS_yes key hk0] at hw
  rw [loop_more fst l pre.length q (pre.length + (rows.length + rows'.length)) out (k + 1) y0 _ y2 y3 y4 he (by omega) h1 h2 (by omega) (by omega), cracknelref08_text.j1, if_pos (show kindOf true = 7 from rfl), if_pos (by omega), if_pos (by omega), hfk, hw, Option.bind_some]
  simp only
  rw [app_mk, if_pos (by rw [size_mk, size_mk, List.length_append]; omega), if_pos (by rw [size_mk]; simp only [List.length_append]; omega), ht1, Option.bind_some, show (⟨#[58]⟩ : ByteArray) = ⟨([58] : B).toArray⟩ from rfl, app_mk, if_pos (by rw [size_mk, size_mk]; simp only [List.length_append, List.length_cons, List.length_nil]; omega), he1, Option.bind_some, app_mk, hi]
  congr 3
  simp
end Go.Proofs.YthhmmaihbjhhgaaGreatDoor.Giv
namespace Go.Proofs.YthhmmaihbjhhgaaGreatDoor.Giv
open Go.ChangeShapes Go.WideShapes Go.Deep
open Go.RowKit Go.Proofs.YthhmmaihbjhhgaaGreatDoorW.PrintWords Go.Proofs.YthhmmaihbjhhgaaGreatDoorW.PrintLast Go.Proofs.YthhmmaihbjhhgaaGreatDoorW.PrintMore
open Go.Proofs.YthhmmaihbjhhgaaGreatDoor.J1
section
variable {H : Type} {enc : TypeId × Value → H} {P : Program} {w : World} {base : Nat} {spare : Nat → Bool} {held : Bool}
theorem slice_fields {t e : TypeId} {fs : Array Field} {fuel : Nat} {cs : List Value} {x : DataW H × List MemPlace} (ht : P.underlying t = some (.slice e)) (he : P.underlying e = some (.struct fs))
  (hone : oneCellFields P fs = true) (hC : P.cellsOf e = fs.size) (h : DataW.trod enc P w base spare held fuel t cs = some x) :
  cs = [.slice none 0 0] ∨ ∃ (a : Addr) (len cap : Nat), cs = [.slice (some a) len cap] ∧ len ≤ cap ∧ cap ≤ maxLen ∧
   ∀ i, i < len → ∀ (j : Nat) (f : Field), fs[j]? = some f → ∃ (v : Value) (y : DataW H × List MemPlace) (n : Nat), w.cell? (a.add (i * fs.size + j)) = some v ∧ DataW.trod enc P w base spare held n f.type [v] = some y := by
 rcases open_slice ht h with ⟨h0, _⟩ | ⟨a, len, cap, m, n, D, Pl, hcs, hb, hl, hm, hmm, hx, hi⟩
 ·exact .inl h0
 ·refine .inr ⟨a, len, cap, hcs, hl, hm, fun i him j f hj => ?_⟩
  obtain ⟨cs', hc, ht'⟩ := hi i (by rw [hmm]; split <;> omega)
  rw [hC] at hc
  obtain ⟨ys, n', hn', hy, hlen, hyl, hf⟩ := DataW.trod_struct he ht'
  obtain ⟨_, hcl, hat⟩ := World.cells?_some hc
  obtain ⟨ho, hk⟩ := hone_of hone j f hj
  have hjl : j < fs.size := (Array.getElem?_eq_some_iff.1 hj).1
  have hcell := hat j hjl
  have hv : cs'[j]? = some (cs'[j]'(by omega)) := List.getElem?_eq_getElem (by omega)
  have h1 := hf j f hj
  rw [ho, hk] at h1
  have hone' : (cs'.drop j).take 1 = [cs'[j]'(by omega)] := by
   rw [List.drop_eq_getElem_cons (by omega)]
   rfl
  rw [hone'] at h1
  have hys : ys[j]? = some (ys[j]'(by omega)) := List.getElem?_eq_getElem (by omega)
  refine ⟨_, _, _, ?_, h1.trans hys⟩
  rw [← Go.Deep.add_add, hcell, hv]
def OkS (z : S39) : Prop := (Lit.int .i64 z.f0).wf = true ∧ (Lit.int .i64 z.f1).wf = true ∧ (Lit.int .i64 z.f4).wf = true
theorem open_S81 {t e : TypeId} {f0 f1 f2 f3 f4 : Field} {fuel : Nat} {cs : List Value} {x : DataW H × List MemPlace} (ht : P.underlying t = some (.slice e)) (he : P.underlying e = some (.struct #[f0, f1, f2, f3, f4]))
  (hone : oneCellFields P #[f0, f1, f2, f3, f4] = true) (hC : P.cellsOf e = 5) (h0 : P.underlying f0.type = some (.int .i64)) (h1 : P.underlying f1.type = some (.int .i64)) (h2 : P.underlying f2.type = some .string) (h3 : P.underlying f3.type = some .string) (h4 : P.underlying f4.type = some (.int .i64))
  (h : DataW.trod enc P w base spare held fuel t cs = some x) :
  ∃ (a : Option Addr) (len cap : Nat) (zs : List S39), cs = [.slice a len cap] ∧ len ≤ cap ∧ zs.length = len ∧ Kd.C k39 w a len zs ∧ ∀ z ∈ zs, OkS z := by
 rcases slice_fields ht he hone (hC.trans rfl) h with rfl | ⟨a, len, cap, rfl, hl, hm, hf⟩
 ·exact ⟨none, 0, 0, [], rfl, Nat.le_refl _, rfl, Kd.C_nil _ _, fun z hz => by cases hz⟩
 ·have each : ∀ i : Nat, ∃ z : S39, i < len → (w.cell? (a.add (i * 5 + 0)) = some (.int .i64 z.f0) ∧ w.cell? (a.add (i * 5 + 1)) = some (.int .i64 z.f1) ∧ w.cell? (a.add (i * 5 + 2)) = some (.string z.f2) ∧ w.cell? (a.add (i * 5 + 3)) = some (.string z.f3) ∧ w.cell? (a.add (i * 5 + 4)) = some (.int .i64 z.f4)) ∧ OkS z := by
   intro i
   by_cases hi : i < len
   ·obtain ⟨v0, y0, n0, c0, t0⟩ := hf i hi 0 f0 rfl
    obtain ⟨v1, y1, n1, c1, t1⟩ := hf i hi 1 f1 rfl
    obtain ⟨v2, y2, n2, c2, t2⟩ := hf i hi 2 f2 rfl
    obtain ⟨v3, y3, n3, c3, t3⟩ := hf i hi 3 f3 rfl
    obtain ⟨v4, y4, n4, c4, t4⟩ := hf i hi 4 f4 rfl
    obtain ⟨z0, e0, _, q0⟩ := DataW.trod_int h0 t0
    obtain ⟨z1, e1, _, q1⟩ := DataW.trod_int h1 t1
    obtain ⟨z2, e2, _, q2⟩ := DataW.trod_string h2 t2
    obtain ⟨z3, e3, _, q3⟩ := DataW.trod_string h3 t3
    obtain ⟨z4, e4, _, q4⟩ := DataW.trod_int h4 t4
    cases e0; cases e1; cases e2; cases e3; cases e4
    exact ⟨⟨z0, z1, z2, z3, z4⟩, fun _ => ⟨⟨c0, c1, c2, c3, c4⟩, q0, q1, q4⟩⟩
   ·exact ⟨z39, fun h => absurd h hi⟩
  obtain ⟨f, hf⟩ := Classical.axiomOfChoice each
  refine ⟨some a, len, cap, (List.range len).map f, rfl, hl, by simp, ⟨by simp, Nat.le_trans hl hm, fun _ => ⟨a, rfl, fun j p hj => ?_⟩⟩, fun z hz => ?_⟩
  ·have hjl : j < len := by
    have := (List.getElem?_eq_some_iff.1 hj).1
    simpa using this
   have hp : p = f j := by
    rw [List.getElem?_map, List.getElem?_range hjl] at hj
    exact (Option.some.inj hj).symm
   subst hp
   obtain ⟨⟨g0, g1, g2, g3, g4⟩, _⟩ := hf j hjl
   refine ⟨_, rfl, k39_mk w (f j), fun i u hi => ?_⟩
   match i, hi with
   | 0, hi => cases hi; exact g0
   | 1, hi => cases hi; exact g1
   | 2, hi => cases hi; exact g2
   | 3, hi => cases hi; exact g3
   | 4, hi => cases hi; exact g4
   | i + 5, hi => simp at hi
  ·obtain ⟨i, hi, rfl⟩ := List.mem_map.1 hz
   exact (hf i (List.mem_range.1 hi)).2
end
end Go.Proofs.YthhmmaihbjhhgaaGreatDoor.Giv
namespace Go.Proofs.YthhmmaihbjhhgaaGreatDoor.Giv
open Go.RowKit Go.Proofs.YthhmmaihbjhhgaaGreatDoorW.PrintWords Go.Proofs.YthhmmaihbjhhgaaGreatDoorW.PrintLast Go.Proofs.YthhmmaihbjhhgaaGreatDoorW.PrintMore
open Go.Proofs.YthhmmaihbjhhgaaGreatDoor.U1 Go.Proofs.YthhmmaihbjhhgaaGreatDoor.Q1 Go.Proofs.YthhmmaihbjhhgaaGreatDoor.J0 Go.Proofs.YthhmmaihbjhhgaaGreatDoor.J1 Go.Proofs.YthhmmaihbjhhgaaGreatDoor.J2 Go.Proofs.YthhmmaihbjhhgaaGreatDoor.J3
set_option linter.unusedSimpArgs false
set_option linter.unusedVariables false
theorem olds_f (l : List S40) (h : l.length ≤ 1099511627776) : cracknellaw08_Olds.f l = some (l.map toO) := by
 unfold cracknellaw08_Olds.f
 rw [if_pos (by omega)]
theorem okz_mem {l : List S39} (hz : ∀ i, i < l.length → Okz (at8 l i)) : ∀ z ∈ l, Okz z := fun z hm => by
 obtain ⟨i, hi, rfl⟩ := List.getElem_of_mem hm
 have := hz i hi
 unfold at8 at this
 rwa [List.getD_eq_getElem?_getD, List.getElem?_eq_getElem hi] at this
theorem JsonPrints (l : List S39) (hm : l.length ≤ 9223372036854775807) (ho : ∀ z ∈ l, OkI z) : ∃ k, cracknellaw08_JsonPrints.f k l = some true := by
 refine ⟨100000000, ?_⟩
 unfold cracknellaw08_JsonPrints.f
 obtain ⟨b, hb, hs⟩ := small_f l hm 100000000 (by omega)
 rw [hb, Option.bind_some]
 cases b with
 | false => rw [if_neg (by decide), alive8]; rfl
 | true =>
  obtain ⟨h1, h2⟩ := hs rfl
  have hz := okz_of l ho h2
  obtain ⟨r, hr, hr2⟩ := right_ref l hz (by omega) 100000000 (by omega)
  rw [if_pos rfl, show cracknellaw08_News.f l = some (l.map toN) by unfold cracknellaw08_News.f; rw [if_pos (by omega)], Option.bind_some]
  cases r with
  | true =>
   obtain ⟨t, jt⟩ := right_jv l (okz_mem hz) (by omega) hr
   have w1 := wt_small l h2
   have l1 : t.length + 6 * e0.size + 4 ≤ 30 * wt (l.map toN) := jt.len
   have ht := jt.text l [] [] (by simp) (by omega) hz (fun x hx => by cases hx) (by omega) 100000000 (by rw [List.length_map]; unfold FU; omega)
   have hp : cracknelref08_Print.f 100000000 l = some ⟨t.toArray⟩ := by
    unfold cracknelref08_Print.f
    rw [hr2, Option.bind_some, if_pos rfl]
    have ht' : cracknelref08_text.f 100000000 l 0 = some ⟨t.toArray⟩ := ht
    rw [ht']; rfl
   have hpa : json_Parse.f 100000000 ⟨t.toArray⟩ = some (l.map toN, 0) := by
    rw [parse_top _ (by rw [size_mk]; omega) 100000000 (by rw [size_mk]; omega)]
    exact congrArg some (top_text jt)
   rw [jt.print_f (by omega), Option.bind_some, hp, Option.bind_some, if_pos rfl, hpa, Option.bind_some, alive8, Option.bind_some, if_pos rfl, hr2, Option.bind_some, if_pos (by rfl), if_pos rfl, olds_f _ (by rw [List.length_map]; omega), Option.bind_some, List.map_map, show toO ∘ toN = id from rfl, List.map_id]
   obtain ⟨q, hq, hx⟩ := sm_f l l (by omega) 100000000 (by omega)
   rw [hq, Option.bind_some, hx.2 rfl]
  | false =>
   have hp : cracknelref08_Print.f 100000000 l = some ⟨#[]⟩ := by
    unfold cracknelref08_Print.f
    rw [hr2, Option.bind_some, if_neg (by decide)]
   have hp2 : json_Print.f (l.map toN) = some ⟨#[]⟩ := by
    unfold json_Print.f
    rw [hr, Option.bind_some]
    rfl
   have hpa : json_Parse.f 100000000 ⟨#[]⟩ = some ([], 80) := by
    rw [parse_top _ (by decide) 100000000 (by decide)]
    rfl
   rw [hp2, Option.bind_some, hp, Option.bind_some, if_pos rfl, hpa, Option.bind_some, alive8, Option.bind_some, if_pos rfl, hr2, Option.bind_some, if_pos (by rfl), if_neg (by decide)]
theorem okI_of {zs : List S39} (h : ∀ z ∈ zs, OkS z) : ∀ z ∈ zs, OkI z := fun z hz => ⟨bounds_i64 (h z hz).1, bounds_i64 (h z hz).2.1, bounds_i64 (h z hz).2.2⟩
abbrev ArgOk (W : World) (a : Option Addr) (len cap : Nat) (zs : List S39) : Prop := zs.length = len ∧ len ≤ cap ∧ Kd.C k39 W a zs.length zs ∧ ∀ z ∈ zs, OkS z
theorem jsonPrints_walk (a : Option Addr) (len cap : Nat) (zs : List S39) (w : World) (h : ArgOk w a len cap zs) (tj : JTabs w) (tb : Tabs w) : Calls Tryz.prog 3 #[.slice a len cap] w fun e w' => e = .returned (.bool true) ∧ Below w.heap.size w w' := by
 obtain ⟨rfl, hc, hC, hO⟩ := h
 obtain ⟨k, hk⟩ := JsonPrints zs (Kd.C_max hC) (okI_of hO)
 exact cracknellaw08_JsonPrints.calls k a cap zs true w hC hc hk tj tb
end Go.Proofs.YthhmmaihbjhhgaaGreatDoor.Giv
