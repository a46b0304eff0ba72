/- What the proof of JsonPrints stands on, part 6: cut and merged by a program out of this session's texts. -/
import Derived.Test.YthhmmaihbjhhgaaGreatDoorKZ5
import Derived.Test.YthhmmaihbjhhgaaGreatDoorProg
import Derived.Below
import Derived.Deep.Draws
import Derived.Deep.AppendLies
import Derived.Maps.AppendAt
import Derived.OwnWalk
import Derived.Laws.BytesArg
import Derived.Laws.MakeOwn
import Derived.Laws.OwnMore
import Derived.Deep.OwnRows
import Derived.Tactics
import Derived.Lib.ConvBytes
import Derived.Laws.Slices
import Derived.WalkKit
import Derived.KernelRfl
import Derived.RowKit3
import Derived.Deep.LoopGhost
import Derived.Deep.QuietTactic
import Derived.BigQuiet
import Derived.WideLaws
import Derived.Deep.DeepCutAuto
import Derived.Deep.CutBlock
import Derived.Deep.RegionHeld3
import Derived.Laws.Rows
import Derived.Lib.AppendStr
import Derived.ArgAppend
import Derived.Laws.IdiomCopy
import Derived.OrdersHeld
import Derived.Laws.BitsLemmas
import Derived.RowKit
set_option linter.unusedVariables false
set_option linter.unusedSimpArgs false
namespace Go.Proofs.YthhmmaihbjhhgaaGreatDoor.Giv
open Go.RowKit Go.Proofs.YthhmmaihbjhhgaaGreatDoorW.PrintWords Go.Proofs.YthhmmaihbjhhgaaGreatDoorW.PrintLast Go.Proofs.YthhmmaihbjhhgaaGreatDoorW.PrintMore
open Go.Proofs.YthhmmaihbjhhgaaGreatDoor.U1 Go.Proofs.YthhmmaihbjhhgaaGreatDoor.Q1 Go.Proofs.YthhmmaihbjhhgaaGreatDoor.J0 Go.Proofs.YthhmmaihbjhhgaaGreatDoor.J1
set_option linter.unusedSimpArgs false
set_option linter.unusedVariables false
def wt : List S40 → Nat
 | [] => 0
 | x :: l => x.f2.size + x.f3.size + 1 + wt l
theorem wt_app : ∀ a b : List S40, wt (a ++ b) = wt a + wt b
 | [], b => by simp [wt]
 | x :: a, b => by rw [List.cons_append, wt, wt, wt_app a b]; omega
theorem JV.len {K : Node} {rows : List S40} {t : B} (h : JV K rows t) : match K with
  | .v _ key => t.length + 6 * key.size + 4 ≤ 30 * wt rows
  | .m _ _ _ _ => t.length ≤ 30 * wt rows := by
 induction h with
 | null d key => show 4 + 6 * key.size + 4 ≤ 30 * (key.size + 0 + 1 + 0); omega
 | fls d key => show 5 + 6 * key.size + 4 ≤ 30 * (key.size + 0 + 1 + 0); omega
 | tru d key => show 4 + 6 * key.size + 4 ≤ 30 * (key.size + 0 + 1 + 0); omega
 | num d key n h => have := itoa_len n h; show _ + 6 * key.size + 4 ≤ 30 * (key.size + 0 + 1 + 0); omega
 | str d key s h =>
  have := inner_size s
  show (quoted s.data.toList).length + 6 * key.size + 4 ≤ 30 * (key.size + s.size + 1 + 0)
  rw [quoted_len]; omega
 | arr d key rows t h hm im =>
  show (91 :: (t ++ [93])).length + 6 * key.size + 4 ≤ 30 * (key.size + 0 + 1 + wt rows)
  have : t.length ≤ 30 * wt rows := im
  simp only [List.length_cons, List.length_append, List.length_nil]; omega
 | obj d key rows t h hm im =>
  show (123 :: (t ++ [125])).length + 6 * key.size + 4 ≤ 30 * (key.size + 0 + 1 + wt rows)
  have : t.length ≤ 30 * wt rows := im
  simp only [List.length_cons, List.length_append, List.length_nil]; omega
 | none => exact Nat.zero_le _
 | elem d keys fst rows t rows' t' hv hm iv im =>
  have h1 : t.length + 6 * e0.size + 4 ≤ 30 * wt rows := iv
  have h2 : t'.length ≤ 30 * wt rows' := im
  have h3 : (sepa fst).length ≤ 1 := by cases fst <;> decide
  show (sepa fst ++ (t ++ t')).length ≤ 30 * wt (rows ++ rows')
  rw [wt_app]
  simp only [List.length_append]; omega
 | memb d keys fst key hk hn rows t rows' t' hv hm iv im =>
  have h1 : t.length + 6 * key.size + 4 ≤ 30 * wt rows := iv
  have h2 : t'.length ≤ 30 * wt rows' := im
  have h3 : (sepa fst).length ≤ 1 := by cases fst <;> decide
  have h4 := inner_size key
  have h5 := quoted_len key.data.toList
  show (sepa fst ++ (quoted key.data.toList ++ (58 :: (t ++ t')))).length ≤ 30 * wt (rows ++ rows')
  rw [wt_app]
  simp only [List.length_append, List.length_cons]; omega
def topS (l : B) : List S40 × Int := if (pv (3 * l.length + 1) l 0 e0).1 = 0 then (if sk (pv (3 * l.length + 1) l 0 e0).2.1 ≠ [] then ([], 80) else ((pv (3 * l.length + 1) l 0 e0).2.2, 0)) else ([], (pv (3 * l.length + 1) l 0 e0).1)
theorem parse_top (s : ByteArray) (hs : s.size ≤ 1073741824) (k : Nat) (hk : 4 * s.size + 60 ≤ k) : json_Parse.f k s = some (topS s.data.toList) := by
 have hl := data_length s
 obtain ⟨C, hC⟩ : ∃ C, k = (3 * s.data.toList.length + 1) + C := ⟨k - (3 * s.data.toList.length + 1), by omega⟩
 obtain ⟨p', o', e1, e2, e3⟩ := (sim_all s (by omega) C (by omega) (3 * s.data.toList.length + 1)).1 s.data.toList 0 e0 0 [] List.drop_zero (Nat.zero_le _) (by omega) (by rw [List.length_nil]; omega) ((p_total _).1 _ _ _ (Nat.le_refl _))
 unfold json_Parse.f topS
 rw [if_pos (by omega), hC, show z0 = ⟨((0 : Nat) : Int), 0, e0, ⟨#[]⟩, 0⟩ from rfl, e1, Option.bind_some]
 simp only
 rw [if_pos e2]
 by_cases c : (pv (3 * s.data.toList.length + 1) s.data.toList 0 e0).1 = 0
 ·rw [if_pos c, if_pos c]
  obtain ⟨f1, f2⟩ := e3 c
  obtain ⟨_, _, _, g4⟩ := drop_sk s p' _ f1 e2
  by_cases c2 : sk (pv (3 * s.data.toList.length + 1) s.data.toList 0 e0).2.1 ≠ []
  ·rw [if_pos (g4.2 c2), if_pos c2]
  ·rw [if_neg (fun x => c2 (g4.1 x)), if_neg c2, f2]; rfl
 ·rw [if_neg c, if_neg c]
theorem top_text {rows : List S40} {t : B} (h : JV (.v 0 e0) rows t) : topS t = (rows, 0) := by
 have h1 : pv (3 * t.length + 1) (t ++ []) 0 e0 = (0, [], rows) := h.parse (by omega) [] (3 * t.length + 1) rfl (by simp)
 rw [List.append_nil] at h1
 unfold topS
 rw [h1, if_pos rfl, if_neg (by simp [sk])]
end Go.Proofs.YthhmmaihbjhhgaaGreatDoor.Giv
namespace Go.Proofs.YthhmmaihbjhhgaaGreatDoor.Giv
open Go.RowKit Go.Proofs.YthhmmaihbjhhgaaGreatDoorW.PrintWords Go.Proofs.YthhmmaihbjhhgaaGreatDoorW.PrintLast Go.Proofs.YthhmmaihbjhhgaaGreatDoorW.PrintMore
open Go.Proofs.YthhmmaihbjhhgaaGreatDoor.U1 Go.Proofs.YthhmmaihbjhhgaaGreatDoor.Q1 Go.Proofs.YthhmmaihbjhhgaaGreatDoor.J0 Go.Proofs.YthhmmaihbjhhgaaGreatDoor.J1
set_option linter.unusedSimpArgs false
def cracknelref08_may.f (k : Nat) (a0 : Int) (a1 : Int) (a2 : ByteArray) (a3 : ByteArray) (a4 : Int) : Option Bool :=
 if a1 < 1 ∨ 7 < a1 ∨ (a1 ≠ 4 ∧ a4 ≠ 0) ∨ (a1 ≠ 5 ∧ a3.toList ≠ []) then some false
 else if 64 < a0 ∨ (a0 = 64 ∧ 6 ≤ a1) then some false
 else (cracknelref05_Valid.f k a2).bind fun b => if b = true then cracknelref05_Valid.f k a3 else some false
set_option maxHeartbeats 8000000 in
set_option maxRecDepth 100000 in
theorem may_a (k : Nat) (a0 a1 : Int) (a2 a3 : ByteArray) (a4 : Int) (w : World) (h1 : a1 < 1) :
  Calls Tryz.prog 24 #[.agg #[.int .i64 a0, .int .i64 a1, .string a2, .string a3, .int .i64 a4]] w fun e w' => e = .returned (.bool false) ∧ Below w.heap.size w w' := by
 have hu39 := Tryz.underlying39
 go_enter Tryz.func24, Tryz.ntmps24
 go_wp2_with fail
 go_ret
 exact ⟨rfl, below_alloc (Below.refl _ _) _⟩
set_option maxHeartbeats 8000000 in
set_option maxRecDepth 100000 in
theorem may_b (k : Nat) (a0 a1 : Int) (a2 a3 : ByteArray) (a4 : Int) (w : World) (h1 : 7 < a1) :
  Calls Tryz.prog 24 #[.agg #[.int .i64 a0, .int .i64 a1, .string a2, .string a3, .int .i64 a4]] w fun e w' => e = .returned (.bool false) ∧ Below w.heap.size w w' := by
 have hu39 := Tryz.underlying39
 have h1b : ¬ a1 < 1 := by omega
 go_enter Tryz.func24, Tryz.ntmps24
 go_wp2_with fail
 go_ret
 exact ⟨rfl, below_alloc (Below.refl _ _) _⟩
set_option maxHeartbeats 8000000 in
set_option maxRecDepth 100000 in
theorem may_c (k : Nat) (a0 a1 : Int) (a2 a3 : ByteArray) (a4 : Int) (w : World) (h1 : ¬ a1 < 1) (h2 : ¬ 7 < a1) (h4 : a1 ≠ 4) (h6 : a4 ≠ 0) :
  Calls Tryz.prog 24 #[.agg #[.int .i64 a0, .int .i64 a1, .string a2, .string a3, .int .i64 a4]] w fun e w' => e = .returned (.bool false) ∧ Below w.heap.size w w' := by
 have hu39 := Tryz.underlying39
 have h4a : (a1 == 4) = false := beq_eq_false_iff_ne.mpr h4
 have h4b : (a1 != 4) = true := by rw [bne, h4a]; rfl
 have h6a : (a4 == 0) = false := beq_eq_false_iff_ne.mpr h6
 have h6b : (a4 != 0) = true := by rw [bne, h6a]; rfl
 clear h4 h6
 go_enter Tryz.func24, Tryz.ntmps24
 go_wp2_with fail
 go_ret
 exact ⟨rfl, below_alloc (Below.refl _ _) _⟩
set_option maxHeartbeats 8000000 in
set_option maxRecDepth 100000 in
theorem may_d1 (k : Nat) (a0 a1 : Int) (a2 a3 : ByteArray) (a4 : Int) (w : World) (h1 : ¬ a1 < 1) (h2 : ¬ 7 < a1) (h4 : a1 = 4) (h7 : a3.toList ≠ []) :
  Calls Tryz.prog 24 #[.agg #[.int .i64 a0, .int .i64 a1, .string a2, .string a3, .int .i64 a4]] w fun e w' => e = .returned (.bool false) ∧ Below w.heap.size w w' := by
 have hu39 := Tryz.underlying39
 have h4a : (a1 == 4) = true := beq_iff_eq.mpr h4
 have h4b : (a1 != 4) = false := by rw [bne, h4a]; rfl
 have h5a : (a1 == 5) = false := beq_eq_false_iff_ne.mpr (by omega)
 have h5b : (a1 != 5) = true := by rw [bne, h5a]; rfl
 have h7a : a3.toList.isEmpty = false := by cases hq : a3.toList with | nil => exact absurd hq h7 | cons _ _ => rfl
 have h7b : (a3.toList == []) = false := by cases hq : a3.toList with | nil => exact absurd hq h7 | cons _ _ => rfl
 clear h4 h7
 go_enter Tryz.func24, Tryz.ntmps24
 go_wp2_with fail
 go_ret
 exact ⟨rfl, below_alloc (Below.refl _ _) _⟩
set_option maxHeartbeats 8000000 in
set_option maxRecDepth 100000 in
theorem may_d2 (k : Nat) (a0 a1 : Int) (a2 a3 : ByteArray) (a4 : Int) (w : World) (h1 : ¬ a1 < 1) (h2 : ¬ 7 < a1) (h4 : a1 ≠ 4) (h5 : a1 ≠ 5) (h6 : a4 = 0) (h7 : a3.toList ≠ []) :
  Calls Tryz.prog 24 #[.agg #[.int .i64 a0, .int .i64 a1, .string a2, .string a3, .int .i64 a4]] w fun e w' => e = .returned (.bool false) ∧ Below w.heap.size w w' := by
 have hu39 := Tryz.underlying39
 have h4a : (a1 == 4) = false := beq_eq_false_iff_ne.mpr h4
 have h4b : (a1 != 4) = true := by rw [bne, h4a]; rfl
 have h5a : (a1 == 5) = false := beq_eq_false_iff_ne.mpr h5
 have h5b : (a1 != 5) = true := by rw [bne, h5a]; rfl
 have h6a : (a4 == 0) = true := beq_iff_eq.mpr h6
 have h6b : (a4 != 0) = false := by rw [bne, h6a]; rfl
 have h7a : a3.toList.isEmpty = false := by cases hq : a3.toList with | nil => exact absurd hq h7 | cons _ _ => rfl
 have h7b : (a3.toList == []) = false := by cases hq : a3.toList with | nil => exact absurd hq h7 | cons _ _ => rfl
 clear h4 h5 h6 h7
 go_enter Tryz.func24, Tryz.ntmps24
 go_wp2_with fail
 go_ret
 exact ⟨rfl, below_alloc (Below.refl _ _) _⟩
set_option maxHeartbeats 8000000 in
set_option maxRecDepth 100000 in
theorem may_e1 (k : Nat) (a0 a1 : Int) (a2 a3 : ByteArray) (a4 : Int) (w : World) (h1 : ¬ a1 < 1) (h2 : ¬ 7 < a1) (h4 : a1 = 4) (h7 : a3.toList = []) (h8 : 64 < a0) :
  Calls Tryz.prog 24 #[.agg #[.int .i64 a0, .int .i64 a1, .string a2, .string a3, .int .i64 a4]] w fun e w' => e = .returned (.bool false) ∧ Below w.heap.size w w' := by
 have hu39 := Tryz.underlying39
 have h4a : (a1 == 4) = true := beq_iff_eq.mpr h4
 have h4b : (a1 != 4) = false := by rw [bne, h4a]; rfl
 have h5a : (a1 == 5) = false := beq_eq_false_iff_ne.mpr (by omega)
 have h5b : (a1 != 5) = true := by rw [bne, h5a]; rfl
 have h7a : a3.toList.isEmpty = true := by rw [h7]; rfl
 have h7b : (a3.toList == []) = true := by rw [h7]; rfl
 clear h4 h7
 go_enter Tryz.func24, Tryz.ntmps24
 go_wp2_with fail
 go_ret
 exact ⟨rfl, below_alloc (Below.refl _ _) _⟩
set_option maxHeartbeats 8000000 in
set_option maxRecDepth 100000 in
theorem may_f1 (k : Nat) (a0 a1 : Int) (a2 a3 : ByteArray) (a4 : Int) (w : World) (h1 : ¬ a1 < 1) (h2 : ¬ 7 < a1) (h4 : a1 = 4) (h7 : a3.toList = []) (h8 : a0 = 64) (h9 : 6 ≤ a1) :
  Calls Tryz.prog 24 #[.agg #[.int .i64 a0, .int .i64 a1, .string a2, .string a3, .int .i64 a4]] w fun e w' => e = .returned (.bool false) ∧ Below w.heap.size w w' := by
 have hu39 := Tryz.underlying39
 have h4a : (a1 == 4) = true := beq_iff_eq.mpr h4
 have h4b : (a1 != 4) = false := by rw [bne, h4a]; rfl
 have h5a : (a1 == 5) = false := beq_eq_false_iff_ne.mpr (by omega)
 have h5b : (a1 != 5) = true := by rw [bne, h5a]; rfl
 have h7a : a3.toList.isEmpty = true := by rw [h7]; rfl
 have h7b : (a3.toList == []) = true := by rw [h7]; rfl
 clear h4 h7
 have h8a : (a0 == 64) = true := beq_iff_eq.mpr h8
 have h8b : ¬ 64 < a0 := by omega
 clear h8
 go_enter Tryz.func24, Tryz.ntmps24
 go_wp2_with fail
 go_ret
 exact ⟨rfl, below_alloc (Below.refl _ _) _⟩
set_option maxHeartbeats 8000000 in
set_option maxRecDepth 100000 in
theorem may_g10 (k : Nat) (a0 a1 : Int) (a2 a3 : ByteArray) (a4 : Int) (w : World) (h1 : ¬ a1 < 1) (h2 : ¬ 7 < a1) (h4 : a1 = 4) (h7 : a3.toList = []) (h8 : a0 = 64) (h9 : ¬ 6 ≤ a1) (hv : cracknelref05_Valid.f k a2 = some false) :
  Calls Tryz.prog 24 #[.agg #[.int .i64 a0, .int .i64 a1, .string a2, .string a3, .int .i64 a4]] w fun e w' => e = .returned (.bool false) ∧ Below w.heap.size w w' := by
 have hu39 := Tryz.underlying39
 have h4a : (a1 == 4) = true := beq_iff_eq.mpr h4
 have h4b : (a1 != 4) = false := by rw [bne, h4a]; rfl
 have h5a : (a1 == 5) = false := beq_eq_false_iff_ne.mpr (by omega)
 have h5b : (a1 != 5) = true := by rw [bne, h5a]; rfl
 have h7a : a3.toList.isEmpty = true := by rw [h7]; rfl
 have h7b : (a3.toList == []) = true := by rw [h7]; rfl
 clear h4 h7
 have h8a : (a0 == 64) = true := beq_iff_eq.mpr h8
 have h8b : ¬ 64 < a0 := by omega
 clear h8
 have FA := Aside0.mk hv
 clear hv
 go_enter Tryz.func24, Tryz.ntmps24
 go_wp2_with (go_at_call 45; (with_reducible refine (cracknelref05_Valid.calls k a2 _ _ FA.out).mono ?_); rintro e w1 ⟨rfl, hb1⟩; have HB1 := Aside0.mk hb1; have hcz : w1.cell? ⟨w.heap.size, 3, none⟩ = some (.string a3) := (blk_cell ((hb1.block _ (by simp)).trans (heap_alloc_new _ _)) 3).trans rfl; clear hb1)
 go_ret
 exact ⟨rfl, below_step (below_alloc (Below.refl _ _) _) HB1.out⟩
set_option maxHeartbeats 8000000 in
set_option maxRecDepth 100000 in
theorem may_g11 (k : Nat) (a0 a1 : Int) (a2 a3 : ByteArray) (a4 : Int) (w : World) (h1 : ¬ a1 < 1) (h2 : ¬ 7 < a1) (h4 : a1 = 4) (h7 : a3.toList = []) (h8 : a0 = 64) (h9 : ¬ 6 ≤ a1) (r : Bool) (hv : cracknelref05_Valid.f k a2 = some true) (hv2 : cracknelref05_Valid.f k a3 = some r) :
  Calls Tryz.prog 24 #[.agg #[.int .i64 a0, .int .i64 a1, .string a2, .string a3, .int .i64 a4]] w fun e w' => e = .returned (.bool r) ∧ Below w.heap.size w w' := by
 have hu39 := Tryz.underlying39
 have h4a : (a1 == 4) = true := beq_iff_eq.mpr h4
 have h4b : (a1 != 4) = false := by rw [bne, h4a]; rfl
 have h5a : (a1 == 5) = false := beq_eq_false_iff_ne.mpr (by omega)
 have h5b : (a1 != 5) = true := by rw [bne, h5a]; rfl
 have h7a : a3.toList.isEmpty = true := by rw [h7]; rfl
 have h7b : (a3.toList == []) = true := by rw [h7]; rfl
 clear h4 h7
 have h8a : (a0 == 64) = true := beq_iff_eq.mpr h8
 have h8b : ¬ 64 < a0 := by omega
 clear h8
 have FA := Aside0.mk hv
 have FB := Aside0.mk hv2
 clear hv hv2
 go_enter Tryz.func24, Tryz.ntmps24
 go_wp2_with (first | (go_at_call 45; (with_reducible refine (cracknelref05_Valid.calls k a2 _ _ FA.out).mono ?_); rintro e w1 ⟨rfl, hb1⟩; have HB1 := Aside0.mk hb1; have hcz : w1.cell? ⟨w.heap.size, 3, none⟩ = some (.string a3) := (blk_cell ((hb1.block _ (by simp)).trans (heap_alloc_new _ _)) 3).trans rfl; clear hb1) | (go_at_call 45; (with_reducible refine (cracknelref05_Valid.calls k a3 _ _ FB.out).mono ?_); rintro e w2 ⟨rfl, hb2⟩; have HB2 := Aside0.mk hb2; clear hb2))
 go_ret
 exact ⟨rfl, below_step (below_step (below_alloc (Below.refl _ _) _) HB1.out) HB2.out⟩
set_option maxHeartbeats 8000000 in
set_option maxRecDepth 100000 in
theorem may_h10 (k : Nat) (a0 a1 : Int) (a2 a3 : ByteArray) (a4 : Int) (w : World) (h1 : ¬ a1 < 1) (h2 : ¬ 7 < a1) (h4 : a1 = 4) (h7 : a3.toList = []) (h8 : a0 < 64) (hv : cracknelref05_Valid.f k a2 = some false) :
  Calls Tryz.prog 24 #[.agg #[.int .i64 a0, .int .i64 a1, .string a2, .string a3, .int .i64 a4]] w fun e w' => e = .returned (.bool false) ∧ Below w.heap.size w w' := by
 have hu39 := Tryz.underlying39
 have h4a : (a1 == 4) = true := beq_iff_eq.mpr h4
 have h4b : (a1 != 4) = false := by rw [bne, h4a]; rfl
 have h5a : (a1 == 5) = false := beq_eq_false_iff_ne.mpr (by omega)
 have h5b : (a1 != 5) = true := by rw [bne, h5a]; rfl
 have h7a : a3.toList.isEmpty = true := by rw [h7]; rfl
 have h7b : (a3.toList == []) = true := by rw [h7]; rfl
 clear h4 h7
 have h8a : (a0 == 64) = false := beq_eq_false_iff_ne.mpr (by omega)
 have h8b : ¬ 64 < a0 := by omega
 have FA := Aside0.mk hv
 clear hv
 go_enter Tryz.func24, Tryz.ntmps24
 go_wp2_with (go_at_call 45; (with_reducible refine (cracknelref05_Valid.calls k a2 _ _ FA.out).mono ?_); rintro e w1 ⟨rfl, hb1⟩; have HB1 := Aside0.mk hb1; have hcz : w1.cell? ⟨w.heap.size, 3, none⟩ = some (.string a3) := (blk_cell ((hb1.block _ (by simp)).trans (heap_alloc_new _ _)) 3).trans rfl; clear hb1)
 go_ret
 exact ⟨rfl, below_step (below_alloc (Below.refl _ _) _) HB1.out⟩
set_option maxHeartbeats 8000000 in
set_option maxRecDepth 100000 in
theorem may_h11 (k : Nat) (a0 a1 : Int) (a2 a3 : ByteArray) (a4 : Int) (w : World) (h1 : ¬ a1 < 1) (h2 : ¬ 7 < a1) (h4 : a1 = 4) (h7 : a3.toList = []) (h8 : a0 < 64) (r : Bool) (hv : cracknelref05_Valid.f k a2 = some true) (hv2 : cracknelref05_Valid.f k a3 = some r) :
  Calls Tryz.prog 24 #[.agg #[.int .i64 a0, .int .i64 a1, .string a2, .string a3, .int .i64 a4]] w fun e w' => e = .returned (.bool r) ∧ Below w.heap.size w w' := by
 have hu39 := Tryz.underlying39
 have h4a : (a1 == 4) = true := beq_iff_eq.mpr h4
 have h4b : (a1 != 4) = false := by rw [bne, h4a]; rfl
 have h5a : (a1 == 5) = false := beq_eq_false_iff_ne.mpr (by omega)
 have h5b : (a1 != 5) = true := by rw [bne, h5a]; rfl
 have h7a : a3.toList.isEmpty = true := by rw [h7]; rfl
 have h7b : (a3.toList == []) = true := by rw [h7]; rfl
 clear h4 h7
 have h8a : (a0 == 64) = false := beq_eq_false_iff_ne.mpr (by omega)
 have h8b : ¬ 64 < a0 := by omega
 have FA := Aside0.mk hv
 have FB := Aside0.mk hv2
 clear hv hv2
 go_enter Tryz.func24, Tryz.ntmps24
 go_wp2_with (first | (go_at_call 45; (with_reducible refine (cracknelref05_Valid.calls k a2 _ _ FA.out).mono ?_); rintro e w1 ⟨rfl, hb1⟩; have HB1 := Aside0.mk hb1; have hcz : w1.cell? ⟨w.heap.size, 3, none⟩ = some (.string a3) := (blk_cell ((hb1.block _ (by simp)).trans (heap_alloc_new _ _)) 3).trans rfl; clear hb1) | (go_at_call 45; (with_reducible refine (cracknelref05_Valid.calls k a3 _ _ FB.out).mono ?_); rintro e w2 ⟨rfl, hb2⟩; have HB2 := Aside0.mk hb2; clear hb2))
 go_ret
 exact ⟨rfl, below_step (below_step (below_alloc (Below.refl _ _) _) HB1.out) HB2.out⟩
set_option maxHeartbeats 8000000 in
set_option maxRecDepth 100000 in
theorem may_e2 (k : Nat) (a0 a1 : Int) (a2 a3 : ByteArray) (a4 : Int) (w : World) (h1 : ¬ a1 < 1) (h2 : ¬ 7 < a1) (h4 : a1 ≠ 4) (h6 : a4 = 0) (h5 : a1 = 5) (h8 : 64 < a0) :
  Calls Tryz.prog 24 #[.agg #[.int .i64 a0, .int .i64 a1, .string a2, .string a3, .int .i64 a4]] w fun e w' => e = .returned (.bool false) ∧ Below w.heap.size w w' := by
 have hu39 := Tryz.underlying39
 have h4a : (a1 == 4) = false := beq_eq_false_iff_ne.mpr h4
 have h4b : (a1 != 4) = true := by rw [bne, h4a]; rfl
 have h5a : (a1 == 5) = true := beq_iff_eq.mpr h5
 have h5b : (a1 != 5) = false := by rw [bne, h5a]; rfl
 have h6a : (a4 == 0) = true := beq_iff_eq.mpr h6
 have h6b : (a4 != 0) = false := by rw [bne, h6a]; rfl
 clear h4 h6 h5
 go_enter Tryz.func24, Tryz.ntmps24
 go_wp2_with fail
 go_ret
 exact ⟨rfl, below_alloc (Below.refl _ _) _⟩
set_option maxHeartbeats 8000000 in
set_option maxRecDepth 100000 in
theorem may_f2 (k : Nat) (a0 a1 : Int) (a2 a3 : ByteArray) (a4 : Int) (w : World) (h1 : ¬ a1 < 1) (h2 : ¬ 7 < a1) (h4 : a1 ≠ 4) (h6 : a4 = 0) (h5 : a1 = 5) (h8 : a0 = 64) (h9 : 6 ≤ a1) :
  Calls Tryz.prog 24 #[.agg #[.int .i64 a0, .int .i64 a1, .string a2, .string a3, .int .i64 a4]] w fun e w' => e = .returned (.bool false) ∧ Below w.heap.size w w' := by
 have hu39 := Tryz.underlying39
 have h4a : (a1 == 4) = false := beq_eq_false_iff_ne.mpr h4
 have h4b : (a1 != 4) = true := by rw [bne, h4a]; rfl
 have h5a : (a1 == 5) = true := beq_iff_eq.mpr h5
 have h5b : (a1 != 5) = false := by rw [bne, h5a]; rfl
 have h6a : (a4 == 0) = true := beq_iff_eq.mpr h6
 have h6b : (a4 != 0) = false := by rw [bne, h6a]; rfl
 clear h4 h6 h5
 have h8a : (a0 == 64) = true := beq_iff_eq.mpr h8
 have h8b : ¬ 64 < a0 := by omega
 clear h8
 go_enter Tryz.func24, Tryz.ntmps24
 go_wp2_with fail
 go_ret
 exact ⟨rfl, below_alloc (Below.refl _ _) _⟩
set_option maxHeartbeats 8000000 in
set_option maxRecDepth 100000 in
theorem may_g20 (k : Nat) (a0 a1 : Int) (a2 a3 : ByteArray) (a4 : Int) (w : World) (h1 : ¬ a1 < 1) (h2 : ¬ 7 < a1) (h4 : a1 ≠ 4) (h6 : a4 = 0) (h5 : a1 = 5) (h8 : a0 = 64) (h9 : ¬ 6 ≤ a1) (hv : cracknelref05_Valid.f k a2 = some false) :
  Calls Tryz.prog 24 #[.agg #[.int .i64 a0, .int .i64 a1, .string a2, .string a3, .int .i64 a4]] w fun e w' => e = .returned (.bool false) ∧ Below w.heap.size w w' := by
 have hu39 := Tryz.underlying39
 have h4a : (a1 == 4) = false := beq_eq_false_iff_ne.mpr h4
 have h4b : (a1 != 4) = true := by rw [bne, h4a]; rfl
 have h5a : (a1 == 5) = true := beq_iff_eq.mpr h5
 have h5b : (a1 != 5) = false := by rw [bne, h5a]; rfl
 have h6a : (a4 == 0) = true := beq_iff_eq.mpr h6
 have h6b : (a4 != 0) = false := by rw [bne, h6a]; rfl
 clear h4 h6 h5
 have h8a : (a0 == 64) = true := beq_iff_eq.mpr h8
 have h8b : ¬ 64 < a0 := by omega
 clear h8
 have FA := Aside0.mk hv
 clear hv
 go_enter Tryz.func24, Tryz.ntmps24
 go_wp2_with (go_at_call 45; (with_reducible refine (cracknelref05_Valid.calls k a2 _ _ FA.out).mono ?_); rintro e w1 ⟨rfl, hb1⟩; have HB1 := Aside0.mk hb1; have hcz : w1.cell? ⟨w.heap.size, 3, none⟩ = some (.string a3) := (blk_cell ((hb1.block _ (by simp)).trans (heap_alloc_new _ _)) 3).trans rfl; clear hb1)
 go_ret
 exact ⟨rfl, below_step (below_alloc (Below.refl _ _) _) HB1.out⟩
set_option maxHeartbeats 8000000 in
set_option maxRecDepth 100000 in
theorem may_g21 (k : Nat) (a0 a1 : Int) (a2 a3 : ByteArray) (a4 : Int) (w : World) (h1 : ¬ a1 < 1) (h2 : ¬ 7 < a1) (h4 : a1 ≠ 4) (h6 : a4 = 0) (h5 : a1 = 5) (h8 : a0 = 64) (h9 : ¬ 6 ≤ a1) (r : Bool) (hv : cracknelref05_Valid.f k a2 = some true) (hv2 : cracknelref05_Valid.f k a3 = some r) :
  Calls Tryz.prog 24 #[.agg #[.int .i64 a0, .int .i64 a1, .string a2, .string a3, .int .i64 a4]] w fun e w' => e = .returned (.bool r) ∧ Below w.heap.size w w' := by
 have hu39 := Tryz.underlying39
 have h4a : (a1 == 4) = false := beq_eq_false_iff_ne.mpr h4
 have h4b : (a1 != 4) = true := by rw [bne, h4a]; rfl
 have h5a : (a1 == 5) = true := beq_iff_eq.mpr h5
 have h5b : (a1 != 5) = false := by rw [bne, h5a]; rfl
 have h6a : (a4 == 0) = true := beq_iff_eq.mpr h6
 have h6b : (a4 != 0) = false := by rw [bne, h6a]; rfl
 clear h4 h6 h5
 have h8a : (a0 == 64) = true := beq_iff_eq.mpr h8
 have h8b : ¬ 64 < a0 := by omega
 clear h8
 have FA := Aside0.mk hv
 have FB := Aside0.mk hv2
 clear hv hv2
 go_enter Tryz.func24, Tryz.ntmps24
 go_wp2_with (first | (go_at_call 45; (with_reducible refine (cracknelref05_Valid.calls k a2 _ _ FA.out).mono ?_); rintro e w1 ⟨rfl, hb1⟩; have HB1 := Aside0.mk hb1; have hcz : w1.cell? ⟨w.heap.size, 3, none⟩ = some (.string a3) := (blk_cell ((hb1.block _ (by simp)).trans (heap_alloc_new _ _)) 3).trans rfl; clear hb1) | (go_at_call 45; (with_reducible refine (cracknelref05_Valid.calls k a3 _ _ FB.out).mono ?_); rintro e w2 ⟨rfl, hb2⟩; have HB2 := Aside0.mk hb2; clear hb2))
 go_ret
 exact ⟨rfl, below_step (below_step (below_alloc (Below.refl _ _) _) HB1.out) HB2.out⟩
set_option maxHeartbeats 8000000 in
set_option maxRecDepth 100000 in
theorem may_h20 (k : Nat) (a0 a1 : Int) (a2 a3 : ByteArray) (a4 : Int) (w : World) (h1 : ¬ a1 < 1) (h2 : ¬ 7 < a1) (h4 : a1 ≠ 4) (h6 : a4 = 0) (h5 : a1 = 5) (h8 : a0 < 64) (hv : cracknelref05_Valid.f k a2 = some false) :
  Calls Tryz.prog 24 #[.agg #[.int .i64 a0, .int .i64 a1, .string a2, .string a3, .int .i64 a4]] w fun e w' => e = .returned (.bool false) ∧ Below w.heap.size w w' := by
 have hu39 := Tryz.underlying39
 have h4a : (a1 == 4) = false := beq_eq_false_iff_ne.mpr h4
 have h4b : (a1 != 4) = true := by rw [bne, h4a]; rfl
 have h5a : (a1 == 5) = true := beq_iff_eq.mpr h5
 have h5b : (a1 != 5) = false := by rw [bne, h5a]; rfl
 have h6a : (a4 == 0) = true := beq_iff_eq.mpr h6
 have h6b : (a4 != 0) = false := by rw [bne, h6a]; rfl
 clear h4 h6 h5
 have h8a : (a0 == 64) = false := beq_eq_false_iff_ne.mpr (by omega)
 have h8b : ¬ 64 < a0 := by omega
 have FA := Aside0.mk hv
 clear hv
 go_enter Tryz.func24, Tryz.ntmps24
 go_wp2_with (go_at_call 45; (with_reducible refine (cracknelref05_Valid.calls k a2 _ _ FA.out).mono ?_); rintro e w1 ⟨rfl, hb1⟩; have HB1 := Aside0.mk hb1; have hcz : w1.cell? ⟨w.heap.size, 3, none⟩ = some (.string a3) := (blk_cell ((hb1.block _ (by simp)).trans (heap_alloc_new _ _)) 3).trans rfl; clear hb1)
 go_ret
 exact ⟨rfl, below_step (below_alloc (Below.refl _ _) _) HB1.out⟩
set_option maxHeartbeats 8000000 in
set_option maxRecDepth 100000 in
theorem may_h21 (k : Nat) (a0 a1 : Int) (a2 a3 : ByteArray) (a4 : Int) (w : World) (h1 : ¬ a1 < 1) (h2 : ¬ 7 < a1) (h4 : a1 ≠ 4) (h6 : a4 = 0) (h5 : a1 = 5) (h8 : a0 < 64) (r : Bool) (hv : cracknelref05_Valid.f k a2 = some true) (hv2 : cracknelref05_Valid.f k a3 = some r) :
  Calls Tryz.prog 24 #[.agg #[.int .i64 a0, .int .i64 a1, .string a2, .string a3, .int .i64 a4]] w fun e w' => e = .returned (.bool r) ∧ Below w.heap.size w w' := by
 have hu39 := Tryz.underlying39
 have h4a : (a1 == 4) = false := beq_eq_false_iff_ne.mpr h4
 have h4b : (a1 != 4) = true := by rw [bne, h4a]; rfl
 have h5a : (a1 == 5) = true := beq_iff_eq.mpr h5
 have h5b : (a1 != 5) = false := by rw [bne, h5a]; rfl
 have h6a : (a4 == 0) = true := beq_iff_eq.mpr h6
 have h6b : (a4 != 0) = false := by rw [bne, h6a]; rfl
 clear h4 h6 h5
 have h8a : (a0 == 64) = false := beq_eq_false_iff_ne.mpr (by omega)
 have h8b : ¬ 64 < a0 := by omega
 have FA := Aside0.mk hv
 have FB := Aside0.mk hv2
 clear hv hv2
 go_enter Tryz.func24, Tryz.ntmps24
 go_wp2_with (first | (go_at_call 45; (with_reducible refine (cracknelref05_Valid.calls k a2 _ _ FA.out).mono ?_); rintro e w1 ⟨rfl, hb1⟩; have HB1 := Aside0.mk hb1; have hcz : w1.cell? ⟨w.heap.size, 3, none⟩ = some (.string a3) := (blk_cell ((hb1.block _ (by simp)).trans (heap_alloc_new _ _)) 3).trans rfl; clear hb1) | (go_at_call 45; (with_reducible refine (cracknelref05_Valid.calls k a3 _ _ FB.out).mono ?_); rintro e w2 ⟨rfl, hb2⟩; have HB2 := Aside0.mk hb2; clear hb2))
 go_ret
 exact ⟨rfl, below_step (below_step (below_alloc (Below.refl _ _) _) HB1.out) HB2.out⟩
set_option maxHeartbeats 8000000 in
set_option maxRecDepth 100000 in
theorem may_e3 (k : Nat) (a0 a1 : Int) (a2 a3 : ByteArray) (a4 : Int) (w : World) (h1 : ¬ a1 < 1) (h2 : ¬ 7 < a1) (h4 : a1 ≠ 4) (h6 : a4 = 0) (h5 : a1 ≠ 5) (h7 : a3.toList = []) (h8 : 64 < a0) :
  Calls Tryz.prog 24 #[.agg #[.int .i64 a0, .int .i64 a1, .string a2, .string a3, .int .i64 a4]] w fun e w' => e = .returned (.bool false) ∧ Below w.heap.size w w' := by
 have hu39 := Tryz.underlying39
 have h4a : (a1 == 4) = false := beq_eq_false_iff_ne.mpr h4
 have h4b : (a1 != 4) = true := by rw [bne, h4a]; rfl
 have h5a : (a1 == 5) = false := beq_eq_false_iff_ne.mpr h5
 have h5b : (a1 != 5) = true := by rw [bne, h5a]; rfl
 have h6a : (a4 == 0) = true := beq_iff_eq.mpr h6
 have h6b : (a4 != 0) = false := by rw [bne, h6a]; rfl
 have h7a : a3.toList.isEmpty = true := by rw [h7]; rfl
 have h7b : (a3.toList == []) = true := by rw [h7]; rfl
 clear h4 h6 h5 h7
 go_enter Tryz.func24, Tryz.ntmps24
 go_wp2_with fail
 go_ret
 exact ⟨rfl, below_alloc (Below.refl _ _) _⟩
set_option maxHeartbeats 8000000 in
set_option maxRecDepth 100000 in
theorem may_f3 (k : Nat) (a0 a1 : Int) (a2 a3 : ByteArray) (a4 : Int) (w : World) (h1 : ¬ a1 < 1) (h2 : ¬ 7 < a1) (h4 : a1 ≠ 4) (h6 : a4 = 0) (h5 : a1 ≠ 5) (h7 : a3.toList = []) (h8 : a0 = 64) (h9 : 6 ≤ a1) :
  Calls Tryz.prog 24 #[.agg #[.int .i64 a0, .int .i64 a1, .string a2, .string a3, .int .i64 a4]] w fun e w' => e = .returned (.bool false) ∧ Below w.heap.size w w' := by
 have hu39 := Tryz.underlying39
 have h4a : (a1 == 4) = false := beq_eq_false_iff_ne.mpr h4
 have h4b : (a1 != 4) = true := by rw [bne, h4a]; rfl
 have h5a : (a1 == 5) = false := beq_eq_false_iff_ne.mpr h5
 have h5b : (a1 != 5) = true := by rw [bne, h5a]; rfl
 have h6a : (a4 == 0) = true := beq_iff_eq.mpr h6
 have h6b : (a4 != 0) = false := by rw [bne, h6a]; rfl
 have h7a : a3.toList.isEmpty = true := by rw [h7]; rfl
 have h7b : (a3.toList == []) = true := by rw [h7]; rfl
 clear h4 h6 h5 h7
 have h8a : (a0 == 64) = true := beq_iff_eq.mpr h8
 have h8b : ¬ 64 < a0 := by omega
 clear h8
 go_enter Tryz.func24, Tryz.ntmps24
 go_wp2_with fail
 go_ret
 exact ⟨rfl, below_alloc (Below.refl _ _) _⟩
set_option maxHeartbeats 8000000 in
set_option maxRecDepth 100000 in
theorem may_g30 (k : Nat) (a0 a1 : Int) (a2 a3 : ByteArray) (a4 : Int) (w : World) (h1 : ¬ a1 < 1) (h2 : ¬ 7 < a1) (h4 : a1 ≠ 4) (h6 : a4 = 0) (h5 : a1 ≠ 5) (h7 : a3.toList = []) (h8 : a0 = 64) (h9 : ¬ 6 ≤ a1) (hv : cracknelref05_Valid.f k a2 = some false) :
  Calls Tryz.prog 24 #[.agg #[.int .i64 a0, .int .i64 a1, .string a2, .string a3, .int .i64 a4]] w fun e w' => e = .returned (.bool false) ∧ Below w.heap.size w w' := by
 have hu39 := Tryz.underlying39
 have h4a : (a1 == 4) = false := beq_eq_false_iff_ne.mpr h4
 have h4b : (a1 != 4) = true := by rw [bne, h4a]; rfl
 have h5a : (a1 == 5) = false := beq_eq_false_iff_ne.mpr h5
 have h5b : (a1 != 5) = true := by rw [bne, h5a]; rfl
 have h6a : (a4 == 0) = true := beq_iff_eq.mpr h6
 have h6b : (a4 != 0) = false := by rw [bne, h6a]; rfl
 have h7a : a3.toList.isEmpty = true := by rw [h7]; rfl
 have h7b : (a3.toList == []) = true := by rw [h7]; rfl
 clear h4 h6 h5 h7
 have h8a : (a0 == 64) = true := beq_iff_eq.mpr h8
 have h8b : ¬ 64 < a0 := by omega
 clear h8
 have FA := Aside0.mk hv
 clear hv
 go_enter Tryz.func24, Tryz.ntmps24
 go_wp2_with (go_at_call 45; (with_reducible refine (cracknelref05_Valid.calls k a2 _ _ FA.out).mono ?_); rintro e w1 ⟨rfl, hb1⟩; have HB1 := Aside0.mk hb1; have hcz : w1.cell? ⟨w.heap.size, 3, none⟩ = some (.string a3) := (blk_cell ((hb1.block _ (by simp)).trans (heap_alloc_new _ _)) 3).trans rfl; clear hb1)
 go_ret
 exact ⟨rfl, below_step (below_alloc (Below.refl _ _) _) HB1.out⟩
set_option maxHeartbeats 8000000 in
set_option maxRecDepth 100000 in
theorem may_g31 (k : Nat) (a0 a1 : Int) (a2 a3 : ByteArray) (a4 : Int) (w : World) (h1 : ¬ a1 < 1) (h2 : ¬ 7 < a1) (h4 : a1 ≠ 4) (h6 : a4 = 0) (h5 : a1 ≠ 5) (h7 : a3.toList = []) (h8 : a0 = 64) (h9 : ¬ 6 ≤ a1) (r : Bool) (hv : cracknelref05_Valid.f k a2 = some true) (hv2 : cracknelref05_Valid.f k a3 = some r) :
  Calls Tryz.prog 24 #[.agg #[.int .i64 a0, .int .i64 a1, .string a2, .string a3, .int .i64 a4]] w fun e w' => e = .returned (.bool r) ∧ Below w.heap.size w w' := by
 have hu39 := Tryz.underlying39
 have h4a : (a1 == 4) = false := beq_eq_false_iff_ne.mpr h4
 have h4b : (a1 != 4) = true := by rw [bne, h4a]; rfl
 have h5a : (a1 == 5) = false := beq_eq_false_iff_ne.mpr h5
 have h5b : (a1 != 5) = true := by rw [bne, h5a]; rfl
 have h6a : (a4 == 0) = true := beq_iff_eq.mpr h6
 have h6b : (a4 != 0) = false := by rw [bne, h6a]; rfl
 have h7a : a3.toList.isEmpty = true := by rw [h7]; rfl
 have h7b : (a3.toList == []) = true := by rw [h7]; rfl
 clear h4 h6 h5 h7
 have h8a : (a0 == 64) = true := beq_iff_eq.mpr h8
 have h8b : ¬ 64 < a0 := by omega
 clear h8
 have FA := Aside0.mk hv
 have FB := Aside0.mk hv2
 clear hv hv2
 go_enter Tryz.func24, Tryz.ntmps24
 go_wp2_with (first | (go_at_call 45; (with_reducible refine (cracknelref05_Valid.calls k a2 _ _ FA.out).mono ?_); rintro e w1 ⟨rfl, hb1⟩; have HB1 := Aside0.mk hb1; have hcz : w1.cell? ⟨w.heap.size, 3, none⟩ = some (.string a3) := (blk_cell ((hb1.block _ (by simp)).trans (heap_alloc_new _ _)) 3).trans rfl; clear hb1) | (go_at_call 45; (with_reducible refine (cracknelref05_Valid.calls k a3 _ _ FB.out).mono ?_); rintro e w2 ⟨rfl, hb2⟩; have HB2 := Aside0.mk hb2; clear hb2))
 go_ret
 exact ⟨rfl, below_step (below_step (below_alloc (Below.refl _ _) _) HB1.out) HB2.out⟩
set_option maxHeartbeats 8000000 in
set_option maxRecDepth 100000 in
theorem may_h30 (k : Nat) (a0 a1 : Int) (a2 a3 : ByteArray) (a4 : Int) (w : World) (h1 : ¬ a1 < 1) (h2 : ¬ 7 < a1) (h4 : a1 ≠ 4) (h6 : a4 = 0) (h5 : a1 ≠ 5) (h7 : a3.toList = []) (h8 : a0 < 64) (hv : cracknelref05_Valid.f k a2 = some false) :
  Calls Tryz.prog 24 #[.agg #[.int .i64 a0, .int .i64 a1, .string a2, .string a3, .int .i64 a4]] w fun e w' => e = .returned (.bool false) ∧ Below w.heap.size w w' := by
 have hu39 := Tryz.underlying39
 have h4a : (a1 == 4) = false := beq_eq_false_iff_ne.mpr h4
 have h4b : (a1 != 4) = true := by rw [bne, h4a]; rfl
 have h5a : (a1 == 5) = false := beq_eq_false_iff_ne.mpr h5
 have h5b : (a1 != 5) = true := by rw [bne, h5a]; rfl
 have h6a : (a4 == 0) = true := beq_iff_eq.mpr h6
 have h6b : (a4 != 0) = false := by rw [bne, h6a]; rfl
 have h7a : a3.toList.isEmpty = true := by rw [h7]; rfl
 have h7b : (a3.toList == []) = true := by rw [h7]; rfl
 clear h4 h6 h5 h7
 have h8a : (a0 == 64) = false := beq_eq_false_iff_ne.mpr (by omega)
 have h8b : ¬ 64 < a0 := by omega
 have FA := Aside0.mk hv
 clear hv
 go_enter Tryz.func24, Tryz.ntmps24
 go_wp2_with (go_at_call 45; (with_reducible refine (cracknelref05_Valid.calls k a2 _ _ FA.out).mono ?_); rintro e w1 ⟨rfl, hb1⟩; have HB1 := Aside0.mk hb1; have hcz : w1.cell? ⟨w.heap.size, 3, none⟩ = some (.string a3) := (blk_cell ((hb1.block _ (by simp)).trans (heap_alloc_new _ _)) 3).trans rfl; clear hb1)
 go_ret
 exact ⟨rfl, below_step (below_alloc (Below.refl _ _) _) HB1.out⟩
set_option maxHeartbeats 8000000 in
set_option maxRecDepth 100000 in
theorem may_h31 (k : Nat) (a0 a1 : Int) (a2 a3 : ByteArray) (a4 : Int) (w : World) (h1 : ¬ a1 < 1) (h2 : ¬ 7 < a1) (h4 : a1 ≠ 4) (h6 : a4 = 0) (h5 : a1 ≠ 5) (h7 : a3.toList = []) (h8 : a0 < 64) (r : Bool) (hv : cracknelref05_Valid.f k a2 = some true) (hv2 : cracknelref05_Valid.f k a3 = some r) :
  Calls Tryz.prog 24 #[.agg #[.int .i64 a0, .int .i64 a1, .string a2, .string a3, .int .i64 a4]] w fun e w' => e = .returned (.bool r) ∧ Below w.heap.size w w' := by
 have hu39 := Tryz.underlying39
 have h4a : (a1 == 4) = false := beq_eq_false_iff_ne.mpr h4
 have h4b : (a1 != 4) = true := by rw [bne, h4a]; rfl
 have h5a : (a1 == 5) = false := beq_eq_false_iff_ne.mpr h5
 have h5b : (a1 != 5) = true := by rw [bne, h5a]; rfl
 have h6a : (a4 == 0) = true := beq_iff_eq.mpr h6
 have h6b : (a4 != 0) = false := by rw [bne, h6a]; rfl
 have h7a : a3.toList.isEmpty = true := by rw [h7]; rfl
 have h7b : (a3.toList == []) = true := by rw [h7]; rfl
 clear h4 h6 h5 h7
 have h8a : (a0 == 64) = false := beq_eq_false_iff_ne.mpr (by omega)
 have h8b : ¬ 64 < a0 := by omega
 have FA := Aside0.mk hv
 have FB := Aside0.mk hv2
 clear hv hv2
 go_enter Tryz.func24, Tryz.ntmps24
 go_wp2_with (first | (go_at_call 45; (with_reducible refine (cracknelref05_Valid.calls k a2 _ _ FA.out).mono ?_); rintro e w1 ⟨rfl, hb1⟩; have HB1 := Aside0.mk hb1; have hcz : w1.cell? ⟨w.heap.size, 3, none⟩ = some (.string a3) := (blk_cell ((hb1.block _ (by simp)).trans (heap_alloc_new _ _)) 3).trans rfl; clear hb1) | (go_at_call 45; (with_reducible refine (cracknelref05_Valid.calls k a3 _ _ FB.out).mono ?_); rintro e w2 ⟨rfl, hb2⟩; have HB2 := Aside0.mk hb2; clear hb2))
 go_ret
 exact ⟨rfl, below_step (below_step (below_alloc (Below.refl _ _) _) HB1.out) HB2.out⟩
theorem cracknelref08_may.calls (k : Nat) (a0_0 : Int) (a0_1 : Int) (a0_2 : ByteArray) (a0_3 : ByteArray) (a0_4 : Int) (r : Bool) (w : World) (h : cracknelref08_may.f k a0_0 a0_1 a0_2 a0_3 a0_4 = some r) :
  Calls Tryz.prog 24 #[.agg #[.int .i64 a0_0, .int .i64 a0_1, .string a0_2, .string a0_3, .int .i64 a0_4]] w fun e w' => e = .returned (.bool r) ∧ Below w.heap.size w w' := by
 unfold cracknelref08_may.f at h
 by_cases h1 : a0_1 < 1
 ·rw [if_pos (.inl h1)] at h; cases h; exact may_a k _ _ _ _ _ w h1
 by_cases h2 : 7 < a0_1
 ·rw [if_pos (.inr (.inl h2))] at h; cases h; exact may_b k _ _ _ _ _ w h2
 by_cases h4 : a0_1 = 4
 ·by_cases h7 : a0_3.toList = []
  ·rw [if_neg (by rintro (x | x | ⟨x, _⟩ | ⟨_, x⟩) <;> first | exact h1 x | exact h2 x | exact x h4 | exact x h7)] at h
   by_cases h8 : 64 < a0_0
   ·rw [if_pos (.inl h8)] at h; cases h; exact may_e1 k _ _ _ _ _ w h1 h2 h4 h7 h8
   ·by_cases h9 : a0_0 = 64
    ·by_cases h10 : 6 ≤ a0_1
     ·rw [if_pos (.inr ⟨h9, h10⟩)] at h; cases h; exact may_f1 k _ _ _ _ _ w h1 h2 h4 h7 h9 h10
     ·rw [if_neg (by rintro (x | ⟨_, x⟩) <;> first | exact h8 x | exact h10 x)] at h
      obtain ⟨b, hv, h⟩ := Option.bind_eq_some_iff.1 h
      cases b with
      | true => rw [if_pos rfl] at h; exact may_g11 k _ _ _ _ _ w h1 h2 h4 h7 h9 h10 r hv h
      | false => rw [if_neg (by decide)] at h; cases h; exact may_g10 k _ _ _ _ _ w h1 h2 h4 h7 h9 h10 hv
    ·rw [if_neg (by rintro (x | ⟨x, _⟩) <;> first | exact h8 x | exact h9 x)] at h
     obtain ⟨b, hv, h⟩ := Option.bind_eq_some_iff.1 h
     cases b with
     | true => rw [if_pos rfl] at h; exact may_h11 k _ _ _ _ _ w h1 h2 h4 h7 (by omega) r hv h
     | false => rw [if_neg (by decide)] at h; cases h; exact may_h10 k _ _ _ _ _ w h1 h2 h4 h7 (by omega) hv
  ·rw [if_pos (.inr (.inr (.inr ⟨by omega, h7⟩)))] at h; cases h; exact may_d1 k _ _ _ _ _ w h1 h2 h4 h7
 ·by_cases h6 : a0_4 = 0
  ·by_cases h5 : a0_1 = 5
   ·rw [if_neg (by rintro (x | x | ⟨_, x⟩ | ⟨x, _⟩) <;> first | exact h1 x | exact h2 x | exact x h6 | exact x h5)] at h
    by_cases h8 : 64 < a0_0
    ·rw [if_pos (.inl h8)] at h; cases h; exact may_e2 k _ _ _ _ _ w h1 h2 h4 h6 h5 h8
    ·by_cases h9 : a0_0 = 64
     ·by_cases h10 : 6 ≤ a0_1
      ·rw [if_pos (.inr ⟨h9, h10⟩)] at h; cases h; exact may_f2 k _ _ _ _ _ w h1 h2 h4 h6 h5 h9 h10
      ·rw [if_neg (by rintro (x | ⟨_, x⟩) <;> first | exact h8 x | exact h10 x)] at h
       obtain ⟨b, hv, h⟩ := Option.bind_eq_some_iff.1 h
       cases b with
       | true => rw [if_pos rfl] at h; exact may_g21 k _ _ _ _ _ w h1 h2 h4 h6 h5 h9 h10 r hv h
       | false => rw [if_neg (by decide)] at h; cases h; exact may_g20 k _ _ _ _ _ w h1 h2 h4 h6 h5 h9 h10 hv
     ·rw [if_neg (by rintro (x | ⟨x, _⟩) <;> first | exact h8 x | exact h9 x)] at h
      obtain ⟨b, hv, h⟩ := Option.bind_eq_some_iff.1 h
      cases b with
      | true => rw [if_pos rfl] at h; exact may_h21 k _ _ _ _ _ w h1 h2 h4 h6 h5 (by omega) r hv h
      | false => rw [if_neg (by decide)] at h; cases h; exact may_h20 k _ _ _ _ _ w h1 h2 h4 h6 h5 (by omega) hv
   ·by_cases h7 : a0_3.toList = []
    ·rw [if_neg (by rintro (x | x | ⟨_, x⟩ | ⟨_, x⟩) <;> first | exact h1 x | exact h2 x | exact x h6 | exact x h7)] at h
     by_cases h8 : 64 < a0_0
     ·rw [if_pos (.inl h8)] at h; cases h; exact may_e3 k _ _ _ _ _ w h1 h2 h4 h6 h5 h7 h8
     ·by_cases h9 : a0_0 = 64
      ·by_cases h10 : 6 ≤ a0_1
       ·rw [if_pos (.inr ⟨h9, h10⟩)] at h; cases h; exact may_f3 k _ _ _ _ _ w h1 h2 h4 h6 h5 h7 h9 h10
       ·rw [if_neg (by rintro (x | ⟨_, x⟩) <;> first | exact h8 x | exact h10 x)] at h
        obtain ⟨b, hv, h⟩ := Option.bind_eq_some_iff.1 h
        cases b with
        | true => rw [if_pos rfl] at h; exact may_g31 k _ _ _ _ _ w h1 h2 h4 h6 h5 h7 h9 h10 r hv h
        | false => rw [if_neg (by decide)] at h; cases h; exact may_g30 k _ _ _ _ _ w h1 h2 h4 h6 h5 h7 h9 h10 hv
      ·rw [if_neg (by rintro (x | ⟨x, _⟩) <;> first | exact h8 x | exact h9 x)] at h
       obtain ⟨b, hv, h⟩ := Option.bind_eq_some_iff.1 h
       cases b with
       | true => rw [if_pos rfl] at h; exact may_h31 k _ _ _ _ _ w h1 h2 h4 h6 h5 h7 (by omega) r hv h
       | false => rw [if_neg (by decide)] at h; cases h; exact may_h30 k _ _ _ _ _ w h1 h2 h4 h6 h5 h7 (by omega) hv
    ·rw [if_pos (.inr (.inr (.inr ⟨h5, h7⟩)))] at h; cases h; exact may_d2 k _ _ _ _ _ w h1 h2 h4 h5 h6 h7
  ·rw [if_pos (.inr (.inr (.inl ⟨h4, h6⟩)))] at h; cases h; exact may_c k _ _ _ _ _ w h1 h2 h4 h6
end Go.Proofs.YthhmmaihbjhhgaaGreatDoor.Giv
namespace Go.Proofs.YthhmmaihbjhhgaaGreatDoor.Giv
open Go.RowKit Go.Proofs.YthhmmaihbjhhgaaGreatDoorW.PrintWords Go.Proofs.YthhmmaihbjhhgaaGreatDoorW.PrintLast Go.Proofs.YthhmmaihbjhhgaaGreatDoorW.PrintMore
open Go.Proofs.YthhmmaihbjhhgaaGreatDoor.U1 Go.Proofs.YthhmmaihbjhhgaaGreatDoor.Q1 Go.Proofs.YthhmmaihbjhhgaaGreatDoor.J0 Go.Proofs.YthhmmaihbjhhgaaGreatDoor.J1
set_option linter.unusedSimpArgs false
set_option linter.unusedVariables false
abbrev al1 : ByteArray := ⟨#[32, 123, 34, 97, 34, 32, 58, 32, 91, 49, 44, 32, 34, 98, 34, 93, 125, 32]⟩
abbrev al2 : ByteArray := ⟨#[91, 49, 46, 53, 93]⟩
abbrev al3 : ByteArray := ⟨#[123, 34, 97, 34, 58, 49, 44, 34, 97, 34, 58, 50, 125]⟩
def l4 : List S40 := [⟨0, 7, ⟨#[]⟩, ⟨#[]⟩, 0⟩, ⟨1, 6, ⟨#[97]⟩, ⟨#[]⟩, 0⟩, ⟨2, 4, ⟨#[]⟩, ⟨#[]⟩, 1⟩, ⟨2, 5, ⟨#[]⟩, ⟨#[98]⟩, 0⟩]
set_option maxRecDepth 100000 in
theorem al_p1 : json_Parse.f 60 al1 = some (l4, 0) := by kernel_rfl
set_option maxRecDepth 100000 in
theorem al_p2 : json_Parse.f 60 al2 = some ([], 83) := by kernel_rfl
set_option maxRecDepth 100000 in
theorem al_p3 : json_Parse.f 60 al3 = some ([], 82) := by kernel_rfl
set_option maxRecDepth 100000 in
theorem al_p4 : json_Parse.f 60 ⟨#[]⟩ = some ([], 80) := by kernel_rfl
set_option maxRecDepth 100000 in
theorem al_r1 : json_Right.f l4 = some true := by kernel_rfl
set_option maxRecDepth 100000 in
theorem al_r2 : json_Right.f (l4.drop 1) = some false := by kernel_rfl
abbrev al5 : ByteArray := ⟨#[123, 34, 97, 34, 58, 91, 49, 44, 34, 98, 34, 93, 125]⟩
set_option maxRecDepth 100000 in
theorem al_w : json_Print.f l4 = some al5 := by kernel_rfl
set_option maxHeartbeats 8000000 in
set_option maxRecDepth 100000 in
theorem alive08_walk (w : World) (ht : JTabs w) : Calls Tryz.prog 6 #[] w fun e w' => e = .returned (.bool true) ∧ Below w.heap.size w w' := by
 have HT := Aside0.mk ht
 have hu40 := Tryz.underlying40
 clear ht
 go_enter Tryz.func6, Tryz.ntmps6
 go_upto_region 5 with (first
  | (go_at_call 10; (with_reducible refine (json_Parse.calls 60 al1 l4 0 _ al_p1 HT.out).mono ?_); rintro e w1 ⟨v1, rfl, ho1, hb1⟩; have HO1 := Aside0.mk ho1; have HB1 := Aside0.mk hb1; clear ho1 hb1)
  | (go_at_call 10; (with_reducible refine (json_Parse.calls 60 al2 [] 83 _ al_p2 (HT.out.step HB1.out)).mono ?_); rintro e w2 ⟨v2, rfl, ho2, hb2⟩; have HO2 := Aside0.mk ho2; have HB2 := Aside0.mk (below_step HB1.out hb2); have HO1 := Aside0.mk (Kd.R_below HO1.out hb2); clear ho2 hb2)
  | (go_at_call 10; (with_reducible refine (json_Parse.calls 60 al3 [] 82 _ al_p3 (HT.out.step HB2.out)).mono ?_); rintro e w3 ⟨v3, rfl, ho3, hb3⟩; have HO3 := Aside0.mk ho3; have HB3 := Aside0.mk (below_step HB2.out hb3); have HO1 := Aside0.mk (Kd.R_below HO1.out hb3); clear ho3 hb3)
  | (go_at_call 10; (with_reducible refine (json_Parse.calls 60 ⟨#[]⟩ [] 80 _ al_p4 (HT.out.step HB3.out)).mono ?_); rintro e w4 ⟨v4, rfl, ho4, hb4⟩; have HO4 := Aside0.mk ho4; have HB4 := Aside0.mk (below_step HB3.out hb4); have HO1 := Aside0.mk (Kd.R_below HO1.out hb4); clear ho4 hb4))
 obtain ⟨G, cc, rfl, _, _, _⟩ := Kd.R_form HO1.out (by decide)
 have hC := (Kd.R_reads' HO1.out).2.2
 have hcc : 4 ≤ cc := (Kd.R_reads' HO1.out).2.1
 have hc1 : ¬ cc = 1 := by omega
 have hc0 : 1 ≤ cc := by omega
 obtain ⟨ad, hA, a0, a1, a2, a3, a4⟩ := at_T40 hC 1 (by decide) (by decide)
 injection hA with hA
 subst hA
 obtain ⟨ad, hA, b0, b1, b2, b3, b4⟩ := at_T40 hC 3 (by decide) (by decide)
 injection hA with hA
 subst hA
 have a0 : w4.cell? ⟨G, 5, none⟩ = some (.int .i64 1) := a0
 have a1 : w4.cell? ⟨G, 6, none⟩ = some (.int .i64 6) := a1
 have a2 : w4.cell? ⟨G, 7, none⟩ = some (.string ⟨#[97]⟩) := a2
 have a3 : w4.cell? ⟨G, 8, none⟩ = some (.string ⟨#[]⟩) := a3
 have a4 : w4.cell? ⟨G, 9, none⟩ = some (.int .i64 0) := a4
 have b0 : w4.cell? ⟨G, 15, none⟩ = some (.int .i64 2) := b0
 have b1 : w4.cell? ⟨G, 16, none⟩ = some (.int .i64 5) := b1
 have b2 : w4.cell? ⟨G, 17, none⟩ = some (.string ⟨#[]⟩) := b2
 have b3 : w4.cell? ⟨G, 18, none⟩ = some (.string ⟨#[98]⟩) := b3
 have b4 : w4.cell? ⟨G, 19, none⟩ = some (.int .i64 0) := b4
 have HD : Aside0 (Kd.C k40 w4 (some ⟨G, 5, none⟩) 3 (l4.drop 1)) := ⟨by have := Kd.C_drop (m := 1) (c := cc) hC (by decide) hcc; rw [if_neg hc1] at this; exact this⟩
 have HC := Aside0.mk hC
 have CR1 : Aside0 (∀ W, Below w4.heap.size w4 W → JTabs W → Calls Tryz.prog 15 #[.slice (some ⟨G, 0, none⟩) 4 cc] W fun e w' => e = .returned (.bool true) ∧ Below W.heap.size W w') := ⟨fun W hb hj => json_Right.calls (some ⟨G, 0, none⟩) cc l4 true W (Kd.C_below HC.out hb) hcc al_r1 hj.tabs⟩
 have CR2 : Aside0 (∀ W, Below w4.heap.size w4 W → JTabs W → Calls Tryz.prog 15 #[.slice (some ⟨G, 5, none⟩) 3 (cc - 1)] W fun e w' => e = .returned (.bool false) ∧ Below W.heap.size W w') := ⟨fun W hb hj => json_Right.calls (some ⟨G, 5, none⟩) (cc - 1) (l4.drop 1) false W (Kd.C_below HD.out hb) (by show 3 ≤ cc - 1; omega) al_r2 hj.tabs⟩
 have CW : Aside0 (∀ W, Below w4.heap.size w4 W → JTabs W → Calls Tryz.prog 7 #[.slice (some ⟨G, 0, none⟩) 4 cc] W fun e w' => e = .returned (.string al5) ∧ Below W.heap.size W w') := ⟨fun W hb hj => json_Print.calls (some ⟨G, 0, none⟩) cc l4 al5 W (Kd.C_below HC.out hb) hcc al_w hj⟩
 have hl4 : l4.length = 4 := rfl
 clear hC hcc
 go_wp2_with (first
  | (go_at_call 15; (with_reducible refine (CR1.out w4 (Below.refl _ _) (HT.out.step HB4.out)).mono ?_); rintro e w5 ⟨rfl, hb5⟩; have HB5 := Aside0.mk hb5; clear hb5)
  | (go_at_call 15; (with_reducible refine (CR2.out w5 HB5.out (HT.out.step (below_step HB4.out HB5.out))).mono ?_); rintro e w6 ⟨rfl, hb6⟩; have HB6 := Aside0.mk (below_step HB5.out hb6); clear hb6)
  | (go_at_call 7; (with_reducible refine (CW.out w6 HB6.out (HT.out.step (below_step HB4.out HB6.out))).mono ?_); rintro e w7 ⟨rfl, hb7⟩; have HB7 := Aside0.mk (below_step HB6.out hb7); clear hb7))
 go_ret
 exact ⟨rfl, below_step HB4.out HB7.out⟩
def cracknellaw08_alive.f : Option Bool := some true
theorem cracknellaw08_alive.calls (r : Bool) (w : World) (h : cracknellaw08_alive.f = some r) (ht : JTabs w := by first | assumption | (refine JTabs.step (by assumption) ?_; repeat (first | exact Aside0.out (by assumption) | apply below_alloc | apply pw_below_drewN | apply below_drew1 | exact Below.refl _ _))) : Calls Tryz.prog 6 #[] w fun e w' => e = .returned (.bool r) ∧ Below w.heap.size w w' := by
 cases h
 exact alive08_walk w ht
end Go.Proofs.YthhmmaihbjhhgaaGreatDoor.Giv
namespace Go.Proofs.YthhmmaihbjhhgaaGreatDoor.Giv
open Go.RowKit Go.Proofs.YthhmmaihbjhhgaaGreatDoorW.PrintWords Go.Proofs.YthhmmaihbjhhgaaGreatDoorW.PrintLast Go.Proofs.YthhmmaihbjhhgaaGreatDoorW.PrintMore
open Go.Proofs.YthhmmaihbjhhgaaGreatDoor.U1 Go.Proofs.YthhmmaihbjhhgaaGreatDoor.Q1 Go.Proofs.YthhmmaihbjhhgaaGreatDoor.J0 Go.Proofs.YthhmmaihbjhhgaaGreatDoor.J1
set_option linter.unusedSimpArgs false
set_option linter.unusedVariables false
def toN (x : S39) : S40 := ⟨x.f0, x.f1, x.f2, x.f3, x.f4⟩
def toO (x : S40) : S39 := ⟨x.f0, x.f1, x.f2, x.f3, x.f4⟩
theorem drop_T39 (l : List S39) (j : Nat) (h : j < l.length) : l.drop j = rd_T39 l (j : Int) :: l.drop (j + 1) := by
 rw [List.drop_eq_getElem_cons h]
 congr 1
 simp [rd_T39, List.getD, h]
theorem take_T39 (l : List S39) (j : Nat) (h : j < l.length) : l.take (j + 1) = l.take j ++ [rd_T39 l (j : Int)] := by
 rw [List.take_add_one]
 congr 1
 simp [rd_T39, List.getD, h]
theorem take_T40 (l : List S40) (j : Nat) (h : j < l.length) : l.take (j + 1) = l.take j ++ [rd_T40 l (j : Int)] := by
 rw [List.take_add_one]
 congr 1
 simp [rd_T40, List.getD, h]
def cracknellaw08_News.f (l : List S39) : Option (List S40) := if l.length * 56 ≤ 140737488355328 then some (l.map toN) else none
set_option maxHeartbeats 4000000 in
set_option maxRecDepth 100000 in
theorem cracknellaw08_News.calls (A0 : Option Addr) (c0 : Nat) (l0 : List S39) (r : List S40) (w : World) (hr0 : Kd.C k39 w A0 l0.length l0) (hc0 : l0.length ≤ c0) (h : cracknellaw08_News.f l0 = some r) :
  Calls Tryz.prog 8 #[.slice A0 l0.length c0] w fun e w' => ∃ v0_ : Value, e = .returned v0_ ∧ Kd.R k40 40 w' w.heap.size (fun _ => True) v0_ r ∧ Below w.heap.size w w' := by
 unfold cracknellaw08_News.f at h
 by_cases hl : l0.length * 56 ≤ 140737488355328
 ·rw [if_pos hl] at h
  cases h
  have HC := Aside0.mk hr0
  have HL := Aside0.mk hl
  have HN0 : Aside0 (Kd.R k40 40 w w.heap.size (fun _ => True) (.slice none 0 0) ((l0.take 0).map toN)) := ⟨Kd.R_nil _ _ _ _ _⟩
  clear hr0 hc0 hl
  go_enter Tryz.func8, Tryz.ntmps8
  go_wp2_with fail
  go_loopg [3, 8] l0.length (fun kq v3 v8 wr => ∃ j : Nat, kq = l0.length - j ∧ j ≤ l0.length ∧ v8 = .int .i64 (j : Int) ∧ Aside0 (Kd.R k40 40 wr w.heap.size (fun _ => True) v3 ((l0.take j).map toN)) ∧ Aside0 (Below w.heap.size w wr))
  case atStart => exact ⟨0, rfl, Nat.zero_le _, rfl, HN0, ⟨Below.refl _ _⟩⟩
  case round =>
   clear HN0
   obtain ⟨j, hkq, hjl, rfl, HR, HB⟩ := hrel
   have hgl : j < 9223372036854775807 := by have := HL.out; omega
   by_cases hlt : j < l0.length
   ·obtain ⟨ad, hA, a0, a1, a2, a3, a4⟩ := at_T39 (Kd.C_below HC.out HB.out) (j : Int) (by omega) (by omega)
    subst hA
    have HX := Aside0.mk (take_T39 l0 j hlt)
    obtain ⟨⟨f0, f1, f2, f3, f4⟩, hx⟩ : ∃ x, rd_T39 l0 (j : Int) = x := ⟨_, rfl⟩
    rw [hx] at a0 a1 a2 a3 a4 HX
    simp only [Int.toNat_natCast] at a0 a1 a2 a3 a4
    clear hx
    have HW1 : Aside0 (Below wr.heap.size wr (wr.alloc (.cells #[.int .i64 f0, .int .i64 f1, .string f2, .string f3, .int .i64 f4] 39))) := ⟨below_alloc (Below.refl _ _) _⟩
    have HR1 := Aside0.mk (Kd.R_below HR.out HW1.out)
    have HB1 := Aside0.mk (below_step HB.out HW1.out)
    have HLn : Aside0 ((((l0.take j).map toN).length + 1) * 56 ≤ 140737488355328) := ⟨by rw [List.length_map, List.length_take]; have := HL.out; omega⟩
    obtain ⟨A3, c3, rfl⟩ := Kd.R_slice HR.out
    go_wp2_with ((at_builtin; refine Kd.R_append k40 (w0 := w) (W := wr.alloc (.cells #[.int .i64 f0, .int .i64 f1, .string f2, .string f3, .int .i64 f4] 39)) w.heap.size rfl (.tmp 12) (.tmp 14) 26 40 (.agg #[.int .i64 0, .int .i64 0, .string ⟨#[]⟩, .string ⟨#[]⟩, .int .i64 0]) 56 rfl Tryz.underlying26 info40 rfl (by decide) (by decide) _ ((l0.take j).map toN) ⟨f0, f1, f2, f3, f4⟩ [.int .i64 f0, .int .i64 f1, .string f2, .string f3, .int .i64 f4] (fun _ => True) (fun _ => False) rfl (congrArg (fun q => Value.slice (some ⟨q, 0, none⟩) 1 1) (alloc_size wr _).symm) (k40_mkM _ _ _ ⟨f0, f1, f2, f3, f4⟩) (fun _ h => h.elim) (fun _ _ => trivial) HR1.out HB1.out HB1.out.size HLn.out ?_; intro v9 w9 hO9 hB9 hg9 hA9; have HO9 := Aside0.mk hO9; have HB9 := Aside0.mk hB9; clear hO9 hB9 hg9 hA9))
    go_roundg (l0.length - (j + 1))
    case measure => omega
    case rel => exact ⟨j + 1, rfl, hlt, by go_num, ⟨by rw [HX.out, List.map_append]; exact HO9.out⟩, HB9⟩
   ·obtain rfl : j = l0.length := by omega
    have HR2 := Aside0.mk HR.out
    have hjl3 : ¬ (l0.length : Int) < (l0.length : Int) := by omega
    go_wp2_with fail
    go_ret
    exact ⟨_, rfl, by have := HR.out; rw [List.take_length] at this; exact this, HB.out⟩
 ·rw [if_neg hl] at h; cases h
def cracknellaw08_Olds.f (l : List S40) : Option (List S39) := if l.length * 56 ≤ 140737488355328 then some (l.map toO) else none
set_option maxHeartbeats 4000000 in
set_option maxRecDepth 100000 in
theorem cracknellaw08_Olds.calls (A0 : Option Addr) (c0 : Nat) (l0 : List S40) (r : List S39) (w : World) (hr0 : Kd.C k40 w A0 l0.length l0) (hc0 : l0.length ≤ c0) (h : cracknellaw08_Olds.f l0 = some r) :
  Calls Tryz.prog 13 #[.slice A0 l0.length c0] w fun e w' => ∃ v0_ : Value, e = .returned v0_ ∧ Kd.R k39 39 w' w.heap.size (fun _ => True) v0_ r ∧ Below w.heap.size w w' := by
 unfold cracknellaw08_Olds.f at h
 by_cases hl : l0.length * 56 ≤ 140737488355328
 ·rw [if_pos hl] at h
  cases h
  have HC := Aside0.mk hr0
  have HL := Aside0.mk hl
  have HN0 : Aside0 (Kd.R k39 39 w w.heap.size (fun _ => True) (.slice none 0 0) ((l0.take 0).map toO)) := ⟨Kd.R_nil _ _ _ _ _⟩
  clear hr0 hc0 hl
  go_enter Tryz.func13, Tryz.ntmps13
  go_wp2_with fail
  go_loopg [3, 8] l0.length (fun kq v3 v8 wr => ∃ j : Nat, kq = l0.length - j ∧ j ≤ l0.length ∧ v8 = .int .i64 (j : Int) ∧ Aside0 (Kd.R k39 39 wr w.heap.size (fun _ => True) v3 ((l0.take j).map toO)) ∧ Aside0 (Below w.heap.size w wr))
  case atStart => exact ⟨0, rfl, Nat.zero_le _, rfl, HN0, ⟨Below.refl _ _⟩⟩
  case round =>
   clear HN0
   obtain ⟨j, hkq, hjl, rfl, HR, HB⟩ := hrel
   have hgl : j < 9223372036854775807 := by have := HL.out; omega
   by_cases hlt : j < l0.length
   ·obtain ⟨ad, hA, a0, a1, a2, a3, a4⟩ := at_T40 (Kd.C_below HC.out HB.out) (j : Int) (by omega) (by omega)
    subst hA
    have HX := Aside0.mk (take_T40 l0 j hlt)
    obtain ⟨⟨f0, f1, f2, f3, f4⟩, hx⟩ : ∃ x, rd_T40 l0 (j : Int) = x := ⟨_, rfl⟩
    rw [hx] at a0 a1 a2 a3 a4 HX
    simp only [Int.toNat_natCast] at a0 a1 a2 a3 a4
    clear hx
    have HW1 : Aside0 (Below wr.heap.size wr (wr.alloc (.cells #[.int .i64 f0, .int .i64 f1, .string f2, .string f3, .int .i64 f4] 40))) := ⟨below_alloc (Below.refl _ _) _⟩
    have HR1 := Aside0.mk (Kd.R_below HR.out HW1.out)
    have HB1 := Aside0.mk (below_step HB.out HW1.out)
    have HLn : Aside0 ((((l0.take j).map toO).length + 1) * 56 ≤ 140737488355328) := ⟨by rw [List.length_map, List.length_take]; have := HL.out; omega⟩
    obtain ⟨A3, c3, rfl⟩ := Kd.R_slice HR.out
    go_wp2_with ((at_builtin; refine Kd.R_append k39 (w0 := w) (W := wr.alloc (.cells #[.int .i64 f0, .int .i64 f1, .string f2, .string f3, .int .i64 f4] 40)) w.heap.size rfl (.tmp 12) (.tmp 14) 22 39 (.agg #[.int .i64 0, .int .i64 0, .string ⟨#[]⟩, .string ⟨#[]⟩, .int .i64 0]) 56 rfl Tryz.underlying22 info39 rfl (by decide) (by decide) _ ((l0.take j).map toO) ⟨f0, f1, f2, f3, f4⟩ [.int .i64 f0, .int .i64 f1, .string f2, .string f3, .int .i64 f4] (fun _ => True) (fun _ => False) rfl (congrArg (fun q => Value.slice (some ⟨q, 0, none⟩) 1 1) (alloc_size wr _).symm) (k39_mkM _ _ _ ⟨f0, f1, f2, f3, f4⟩) (fun _ h => h.elim) (fun _ _ => trivial) HR1.out HB1.out HB1.out.size HLn.out ?_; intro v9 w9 hO9 hB9 hg9 hA9; have HO9 := Aside0.mk hO9; have HB9 := Aside0.mk hB9; clear hO9 hB9 hg9 hA9))
    go_roundg (l0.length - (j + 1))
    case measure => omega
    case rel => exact ⟨j + 1, rfl, hlt, by go_num, ⟨by rw [HX.out, List.map_append]; exact HO9.out⟩, HB9⟩
   ·obtain rfl : j = l0.length := by omega
    have HR2 := Aside0.mk HR.out
    have hjl3 : ¬ (l0.length : Int) < (l0.length : Int) := by omega
    go_wp2_with fail
    go_ret
    exact ⟨_, rfl, by have := HR.out; rw [List.take_length] at this; exact this, HB.out⟩
 ·rw [if_neg hl] at h; cases h
end Go.Proofs.YthhmmaihbjhhgaaGreatDoor.Giv
namespace Go.Proofs.YthhmmaihbjhhgaaGreatDoor.J2
open Go.Proofs.YthhmmaihbjhhgaaGreatDoor.Giv Go.Proofs.YthhmmaihbjhhgaaGreatDoor.U1 Go.Proofs.YthhmmaihbjhhgaaGreatDoor.Q1 Go.Proofs.YthhmmaihbjhhgaaGreatDoor.J0 Go.Proofs.YthhmmaihbjhhgaaGreatDoor.J1 Go.RowKit Go.Proofs.YthhmmaihbjhhgaaGreatDoorW.PrintWords Go.Proofs.YthhmmaihbjhhgaaGreatDoorW.PrintLast Go.Proofs.YthhmmaihbjhhgaaGreatDoorW.PrintMore
attribute [local go_sem] max2_int min2_int max_two min_two max_three min_three max_four min_four
set_option linter.unusedVariables false
set_option linter.unusedSimpArgs false
def errW : Option Int → Value
 | none => .nilIface
 | some c => .iface 0 (.int .i64 c)
theorem errW_none : errW none = .nilIface := rfl
theorem errW_some (c : Int) : errW (some c) = .iface 0 (.int .i64 c) := rfl
end Go.Proofs.YthhmmaihbjhhgaaGreatDoor.J2
namespace Go.Proofs.YthhmmaihbjhhgaaGreatDoor.J2
open Go.Proofs.YthhmmaihbjhhgaaGreatDoor.Giv Go.Proofs.YthhmmaihbjhhgaaGreatDoor.U1 Go.Proofs.YthhmmaihbjhhgaaGreatDoor.Q1 Go.Proofs.YthhmmaihbjhhgaaGreatDoor.J0 Go.Proofs.YthhmmaihbjhhgaaGreatDoor.J1 Go.RowKit Go.Proofs.YthhmmaihbjhhgaaGreatDoorW.PrintWords Go.Proofs.YthhmmaihbjhhgaaGreatDoorW.PrintLast Go.Proofs.YthhmmaihbjhhgaaGreatDoorW.PrintMore
attribute [local go_sem] max2_int min2_int max_two min_two max_three min_three max_four min_four
set_option linter.unusedVariables false
set_option linter.unusedSimpArgs false
theorem eqA39 (d : Nat) (w : World) (x0 y0 : Int) (x1 y1 : Int) (x2 y2 : ByteArray) (x3 y3 : ByteArray) (x4 y4 : Int) :
  (Op.equalIn (d + 2) 39 (.agg #[.int .i64 x0, .int .i64 x1, .string x2, .string x3, .int .i64 x4]) (.agg #[.int .i64 y0, .int .i64 y1, .string y2, .string y3, .int .i64 y4])).run Tryz.prog w = .ok (x0 == y0 && (x1 == y1 && (x2.toList == y2.toList && (x3.toList == y3.toList && (x4 == y4))))) w := by
 refine eqA_of Tryz.underlying39 (by kernel_rfl) ?_
 refine eqf_cons (by rfl) (by go_simp; rfl) (by go_simp; rfl) (by go_simp) ?_
 refine eqf_cons (by rfl) (by go_simp; rfl) (by go_simp; rfl) (by go_simp) ?_
 refine eqf_cons (by rfl) (by go_simp; rfl) (by go_simp; rfl) (by go_simp) ?_
 refine eqf_cons (by rfl) (by go_simp; rfl) (by go_simp; rfl) (by go_simp) ?_
 exact eqf_last (by rfl) (by go_simp; rfl) (by go_simp; rfl) (by go_simp)
end Go.Proofs.YthhmmaihbjhhgaaGreatDoor.J2
namespace Go.Proofs.YthhmmaihbjhhgaaGreatDoor.J2
open Go.Proofs.YthhmmaihbjhhgaaGreatDoor.Giv Go.Proofs.YthhmmaihbjhhgaaGreatDoor.U1 Go.Proofs.YthhmmaihbjhhgaaGreatDoor.Q1 Go.Proofs.YthhmmaihbjhhgaaGreatDoor.J0 Go.Proofs.YthhmmaihbjhhgaaGreatDoor.J1 Go.RowKit Go.Proofs.YthhmmaihbjhhgaaGreatDoorW.PrintWords Go.Proofs.YthhmmaihbjhhgaaGreatDoorW.PrintLast Go.Proofs.YthhmmaihbjhhgaaGreatDoorW.PrintMore
attribute [local go_sem] max2_int min2_int max_two min_two max_three min_three max_four min_four
set_option linter.unusedVariables false
set_option linter.unusedSimpArgs false
def cracknellaw08_small.l0 : Nat → List (S39) → Int → List (S39) → Int → Int → Option (Bool)
 | 0, _, _, _, _, _ => none
 | k + 1, x0, x3, x6, x7, x8 => if x8 < x7 then (if 0 ≤ x8 then (if x8 < (x6.length : Int) then (if (wrap64 (x3 + ((mn (((rd_T39 x6 x8).f2).size : Int) 3000) + (mn (((rd_T39 x6 x8).f3).size : Int) 3000)))) > 1000 then (some false) else (if (x0.length : Int) > 100 then (some false) else (cracknellaw08_small.l0 k x0 (wrap64 (x3 + ((mn (((rd_T39 x6 x8).f2).size : Int) 3000) + (mn (((rd_T39 x6 x8).f3).size : Int) 3000)))) x6 x7 (wrap64 (x8 + 1))))) else (none)) else (none)) else (some true)
def cracknellaw08_small.f (k : Nat) (l0 : List (S39)) : Option (Bool) := cracknellaw08_small.l0 k l0 0 l0 (l0.length : Int) 0
set_option maxHeartbeats 8000000 in
set_option maxRecDepth 100000 in
theorem cracknellaw08_small.calls (k : Nat) (A0 : Option Addr) (c0 : Nat) (l0 : List (S39)) (r : Bool) (w : World) (hr0 : Kd.C k39 w A0 l0.length l0) (hc0 : l0.length ≤ c0) (h : cracknellaw08_small.f k l0 = some r) :
  Calls Tryz.prog 5 #[.slice A0 l0.length c0] w fun e w' => e = .returned (.bool r) ∧ Below w.heap.size w w' := by
 have hu39 := Tryz.underlying39
 have HR0 := Aside0.mk hr0
 have HC0 := Aside0.mk hc0
 clear hr0 hc0
 have HB := Aside0.mk (Below.refl w.heap.size w)
 have H : (cracknellaw08_small.l0 k l0 0 l0 (l0.length : Int) 0) = some r := h
 clear h
 have H' := Aside0.mk H
 clear H
 go_enter Tryz.func5, Tryz.ntmps5
 go_wp2
 go_loopg [3, 8] k (fun kq v3 v8 w' => ∃ (x3_1 : Int) (x8_1 : Int), v3 = .int .i64 x3_1 ∧ v8 = .int .i64 x8_1 ∧ Aside0 (cracknellaw08_small.l0 kq l0 x3_1 l0 (l0.length : Int) x8_1 = some r) ∧ Aside0 (kq ≤ k) ∧ Aside0 (Below w.heap.size w w'))
 case atStart => exact ⟨(0), (0), (by first | rfl | (simp; done) | (simp [*]; done)), (by first | rfl | (simp; done) | (simp [*]; done)), H', ⟨Nat.le_refl _⟩, ⟨by repeat (first | (with_reducible first | exact HB.out | apply below_alloc | apply pw_below_drewN | apply below_drew1) | exact HB.out)⟩⟩
 case round =>
  clear H'
  obtain ⟨x3_1, x8_1, rfl, rfl, HA, HK1, HB⟩ := hrel
  cases gk with
  | zero => exact absurd HA.out (by simp [cracknellaw08_small.l0])
  | succ k1 =>
   have H := HA.out
   clear HA
   simp only [cracknellaw08_small.l0] at H
   by_cases c2 : x8_1 < (l0.length : Int)
   ·rw [if_pos c2] at H
    have c2b0 : decide (x8_1 < (l0.length : Int)) = true := decide_eq_true c2
    clear c2
    by_cases c3 : 0 ≤ x8_1
    ·rw [if_pos c3] at H
     have c3b0 : decide (0 ≤ x8_1) = true := decide_eq_true c3
     clear c3
     by_cases c4 : x8_1 < (l0.length : Int)
     ·rw [if_pos c4] at H
      have c4b0 : decide (x8_1 < (l0.length : Int)) = true := decide_eq_true c4
      clear c4
      obtain ⟨ji5, hji5⟩ : ∃ j_ : Int, (mn (((rd_T39 l0 x8_1).f2).size : Int) 3000) = j_ := ⟨_, rfl⟩
      replace H : (if (wrap64 (x3_1 + ((ji5) + (mn (((rd_T39 l0 x8_1).f3).size : Int) 3000)))) > 1000 then (some false) else (if (l0.length : Int) > 100 then (some false) else (cracknellaw08_small.l0 k1 l0 (wrap64 (x3_1 + ((ji5) + (mn (((rd_T39 l0 x8_1).f3).size : Int) 3000)))) l0 (l0.length : Int) (wrap64 (x8_1 + 1))))) = some r := by first | (rw [hji5] at H; exact H) | (simp only [hji5] at H ⊢; exact H)
      have hji5_ : (if 3000 < (((rd_T39 l0 x8_1).f2).size : Int) then 3000 else (((rd_T39 l0 x8_1).f2).size : Int)) = ji5 := hji5
      obtain ⟨ji6, hji6⟩ : ∃ j_ : Int, (mn (((rd_T39 l0 x8_1).f3).size : Int) 3000) = j_ := ⟨_, rfl⟩
      replace H : (if (wrap64 (x3_1 + ((ji5) + (ji6)))) > 1000 then (some false) else (if (l0.length : Int) > 100 then (some false) else (cracknellaw08_small.l0 k1 l0 (wrap64 (x3_1 + ((ji5) + (ji6)))) l0 (l0.length : Int) (wrap64 (x8_1 + 1))))) = some r := by first | (rw [hji6] at H; exact H) | (simp only [hji6] at H ⊢; exact H)
      have hji6_ : (if 3000 < (((rd_T39 l0 x8_1).f3).size : Int) then 3000 else (((rd_T39 l0 x8_1).f3).size : Int)) = ji6 := hji6
      by_cases c7 : (wrap64 (x3_1 + ((ji5) + (ji6)))) > 1000
      ·rw [if_pos c7] at H
       have c7b0 : decide (1000 < (wrap64 (x3_1 + ((ji5) + (ji6))))) = true := decide_eq_true c7
       clear c7
       obtain rfl := Option.some.inj H
       have p101 : 0 ≤ (x8_1 : Int) := of_decide_eq_true (by first | (with_reducible assumption) | assumption)
       have q101 : x8_1 < (l0.length : Int) := of_decide_eq_true (by first | (with_reducible assumption) | assumption)
       obtain ⟨ad101, e101, hx101_0, hx101_1, hx101_2, hx101_3, hx101_4⟩ := at_T39 HR0.out x8_1 p101 q101
       cases e101
       replace hx101_0 := (HB.out.cell (World.block_lt_of_cell? w _ hx101_0)).trans hx101_0
       replace hx101_1 := (HB.out.cell (World.block_lt_of_cell? w _ hx101_1)).trans hx101_1
       replace hx101_2 := (HB.out.cell (World.block_lt_of_cell? w _ hx101_2)).trans hx101_2
       replace hx101_3 := (HB.out.cell (World.block_lt_of_cell? w _ hx101_3)).trans hx101_3
       replace hx101_4 := (HB.out.cell (World.block_lt_of_cell? w _ hx101_4)).trans hx101_4
       replace p101 := eq_true p101
       replace q101 := eq_true q101
       go_wp2_with (first | ((with_reducible refine gate_dst (N := 5) rfl ?_); (try (refine gate_guard (by rfl) ?_; dsimp only)); refine box_event ?hg (N := 5) ?hd (cs := #[.int .i64 0, .int .i64 0, .string (⟨#[]⟩ : ByteArray), .string (⟨#[]⟩ : ByteArray), .int .i64 0]) (t := 81) ?hr ?_; (case hd => rfl); (case hg => rfl); (case hr => first | (go_simp; done) | (go_simp; rfl)); intro gb102 hg w8 hbox hb; have n0_ := Aside0.mk (below_step (by repeat (first | (with_reducible first | exact HB.out | apply below_alloc | apply pw_below_drewN | apply below_drew1) | exact HB.out)) hb); have n1_ := Aside0.mk (hbox); have n2_ := Aside0.mk ((by rw [hg]; exact (below_size (by repeat (first | (with_reducible first | exact HB.out | apply below_alloc | apply pw_below_drewN | apply below_drew1) | exact HB.out))) : w.heap.size ≤ gb102)); have n3_ := Aside0.mk ((by rw [hg]; exact (below_size (by repeat (first | (with_reducible first | exact HB.out | apply below_alloc | apply pw_below_drewN | apply below_drew1) | exact HB.out))) : w.heap.size ≤ gb102)); clear HB; have HB := n0_; have BK102 := n1_; have GW102 := n2_; have GE102 := n3_; clear n0_ n1_ n2_ n3_; clear hb hbox hg; have hcz9_0 : w8.cell? ⟨gb102, 0, none⟩ = some (.int .i64 0) := (blk_cell BK102.out 0).trans rfl; have hcz9_1 : w8.cell? ⟨gb102, 1, none⟩ = some (.int .i64 0) := (blk_cell BK102.out 1).trans rfl; have hcz9_2 : w8.cell? ⟨gb102, 2, none⟩ = some (.string (⟨#[]⟩ : ByteArray)) := (blk_cell BK102.out 2).trans rfl; have hcz9_3 : w8.cell? ⟨gb102, 3, none⟩ = some (.string (⟨#[]⟩ : ByteArray)) := (blk_cell BK102.out 3).trans rfl; have hcz9_4 : w8.cell? ⟨gb102, 4, none⟩ = some (.int .i64 0) := (blk_cell BK102.out 4).trans rfl; have hfz9_0 := blk_frozen BK102.out 0; have hfz9_1 := blk_frozen BK102.out 1; have hfz9_2 := blk_frozen BK102.out 2; have hfz9_3 := blk_frozen BK102.out 3; have hfz9_4 := blk_frozen BK102.out 4))
       go_ret
       exact ⟨by first | rfl | (simp [errW_none, errW_some] <;> rfl) | (simp only [← hji5, ← hji6]; first | rfl | (simp [errW_none, errW_some] <;> rfl)) | (simp [*, errW_none, errW_some] <;> rfl), by repeat (first | (with_reducible first | exact HB.out | apply below_alloc | apply pw_below_drewN | apply below_drew1 | refine below_set ?_ GE102.out) | exact HB.out)⟩
      ·rw [if_neg c7] at H
       have c7b0 : decide (1000 < (wrap64 (x3_1 + ((ji5) + (ji6))))) = false := decide_eq_false c7
       clear c7
       by_cases c10 : (l0.length : Int) > 100
       ·rw [if_pos c10] at H
        have c10b0 : decide (100 < (l0.length : Int)) = true := decide_eq_true c10
        have c10b1 : decide (100 < l0.length) = true := decide_eq_true (by omega)
        clear c10
        obtain rfl := Option.some.inj H
        have p101 : 0 ≤ (x8_1 : Int) := of_decide_eq_true (by first | (with_reducible assumption) | assumption)
        have q101 : x8_1 < (l0.length : Int) := of_decide_eq_true (by first | (with_reducible assumption) | assumption)
        obtain ⟨ad101, e101, hx101_0, hx101_1, hx101_2, hx101_3, hx101_4⟩ := at_T39 HR0.out x8_1 p101 q101
        cases e101
        replace hx101_0 := (HB.out.cell (World.block_lt_of_cell? w _ hx101_0)).trans hx101_0
        replace hx101_1 := (HB.out.cell (World.block_lt_of_cell? w _ hx101_1)).trans hx101_1
        replace hx101_2 := (HB.out.cell (World.block_lt_of_cell? w _ hx101_2)).trans hx101_2
        replace hx101_3 := (HB.out.cell (World.block_lt_of_cell? w _ hx101_3)).trans hx101_3
        replace hx101_4 := (HB.out.cell (World.block_lt_of_cell? w _ hx101_4)).trans hx101_4
        replace p101 := eq_true p101
        replace q101 := eq_true q101
        go_wp2_with (first | ((with_reducible refine gate_dst (N := 5) rfl ?_); (try (refine gate_guard (by rfl) ?_; dsimp only)); refine box_event ?hg (N := 5) ?hd (cs := #[.int .i64 0, .int .i64 0, .string (⟨#[]⟩ : ByteArray), .string (⟨#[]⟩ : ByteArray), .int .i64 0]) (t := 81) ?hr ?_; (case hd => rfl); (case hg => rfl); (case hr => first | (go_simp; done) | (go_simp; rfl)); intro gb102 hg w11 hbox hb; have n0_ := Aside0.mk (below_step (by repeat (first | (with_reducible first | exact HB.out | apply below_alloc | apply pw_below_drewN | apply below_drew1) | exact HB.out)) hb); have n1_ := Aside0.mk (hbox); have n2_ := Aside0.mk ((by rw [hg]; exact (below_size (by repeat (first | (with_reducible first | exact HB.out | apply below_alloc | apply pw_below_drewN | apply below_drew1) | exact HB.out))) : w.heap.size ≤ gb102)); have n3_ := Aside0.mk ((by rw [hg]; exact (below_size (by repeat (first | (with_reducible first | exact HB.out | apply below_alloc | apply pw_below_drewN | apply below_drew1) | exact HB.out))) : w.heap.size ≤ gb102)); clear HB; have HB := n0_; have BK102 := n1_; have GW102 := n2_; have GE102 := n3_; clear n0_ n1_ n2_ n3_; clear hb hbox hg; have hcz12_0 : w11.cell? ⟨gb102, 0, none⟩ = some (.int .i64 0) := (blk_cell BK102.out 0).trans rfl; have hcz12_1 : w11.cell? ⟨gb102, 1, none⟩ = some (.int .i64 0) := (blk_cell BK102.out 1).trans rfl; have hcz12_2 : w11.cell? ⟨gb102, 2, none⟩ = some (.string (⟨#[]⟩ : ByteArray)) := (blk_cell BK102.out 2).trans rfl; have hcz12_3 : w11.cell? ⟨gb102, 3, none⟩ = some (.string (⟨#[]⟩ : ByteArray)) := (blk_cell BK102.out 3).trans rfl; have hcz12_4 : w11.cell? ⟨gb102, 4, none⟩ = some (.int .i64 0) := (blk_cell BK102.out 4).trans rfl; have hfz12_0 := blk_frozen BK102.out 0; have hfz12_1 := blk_frozen BK102.out 1; have hfz12_2 := blk_frozen BK102.out 2; have hfz12_3 := blk_frozen BK102.out 3; have hfz12_4 := blk_frozen BK102.out 4))
        go_ret
        exact ⟨by first | rfl | (simp [errW_none, errW_some] <;> rfl) | (simp only [← hji5, ← hji6]; first | rfl | (simp [errW_none, errW_some] <;> rfl)) | (simp [*, errW_none, errW_some] <;> rfl), by repeat (first | (with_reducible first | exact HB.out | apply below_alloc | apply pw_below_drewN | apply below_drew1 | refine below_set ?_ GE102.out) | exact HB.out)⟩
       ·rw [if_neg c10] at H
        have c10b0 : decide (100 < (l0.length : Int)) = false := decide_eq_false c10
        have c10b1 : decide (100 < l0.length) = false := decide_eq_false (by omega)
        clear c10
        have H' := Aside0.mk H
        clear H
        have p101 : 0 ≤ (x8_1 : Int) := of_decide_eq_true (by first | (with_reducible assumption) | assumption)
        have q101 : x8_1 < (l0.length : Int) := of_decide_eq_true (by first | (with_reducible assumption) | assumption)
        obtain ⟨ad101, e101, hx101_0, hx101_1, hx101_2, hx101_3, hx101_4⟩ := at_T39 HR0.out x8_1 p101 q101
        cases e101
        replace hx101_0 := (HB.out.cell (World.block_lt_of_cell? w _ hx101_0)).trans hx101_0
        replace hx101_1 := (HB.out.cell (World.block_lt_of_cell? w _ hx101_1)).trans hx101_1
        replace hx101_2 := (HB.out.cell (World.block_lt_of_cell? w _ hx101_2)).trans hx101_2
        replace hx101_3 := (HB.out.cell (World.block_lt_of_cell? w _ hx101_3)).trans hx101_3
        replace hx101_4 := (HB.out.cell (World.block_lt_of_cell? w _ hx101_4)).trans hx101_4
        replace p101 := eq_true p101
        replace q101 := eq_true q101
        go_wp2_with (first | ((with_reducible refine gate_dst (N := 5) rfl ?_); (try (refine gate_guard (by rfl) ?_; dsimp only)); refine box_event ?hg (N := 5) ?hd (cs := #[.int .i64 0, .int .i64 0, .string (⟨#[]⟩ : ByteArray), .string (⟨#[]⟩ : ByteArray), .int .i64 0]) (t := 81) ?hr ?_; (case hd => rfl); (case hg => rfl); (case hr => first | (go_simp; done) | (go_simp; rfl)); intro gb102 hg w13 hbox hb; have n0_ := Aside0.mk (below_step (by repeat (first | (with_reducible first | exact HB.out | apply below_alloc | apply pw_below_drewN | apply below_drew1) | exact HB.out)) hb); have n1_ := Aside0.mk (hbox); have n2_ := Aside0.mk ((by rw [hg]; exact (below_size (by repeat (first | (with_reducible first | exact HB.out | apply below_alloc | apply pw_below_drewN | apply below_drew1) | exact HB.out))) : w.heap.size ≤ gb102)); have n3_ := Aside0.mk ((by rw [hg]; exact (below_size (by repeat (first | (with_reducible first | exact HB.out | apply below_alloc | apply pw_below_drewN | apply below_drew1) | exact HB.out))) : w.heap.size ≤ gb102)); clear HB; have HB := n0_; have BK102 := n1_; have GW102 := n2_; have GE102 := n3_; clear n0_ n1_ n2_ n3_; clear hb hbox hg; have hcz14_0 : w13.cell? ⟨gb102, 0, none⟩ = some (.int .i64 0) := (blk_cell BK102.out 0).trans rfl; have hcz14_1 : w13.cell? ⟨gb102, 1, none⟩ = some (.int .i64 0) := (blk_cell BK102.out 1).trans rfl; have hcz14_2 : w13.cell? ⟨gb102, 2, none⟩ = some (.string (⟨#[]⟩ : ByteArray)) := (blk_cell BK102.out 2).trans rfl; have hcz14_3 : w13.cell? ⟨gb102, 3, none⟩ = some (.string (⟨#[]⟩ : ByteArray)) := (blk_cell BK102.out 3).trans rfl; have hcz14_4 : w13.cell? ⟨gb102, 4, none⟩ = some (.int .i64 0) := (blk_cell BK102.out 4).trans rfl; have hfz14_0 := blk_frozen BK102.out 0; have hfz14_1 := blk_frozen BK102.out 1; have hfz14_2 := blk_frozen BK102.out 2; have hfz14_3 := blk_frozen BK102.out 3; have hfz14_4 := blk_frozen BK102.out 4))
        go_roundg k1
        case measure => have := HK1.out; omega
        case rel => exact ⟨(wrap64 (x3_1 + ((ji5) + (ji6)))), (wrap64 (x8_1 + 1)), (by first | rfl | (simp; done) | (simp only [← hji5, ← hji6] <;> (first | rfl | simp)) | (simp [*]; done)), (by first | rfl | (simp; done) | (simp [*]; done)), H', ⟨by have := HK1.out; omega⟩, ⟨by repeat (first | (with_reducible first | exact HB.out | apply below_alloc | apply pw_below_drewN | apply below_drew1 | refine below_set ?_ GE102.out) | exact HB.out)⟩⟩
     ·rw [if_neg c4] at H
      exact absurd H (by simp)
    ·rw [if_neg c3] at H
     exact absurd H (by simp)
   ·rw [if_neg c2] at H
    have c2b0 : decide (x8_1 < (l0.length : Int)) = false := decide_eq_false c2
    clear c2
    obtain rfl := Option.some.inj H
    go_wp2
    go_ret
    exact ⟨by first | rfl | (simp [errW_none, errW_some] <;> rfl) | (simp [*, errW_none, errW_some] <;> rfl), by repeat (first | (with_reducible first | exact HB.out | apply below_alloc | apply pw_below_drewN | apply below_drew1) | exact HB.out)⟩
def cracknelref08_holder.l0 : Nat → List (S39) → Int → Int → Option (Int)
 | 0, _, _, _ => none
 | k + 1, x0, x1, x5 => if x5 ≥ 0 then (if 0 ≤ x5 then (if x5 < (x0.length : Int) then (if 0 ≤ x1 then (if x1 < (x0.length : Int) then (if ((rd_T39 x0 x5).f0) = (wrap64 (((rd_T39 x0 x1).f0) - 1)) then (some x5) else (cracknelref08_holder.l0 k x0 x1 (wrap64 (x5 - 1)))) else (none)) else (none)) else (none)) else (none)) else (some (-1))
def cracknelref08_holder.f (k : Nat) (l0 : List (S39)) (a1 : Int) : Option (Int) := cracknelref08_holder.l0 k l0 a1 (wrap64 (a1 - 1))
set_option maxHeartbeats 8000000 in
set_option maxRecDepth 100000 in
theorem cracknelref08_holder.calls (k : Nat) (A0 : Option Addr) (c0 : Nat) (l0 : List (S39)) (a1 : Int) (r : Int) (w : World) (hr0 : Kd.C k39 w A0 l0.length l0) (hc0 : l0.length ≤ c0) (h : cracknelref08_holder.f k l0 a1 = some r) :
  Calls Tryz.prog 25 #[.slice A0 l0.length c0, .int .i64 a1] w fun e w' => e = .returned (.int .i64 r) ∧ Drawn0 w w' := by
 have HR0 := Aside0.mk hr0
 have HC0 := Aside0.mk hc0
 clear hr0 hc0
 have H : (cracknelref08_holder.l0 k l0 a1 (wrap64 (a1 - 1))) = some r := h
 clear h
 have H' := Aside0.mk H
 clear H
 go_enter Tryz.func25, Tryz.ntmps25
 go_wp2
 repeat (go_quiet (fail); try go_wp2)
 go_loopg [5] k (fun kq v5 w' => ∃ (x5_1 : Int), v5 = .int .i64 x5_1 ∧ Aside0 (cracknelref08_holder.l0 kq l0 a1 x5_1 = some r) ∧ Aside0 (kq ≤ k) ∧ Drawn0 w w')
 case atStart => exact ⟨(wrap64 (a1 - 1)), (by first | rfl | (simp; done) | (simp [*]; done)), H', ⟨Nat.le_refl _⟩, by repeat (first | exact Drawn0.refl _ | apply Drawn0.step)⟩
 case round =>
  clear H'
  try clear p2
  obtain ⟨x5_1, rfl, HA, HK1, ⟨m1, rfl⟩⟩ := hrel
  cases gk with
  | zero => exact absurd HA.out (by simp [cracknelref08_holder.l0])
  | succ k1 =>
   have H := HA.out
   clear HA
   simp only [cracknelref08_holder.l0] at H
   by_cases c3 : x5_1 ≥ 0
   ·rw [if_pos c3] at H
    have c3b0 : decide (0 ≤ x5_1) = true := decide_eq_true c3
    clear c3
    by_cases c4 : 0 ≤ x5_1
    ·rw [if_pos c4] at H
     have c4b0 : decide (0 ≤ x5_1) = true := decide_eq_true c4
     clear c4
     by_cases c5 : x5_1 < (l0.length : Int)
     ·rw [if_pos c5] at H
      have c5b0 : decide (x5_1 < (l0.length : Int)) = true := decide_eq_true c5
      clear c5
      by_cases c6 : 0 ≤ a1
      ·rw [if_pos c6] at H
       have c6b0 : decide (0 ≤ a1) = true := decide_eq_true c6
       clear c6
       by_cases c7 : a1 < (l0.length : Int)
       ·rw [if_pos c7] at H
        have c7b0 : decide (a1 < (l0.length : Int)) = true := decide_eq_true c7
        clear c7
        by_cases c8 : ((rd_T39 l0 x5_1).f0) = (wrap64 (((rd_T39 l0 a1).f0) - 1))
        ·rw [if_pos c8] at H
         have c8b0 : (((rd_T39 l0 x5_1).f0) == (wrap64 (((rd_T39 l0 a1).f0) - 1))) = true := beq_iff_eq.mpr c8
         have c8b1 : (((rd_T39 l0 x5_1).f0) != (wrap64 (((rd_T39 l0 a1).f0) - 1))) = false := bne_eq_false_iff_eq.mpr c8
         clear c8
         obtain rfl := Option.some.inj H
         have p103 : 0 ≤ (x5_1 : Int) := of_decide_eq_true (by first | (with_reducible assumption) | assumption)
         have q103 : x5_1 < (l0.length : Int) := of_decide_eq_true (by first | (with_reducible assumption) | assumption)
         obtain ⟨ad103, e103, hx103_0, hx103_1, hx103_2, hx103_3, hx103_4⟩ := at_T39 HR0.out x5_1 p103 q103
         cases e103
         replace p103 := eq_true p103
         replace q103 := eq_true q103
         have p104 : 0 ≤ (a1 : Int) := of_decide_eq_true (by first | (with_reducible assumption) | assumption)
         have q104 : a1 < (l0.length : Int) := of_decide_eq_true (by first | (with_reducible assumption) | assumption)
         obtain ⟨ad104, e104, hx104_0, hx104_1, hx104_2, hx104_3, hx104_4⟩ := at_T39 HR0.out a1 p104 q104
         obtain rfl : ad103 = ad104 := (by injection e104)
         replace p104 := eq_true p104
         replace q104 := eq_true q104
         go_wp2
         repeat (go_quiet (fail); try go_wp2)
         go_ret
         exact ⟨by first | rfl | (simp; done) | (simp [*]; done), by repeat (first | exact Drawn0.refl _ | apply Drawn0.step)⟩
        ·rw [if_neg c8] at H
         have c8b0 : (((rd_T39 l0 x5_1).f0) == (wrap64 (((rd_T39 l0 a1).f0) - 1))) = false := beq_eq_false_iff_ne.mpr c8
         have c8b1 : (((rd_T39 l0 x5_1).f0) != (wrap64 (((rd_T39 l0 a1).f0) - 1))) = true := bne_iff_ne.mpr c8
         have H' := Aside0.mk H
         clear H
         have p103 : 0 ≤ (x5_1 : Int) := of_decide_eq_true (by first | (with_reducible assumption) | assumption)
         have q103 : x5_1 < (l0.length : Int) := of_decide_eq_true (by first | (with_reducible assumption) | assumption)
         obtain ⟨ad103, e103, hx103_0, hx103_1, hx103_2, hx103_3, hx103_4⟩ := at_T39 HR0.out x5_1 p103 q103
         cases e103
         replace p103 := eq_true p103
         replace q103 := eq_true q103
         have p104 : 0 ≤ (a1 : Int) := of_decide_eq_true (by first | (with_reducible assumption) | assumption)
         have q104 : a1 < (l0.length : Int) := of_decide_eq_true (by first | (with_reducible assumption) | assumption)
         obtain ⟨ad104, e104, hx104_0, hx104_1, hx104_2, hx104_3, hx104_4⟩ := at_T39 HR0.out a1 p104 q104
         obtain rfl : ad103 = ad104 := (by injection e104)
         replace p104 := eq_true p104
         replace q104 := eq_true q104
         go_wp2
         repeat (go_quiet (fail); try go_wp2)
         go_roundg k1
         case measure => have := HK1.out; omega
         case rel => exact ⟨(wrap64 (x5_1 - 1)), (by first | rfl | (simp; done) | (simp [*]; done)), H', ⟨by have := HK1.out; omega⟩, by repeat (first | exact Drawn0.refl _ | apply Drawn0.step)⟩
       ·rw [if_neg c7] at H
        exact absurd H (by simp)
      ·rw [if_neg c6] at H
       exact absurd H (by simp)
     ·rw [if_neg c5] at H
      exact absurd H (by simp)
    ·rw [if_neg c4] at H
     exact absurd H (by simp)
   ·rw [if_neg c3] at H
    have c3b0 : decide (0 ≤ x5_1) = false := decide_eq_false c3
    clear c3
    obtain rfl := Option.some.inj H
    go_wp2
    repeat (go_quiet (fail); try go_wp2)
    go_ret
    exact ⟨by first | rfl | (simp; done) | (simp [*]; done), by repeat (first | exact Drawn0.refl _ | apply Drawn0.step)⟩
def cracknelref08_alone.l0 : Nat → List (S39) → Int → Int → Option (Bool)
 | 0, _, _, _ => none
 | k + 1, x0, x1, x7 => if x7 < x1 then (if 0 ≤ x7 then (if x7 < (x0.length : Int) then (if 0 ≤ x1 then (if x1 < (x0.length : Int) then (if ((rd_T39 x0 x7).f0) = ((rd_T39 x0 x1).f0) then (if ((rd_T39 x0 x7).f2).toList = ((rd_T39 x0 x1).f2).toList then (some false) else (cracknelref08_alone.l0 k x0 x1 (wrap64 (x7 + 1)))) else (cracknelref08_alone.l0 k x0 x1 (wrap64 (x7 + 1)))) else (none)) else (none)) else (none)) else (none)) else (some true)
def cracknelref08_alone.f (k : Nat) (l0 : List (S39)) (a1 : Int) (a2 : Int) : Option (Bool) := cracknelref08_alone.l0 k l0 a1 (wrap64 (a2 + 1))
set_option maxHeartbeats 8000000 in
set_option maxRecDepth 100000 in
theorem cracknelref08_alone.calls (k : Nat) (A0 : Option Addr) (c0 : Nat) (l0 : List (S39)) (a1 : Int) (a2 : Int) (r : Bool) (w : World) (hr0 : Kd.C k39 w A0 l0.length l0) (hc0 : l0.length ≤ c0) (h : cracknelref08_alone.f k l0 a1 a2 = some r) :
  Calls Tryz.prog 26 #[.slice A0 l0.length c0, .int .i64 a1, .int .i64 a2] w fun e w' => e = .returned (.bool r) ∧ Drawn0 w w' := by
 have HR0 := Aside0.mk hr0
 have HC0 := Aside0.mk hc0
 clear hr0 hc0
 have H : (cracknelref08_alone.l0 k l0 a1 (wrap64 (a2 + 1))) = some r := h
 clear h
 have H' := Aside0.mk H
 clear H
 go_enter Tryz.func26, Tryz.ntmps26
 go_wp2
 repeat (go_quiet (fail); try go_wp2)
 go_loopg [7] k (fun kq v7 w' => ∃ (x7_1 : Int), v7 = .int .i64 x7_1 ∧ Aside0 (cracknelref08_alone.l0 kq l0 a1 x7_1 = some r) ∧ Aside0 (kq ≤ k) ∧ Drawn0 w w')
 case atStart => exact ⟨(wrap64 (a2 + 1)), (by first | rfl | (simp; done) | (simp [*]; done)), H', ⟨Nat.le_refl _⟩, by repeat (first | exact Drawn0.refl _ | apply Drawn0.step)⟩
 case round =>
  clear H'
  try clear p2
  obtain ⟨x7_1, rfl, HA, HK1, ⟨m1, rfl⟩⟩ := hrel
  cases gk with
  | zero => exact absurd HA.out (by simp [cracknelref08_alone.l0])
  | succ k1 =>
   have H := HA.out
   clear HA
   simp only [cracknelref08_alone.l0] at H
   by_cases c4 : x7_1 < a1
   ·rw [if_pos c4] at H
    have c4b0 : decide (x7_1 < a1) = true := decide_eq_true c4
    clear c4
    by_cases c5 : 0 ≤ x7_1
    ·rw [if_pos c5] at H
     have c5b0 : decide (0 ≤ x7_1) = true := decide_eq_true c5
     clear c5
     by_cases c6 : x7_1 < (l0.length : Int)
     ·rw [if_pos c6] at H
      have c6b0 : decide (x7_1 < (l0.length : Int)) = true := decide_eq_true c6
      clear c6
      by_cases c7 : 0 ≤ a1
      ·rw [if_pos c7] at H
       have c7b0 : decide (0 ≤ a1) = true := decide_eq_true c7
       clear c7
       by_cases c8 : a1 < (l0.length : Int)
       ·rw [if_pos c8] at H
        have c8b0 : decide (a1 < (l0.length : Int)) = true := decide_eq_true c8
        clear c8
        by_cases c9 : ((rd_T39 l0 x7_1).f0) = ((rd_T39 l0 a1).f0)
        ·rw [if_pos c9] at H
         have c9b0 : (((rd_T39 l0 x7_1).f0) == ((rd_T39 l0 a1).f0)) = true := beq_iff_eq.mpr c9
         have c9b1 : (((rd_T39 l0 x7_1).f0) != ((rd_T39 l0 a1).f0)) = false := bne_eq_false_iff_eq.mpr c9
         clear c9
         by_cases c10 : ((rd_T39 l0 x7_1).f2).toList = ((rd_T39 l0 a1).f2).toList
         ·rw [if_pos c10] at H
          have c10b0 : (((rd_T39 l0 x7_1).f2).toList == ((rd_T39 l0 a1).f2).toList) = true := beq_iff_eq.mpr c10
          have c10b1 : (((rd_T39 l0 x7_1).f2).toList != ((rd_T39 l0 a1).f2).toList) = false := bne_eq_false_iff_eq.mpr c10
          clear c10
          obtain rfl := Option.some.inj H
          have p105 : 0 ≤ (x7_1 : Int) := of_decide_eq_true (by first | (with_reducible assumption) | assumption)
          have q105 : x7_1 < (l0.length : Int) := of_decide_eq_true (by first | (with_reducible assumption) | assumption)
          obtain ⟨ad105, e105, hx105_0, hx105_1, hx105_2, hx105_3, hx105_4⟩ := at_T39 HR0.out x7_1 p105 q105
          cases e105
          replace p105 := eq_true p105
          replace q105 := eq_true q105
          have p106 : 0 ≤ (a1 : Int) := of_decide_eq_true (by first | (with_reducible assumption) | assumption)
          have q106 : a1 < (l0.length : Int) := of_decide_eq_true (by first | (with_reducible assumption) | assumption)
          obtain ⟨ad106, e106, hx106_0, hx106_1, hx106_2, hx106_3, hx106_4⟩ := at_T39 HR0.out a1 p106 q106
          obtain rfl : ad105 = ad106 := (by injection e106)
          replace p106 := eq_true p106
          replace q106 := eq_true q106
          have p107 : 0 ≤ (x7_1 : Int) := of_decide_eq_true (by first | (with_reducible assumption) | assumption)
          have q107 : x7_1 < (l0.length : Int) := of_decide_eq_true (by first | (with_reducible assumption) | assumption)
          obtain ⟨ad107, e107, hx107_0, hx107_1, hx107_2, hx107_3, hx107_4⟩ := at_T39 HR0.out x7_1 p107 q107
          obtain rfl : ad105 = ad107 := (by injection e107)
          replace p107 := eq_true p107
          replace q107 := eq_true q107
          have p108 : 0 ≤ (a1 : Int) := of_decide_eq_true (by first | (with_reducible assumption) | assumption)
          have q108 : a1 < (l0.length : Int) := of_decide_eq_true (by first | (with_reducible assumption) | assumption)
          obtain ⟨ad108, e108, hx108_0, hx108_1, hx108_2, hx108_3, hx108_4⟩ := at_T39 HR0.out a1 p108 q108
          obtain rfl : ad105 = ad108 := (by injection e108)
          replace p108 := eq_true p108
          replace q108 := eq_true q108
          go_wp2
          repeat (go_quiet (fail); try go_wp2)
          go_ret
          exact ⟨by first | rfl | (simp; done) | (simp [*]; done), by repeat (first | exact Drawn0.refl _ | apply Drawn0.step)⟩
         ·rw [if_neg c10] at H
          have c10b0 : (((rd_T39 l0 x7_1).f2).toList == ((rd_T39 l0 a1).f2).toList) = false := beq_eq_false_iff_ne.mpr c10
          have c10b1 : (((rd_T39 l0 x7_1).f2).toList != ((rd_T39 l0 a1).f2).toList) = true := bne_iff_ne.mpr c10
          have H' := Aside0.mk H
          clear H
          have p105 : 0 ≤ (x7_1 : Int) := of_decide_eq_true (by first | (with_reducible assumption) | assumption)
          have q105 : x7_1 < (l0.length : Int) := of_decide_eq_true (by first | (with_reducible assumption) | assumption)
          obtain ⟨ad105, e105, hx105_0, hx105_1, hx105_2, hx105_3, hx105_4⟩ := at_T39 HR0.out x7_1 p105 q105
          cases e105
          replace p105 := eq_true p105
          replace q105 := eq_true q105
          have p106 : 0 ≤ (a1 : Int) := of_decide_eq_true (by first | (with_reducible assumption) | assumption)
          have q106 : a1 < (l0.length : Int) := of_decide_eq_true (by first | (with_reducible assumption) | assumption)
          obtain ⟨ad106, e106, hx106_0, hx106_1, hx106_2, hx106_3, hx106_4⟩ := at_T39 HR0.out a1 p106 q106
          obtain rfl : ad105 = ad106 := (by injection e106)
          replace p106 := eq_true p106
          replace q106 := eq_true q106
          have p107 : 0 ≤ (x7_1 : Int) := of_decide_eq_true (by first | (with_reducible assumption) | assumption)
          have q107 : x7_1 < (l0.length : Int) := of_decide_eq_true (by first | (with_reducible assumption) | assumption)
          obtain ⟨ad107, e107, hx107_0, hx107_1, hx107_2, hx107_3, hx107_4⟩ := at_T39 HR0.out x7_1 p107 q107
          obtain rfl : ad105 = ad107 := (by injection e107)
          replace p107 := eq_true p107
          replace q107 := eq_true q107
          have p108 : 0 ≤ (a1 : Int) := of_decide_eq_true (by first | (with_reducible assumption) | assumption)
          have q108 : a1 < (l0.length : Int) := of_decide_eq_true (by first | (with_reducible assumption) | assumption)
          obtain ⟨ad108, e108, hx108_0, hx108_1, hx108_2, hx108_3, hx108_4⟩ := at_T39 HR0.out a1 p108 q108
          obtain rfl : ad105 = ad108 := (by injection e108)
          replace p108 := eq_true p108
          replace q108 := eq_true q108
          go_wp2
          repeat (go_quiet (fail); try go_wp2)
          go_roundg k1
          case measure => have := HK1.out; omega
          case rel => exact ⟨(wrap64 (x7_1 + 1)), (by first | rfl | (simp; done) | (simp [*]; done)), H', ⟨by have := HK1.out; omega⟩, by repeat (first | exact Drawn0.refl _ | apply Drawn0.step)⟩
        ·rw [if_neg c9] at H
         have c9b0 : (((rd_T39 l0 x7_1).f0) == ((rd_T39 l0 a1).f0)) = false := beq_eq_false_iff_ne.mpr c9
         have c9b1 : (((rd_T39 l0 x7_1).f0) != ((rd_T39 l0 a1).f0)) = true := bne_iff_ne.mpr c9
         have H' := Aside0.mk H
         clear H
         have p105 : 0 ≤ (x7_1 : Int) := of_decide_eq_true (by first | (with_reducible assumption) | assumption)
         have q105 : x7_1 < (l0.length : Int) := of_decide_eq_true (by first | (with_reducible assumption) | assumption)
         obtain ⟨ad105, e105, hx105_0, hx105_1, hx105_2, hx105_3, hx105_4⟩ := at_T39 HR0.out x7_1 p105 q105
         cases e105
         replace p105 := eq_true p105
         replace q105 := eq_true q105
         have p106 : 0 ≤ (a1 : Int) := of_decide_eq_true (by first | (with_reducible assumption) | assumption)
         have q106 : a1 < (l0.length : Int) := of_decide_eq_true (by first | (with_reducible assumption) | assumption)
         obtain ⟨ad106, e106, hx106_0, hx106_1, hx106_2, hx106_3, hx106_4⟩ := at_T39 HR0.out a1 p106 q106
         obtain rfl : ad105 = ad106 := (by injection e106)
         replace p106 := eq_true p106
         replace q106 := eq_true q106
         go_wp2
         repeat (go_quiet (fail); try go_wp2)
         go_roundg k1
         case measure => have := HK1.out; omega
         case rel => exact ⟨(wrap64 (x7_1 + 1)), (by first | rfl | (simp; done) | (simp [*]; done)), H', ⟨by have := HK1.out; omega⟩, by repeat (first | exact Drawn0.refl _ | apply Drawn0.step)⟩
       ·rw [if_neg c8] at H
        exact absurd H (by simp)
      ·rw [if_neg c7] at H
       exact absurd H (by simp)
     ·rw [if_neg c6] at H
      exact absurd H (by simp)
    ·rw [if_neg c5] at H
     exact absurd H (by simp)
   ·rw [if_neg c4] at H
    have c4b0 : decide (x7_1 < a1) = false := decide_eq_false c4
    clear c4
    obtain rfl := Option.some.inj H
    go_wp2
    repeat (go_quiet (fail); try go_wp2)
    go_ret
    exact ⟨by first | rfl | (simp; done) | (simp [*]; done), by repeat (first | exact Drawn0.refl _ | apply Drawn0.step)⟩
end Go.Proofs.YthhmmaihbjhhgaaGreatDoor.J2
namespace Go.Proofs.YthhmmaihbjhhgaaGreatDoor.J2
open Go.Proofs.YthhmmaihbjhhgaaGreatDoor.Giv Go.Proofs.YthhmmaihbjhhgaaGreatDoor.U1 Go.Proofs.YthhmmaihbjhhgaaGreatDoor.Q1 Go.Proofs.YthhmmaihbjhhgaaGreatDoor.J0 Go.Proofs.YthhmmaihbjhhgaaGreatDoor.J1 Go.RowKit Go.Proofs.YthhmmaihbjhhgaaGreatDoorW.PrintWords Go.Proofs.YthhmmaihbjhhgaaGreatDoorW.PrintLast Go.Proofs.YthhmmaihbjhhgaaGreatDoorW.PrintMore
attribute [local go_sem] max2_int min2_int max_two min_two max_three min_three max_four min_four
set_option linter.unusedVariables false
set_option linter.unusedSimpArgs false
theorem isE2 (l : List UInt8) : (!l.isEmpty) = (l != []) := by cases l <;> rfl
mutual
def cracknelref08_Right.j0 : Nat → List (S39) → Bool → Option (Bool)
 | 0, _, _ => none
 | k + 1, x0, x29 => if x29 = true then (some false) else (cracknelref08_Right.l0 k x0 1)
def cracknelref08_Right.l0 : Nat → List (S39) → Int → Option (Bool)
 | 0, _, _ => none
 | k + 1, x0, x3 => if x3 < (x0.length : Int) then (if 0 ≤ (wrap64 (x3 - 1)) then (if (wrap64 (x3 - 1)) < (x0.length : Int) then (if ((rd_T39 x0 (wrap64 (x3 - 1))).f1) ≥ 6 then (cracknelref08_Right.j2 k x0 x3 (wrap64 (((rd_T39 x0 (wrap64 (x3 - 1))).f0) + 1))) else (cracknelref08_Right.j2 k x0 x3 ((rd_T39 x0 (wrap64 (x3 - 1))).f0))) else (none)) else (none)) else (some true)
def cracknelref08_Right.j2 : Nat → List (S39) → Int → Int → Option (Bool)
 | 0, _, _, _ => none
 | k + 1, x0, x3, x4 => if 0 ≤ x3 then (if x3 < (x0.length : Int) then ((cracknelref08_may.f k ((rd_T39 x0 x3).f0) ((rd_T39 x0 x3).f1) ((rd_T39 x0 x3).f2) ((rd_T39 x0 x3).f3) ((rd_T39 x0 x3).f4)).bind fun t116 => (if t116 = true then (if ((rd_T39 x0 x3).f0) < 1 then (cracknelref08_Right.j3 k x0 x3 true) else (cracknelref08_Right.j3 k x0 x3 (decide (((rd_T39 x0 x3).f0) > x4)))) else (cracknelref08_Right.j3 k x0 x3 true))) else (none)) else (none)
def cracknelref08_Right.j3 : Nat → List (S39) → Int → Bool → Option (Bool)
 | 0, _, _, _ => none
 | k + 1, x0, x3, x73 => if x73 = true then (some false) else ((cracknelref08_holder.f k x0 x3).bind fun t119 => (if 0 ≤ t119 then (if t119 < (x0.length : Int) then (if ((rd_T39 x0 t119).f1) = 6 then (if 0 ≤ x3 then (if x3 < (x0.length : Int) then (cracknelref08_Right.j4 k x0 x3 t119 (((rd_T39 x0 x3).f2).toList != ([] : List UInt8))) else (none)) else (none)) else (cracknelref08_Right.j4 k x0 x3 t119 false)) else (none)) else (none)))
def cracknelref08_Right.j4 : Nat → List (S39) → Int → Int → Bool → Option (Bool)
 | 0, _, _, _, _ => none
 | k + 1, x0, x3, x5, x90 => if x90 = true then (some false) else (if 0 ≤ x5 then (if x5 < (x0.length : Int) then (if ((rd_T39 x0 x5).f1) = 7 then ((cracknelref08_alone.f k x0 x3 x5).bind fun t123 => (if t123 = true then (cracknelref08_Right.l0 k x0 (wrap64 (x3 + 1))) else (some false))) else (cracknelref08_Right.l0 k x0 (wrap64 (x3 + 1)))) else (none)) else (none))
end
def cracknelref08_Right.f (k : Nat) (l0 : List (S39)) : Option (Bool) := if (l0.length : Int) = 0 then (cracknelref08_Right.j0 k l0 true) else (if 0 < (l0.length : Int) then (if ((rd_T39 l0 0).f0) = 0 then (if ((rd_T39 l0 0).f2).toList = ([] : List UInt8) then ((cracknelref08_may.f k ((rd_T39 l0 0).f0) ((rd_T39 l0 0).f1) ((rd_T39 l0 0).f2) ((rd_T39 l0 0).f3) ((rd_T39 l0 0).f4)).bind fun t112 => (cracknelref08_Right.j0 k l0 (!t112))) else (cracknelref08_Right.j0 k l0 true)) else (cracknelref08_Right.j0 k l0 true)) else (none))
set_option maxHeartbeats 8000000 in
set_option maxRecDepth 100000 in
theorem cracknelref08_Right.calls (k : Nat) (A0 : Option Addr) (c0 : Nat) (l0 : List (S39)) (r : Bool) (w : World) (hr0 : Kd.C k39 w A0 l0.length l0) (hc0 : l0.length ≤ c0) (h : cracknelref08_Right.f k l0 = some r) :
  Calls Tryz.prog 11 #[.slice A0 l0.length c0] w fun e w' => e = .returned (.bool r) ∧ Below w.heap.size w w' := by
 have hu39 := Tryz.underlying39
 have HR0 := Aside0.mk hr0
 have HC0 := Aside0.mk hc0
 clear hr0 hc0
 have HB := Aside0.mk (Below.refl w.heap.size w)
 have H : (if (l0.length : Int) = 0 then (cracknelref08_Right.j0 k l0 true) else (if 0 < (l0.length : Int) then (if ((rd_T39 l0 0).f0) = 0 then (if ((rd_T39 l0 0).f2).toList = ([] : List UInt8) then ((cracknelref08_may.f k ((rd_T39 l0 0).f0) ((rd_T39 l0 0).f1) ((rd_T39 l0 0).f2) ((rd_T39 l0 0).f3) ((rd_T39 l0 0).f4)).bind fun t112 => (cracknelref08_Right.j0 k l0 (!t112))) else (cracknelref08_Right.j0 k l0 true)) else (cracknelref08_Right.j0 k l0 true)) else (none))) = some r := h
 clear h
 have HC2 := Aside0.mk H
 clear H
 go_enter Tryz.func11, Tryz.ntmps11
 go_upto_region 1 with (fail)
 go_cut [29] (fun v29 wc => ∃ (kq : Nat) (x29_1 : Bool), v29 = .bool x29_1 ∧ Aside0 (cracknelref08_Right.j0 kq l0 x29_1 = some r) ∧ Aside0 (kq ≤ k) ∧ Aside0 (Below w.heap.size w wc))
 case first =>
  have H := HC2.out
  clear HC2
  by_cases c3 : (l0.length : Int) = 0
  ·rw [if_pos c3] at H
   have c3b0 : ((l0.length : Int) == 0) = true := beq_iff_eq.mpr c3
   have c3b1 : ((l0.length : Int) != 0) = false := bne_eq_false_iff_eq.mpr c3
   clear c3
   (first | rw [c3b0] | (simp only [i64_w, i32_w]; rw [c3b0]) | skip)
   have H' := Aside0.mk H
   clear H
   go_wp2
   go_meet
   case rel => exact ⟨_, (true), (by first | rfl | (simp; done) | (simp [*]; done)), H', ⟨by first | omega | exact Nat.le_refl _⟩, ⟨by repeat (first | (with_reducible first | exact HB.out | apply below_alloc | apply pw_below_drewN | apply below_drew1) | exact HB.out)⟩⟩
  ·rw [if_neg c3] at H
   have c3b0 : ((l0.length : Int) == 0) = false := beq_eq_false_iff_ne.mpr c3
   have c3b1 : ((l0.length : Int) != 0) = true := bne_iff_ne.mpr c3
   have c3b2 : ¬ (l0 = []) := fun h_ => c3 (by rw [h_]; rfl)
   (first | rw [c3b0] | (simp only [i64_w, i32_w]; rw [c3b0]) | skip)
   by_cases c4 : 0 < (l0.length : Int)
   ·rw [if_pos c4] at H
    have c4b0 : decide (0 < (l0.length : Int)) = true := decide_eq_true c4
    have c4b1 : decide (0 < l0.length) = true := decide_eq_true (by omega)
    clear c4
    by_cases c5 : ((rd_T39 l0 0).f0) = 0
    ·rw [if_pos c5] at H
     have c5b0 : (((rd_T39 l0 0).f0) == 0) = true := beq_iff_eq.mpr c5
     have c5b1 : (((rd_T39 l0 0).f0) != 0) = false := bne_eq_false_iff_eq.mpr c5
     clear c5
     by_cases c6 : ((rd_T39 l0 0).f2).toList = ([] : List UInt8)
     ·rw [if_pos c6] at H
      have c6b0 : (((rd_T39 l0 0).f2).toList == ([] : List UInt8)) = true := beq_iff_eq.mpr c6
      have c6b1 : (((rd_T39 l0 0).f2).toList != ([] : List UInt8)) = false := bne_eq_false_iff_eq.mpr c6
      clear c6
      replace H := Option.bind_eq_some_iff.mp H
      obtain ⟨t112, A70, H⟩ := H
      replace H : (cracknelref08_Right.j0 k l0 (!t112)) = some r := H
      have A7 := Aside0.mk A70
      clear A70
      have H' := Aside0.mk H
      clear H
      have p109 : 0 ≤ (0 : Int) := (by omega)
      have q109 : 0 < (l0.length : Int) := of_decide_eq_true (by first | (with_reducible assumption) | assumption)
      obtain ⟨ad109, e109, hx109_0, hx109_1, hx109_2, hx109_3, hx109_4⟩ := at_T39 HR0.out 0 p109 q109
      cases e109
      have qi109 : (0 < l0.length) = True := eq_true (by omega)
      (try rw [show ((0 : Int)).toNat = 0 from rfl] at hx109_0)
      (try rw [show 0 * 5 = 0 from rfl] at hx109_0)
      (try rw [Addr.add_zero'] at hx109_0)
      (try rw [show ((0 : Int)).toNat = 0 from rfl] at hx109_1)
      (try rw [show 0 * 5 = 0 from rfl] at hx109_1)
      (try rw [Addr.add_zero'] at hx109_1)
      (try rw [show ((0 : Int)).toNat = 0 from rfl] at hx109_2)
      (try rw [show 0 * 5 = 0 from rfl] at hx109_2)
      (try rw [Addr.add_zero'] at hx109_2)
      (try rw [show ((0 : Int)).toNat = 0 from rfl] at hx109_3)
      (try rw [show 0 * 5 = 0 from rfl] at hx109_3)
      (try rw [Addr.add_zero'] at hx109_3)
      (try rw [show ((0 : Int)).toNat = 0 from rfl] at hx109_4)
      (try rw [show 0 * 5 = 0 from rfl] at hx109_4)
      (try rw [Addr.add_zero'] at hx109_4)
      replace hx109_0 := (HB.out.cell (World.block_lt_of_cell? w _ hx109_0)).trans hx109_0
      replace hx109_1 := (HB.out.cell (World.block_lt_of_cell? w _ hx109_1)).trans hx109_1
      replace hx109_2 := (HB.out.cell (World.block_lt_of_cell? w _ hx109_2)).trans hx109_2
      replace hx109_3 := (HB.out.cell (World.block_lt_of_cell? w _ hx109_3)).trans hx109_3
      replace hx109_4 := (HB.out.cell (World.block_lt_of_cell? w _ hx109_4)).trans hx109_4
      replace p109 := eq_true p109
      replace q109 := eq_true q109
      have p110 : 0 ≤ (0 : Int) := (by omega)
      have q110 : 0 < (l0.length : Int) := of_decide_eq_true (by first | (with_reducible assumption) | assumption)
      obtain ⟨ad110, e110, hx110_0, hx110_1, hx110_2, hx110_3, hx110_4⟩ := at_T39 HR0.out 0 p110 q110
      obtain rfl : ad109 = ad110 := (by injection e110)
      have qi110 : (0 < l0.length) = True := eq_true (by omega)
      (try rw [show ((0 : Int)).toNat = 0 from rfl] at hx110_0)
      (try rw [show 0 * 5 = 0 from rfl] at hx110_0)
      (try rw [Addr.add_zero'] at hx110_0)
      (try rw [show ((0 : Int)).toNat = 0 from rfl] at hx110_1)
      (try rw [show 0 * 5 = 0 from rfl] at hx110_1)
      (try rw [Addr.add_zero'] at hx110_1)
      (try rw [show ((0 : Int)).toNat = 0 from rfl] at hx110_2)
      (try rw [show 0 * 5 = 0 from rfl] at hx110_2)
      (try rw [Addr.add_zero'] at hx110_2)
      (try rw [show ((0 : Int)).toNat = 0 from rfl] at hx110_3)
      (try rw [show 0 * 5 = 0 from rfl] at hx110_3)
      (try rw [Addr.add_zero'] at hx110_3)
      (try rw [show ((0 : Int)).toNat = 0 from rfl] at hx110_4)
      (try rw [show 0 * 5 = 0 from rfl] at hx110_4)
      (try rw [Addr.add_zero'] at hx110_4)
      replace hx110_0 := (HB.out.cell (World.block_lt_of_cell? w _ hx110_0)).trans hx110_0
      replace hx110_1 := (HB.out.cell (World.block_lt_of_cell? w _ hx110_1)).trans hx110_1
      replace hx110_2 := (HB.out.cell (World.block_lt_of_cell? w _ hx110_2)).trans hx110_2
      replace hx110_3 := (HB.out.cell (World.block_lt_of_cell? w _ hx110_3)).trans hx110_3
      replace hx110_4 := (HB.out.cell (World.block_lt_of_cell? w _ hx110_4)).trans hx110_4
      replace p110 := eq_true p110
      replace q110 := eq_true q110
      have p111 : 0 ≤ (0 : Int) := (by omega)
      have q111 : 0 < (l0.length : Int) := of_decide_eq_true (by first | (with_reducible assumption) | assumption)
      obtain ⟨ad111, e111, hx111_0, hx111_1, hx111_2, hx111_3, hx111_4⟩ := at_T39 HR0.out 0 p111 q111
      obtain rfl : ad109 = ad111 := (by injection e111)
      have qi111 : (0 < l0.length) = True := eq_true (by omega)
      (try rw [show ((0 : Int)).toNat = 0 from rfl] at hx111_0)
      (try rw [show 0 * 5 = 0 from rfl] at hx111_0)
      (try rw [Addr.add_zero'] at hx111_0)
      (try rw [show ((0 : Int)).toNat = 0 from rfl] at hx111_1)
      (try rw [show 0 * 5 = 0 from rfl] at hx111_1)
      (try rw [Addr.add_zero'] at hx111_1)
      (try rw [show ((0 : Int)).toNat = 0 from rfl] at hx111_2)
      (try rw [show 0 * 5 = 0 from rfl] at hx111_2)
      (try rw [Addr.add_zero'] at hx111_2)
      (try rw [show ((0 : Int)).toNat = 0 from rfl] at hx111_3)
      (try rw [show 0 * 5 = 0 from rfl] at hx111_3)
      (try rw [Addr.add_zero'] at hx111_3)
      (try rw [show ((0 : Int)).toNat = 0 from rfl] at hx111_4)
      (try rw [show 0 * 5 = 0 from rfl] at hx111_4)
      (try rw [Addr.add_zero'] at hx111_4)
      replace hx111_0 := (HB.out.cell (World.block_lt_of_cell? w _ hx111_0)).trans hx111_0
      replace hx111_1 := (HB.out.cell (World.block_lt_of_cell? w _ hx111_1)).trans hx111_1
      replace hx111_2 := (HB.out.cell (World.block_lt_of_cell? w _ hx111_2)).trans hx111_2
      replace hx111_3 := (HB.out.cell (World.block_lt_of_cell? w _ hx111_3)).trans hx111_3
      replace hx111_4 := (HB.out.cell (World.block_lt_of_cell? w _ hx111_4)).trans hx111_4
      replace p111 := eq_true p111
      replace q111 := eq_true q111
      go_wp2_with (first | (go_at_call 24; (with_reducible refine (cracknelref08_may.calls k ((rd_T39 l0 0).f0) ((rd_T39 l0 0).f1) ((rd_T39 l0 0).f2) ((rd_T39 l0 0).f3) ((rd_T39 l0 0).f4) t112 _ A7.out).mono ?_); rintro e w8 ⟨rfl, hb⟩; have n0_ := Aside0.mk (below_step (by repeat (first | (with_reducible first | exact HB.out | apply below_alloc | apply pw_below_drewN | apply below_drew1) | exact HB.out)) hb); clear HB; have HB := n0_; clear n0_; (try clear hb); (try clear hb2); (try clear hk); (try clear hi)))
      go_meet
      case rel => exact ⟨_, (!t112), (by first | rfl | (simp; done) | (simp [*]; done)), H', ⟨by first | omega | exact Nat.le_refl _⟩, ⟨by repeat (first | (with_reducible first | exact HB.out | apply below_alloc | apply pw_below_drewN | apply below_drew1) | exact HB.out)⟩⟩
     ·rw [if_neg c6] at H
      have c6b0 : (((rd_T39 l0 0).f2).toList == ([] : List UInt8)) = false := beq_eq_false_iff_ne.mpr c6
      have c6b1 : (((rd_T39 l0 0).f2).toList != ([] : List UInt8)) = true := bne_iff_ne.mpr c6
      have H' := Aside0.mk H
      clear H
      have p109 : 0 ≤ (0 : Int) := (by omega)
      have q109 : 0 < (l0.length : Int) := of_decide_eq_true (by first | (with_reducible assumption) | assumption)
      obtain ⟨ad109, e109, hx109_0, hx109_1, hx109_2, hx109_3, hx109_4⟩ := at_T39 HR0.out 0 p109 q109
      cases e109
      have qi109 : (0 < l0.length) = True := eq_true (by omega)
      (try rw [show ((0 : Int)).toNat = 0 from rfl] at hx109_0)
      (try rw [show 0 * 5 = 0 from rfl] at hx109_0)
      (try rw [Addr.add_zero'] at hx109_0)
      (try rw [show ((0 : Int)).toNat = 0 from rfl] at hx109_1)
      (try rw [show 0 * 5 = 0 from rfl] at hx109_1)
      (try rw [Addr.add_zero'] at hx109_1)
      (try rw [show ((0 : Int)).toNat = 0 from rfl] at hx109_2)
      (try rw [show 0 * 5 = 0 from rfl] at hx109_2)
      (try rw [Addr.add_zero'] at hx109_2)
      (try rw [show ((0 : Int)).toNat = 0 from rfl] at hx109_3)
      (try rw [show 0 * 5 = 0 from rfl] at hx109_3)
      (try rw [Addr.add_zero'] at hx109_3)
      (try rw [show ((0 : Int)).toNat = 0 from rfl] at hx109_4)
      (try rw [show 0 * 5 = 0 from rfl] at hx109_4)
      (try rw [Addr.add_zero'] at hx109_4)
      replace hx109_0 := (HB.out.cell (World.block_lt_of_cell? w _ hx109_0)).trans hx109_0
      replace hx109_1 := (HB.out.cell (World.block_lt_of_cell? w _ hx109_1)).trans hx109_1
      replace hx109_2 := (HB.out.cell (World.block_lt_of_cell? w _ hx109_2)).trans hx109_2
      replace hx109_3 := (HB.out.cell (World.block_lt_of_cell? w _ hx109_3)).trans hx109_3
      replace hx109_4 := (HB.out.cell (World.block_lt_of_cell? w _ hx109_4)).trans hx109_4
      replace p109 := eq_true p109
      replace q109 := eq_true q109
      have p110 : 0 ≤ (0 : Int) := (by omega)
      have q110 : 0 < (l0.length : Int) := of_decide_eq_true (by first | (with_reducible assumption) | assumption)
      obtain ⟨ad110, e110, hx110_0, hx110_1, hx110_2, hx110_3, hx110_4⟩ := at_T39 HR0.out 0 p110 q110
      obtain rfl : ad109 = ad110 := (by injection e110)
      have qi110 : (0 < l0.length) = True := eq_true (by omega)
      (try rw [show ((0 : Int)).toNat = 0 from rfl] at hx110_0)
      (try rw [show 0 * 5 = 0 from rfl] at hx110_0)
      (try rw [Addr.add_zero'] at hx110_0)
      (try rw [show ((0 : Int)).toNat = 0 from rfl] at hx110_1)
      (try rw [show 0 * 5 = 0 from rfl] at hx110_1)
      (try rw [Addr.add_zero'] at hx110_1)
      (try rw [show ((0 : Int)).toNat = 0 from rfl] at hx110_2)
      (try rw [show 0 * 5 = 0 from rfl] at hx110_2)
      (try rw [Addr.add_zero'] at hx110_2)
      (try rw [show ((0 : Int)).toNat = 0 from rfl] at hx110_3)
      (try rw [show 0 * 5 = 0 from rfl] at hx110_3)
      (try rw [Addr.add_zero'] at hx110_3)
      (try rw [show ((0 : Int)).toNat = 0 from rfl] at hx110_4)
      (try rw [show 0 * 5 = 0 from rfl] at hx110_4)
      (try rw [Addr.add_zero'] at hx110_4)
      replace hx110_0 := (HB.out.cell (World.block_lt_of_cell? w _ hx110_0)).trans hx110_0
      replace hx110_1 := (HB.out.cell (World.block_lt_of_cell? w _ hx110_1)).trans hx110_1
      replace hx110_2 := (HB.out.cell (World.block_lt_of_cell? w _ hx110_2)).trans hx110_2
      replace hx110_3 := (HB.out.cell (World.block_lt_of_cell? w _ hx110_3)).trans hx110_3
      replace hx110_4 := (HB.out.cell (World.block_lt_of_cell? w _ hx110_4)).trans hx110_4
      replace p110 := eq_true p110
      replace q110 := eq_true q110
      go_wp2
      go_meet
      case rel => exact ⟨_, (true), (by first | rfl | (simp; done) | (simp [*]; done)), H', ⟨by first | omega | exact Nat.le_refl _⟩, ⟨by repeat (first | (with_reducible first | exact HB.out | apply below_alloc | apply pw_below_drewN | apply below_drew1) | exact HB.out)⟩⟩
    ·rw [if_neg c5] at H
     have c5b0 : (((rd_T39 l0 0).f0) == 0) = false := beq_eq_false_iff_ne.mpr c5
     have c5b1 : (((rd_T39 l0 0).f0) != 0) = true := bne_iff_ne.mpr c5
     have H' := Aside0.mk H
     clear H
     have p109 : 0 ≤ (0 : Int) := (by omega)
     have q109 : 0 < (l0.length : Int) := of_decide_eq_true (by first | (with_reducible assumption) | assumption)
     obtain ⟨ad109, e109, hx109_0, hx109_1, hx109_2, hx109_3, hx109_4⟩ := at_T39 HR0.out 0 p109 q109
     cases e109
     have qi109 : (0 < l0.length) = True := eq_true (by omega)
     (try rw [show ((0 : Int)).toNat = 0 from rfl] at hx109_0)
     (try rw [show 0 * 5 = 0 from rfl] at hx109_0)
     (try rw [Addr.add_zero'] at hx109_0)
     (try rw [show ((0 : Int)).toNat = 0 from rfl] at hx109_1)
     (try rw [show 0 * 5 = 0 from rfl] at hx109_1)
     (try rw [Addr.add_zero'] at hx109_1)
     (try rw [show ((0 : Int)).toNat = 0 from rfl] at hx109_2)
     (try rw [show 0 * 5 = 0 from rfl] at hx109_2)
     (try rw [Addr.add_zero'] at hx109_2)
     (try rw [show ((0 : Int)).toNat = 0 from rfl] at hx109_3)
     (try rw [show 0 * 5 = 0 from rfl] at hx109_3)
     (try rw [Addr.add_zero'] at hx109_3)
     (try rw [show ((0 : Int)).toNat = 0 from rfl] at hx109_4)
     (try rw [show 0 * 5 = 0 from rfl] at hx109_4)
     (try rw [Addr.add_zero'] at hx109_4)
     replace hx109_0 := (HB.out.cell (World.block_lt_of_cell? w _ hx109_0)).trans hx109_0
     replace hx109_1 := (HB.out.cell (World.block_lt_of_cell? w _ hx109_1)).trans hx109_1
     replace hx109_2 := (HB.out.cell (World.block_lt_of_cell? w _ hx109_2)).trans hx109_2
     replace hx109_3 := (HB.out.cell (World.block_lt_of_cell? w _ hx109_3)).trans hx109_3
     replace hx109_4 := (HB.out.cell (World.block_lt_of_cell? w _ hx109_4)).trans hx109_4
     replace p109 := eq_true p109
     replace q109 := eq_true q109
     go_wp2
     go_meet
     case rel => exact ⟨_, (true), (by first | rfl | (simp; done) | (simp [*]; done)), H', ⟨by first | omega | exact Nat.le_refl _⟩, ⟨by repeat (first | (with_reducible first | exact HB.out | apply below_alloc | apply pw_below_drewN | apply below_drew1) | exact HB.out)⟩⟩
   ·rw [if_neg c4] at H
    exact absurd H (by simp)
 case rest =>
  clear HC2
  try clear p1
  try clear q1
  try clear hx1
  try clear qi1
  try clear p2
  try clear c3
  try clear c3b0
  try clear c3b1
  try clear c3b2
  try clear c4
  try clear c4b0
  try clear c4b1
  try clear c5
  try clear c5b0
  try clear c5b1
  try clear c6
  try clear c6b0
  try clear c6b1
  try clear hx109_0
  try clear hx109_1
  try clear hx109_2
  try clear hx109_3
  try clear hx109_4
  try clear hx110_0
  try clear hx110_1
  try clear hx110_2
  try clear hx110_3
  try clear hx110_4
  try clear hx111_0
  try clear hx111_1
  try clear hx111_2
  try clear hx111_3
  try clear hx111_4
  try clear p109
  try clear p110
  try clear p111
  try clear q109
  try clear q110
  try clear q111
  obtain ⟨kq, x29_1, rfl, HA, HJ1, HB⟩ := hcut
  cases kq with
  | zero => exact absurd HA.out (by simp [cracknelref08_Right.j0])
  | succ kj1 =>
   have H := HA.out
   clear HA
   simp only [cracknelref08_Right.j0] at H
   by_cases c9 : x29_1 = true
   ·subst c9
    have H1 : (some false) = some r := by rw [if_pos rfl] at H; exact H
    clear H
    have H := H1
    clear H1
    obtain rfl := Option.some.inj H
    go_wp2
    go_ret
    exact ⟨by first | rfl | (simp [errW_none, errW_some] <;> rfl) | (simp [*, errW_none, errW_some] <;> rfl), by repeat (first | (with_reducible first | exact HB.out | apply below_alloc | apply pw_below_drewN | apply below_drew1) | exact HB.out)⟩
   ·replace c9 := Bool.eq_false_iff.mpr c9
    subst c9
    have H1 : (cracknelref08_Right.l0 kj1 l0 1) = some r := by rw [if_neg (show ¬ (false = true) by decide)] at H; exact H
    clear H
    have H := H1
    clear H1
    have H' := Aside0.mk H
    clear H
    go_wp2
    go_loopg [3] kj1 (fun kq v3 w' => ∃ (x3_2 : Int), v3 = .int .i64 x3_2 ∧ Aside0 (cracknelref08_Right.l0 kq l0 x3_2 = some r) ∧ Aside0 (kq ≤ kj1) ∧ Aside0 (Below w.heap.size w w'))
    case atStart => exact ⟨(1), (by first | rfl | (simp; done) | (simp [*]; done)), H', ⟨Nat.le_refl _⟩, ⟨by repeat (first | (with_reducible first | exact HB.out | apply below_alloc | apply pw_below_drewN | apply below_drew1) | exact HB.out)⟩⟩
    case round =>
     clear H'
     try clear p1
     try clear q1
     try clear hx1
     try clear qi1
     try clear p2
     try clear c3
     try clear c3b0
     try clear c3b1
     try clear c3b2
     try clear c4
     try clear c4b0
     try clear c4b1
     try clear c5
     try clear c5b0
     try clear c5b1
     try clear c6
     try clear c6b0
     try clear c6b1
     try clear c9
     try clear hx109_0
     try clear hx109_1
     try clear hx109_2
     try clear hx109_3
     try clear hx109_4
     try clear hx110_0
     try clear hx110_1
     try clear hx110_2
     try clear hx110_3
     try clear hx110_4
     try clear hx111_0
     try clear hx111_1
     try clear hx111_2
     try clear hx111_3
     try clear hx111_4
     try clear p1
     try clear p109
     try clear p110
     try clear p111
     try clear p2
     try clear q1
     try clear q109
     try clear q110
     try clear q111
     obtain ⟨x3_2, rfl, HA, HK2, HB⟩ := hrel
     cases gk with
     | zero => exact absurd HA.out (by simp [cracknelref08_Right.l0])
     | succ k2 =>
      have H := HA.out
      clear HA
      simp only [cracknelref08_Right.l0] at H
      by_cases c10 : x3_2 < (l0.length : Int)
      ·rw [if_pos c10] at H
       have c10b0 : decide (x3_2 < (l0.length : Int)) = true := decide_eq_true c10
       clear c10
       obtain ⟨ji11, hji11⟩ : ∃ j_ : Int, (wrap64 (x3_2 - 1)) = j_ := ⟨_, rfl⟩
       replace H : (if 0 ≤ (ji11) then (if (ji11) < (l0.length : Int) then (if ((rd_T39 l0 (ji11)).f1) ≥ 6 then (cracknelref08_Right.j2 k2 l0 x3_2 (wrap64 (((rd_T39 l0 (ji11)).f0) + 1))) else (cracknelref08_Right.j2 k2 l0 x3_2 ((rd_T39 l0 (ji11)).f0))) else (none)) else (none)) = some r := by first | (rw [hji11] at H; exact H) | (simp only [hji11] at H ⊢; exact H)
       have hji11w : (IntKind.i64.wrap (x3_2 - 1)) = ji11 := (i64_w _).trans hji11
       by_cases c12 : 0 ≤ (ji11)
       ·rw [if_pos c12] at H
        have c12b0 : decide (0 ≤ (ji11)) = true := decide_eq_true c12
        clear c12
        by_cases c13 : (ji11) < (l0.length : Int)
        ·rw [if_pos c13] at H
         have c13b0 : decide ((ji11) < (l0.length : Int)) = true := decide_eq_true c13
         clear c13
         have HC14 := Aside0.mk H
         clear H
         have p113 : 0 ≤ ((ji11) : Int) := of_decide_eq_true (by first | (with_reducible assumption) | assumption)
         have q113 : (ji11) < (l0.length : Int) := of_decide_eq_true (by first | (with_reducible assumption) | assumption)
         obtain ⟨ad113, e113, hx113_0, hx113_1, hx113_2, hx113_3, hx113_4⟩ := at_T39 HR0.out (ji11) p113 q113
         cases e113
         replace hx113_0 := (HB.out.cell (World.block_lt_of_cell? w _ hx113_0)).trans hx113_0
         replace hx113_1 := (HB.out.cell (World.block_lt_of_cell? w _ hx113_1)).trans hx113_1
         replace hx113_2 := (HB.out.cell (World.block_lt_of_cell? w _ hx113_2)).trans hx113_2
         replace hx113_3 := (HB.out.cell (World.block_lt_of_cell? w _ hx113_3)).trans hx113_3
         replace hx113_4 := (HB.out.cell (World.block_lt_of_cell? w _ hx113_4)).trans hx113_4
         replace p113 := eq_true p113
         replace q113 := eq_true q113
         have p114 : 0 ≤ ((ji11) : Int) := of_decide_eq_true (by first | (with_reducible assumption) | assumption)
         have q114 : (ji11) < (l0.length : Int) := of_decide_eq_true (by first | (with_reducible assumption) | assumption)
         obtain ⟨ad114, e114, hx114_0, hx114_1, hx114_2, hx114_3, hx114_4⟩ := at_T39 HR0.out (ji11) p114 q114
         obtain rfl : ad113 = ad114 := (by injection e114)
         replace hx114_0 := (HB.out.cell (World.block_lt_of_cell? w _ hx114_0)).trans hx114_0
         replace hx114_1 := (HB.out.cell (World.block_lt_of_cell? w _ hx114_1)).trans hx114_1
         replace hx114_2 := (HB.out.cell (World.block_lt_of_cell? w _ hx114_2)).trans hx114_2
         replace hx114_3 := (HB.out.cell (World.block_lt_of_cell? w _ hx114_3)).trans hx114_3
         replace hx114_4 := (HB.out.cell (World.block_lt_of_cell? w _ hx114_4)).trans hx114_4
         replace p114 := eq_true p114
         replace q114 := eq_true q114
         go_upto_if 48 with (fail)
         go_cut [4] (fun v4 wc => ∃ (kq : Nat) (x4_13 : Int), v4 = .int .i64 x4_13 ∧ Aside0 (cracknelref08_Right.j2 kq l0 x3_2 x4_13 = some r) ∧ Aside0 (kq ≤ k2) ∧ Aside0 (Below w.heap.size w wc))
         case first =>
          have H := HC14.out
          clear HC14
          by_cases c15 : ((rd_T39 l0 (ji11)).f1) ≥ 6
          ·rw [if_pos c15] at H
           have c15b0 : decide (6 ≤ ((rd_T39 l0 (ji11)).f1)) = true := decide_eq_true c15
           clear c15
           (first | rw [c15b0] | (simp only [i64_w, i32_w]; rw [c15b0]) | skip)
           have H' := Aside0.mk H
           clear H
           go_wp2
           go_meet
           case rel => exact ⟨_, (wrap64 (((rd_T39 l0 (ji11)).f0) + 1)), (by first | rfl | (simp; done) | (simp only [← hji11] <;> (first | rfl | simp)) | (simp [*]; done)), H', ⟨by have := HJ1.out; have := HK2.out; first | omega | exact Nat.le_refl _⟩, ⟨by repeat (first | (with_reducible first | exact HB.out | apply below_alloc | apply pw_below_drewN | apply below_drew1) | exact HB.out)⟩⟩
          ·rw [if_neg c15] at H
           have c15b0 : decide (6 ≤ ((rd_T39 l0 (ji11)).f1)) = false := decide_eq_false c15
           clear c15
           (first | rw [c15b0] | (simp only [i64_w, i32_w]; rw [c15b0]) | skip)
           have H' := Aside0.mk H
           clear H
           go_wp2
           go_meet
           case rel => exact ⟨_, ((rd_T39 l0 (ji11)).f0), (by first | rfl | (simp; done) | (simp only [← hji11] <;> (first | rfl | simp)) | (simp [*]; done)), H', ⟨by have := HJ1.out; have := HK2.out; first | omega | exact Nat.le_refl _⟩, ⟨by repeat (first | (with_reducible first | exact HB.out | apply below_alloc | apply pw_below_drewN | apply below_drew1) | exact HB.out)⟩⟩
         case rest =>
          clear HC14
          try clear c1
          try clear p1
          try clear q1
          try clear hx1
          try clear qi1
          try clear p2
          try clear c3
          try clear c3b0
          try clear c3b1
          try clear c3b2
          try clear c4
          try clear c4b0
          try clear c4b1
          try clear c5
          try clear c5b0
          try clear c5b1
          try clear c6
          try clear c6b0
          try clear c6b1
          try clear p6
          try clear c9
          try clear c10
          try clear c10b0
          try clear p10
          try clear q10
          try clear hx10
          try clear qi10
          try clear p11
          try clear q11
          try clear hx11
          try clear qi11
          try clear c12
          try clear c12b0
          try clear c13
          try clear c13b0
          try clear c15
          try clear c15b0
          try clear hx109_0
          try clear hx109_1
          try clear hx109_2
          try clear hx109_3
          try clear hx109_4
          try clear hx110_0
          try clear hx110_1
          try clear hx110_2
          try clear hx110_3
          try clear hx110_4
          try clear hx111_0
          try clear hx111_1
          try clear hx111_2
          try clear hx111_3
          try clear hx111_4
          try clear hx113_0
          try clear hx113_1
          try clear hx113_2
          try clear hx113_3
          try clear hx113_4
          try clear hx114_0
          try clear hx114_1
          try clear hx114_2
          try clear hx114_3
          try clear hx114_4
          try clear p1
          try clear p109
          try clear p110
          try clear p111
          try clear p113
          try clear p114
          try clear p2
          try clear q1
          try clear q109
          try clear q110
          try clear q111
          try clear q113
          try clear q114
          obtain ⟨kq, x4_13, rfl, HA, HJ13, HB⟩ := hcut
          cases kq with
          | zero => exact absurd HA.out (by simp [cracknelref08_Right.j2])
          | succ kj13 =>
           have H := HA.out
           clear HA
           simp only [cracknelref08_Right.j2] at H
           have HC16 := Aside0.mk H
           clear H
           go_upto_region 9 with (fail)
           go_cut [73] (fun v73 wc => ∃ (kq : Nat) (x73_15 : Bool), v73 = .bool x73_15 ∧ Aside0 (cracknelref08_Right.j3 kq l0 x3_2 x73_15 = some r) ∧ Aside0 (kq ≤ kj13) ∧ Aside0 (Below w.heap.size w wc))
           case first =>
            have H := HC16.out
            clear HC16
            by_cases c17 : 0 ≤ x3_2
            ·rw [if_pos c17] at H
             have c17b0 : decide (0 ≤ x3_2) = true := decide_eq_true c17
             clear c17
             (first | rw [c17b0] | (simp only [i64_w, i32_w]; rw [c17b0]) | skip)
             by_cases c18 : x3_2 < (l0.length : Int)
             ·rw [if_pos c18] at H
              have c18b0 : decide (x3_2 < (l0.length : Int)) = true := decide_eq_true c18
              clear c18
              replace H := Option.bind_eq_some_iff.mp H
              obtain ⟨t116, A190, H⟩ := H
              replace H : (if t116 = true then (if ((rd_T39 l0 x3_2).f0) < 1 then (cracknelref08_Right.j3 kj13 l0 x3_2 true) else (cracknelref08_Right.j3 kj13 l0 x3_2 (decide (((rd_T39 l0 x3_2).f0) > x4_13)))) else (cracknelref08_Right.j3 kj13 l0 x3_2 true)) = some r := H
              have A19 := Aside0.mk A190
              clear A190
              by_cases c20 : t116 = true
              ·subst c20
               have H1 : (if ((rd_T39 l0 x3_2).f0) < 1 then (cracknelref08_Right.j3 kj13 l0 x3_2 true) else (cracknelref08_Right.j3 kj13 l0 x3_2 (decide (((rd_T39 l0 x3_2).f0) > x4_13)))) = some r := by rw [if_pos rfl] at H; exact H
               clear H
               have H := H1
               clear H1
               by_cases c21 : ((rd_T39 l0 x3_2).f0) < 1
               ·rw [if_pos c21] at H
                have c21b0 : decide (((rd_T39 l0 x3_2).f0) < 1) = true := decide_eq_true c21
                clear c21
                have H' := Aside0.mk H
                clear H
                have p115 : 0 ≤ (x3_2 : Int) := of_decide_eq_true (by first | (with_reducible assumption) | assumption)
                have q115 : x3_2 < (l0.length : Int) := of_decide_eq_true (by first | (with_reducible assumption) | assumption)
                obtain ⟨ad115, e115, hx115_0, hx115_1, hx115_2, hx115_3, hx115_4⟩ := at_T39 HR0.out x3_2 p115 q115
                obtain rfl : ad113 = ad115 := (by injection e115)
                replace hx115_0 := (HB.out.cell (World.block_lt_of_cell? w _ hx115_0)).trans hx115_0
                replace hx115_1 := (HB.out.cell (World.block_lt_of_cell? w _ hx115_1)).trans hx115_1
                replace hx115_2 := (HB.out.cell (World.block_lt_of_cell? w _ hx115_2)).trans hx115_2
                replace hx115_3 := (HB.out.cell (World.block_lt_of_cell? w _ hx115_3)).trans hx115_3
                replace hx115_4 := (HB.out.cell (World.block_lt_of_cell? w _ hx115_4)).trans hx115_4
                replace p115 := eq_true p115
                replace q115 := eq_true q115
                go_wp2_with (first | ((with_reducible refine gate_callee (f := 24) rfl ?_); refine goesL_ (some 55) rfl rfl Tryz.func24 (by kernel_rfl) rfl #[.agg #[.int .i64 ((rd_T39 l0 x3_2).f0), .int .i64 ((rd_T39 l0 x3_2).f1), .string ((rd_T39 l0 x3_2).f2), .string ((rd_T39 l0 x3_2).f3), .int .i64 ((rd_T39 l0 x3_2).f4)]] rfl (by (try simp only [List.map_toArray, List.map_cons, List.map_nil]); first | done | rfl | (simp only [List.length_drop, List.length_take]; rfl)) ?_; (with_reducible refine (cracknelref08_may.calls kj13 ((rd_T39 l0 x3_2).f0) ((rd_T39 l0 x3_2).f1) ((rd_T39 l0 x3_2).f2) ((rd_T39 l0 x3_2).f3) ((rd_T39 l0 x3_2).f4) true _ A19.out).mono ?_); rintro e w22 ⟨rfl, hb⟩; refine ⟨_, rfl, ?_⟩; have n0_ := Aside0.mk (below_step (by repeat (first | (with_reducible first | exact HB.out | apply below_alloc | apply pw_below_drewN | apply below_drew1) | exact HB.out)) hb); clear HB; have HB := n0_; clear n0_; (try clear hb); (try clear hb2); (try clear hk); (try clear hi); have p117 : 0 ≤ (x3_2 : Int) := of_decide_eq_true (by first | (with_reducible assumption) | assumption); have q117 : x3_2 < (l0.length : Int) := of_decide_eq_true (by first | (with_reducible assumption) | assumption); obtain ⟨ad117, e117, hx117_0, hx117_1, hx117_2, hx117_3, hx117_4⟩ := at_T39 HR0.out x3_2 p117 q117; obtain rfl : ad113 = ad117 := (by injection e117); replace hx117_0 := (HB.out.cell (World.block_lt_of_cell? w _ hx117_0)).trans hx117_0; replace hx117_1 := (HB.out.cell (World.block_lt_of_cell? w _ hx117_1)).trans hx117_1; replace hx117_2 := (HB.out.cell (World.block_lt_of_cell? w _ hx117_2)).trans hx117_2; replace hx117_3 := (HB.out.cell (World.block_lt_of_cell? w _ hx117_3)).trans hx117_3; replace hx117_4 := (HB.out.cell (World.block_lt_of_cell? w _ hx117_4)).trans hx117_4; replace p117 := eq_true p117; replace q117 := eq_true q117))
                go_meet
                case rel => exact ⟨_, (true), (by first | rfl | (simp; done) | (simp [*]; done)), H', ⟨by have := HJ1.out; have := HK2.out; have := HJ13.out; first | omega | exact Nat.le_refl _⟩, ⟨by repeat (first | (with_reducible first | exact HB.out | apply below_alloc | apply pw_below_drewN | apply below_drew1) | exact HB.out)⟩⟩
               ·rw [if_neg c21] at H
                have c21b0 : decide (((rd_T39 l0 x3_2).f0) < 1) = false := decide_eq_false c21
                clear c21
                have H' := Aside0.mk H
                clear H
                have p115 : 0 ≤ (x3_2 : Int) := of_decide_eq_true (by first | (with_reducible assumption) | assumption)
                have q115 : x3_2 < (l0.length : Int) := of_decide_eq_true (by first | (with_reducible assumption) | assumption)
                obtain ⟨ad115, e115, hx115_0, hx115_1, hx115_2, hx115_3, hx115_4⟩ := at_T39 HR0.out x3_2 p115 q115
                obtain rfl : ad113 = ad115 := (by injection e115)
                replace hx115_0 := (HB.out.cell (World.block_lt_of_cell? w _ hx115_0)).trans hx115_0
                replace hx115_1 := (HB.out.cell (World.block_lt_of_cell? w _ hx115_1)).trans hx115_1
                replace hx115_2 := (HB.out.cell (World.block_lt_of_cell? w _ hx115_2)).trans hx115_2
                replace hx115_3 := (HB.out.cell (World.block_lt_of_cell? w _ hx115_3)).trans hx115_3
                replace hx115_4 := (HB.out.cell (World.block_lt_of_cell? w _ hx115_4)).trans hx115_4
                replace p115 := eq_true p115
                replace q115 := eq_true q115
                go_wp2_with (first | ((with_reducible refine gate_callee (f := 24) rfl ?_); refine goesL_ (some 55) rfl rfl Tryz.func24 (by kernel_rfl) rfl #[.agg #[.int .i64 ((rd_T39 l0 x3_2).f0), .int .i64 ((rd_T39 l0 x3_2).f1), .string ((rd_T39 l0 x3_2).f2), .string ((rd_T39 l0 x3_2).f3), .int .i64 ((rd_T39 l0 x3_2).f4)]] rfl (by (try simp only [List.map_toArray, List.map_cons, List.map_nil]); first | done | rfl | (simp only [List.length_drop, List.length_take]; rfl)) ?_; (with_reducible refine (cracknelref08_may.calls kj13 ((rd_T39 l0 x3_2).f0) ((rd_T39 l0 x3_2).f1) ((rd_T39 l0 x3_2).f2) ((rd_T39 l0 x3_2).f3) ((rd_T39 l0 x3_2).f4) true _ A19.out).mono ?_); rintro e w23 ⟨rfl, hb⟩; refine ⟨_, rfl, ?_⟩; have n0_ := Aside0.mk (below_step (by repeat (first | (with_reducible first | exact HB.out | apply below_alloc | apply pw_below_drewN | apply below_drew1) | exact HB.out)) hb); clear HB; have HB := n0_; clear n0_; (try clear hb); (try clear hb2); (try clear hk); (try clear hi); have p117 : 0 ≤ (x3_2 : Int) := of_decide_eq_true (by first | (with_reducible assumption) | assumption); have q117 : x3_2 < (l0.length : Int) := of_decide_eq_true (by first | (with_reducible assumption) | assumption); obtain ⟨ad117, e117, hx117_0, hx117_1, hx117_2, hx117_3, hx117_4⟩ := at_T39 HR0.out x3_2 p117 q117; obtain rfl : ad113 = ad117 := (by injection e117); replace hx117_0 := (HB.out.cell (World.block_lt_of_cell? w _ hx117_0)).trans hx117_0; replace hx117_1 := (HB.out.cell (World.block_lt_of_cell? w _ hx117_1)).trans hx117_1; replace hx117_2 := (HB.out.cell (World.block_lt_of_cell? w _ hx117_2)).trans hx117_2; replace hx117_3 := (HB.out.cell (World.block_lt_of_cell? w _ hx117_3)).trans hx117_3; replace hx117_4 := (HB.out.cell (World.block_lt_of_cell? w _ hx117_4)).trans hx117_4; replace p117 := eq_true p117; replace q117 := eq_true q117; have p118 : 0 ≤ (x3_2 : Int) := of_decide_eq_true (by first | (with_reducible assumption) | assumption); have q118 : x3_2 < (l0.length : Int) := of_decide_eq_true (by first | (with_reducible assumption) | assumption); obtain ⟨ad118, e118, hx118_0, hx118_1, hx118_2, hx118_3, hx118_4⟩ := at_T39 HR0.out x3_2 p118 q118; obtain rfl : ad113 = ad118 := (by injection e118); replace hx118_0 := (HB.out.cell (World.block_lt_of_cell? w _ hx118_0)).trans hx118_0; replace hx118_1 := (HB.out.cell (World.block_lt_of_cell? w _ hx118_1)).trans hx118_1; replace hx118_2 := (HB.out.cell (World.block_lt_of_cell? w _ hx118_2)).trans hx118_2; replace hx118_3 := (HB.out.cell (World.block_lt_of_cell? w _ hx118_3)).trans hx118_3; replace hx118_4 := (HB.out.cell (World.block_lt_of_cell? w _ hx118_4)).trans hx118_4; replace p118 := eq_true p118; replace q118 := eq_true q118))
                go_meet
                case rel => exact ⟨_, (decide (((rd_T39 l0 x3_2).f0) > x4_13)), (by first | rfl | (simp; done) | (simp [*]; done)), H', ⟨by have := HJ1.out; have := HK2.out; have := HJ13.out; first | omega | exact Nat.le_refl _⟩, ⟨by repeat (first | (with_reducible first | exact HB.out | apply below_alloc | apply pw_below_drewN | apply below_drew1) | exact HB.out)⟩⟩
              ·replace c20 := Bool.eq_false_iff.mpr c20
               subst c20
               have H1 : (cracknelref08_Right.j3 kj13 l0 x3_2 true) = some r := by rw [if_neg (show ¬ (false = true) by decide)] at H; exact H
               clear H
               have H := H1
               clear H1
               have H' := Aside0.mk H
               clear H
               have p115 : 0 ≤ (x3_2 : Int) := of_decide_eq_true (by first | (with_reducible assumption) | assumption)
               have q115 : x3_2 < (l0.length : Int) := of_decide_eq_true (by first | (with_reducible assumption) | assumption)
               obtain ⟨ad115, e115, hx115_0, hx115_1, hx115_2, hx115_3, hx115_4⟩ := at_T39 HR0.out x3_2 p115 q115
               obtain rfl : ad113 = ad115 := (by injection e115)
               replace hx115_0 := (HB.out.cell (World.block_lt_of_cell? w _ hx115_0)).trans hx115_0
               replace hx115_1 := (HB.out.cell (World.block_lt_of_cell? w _ hx115_1)).trans hx115_1
               replace hx115_2 := (HB.out.cell (World.block_lt_of_cell? w _ hx115_2)).trans hx115_2
               replace hx115_3 := (HB.out.cell (World.block_lt_of_cell? w _ hx115_3)).trans hx115_3
               replace hx115_4 := (HB.out.cell (World.block_lt_of_cell? w _ hx115_4)).trans hx115_4
               replace p115 := eq_true p115
               replace q115 := eq_true q115
               go_wp2_with (first | ((with_reducible refine gate_callee (f := 24) rfl ?_); refine goesL_ (some 55) rfl rfl Tryz.func24 (by kernel_rfl) rfl #[.agg #[.int .i64 ((rd_T39 l0 x3_2).f0), .int .i64 ((rd_T39 l0 x3_2).f1), .string ((rd_T39 l0 x3_2).f2), .string ((rd_T39 l0 x3_2).f3), .int .i64 ((rd_T39 l0 x3_2).f4)]] rfl (by (try simp only [List.map_toArray, List.map_cons, List.map_nil]); first | done | rfl | (simp only [List.length_drop, List.length_take]; rfl)) ?_; (with_reducible refine (cracknelref08_may.calls kj13 ((rd_T39 l0 x3_2).f0) ((rd_T39 l0 x3_2).f1) ((rd_T39 l0 x3_2).f2) ((rd_T39 l0 x3_2).f3) ((rd_T39 l0 x3_2).f4) false _ A19.out).mono ?_); rintro e w24 ⟨rfl, hb⟩; refine ⟨_, rfl, ?_⟩; have n0_ := Aside0.mk (below_step (by repeat (first | (with_reducible first | exact HB.out | apply below_alloc | apply pw_below_drewN | apply below_drew1) | exact HB.out)) hb); clear HB; have HB := n0_; clear n0_; (try clear hb); (try clear hb2); (try clear hk); (try clear hi)))
               go_meet
               case rel => exact ⟨_, (true), (by first | rfl | (simp; done) | (simp [*]; done)), H', ⟨by have := HJ1.out; have := HK2.out; have := HJ13.out; first | omega | exact Nat.le_refl _⟩, ⟨by repeat (first | (with_reducible first | exact HB.out | apply below_alloc | apply pw_below_drewN | apply below_drew1) | exact HB.out)⟩⟩
             ·rw [if_neg c18] at H
              exact absurd H (by simp)
            ·rw [if_neg c17] at H
             exact absurd H (by simp)
           case rest =>
            clear HC16
            try clear c1
            try clear p1
            try clear q1
            try clear hx1
            try clear qi1
            try clear c2
            try clear p2
            try clear c3
            try clear c3b0
            try clear c3b1
            try clear c3b2
            try clear c4
            try clear c4b0
            try clear c4b1
            try clear c5
            try clear c5b0
            try clear c5b1
            try clear c6
            try clear c6b0
            try clear c6b1
            try clear p6
            try clear c9
            try clear c10
            try clear c10b0
            try clear p10
            try clear q10
            try clear hx10
            try clear qi10
            try clear p11
            try clear q11
            try clear hx11
            try clear qi11
            try clear c12
            try clear c12b0
            try clear c13
            try clear c13b0
            try clear c15
            try clear c15b0
            try clear c17
            try clear c17b0
            try clear c18
            try clear c18b0
            try clear c20
            try clear c21
            try clear c21b0
            try clear hx109_0
            try clear hx109_1
            try clear hx109_2
            try clear hx109_3
            try clear hx109_4
            try clear hx110_0
            try clear hx110_1
            try clear hx110_2
            try clear hx110_3
            try clear hx110_4
            try clear hx111_0
            try clear hx111_1
            try clear hx111_2
            try clear hx111_3
            try clear hx111_4
            try clear hx113_0
            try clear hx113_1
            try clear hx113_2
            try clear hx113_3
            try clear hx113_4
            try clear hx114_0
            try clear hx114_1
            try clear hx114_2
            try clear hx114_3
            try clear hx114_4
            try clear hx115_0
            try clear hx115_1
            try clear hx115_2
            try clear hx115_3
            try clear hx115_4
            try clear hx117_0
            try clear hx117_1
            try clear hx117_2
            try clear hx117_3
            try clear hx117_4
            try clear hx118_0
            try clear hx118_1
            try clear hx118_2
            try clear hx118_3
            try clear hx118_4
            try clear p1
            try clear p10
            try clear p109
            try clear p11
            try clear p110
            try clear p111
            try clear p113
            try clear p114
            try clear p115
            try clear p117
            try clear p118
            try clear p2
            try clear p6
            try clear q1
            try clear q10
            try clear q109
            try clear q11
            try clear q110
            try clear q111
            try clear q113
            try clear q114
            try clear q115
            try clear q117
            try clear q118
            obtain ⟨kq, x73_15, rfl, HA, HJ15, HB⟩ := hcut
            cases kq with
            | zero => exact absurd HA.out (by simp [cracknelref08_Right.j3])
            | succ kj15 =>
             have H := HA.out
             clear HA
             simp only [cracknelref08_Right.j3] at H
             by_cases c25 : x73_15 = true
             ·subst c25
              have H1 : (some false) = some r := by rw [if_pos rfl] at H; exact H
              clear H
              have H := H1
              clear H1
              obtain rfl := Option.some.inj H
              go_wp2
              go_ret
              exact ⟨by first | rfl | (simp [errW_none, errW_some] <;> rfl) | (simp only [← hji11]; first | rfl | (simp [errW_none, errW_some] <;> rfl)) | (simp [*, errW_none, errW_some] <;> rfl), by repeat (first | (with_reducible first | exact HB.out | apply below_alloc | apply pw_below_drewN | apply below_drew1) | exact HB.out)⟩
             ·replace c25 := Bool.eq_false_iff.mpr c25
              subst c25
              have H1 : ((cracknelref08_holder.f kj15 l0 x3_2).bind fun t119 => (if 0 ≤ t119 then (if t119 < (l0.length : Int) then (if ((rd_T39 l0 t119).f1) = 6 then (if 0 ≤ x3_2 then (if x3_2 < (l0.length : Int) then (cracknelref08_Right.j4 kj15 l0 x3_2 t119 (((rd_T39 l0 x3_2).f2).toList != ([] : List UInt8))) else (none)) else (none)) else (cracknelref08_Right.j4 kj15 l0 x3_2 t119 false)) else (none)) else (none))) = some r := by rw [if_neg (show ¬ (false = true) by decide)] at H; exact H
              clear H
              have H := H1
              clear H1
              replace H := Option.bind_eq_some_iff.mp H
              obtain ⟨t119, A260, H⟩ := H
              replace H : (if 0 ≤ t119 then (if t119 < (l0.length : Int) then (if ((rd_T39 l0 t119).f1) = 6 then (if 0 ≤ x3_2 then (if x3_2 < (l0.length : Int) then (cracknelref08_Right.j4 kj15 l0 x3_2 t119 (((rd_T39 l0 x3_2).f2).toList != ([] : List UInt8))) else (none)) else (none)) else (cracknelref08_Right.j4 kj15 l0 x3_2 t119 false)) else (none)) else (none)) = some r := H
              have A26 := Aside0.mk A260
              clear A260
              have HC27 := Aside0.mk H
              clear H
              go_upto_region 12 with (first | ((with_reducible refine gate_callee (f := 25) rfl ?_); refine goesL_ (some 76) rfl rfl Tryz.func25 (by kernel_rfl) rfl #[.slice (some ad113) l0.length c0, .int .i64 x3_2] rfl (by (try simp only [List.map_toArray, List.map_cons, List.map_nil]); first | done | rfl | (simp only [List.length_drop, List.length_take]; rfl)) ?_; (with_reducible refine (cracknelref08_holder.calls kj15 _ _ l0 x3_2 t119 _ ?side1 ?side2 A26.out).mono ?_); (case side1 => repeat (first | exact (Kd.C_below HR0.out HB.out) | (with_reducible refine Kd.C_alloc ?_ _) | (with_reducible refine Kd.C_drewN ?_ _) | (with_reducible refine Kd.C_drew ?_))); (case side2 => exact HC0.out); rintro e w' ⟨rfl, ⟨nd, rfl⟩⟩; refine ⟨_, rfl, ?_⟩))
              (try simp only [Act.put, qA, qB, qC])
              go_cut [90] (fun v90 wc => ∃ (kq : Nat) (x90_26 : Bool), v90 = .bool x90_26 ∧ Aside0 (cracknelref08_Right.j4 kq l0 x3_2 t119 x90_26 = some r) ∧ Aside0 (kq ≤ kj15) ∧ Aside0 (Below w.heap.size w wc))
              case first =>
               have H := HC27.out
               clear HC27
               by_cases c28 : 0 ≤ t119
               ·rw [if_pos c28] at H
                have c28b0 : decide (0 ≤ t119) = true := decide_eq_true c28
                clear c28
                (first | rw [c28b0] | (simp only [i64_w, i32_w]; rw [c28b0]) | skip)
                by_cases c29 : t119 < (l0.length : Int)
                ·rw [if_pos c29] at H
                 have c29b0 : decide (t119 < (l0.length : Int)) = true := decide_eq_true c29
                 clear c29
                 by_cases c30 : ((rd_T39 l0 t119).f1) = 6
                 ·rw [if_pos c30] at H
                  have c30b0 : (((rd_T39 l0 t119).f1) == 6) = true := beq_iff_eq.mpr c30
                  have c30b1 : (((rd_T39 l0 t119).f1) != 6) = false := bne_eq_false_iff_eq.mpr c30
                  clear c30
                  by_cases c31 : 0 ≤ x3_2
                  ·rw [if_pos c31] at H
                   have c31b0 : decide (0 ≤ x3_2) = true := decide_eq_true c31
                   clear c31
                   by_cases c32 : x3_2 < (l0.length : Int)
                   ·rw [if_pos c32] at H
                    have c32b0 : decide (x3_2 < (l0.length : Int)) = true := decide_eq_true c32
                    clear c32
                    have H' := Aside0.mk H
                    clear H
                    have p120 : 0 ≤ (t119 : Int) := of_decide_eq_true (by first | (with_reducible assumption) | assumption)
                    have q120 : t119 < (l0.length : Int) := of_decide_eq_true (by first | (with_reducible assumption) | assumption)
                    obtain ⟨ad120, e120, hx120_0, hx120_1, hx120_2, hx120_3, hx120_4⟩ := at_T39 HR0.out t119 p120 q120
                    obtain rfl : ad113 = ad120 := (by injection e120)
                    replace hx120_0 := (HB.out.cell (World.block_lt_of_cell? w _ hx120_0)).trans hx120_0
                    replace hx120_1 := (HB.out.cell (World.block_lt_of_cell? w _ hx120_1)).trans hx120_1
                    replace hx120_2 := (HB.out.cell (World.block_lt_of_cell? w _ hx120_2)).trans hx120_2
                    replace hx120_3 := (HB.out.cell (World.block_lt_of_cell? w _ hx120_3)).trans hx120_3
                    replace hx120_4 := (HB.out.cell (World.block_lt_of_cell? w _ hx120_4)).trans hx120_4
                    replace p120 := eq_true p120
                    replace q120 := eq_true q120
                    have p121 : 0 ≤ (x3_2 : Int) := of_decide_eq_true (by first | (with_reducible assumption) | assumption)
                    have q121 : x3_2 < (l0.length : Int) := of_decide_eq_true (by first | (with_reducible assumption) | assumption)
                    obtain ⟨ad121, e121, hx121_0, hx121_1, hx121_2, hx121_3, hx121_4⟩ := at_T39 HR0.out x3_2 p121 q121
                    obtain rfl : ad113 = ad121 := (by injection e121)
                    replace hx121_0 := (HB.out.cell (World.block_lt_of_cell? w _ hx121_0)).trans hx121_0
                    replace hx121_1 := (HB.out.cell (World.block_lt_of_cell? w _ hx121_1)).trans hx121_1
                    replace hx121_2 := (HB.out.cell (World.block_lt_of_cell? w _ hx121_2)).trans hx121_2
                    replace hx121_3 := (HB.out.cell (World.block_lt_of_cell? w _ hx121_3)).trans hx121_3
                    replace hx121_4 := (HB.out.cell (World.block_lt_of_cell? w _ hx121_4)).trans hx121_4
                    replace p121 := eq_true p121
                    replace q121 := eq_true q121
                    go_wp2
                    go_meet
                    case rel => exact ⟨_, ((((rd_T39 l0 x3_2).f2).toList != ([] : List UInt8))), (by first | rfl | (simp; done) | (simp [*]; done) | exact congrArg Value.bool (isE2 _) | (simp; exact isE _)), H', ⟨by have := HJ1.out; have := HK2.out; have := HJ13.out; have := HJ15.out; first | omega | exact Nat.le_refl _⟩, ⟨by repeat (first | (with_reducible first | exact HB.out | apply below_alloc | apply pw_below_drewN | apply below_drew1) | exact HB.out)⟩⟩
                   ·rw [if_neg c32] at H
                    exact absurd H (by simp)
                  ·rw [if_neg c31] at H
                   exact absurd H (by simp)
                 ·rw [if_neg c30] at H
                  have c30b0 : (((rd_T39 l0 t119).f1) == 6) = false := beq_eq_false_iff_ne.mpr c30
                  have c30b1 : (((rd_T39 l0 t119).f1) != 6) = true := bne_iff_ne.mpr c30
                  have H' := Aside0.mk H
                  clear H
                  have p120 : 0 ≤ (t119 : Int) := of_decide_eq_true (by first | (with_reducible assumption) | assumption)
                  have q120 : t119 < (l0.length : Int) := of_decide_eq_true (by first | (with_reducible assumption) | assumption)
                  obtain ⟨ad120, e120, hx120_0, hx120_1, hx120_2, hx120_3, hx120_4⟩ := at_T39 HR0.out t119 p120 q120
                  obtain rfl : ad113 = ad120 := (by injection e120)
                  replace hx120_0 := (HB.out.cell (World.block_lt_of_cell? w _ hx120_0)).trans hx120_0
                  replace hx120_1 := (HB.out.cell (World.block_lt_of_cell? w _ hx120_1)).trans hx120_1
                  replace hx120_2 := (HB.out.cell (World.block_lt_of_cell? w _ hx120_2)).trans hx120_2
                  replace hx120_3 := (HB.out.cell (World.block_lt_of_cell? w _ hx120_3)).trans hx120_3
                  replace hx120_4 := (HB.out.cell (World.block_lt_of_cell? w _ hx120_4)).trans hx120_4
                  replace p120 := eq_true p120
                  replace q120 := eq_true q120
                  go_wp2
                  go_meet
                  case rel => exact ⟨_, (false), (by first | rfl | (simp; done) | (simp [*]; done)), H', ⟨by have := HJ1.out; have := HK2.out; have := HJ13.out; have := HJ15.out; first | omega | exact Nat.le_refl _⟩, ⟨by repeat (first | (with_reducible first | exact HB.out | apply below_alloc | apply pw_below_drewN | apply below_drew1) | exact HB.out)⟩⟩
                ·rw [if_neg c29] at H
                 exact absurd H (by simp)
               ·rw [if_neg c28] at H
                exact absurd H (by simp)
              case rest =>
               clear HC27
               try clear c1
               try clear p1
               try clear q1
               try clear hx1
               try clear qi1
               try clear c2
               try clear p2
               try clear c3
               try clear c3b0
               try clear c3b1
               try clear c3b2
               try clear c4
               try clear c4b0
               try clear c4b1
               try clear c5
               try clear c5b0
               try clear c5b1
               try clear c6
               try clear c6b0
               try clear c6b1
               try clear p6
               try clear c9
               try clear c10
               try clear c10b0
               try clear p10
               try clear q10
               try clear hx10
               try clear qi10
               try clear p11
               try clear q11
               try clear hx11
               try clear qi11
               try clear c12
               try clear c12b0
               try clear p12
               try clear q12
               try clear hx12
               try clear c13
               try clear c13b0
               try clear c15
               try clear c15b0
               try clear c17
               try clear c17b0
               try clear c18
               try clear c18b0
               try clear c20
               try clear c21
               try clear c21b0
               try clear c25
               try clear c28
               try clear c28b0
               try clear c29
               try clear c29b0
               try clear c30
               try clear c30b0
               try clear c30b1
               try clear c31
               try clear c31b0
               try clear c32
               try clear c32b0
               try clear hx109_0
               try clear hx109_1
               try clear hx109_2
               try clear hx109_3
               try clear hx109_4
               try clear hx110_0
               try clear hx110_1
               try clear hx110_2
               try clear hx110_3
               try clear hx110_4
               try clear hx111_0
               try clear hx111_1
               try clear hx111_2
               try clear hx111_3
               try clear hx111_4
               try clear hx113_0
               try clear hx113_1
               try clear hx113_2
               try clear hx113_3
               try clear hx113_4
               try clear hx114_0
               try clear hx114_1
               try clear hx114_2
               try clear hx114_3
               try clear hx114_4
               try clear hx115_0
               try clear hx115_1
               try clear hx115_2
               try clear hx115_3
               try clear hx115_4
               try clear hx117_0
               try clear hx117_1
               try clear hx117_2
               try clear hx117_3
               try clear hx117_4
               try clear hx118_0
               try clear hx118_1
               try clear hx118_2
               try clear hx118_3
               try clear hx118_4
               try clear hx120_0
               try clear hx120_1
               try clear hx120_2
               try clear hx120_3
               try clear hx120_4
               try clear hx121_0
               try clear hx121_1
               try clear hx121_2
               try clear hx121_3
               try clear hx121_4
               try clear p1
               try clear p10
               try clear p109
               try clear p11
               try clear p110
               try clear p111
               try clear p113
               try clear p114
               try clear p115
               try clear p117
               try clear p118
               try clear p120
               try clear p121
               try clear p2
               try clear p6
               try clear q1
               try clear q10
               try clear q109
               try clear q11
               try clear q110
               try clear q111
               try clear q113
               try clear q114
               try clear q115
               try clear q117
               try clear q118
               try clear q120
               try clear q121
               obtain ⟨kq, x90_26, rfl, HA, HJ26, HB⟩ := hcut
               cases kq with
               | zero => exact absurd HA.out (by simp [cracknelref08_Right.j4])
               | succ kj26 =>
                have H := HA.out
                clear HA
                simp only [cracknelref08_Right.j4] at H
                by_cases c33 : x90_26 = true
                ·subst c33
                 have H1 : (some false) = some r := by rw [if_pos rfl] at H; exact H
                 clear H
                 have H := H1
                 clear H1
                 obtain rfl := Option.some.inj H
                 go_wp2
                 go_ret
                 exact ⟨by first | rfl | (simp [errW_none, errW_some] <;> rfl) | (simp only [← hji11]; first | rfl | (simp [errW_none, errW_some] <;> rfl)) | (simp [*, errW_none, errW_some] <;> rfl), by repeat (first | (with_reducible first | exact HB.out | apply below_alloc | apply pw_below_drewN | apply below_drew1) | exact HB.out)⟩
                ·replace c33 := Bool.eq_false_iff.mpr c33
                 subst c33
                 have H1 : (if 0 ≤ t119 then (if t119 < (l0.length : Int) then (if ((rd_T39 l0 t119).f1) = 7 then ((cracknelref08_alone.f kj26 l0 x3_2 t119).bind fun t123 => (if t123 = true then (cracknelref08_Right.l0 kj26 l0 (wrap64 (x3_2 + 1))) else (some false))) else (cracknelref08_Right.l0 kj26 l0 (wrap64 (x3_2 + 1)))) else (none)) else (none)) = some r := by rw [if_neg (show ¬ (false = true) by decide)] at H; exact H
                 clear H
                 have H := H1
                 clear H1
                 by_cases c34 : 0 ≤ t119
                 ·rw [if_pos c34] at H
                  have c34b0 : decide (0 ≤ t119) = true := decide_eq_true c34
                  clear c34
                  by_cases c35 : t119 < (l0.length : Int)
                  ·rw [if_pos c35] at H
                   have c35b0 : decide (t119 < (l0.length : Int)) = true := decide_eq_true c35
                   clear c35
                   by_cases c36 : ((rd_T39 l0 t119).f1) = 7
                   ·rw [if_pos c36] at H
                    have c36b0 : (((rd_T39 l0 t119).f1) == 7) = true := beq_iff_eq.mpr c36
                    have c36b1 : (((rd_T39 l0 t119).f1) != 7) = false := bne_eq_false_iff_eq.mpr c36
                    clear c36
                    replace H := Option.bind_eq_some_iff.mp H
                    obtain ⟨t123, A370, H⟩ := H
                    replace H : (if t123 = true then (cracknelref08_Right.l0 kj26 l0 (wrap64 (x3_2 + 1))) else (some false)) = some r := H
                    have A37 := Aside0.mk A370
                    clear A370
                    by_cases c38 : t123 = true
                    ·subst c38
                     have H1 : (cracknelref08_Right.l0 kj26 l0 (wrap64 (x3_2 + 1))) = some r := by rw [if_pos rfl] at H; exact H
                     clear H
                     have H := H1
                     clear H1
                     have H' := Aside0.mk H
                     clear H
                     have p122 : 0 ≤ (t119 : Int) := of_decide_eq_true (by first | (with_reducible assumption) | assumption)
                     have q122 : t119 < (l0.length : Int) := of_decide_eq_true (by first | (with_reducible assumption) | assumption)
                     obtain ⟨ad122, e122, hx122_0, hx122_1, hx122_2, hx122_3, hx122_4⟩ := at_T39 HR0.out t119 p122 q122
                     obtain rfl : ad113 = ad122 := (by injection e122)
                     replace hx122_0 := (HB.out.cell (World.block_lt_of_cell? w _ hx122_0)).trans hx122_0
                     replace hx122_1 := (HB.out.cell (World.block_lt_of_cell? w _ hx122_1)).trans hx122_1
                     replace hx122_2 := (HB.out.cell (World.block_lt_of_cell? w _ hx122_2)).trans hx122_2
                     replace hx122_3 := (HB.out.cell (World.block_lt_of_cell? w _ hx122_3)).trans hx122_3
                     replace hx122_4 := (HB.out.cell (World.block_lt_of_cell? w _ hx122_4)).trans hx122_4
                     replace p122 := eq_true p122
                     replace q122 := eq_true q122
                     go_wp2_with (first | (go_at_call 26; (with_reducible refine (cracknelref08_alone.calls kj26 _ _ l0 x3_2 t119 true _ ?side1 ?side2 A37.out).mono ?_); (case side1 => repeat (first | exact (Kd.C_below HR0.out HB.out) | (with_reducible refine Kd.C_alloc ?_ _) | (with_reducible refine Kd.C_drewN ?_ _) | (with_reducible refine Kd.C_drew ?_))); (case side2 => exact HC0.out); rintro e w' ⟨rfl, ⟨nd, rfl⟩⟩))
                     go_roundg kj26
                     case measure => have := HJ1.out; have := HK2.out; have := HJ13.out; have := HJ15.out; have := HJ26.out; omega
                     case rel => exact ⟨(wrap64 (x3_2 + 1)), (by first | rfl | (simp; done) | (simp [*]; done)), H', ⟨by have := HJ1.out; have := HK2.out; have := HJ13.out; have := HJ15.out; have := HJ26.out; omega⟩, ⟨by repeat (first | (with_reducible first | exact HB.out | apply below_alloc | apply pw_below_drewN | apply below_drew1) | exact HB.out)⟩⟩
                    ·replace c38 := Bool.eq_false_iff.mpr c38
                     subst c38
                     have H1 : (some false) = some r := by rw [if_neg (show ¬ (false = true) by decide)] at H; exact H
                     clear H
                     have H := H1
                     clear H1
                     obtain rfl := Option.some.inj H
                     have p122 : 0 ≤ (t119 : Int) := of_decide_eq_true (by first | (with_reducible assumption) | assumption)
                     have q122 : t119 < (l0.length : Int) := of_decide_eq_true (by first | (with_reducible assumption) | assumption)
                     obtain ⟨ad122, e122, hx122_0, hx122_1, hx122_2, hx122_3, hx122_4⟩ := at_T39 HR0.out t119 p122 q122
                     obtain rfl : ad113 = ad122 := (by injection e122)
                     replace hx122_0 := (HB.out.cell (World.block_lt_of_cell? w _ hx122_0)).trans hx122_0
                     replace hx122_1 := (HB.out.cell (World.block_lt_of_cell? w _ hx122_1)).trans hx122_1
                     replace hx122_2 := (HB.out.cell (World.block_lt_of_cell? w _ hx122_2)).trans hx122_2
                     replace hx122_3 := (HB.out.cell (World.block_lt_of_cell? w _ hx122_3)).trans hx122_3
                     replace hx122_4 := (HB.out.cell (World.block_lt_of_cell? w _ hx122_4)).trans hx122_4
                     replace p122 := eq_true p122
                     replace q122 := eq_true q122
                     go_wp2_with (first | (go_at_call 26; (with_reducible refine (cracknelref08_alone.calls kj26 _ _ l0 x3_2 t119 false _ ?side1 ?side2 A37.out).mono ?_); (case side1 => repeat (first | exact (Kd.C_below HR0.out HB.out) | (with_reducible refine Kd.C_alloc ?_ _) | (with_reducible refine Kd.C_drewN ?_ _) | (with_reducible refine Kd.C_drew ?_))); (case side2 => exact HC0.out); rintro e w' ⟨rfl, ⟨nd, rfl⟩⟩))
                     go_ret
                     exact ⟨by first | rfl | (simp [errW_none, errW_some] <;> rfl) | (simp only [← hji11]; first | rfl | (simp [errW_none, errW_some] <;> rfl)) | (simp [*, errW_none, errW_some] <;> rfl), by repeat (first | (with_reducible first | exact HB.out | apply below_alloc | apply pw_below_drewN | apply below_drew1) | exact HB.out)⟩
                   ·rw [if_neg c36] at H
                    have c36b0 : (((rd_T39 l0 t119).f1) == 7) = false := beq_eq_false_iff_ne.mpr c36
                    have c36b1 : (((rd_T39 l0 t119).f1) != 7) = true := bne_iff_ne.mpr c36
                    have H' := Aside0.mk H
                    clear H
                    have p122 : 0 ≤ (t119 : Int) := of_decide_eq_true (by first | (with_reducible assumption) | assumption)
                    have q122 : t119 < (l0.length : Int) := of_decide_eq_true (by first | (with_reducible assumption) | assumption)
                    obtain ⟨ad122, e122, hx122_0, hx122_1, hx122_2, hx122_3, hx122_4⟩ := at_T39 HR0.out t119 p122 q122
                    obtain rfl : ad113 = ad122 := (by injection e122)
                    replace hx122_0 := (HB.out.cell (World.block_lt_of_cell? w _ hx122_0)).trans hx122_0
                    replace hx122_1 := (HB.out.cell (World.block_lt_of_cell? w _ hx122_1)).trans hx122_1
                    replace hx122_2 := (HB.out.cell (World.block_lt_of_cell? w _ hx122_2)).trans hx122_2
                    replace hx122_3 := (HB.out.cell (World.block_lt_of_cell? w _ hx122_3)).trans hx122_3
                    replace hx122_4 := (HB.out.cell (World.block_lt_of_cell? w _ hx122_4)).trans hx122_4
                    replace p122 := eq_true p122
                    replace q122 := eq_true q122
                    go_wp2
                    go_roundg kj26
                    case measure => have := HJ1.out; have := HK2.out; have := HJ13.out; have := HJ15.out; have := HJ26.out; omega
                    case rel => exact ⟨(wrap64 (x3_2 + 1)), (by first | rfl | (simp; done) | (simp [*]; done)), H', ⟨by have := HJ1.out; have := HK2.out; have := HJ13.out; have := HJ15.out; have := HJ26.out; omega⟩, ⟨by repeat (first | (with_reducible first | exact HB.out | apply below_alloc | apply pw_below_drewN | apply below_drew1) | exact HB.out)⟩⟩
                  ·rw [if_neg c35] at H
                   exact absurd H (by simp)
                 ·rw [if_neg c34] at H
                  exact absurd H (by simp)
        ·rw [if_neg c13] at H
         exact absurd H (by simp)
       ·rw [if_neg c12] at H
        exact absurd H (by simp)
      ·rw [if_neg c10] at H
       have c10b0 : decide (x3_2 < (l0.length : Int)) = false := decide_eq_false c10
       clear c10
       obtain rfl := Option.some.inj H
       go_wp2
       go_ret
       exact ⟨by first | rfl | (simp [errW_none, errW_some] <;> rfl) | (simp [*, errW_none, errW_some] <;> rfl), by repeat (first | (with_reducible first | exact HB.out | apply below_alloc | apply pw_below_drewN | apply below_drew1) | exact HB.out)⟩
end Go.Proofs.YthhmmaihbjhhgaaGreatDoor.J2
namespace Go.Proofs.YthhmmaihbjhhgaaGreatDoor.J2
open Go.Proofs.YthhmmaihbjhhgaaGreatDoor.Giv Go.Proofs.YthhmmaihbjhhgaaGreatDoor.U1 Go.Proofs.YthhmmaihbjhhgaaGreatDoor.Q1 Go.Proofs.YthhmmaihbjhhgaaGreatDoor.J0 Go.Proofs.YthhmmaihbjhhgaaGreatDoor.J1 Go.RowKit Go.Proofs.YthhmmaihbjhhgaaGreatDoorW.PrintWords Go.Proofs.YthhmmaihbjhhgaaGreatDoorW.PrintLast Go.Proofs.YthhmmaihbjhhgaaGreatDoorW.PrintMore
attribute [local go_sem] max2_int min2_int max_two min_two max_three min_three max_four min_four
set_option linter.unusedVariables false
set_option linter.unusedSimpArgs false
attribute [local go_sem high] eqA39
def cracknelref08_Same.l0 : Nat → List (S39) → List (S39) → Int → Option (Bool)
 | 0, _, _, _ => none
 | k + 1, x0, x1, x5 => if x5 < (x0.length : Int) then (if 0 ≤ x5 then (if x5 < (x1.length : Int) then (if (!(((rd_T39 x0 x5).f0) == ((rd_T39 x1 x5).f0)) || (!(((rd_T39 x0 x5).f1) == ((rd_T39 x1 x5).f1)) || (!((((rd_T39 x0 x5).f2).toList) == (((rd_T39 x1 x5).f2).toList)) || (!((((rd_T39 x0 x5).f3).toList) == (((rd_T39 x1 x5).f3).toList)) || (!(((rd_T39 x0 x5).f4) == ((rd_T39 x1 x5).f4))))))) = true then (some false) else (cracknelref08_Same.l0 k x0 x1 (wrap64 (x5 + 1)))) else (none)) else (none)) else (some true)
def cracknelref08_Same.f (k : Nat) (l0 : List (S39)) (l1 : List (S39)) : Option (Bool) := if (l0.length : Int) = (l1.length : Int) then (cracknelref08_Same.l0 k l0 l1 0) else (some false)
set_option maxHeartbeats 8000000 in
set_option maxRecDepth 100000 in
theorem cracknelref08_Same.calls (k : Nat) (A0 : Option Addr) (c0 : Nat) (l0 : List (S39)) (A1 : Option Addr) (c1 : Nat) (l1 : List (S39)) (r : Bool) (w : World) (hr0 : Kd.C k39 w A0 l0.length l0) (hc0 : l0.length ≤ c0) (hr1 : Kd.C k39 w A1 l1.length l1) (hc1 : l1.length ≤ c1) (h : cracknelref08_Same.f k l0 l1 = some r) :
  Calls Tryz.prog 12 #[.slice A0 l0.length c0, .slice A1 l1.length c1] w fun e w' => e = .returned (.bool r) ∧ Drawn0 w w' := by
 have hu39 := Tryz.underlying39
 have HR0 := Aside0.mk hr0
 have HC0 := Aside0.mk hc0
 clear hr0 hc0
 have HR1 := Aside0.mk hr1
 have HC1 := Aside0.mk hc1
 clear hr1 hc1
 have H : (if (l0.length : Int) = (l1.length : Int) then (cracknelref08_Same.l0 k l0 l1 0) else (some false)) = some r := h
 clear h
 by_cases c3 : (l0.length : Int) = (l1.length : Int)
 ·rw [if_pos c3] at H
  have c3b0 : ((l0.length : Int) == (l1.length : Int)) = true := beq_iff_eq.mpr c3
  have c3b1 : ((l0.length : Int) != (l1.length : Int)) = false := bne_eq_false_iff_eq.mpr c3
  have c3b2 : (l0.length == l1.length) = true := by first | simpa using c3 | (simp at c3 ⊢; omega)
  clear c3
  have H' := Aside0.mk H
  clear H
  go_enter Tryz.func12, Tryz.ntmps12
  go_wp2
  repeat (go_quiet (fail); try go_wp2)
  go_loopg [5] k (fun kq v5 w' => ∃ (x5_1 : Int), v5 = .int .i64 x5_1 ∧ Aside0 (cracknelref08_Same.l0 kq l0 l1 x5_1 = some r) ∧ Aside0 (kq ≤ k) ∧ Drawn0 w w')
  case atStart => exact ⟨(0), (by first | rfl | (simp; done) | (simp [*]; done)), H', ⟨Nat.le_refl _⟩, by repeat (first | exact Drawn0.refl _ | apply Drawn0.step)⟩
  case round =>
   clear H'
   try clear c1
   try clear p2
   try clear c3
   try clear c3b0
   try clear c3b1
   try clear c3b2
   obtain ⟨x5_1, rfl, HA, HK1, ⟨m1, rfl⟩⟩ := hrel
   cases gk with
   | zero => exact absurd HA.out (by simp [cracknelref08_Same.l0])
   | succ k1 =>
    have H := HA.out
    clear HA
    simp only [cracknelref08_Same.l0] at H
    by_cases c4 : x5_1 < (l0.length : Int)
    ·rw [if_pos c4] at H
     have c4b0 : decide (x5_1 < (l0.length : Int)) = true := decide_eq_true c4
     clear c4
     by_cases c5 : 0 ≤ x5_1
     ·rw [if_pos c5] at H
      have c5b0 : decide (0 ≤ x5_1) = true := decide_eq_true c5
      clear c5
      by_cases c6 : x5_1 < (l1.length : Int)
      ·rw [if_pos c6] at H
       have c6b0 : decide (x5_1 < (l1.length : Int)) = true := decide_eq_true c6
       clear c6
       by_cases c7 : (!(((rd_T39 l0 x5_1).f0) == ((rd_T39 l1 x5_1).f0)) || (!(((rd_T39 l0 x5_1).f1) == ((rd_T39 l1 x5_1).f1)) || (!((((rd_T39 l0 x5_1).f2).toList) == (((rd_T39 l1 x5_1).f2).toList)) || (!((((rd_T39 l0 x5_1).f3).toList) == (((rd_T39 l1 x5_1).f3).toList)) || (!(((rd_T39 l0 x5_1).f4) == ((rd_T39 l1 x5_1).f4))))))) = true
       ·rw [if_pos c7] at H
        have c7b0 : (!(((rd_T39 l0 x5_1).f0) == ((rd_T39 l1 x5_1).f0)) || (!(((rd_T39 l0 x5_1).f1) == ((rd_T39 l1 x5_1).f1)) || (!((((rd_T39 l0 x5_1).f2).toList) == (((rd_T39 l1 x5_1).f2).toList)) || (!((((rd_T39 l0 x5_1).f3).toList) == (((rd_T39 l1 x5_1).f3).toList)) || (!(((rd_T39 l0 x5_1).f4) == ((rd_T39 l1 x5_1).f4))))))) = true := c7
        clear c7
        obtain rfl := Option.some.inj H
        have p124 : 0 ≤ (x5_1 : Int) := of_decide_eq_true (by first | (with_reducible assumption) | assumption)
        have q124 : x5_1 < (l0.length : Int) := of_decide_eq_true (by first | (with_reducible assumption) | assumption)
        obtain ⟨ad124, e124, hx124_0, hx124_1, hx124_2, hx124_3, hx124_4⟩ := at_T39 HR0.out x5_1 p124 q124
        cases e124
        replace p124 := eq_true p124
        replace q124 := eq_true q124
        have p125 : 0 ≤ (x5_1 : Int) := of_decide_eq_true (by first | (with_reducible assumption) | assumption)
        have q125 : x5_1 < (l1.length : Int) := of_decide_eq_true (by first | (with_reducible assumption) | assumption)
        obtain ⟨ad125, e125, hx125_0, hx125_1, hx125_2, hx125_3, hx125_4⟩ := at_T39 HR1.out x5_1 p125 q125
        cases e125
        replace p125 := eq_true p125
        replace q125 := eq_true q125
        go_wp2
        repeat (go_quiet (fail); try go_wp2)
        go_ret
        exact ⟨by first | rfl | (simp; done) | (simp [*]; done), by repeat (first | exact Drawn0.refl _ | apply Drawn0.step)⟩
       ·rw [if_neg c7] at H
        have c7b0 : (!(((rd_T39 l0 x5_1).f0) == ((rd_T39 l1 x5_1).f0)) || (!(((rd_T39 l0 x5_1).f1) == ((rd_T39 l1 x5_1).f1)) || (!((((rd_T39 l0 x5_1).f2).toList) == (((rd_T39 l1 x5_1).f2).toList)) || (!((((rd_T39 l0 x5_1).f3).toList) == (((rd_T39 l1 x5_1).f3).toList)) || (!(((rd_T39 l0 x5_1).f4) == ((rd_T39 l1 x5_1).f4))))))) = false := by simpa using c7
        clear c7
        have H' := Aside0.mk H
        clear H
        have p124 : 0 ≤ (x5_1 : Int) := of_decide_eq_true (by first | (with_reducible assumption) | assumption)
        have q124 : x5_1 < (l0.length : Int) := of_decide_eq_true (by first | (with_reducible assumption) | assumption)
        obtain ⟨ad124, e124, hx124_0, hx124_1, hx124_2, hx124_3, hx124_4⟩ := at_T39 HR0.out x5_1 p124 q124
        cases e124
        replace p124 := eq_true p124
        replace q124 := eq_true q124
        have p125 : 0 ≤ (x5_1 : Int) := of_decide_eq_true (by first | (with_reducible assumption) | assumption)
        have q125 : x5_1 < (l1.length : Int) := of_decide_eq_true (by first | (with_reducible assumption) | assumption)
        obtain ⟨ad125, e125, hx125_0, hx125_1, hx125_2, hx125_3, hx125_4⟩ := at_T39 HR1.out x5_1 p125 q125
        cases e125
        replace p125 := eq_true p125
        replace q125 := eq_true q125
        go_wp2
        repeat (go_quiet (fail); try go_wp2)
        go_roundg k1
        case measure => have := HK1.out; omega
        case rel => exact ⟨(wrap64 (x5_1 + 1)), (by first | rfl | (simp; done) | (simp [*]; done)), H', ⟨by have := HK1.out; omega⟩, by repeat (first | exact Drawn0.refl _ | apply Drawn0.step)⟩
      ·rw [if_neg c6] at H
       exact absurd H (by simp)
     ·rw [if_neg c5] at H
      exact absurd H (by simp)
    ·rw [if_neg c4] at H
     have c4b0 : decide (x5_1 < (l0.length : Int)) = false := decide_eq_false c4
     clear c4
     obtain rfl := Option.some.inj H
     go_wp2
     repeat (go_quiet (fail); try go_wp2)
     go_ret
     exact ⟨by first | rfl | (simp; done) | (simp [*]; done), by repeat (first | exact Drawn0.refl _ | apply Drawn0.step)⟩
 ·rw [if_neg c3] at H
  have c3b0 : ((l0.length : Int) == (l1.length : Int)) = false := beq_eq_false_iff_ne.mpr c3
  have c3b1 : ((l0.length : Int) != (l1.length : Int)) = true := bne_iff_ne.mpr c3
  have c3b2 : (l0.length == l1.length) = false := by first | simpa using c3 | (simp at c3 ⊢; omega)
  obtain rfl := Option.some.inj H
  go_enter Tryz.func12, Tryz.ntmps12
  go_wp2
  repeat (go_quiet (fail); try go_wp2)
  go_ret
  exact ⟨by first | rfl | (simp; done) | (simp [*]; done), by repeat (first | exact Drawn0.refl _ | apply Drawn0.step)⟩
end Go.Proofs.YthhmmaihbjhhgaaGreatDoor.J2
namespace Go.Proofs.YthhmmaihbjhhgaaGreatDoor.Giv
open Go.RowKit Go.Proofs.YthhmmaihbjhhgaaGreatDoorW.PrintWords Go.Proofs.YthhmmaihbjhhgaaGreatDoorW.PrintLast Go.Proofs.YthhmmaihbjhhgaaGreatDoorW.PrintMore
open Go.Proofs.YthhmmaihbjhhgaaGreatDoor.U1 Go.Proofs.YthhmmaihbjhhgaaGreatDoor.Q1 Go.Proofs.YthhmmaihbjhhgaaGreatDoor.J0 Go.Proofs.YthhmmaihbjhhgaaGreatDoor.J1 Go.Proofs.YthhmmaihbjhhgaaGreatDoor.J2
set_option linter.unusedSimpArgs false
set_option linter.unusedVariables false
abbrev V8 (s : ByteArray) : Prop := Lib.validD s.data.toList = true
def at8 (l : List S39) (i : Nat) : S39 := l.getD i z39
theorem rd_at8 (l : List S39) (i : Nat) : rd_T39 l (i : Int) = at8 l i := by unfold rd_T39 at8; rw [Int.toNat_natCast]
def Okz (x : S39) : Prop := x.f2.size ≤ 1000000 ∧ x.f3.size ≤ 1000000 ∧ I64 x.f0 ∧ I64 x.f1 ∧ I64 x.f4
def May (x : S39) : Prop := 1 ≤ x.f1 ∧ x.f1 ≤ 7 ∧ (x.f1 ≠ 4 → x.f4 = 0) ∧ (x.f1 ≠ 5 → x.f3.toList = []) ∧ x.f0 ≤ 64 ∧ (x.f0 = 64 → x.f1 < 6) ∧ V8 x.f2 ∧ V8 x.f3
theorem may_val (x : S39) (h : Okz x) (k : Nat) (hk : 1000020 < k) : ∃ b, cracknelref08_may.f k x.f0 x.f1 x.f2 x.f3 x.f4 = some b ∧ (b = true ↔ May x) := by
 obtain ⟨h2, h3, _⟩ := h
 unfold cracknelref08_may.f May
 by_cases c1 : x.f1 < 1 ∨ 7 < x.f1 ∨ (x.f1 ≠ 4 ∧ x.f4 ≠ 0) ∨ (x.f1 ≠ 5 ∧ x.f3.toList ≠ [])
 ·refine ⟨false, if_pos c1, ⟨fun e => by (cases e), ?_⟩⟩
  rintro ⟨a, b, c, d, _⟩
  rcases c1 with c1 | c1 | ⟨c1, c2⟩ | ⟨c1, c2⟩
  ·omega
  ·omega
  ·exact absurd (c c1) c2
  ·exact absurd (d c1) c2
 ·rw [if_neg c1]
  by_cases c2 : 64 < x.f0 ∨ (x.f0 = 64 ∧ 6 ≤ x.f1)
  ·exact ⟨false, if_pos c2, ⟨fun e => by (cases e), fun ⟨_, _, _, _, e, f, _⟩ => by rcases c2 with c2 | ⟨c2, c3⟩; omega; (have := f c2; omega)⟩⟩
  ·rw [if_neg c2, refValid k x.f2 (by omega) (by omega), Option.bind_some]
   have a1 : 1 ≤ x.f1 := by by_cases c : 1 ≤ x.f1; exact c; exact absurd (Or.inl (by omega)) c1
   have a2 : x.f1 ≤ 7 := by by_cases c : x.f1 ≤ 7; exact c; exact absurd (Or.inr (Or.inl (by omega))) c1
   have a3 : x.f1 ≠ 4 → x.f4 = 0 := fun e => by by_cases c : x.f4 = 0; exact c; exact absurd (Or.inr (Or.inr (Or.inl ⟨e, c⟩))) c1
   have a4 : x.f1 ≠ 5 → x.f3.toList = [] := fun e => by by_cases c : x.f3.toList = []; exact c; exact absurd (Or.inr (Or.inr (Or.inr ⟨e, c⟩))) c1
   have a5 : x.f0 ≤ 64 := by by_cases c : x.f0 ≤ 64; exact c; exact absurd (Or.inl (by omega)) c2
   have a6 : x.f0 = 64 → x.f1 < 6 := fun e => by by_cases c : x.f1 < 6; exact c; exact absurd (Or.inr ⟨e, by omega⟩) c2
   by_cases v : Lib.validD x.f2.data.toList = true
   ·rw [if_pos v, refValid k x.f3 (by omega) (by omega)]
    exact ⟨_, rfl, fun e => ⟨a1, a2, a3, a4, a5, a6, v, e⟩, fun e => e.2.2.2.2.2.2.2⟩
   ·rw [if_neg v]
    exact ⟨false, rfl, fun e => by (cases e), fun e => absurd e.2.2.2.2.2.2.1 v⟩
theorem bare_iff (x : S39) : sameI (toN x) (bareI (toN x)) = true ↔ (x.f1 ≠ 4 → x.f4 = 0) ∧ (x.f1 ≠ 5 → x.f3.toList = []) := by
 have e0' : (⟨#[]⟩ : ByteArray).toList = [] := by rw [Lib.toList_data]
 unfold sameI bareI toN
 simp only
 split
 ·next h => simp [h]
 ·next h =>
  split
  ·next h4 => simp [h4, e0']
  ·next h4 => simp [h, h4, e0', and_comm]
def RC (fst : Bool) (st : List LvS) (x : S39) : Prop := (0 ≤ x.f0 ∧ x.f0 < (st.length : Int) ∧ (x.f0 = 0 ↔ fst = true)) ∧ (1 ≤ x.f1 ∧ x.f1 ≤ 7 ∧ (x.f1 ≠ 4 → x.f4 = 0) ∧ (x.f1 ≠ 5 → x.f3.toList = [])) ∧ V8 x.f3 ∧
 (if (st.getD x.f0.toNat (0, [])).1 = 7 then V8 x.f2 ∧ x.f2 ∉ (st.getD x.f0.toNat (0, [])).2 else x.f2.toList = []) ∧ (6 ≤ x.f1 → x.f0 < 64)
def nxt (st : List LvS) (x : S39) : List LvS := st.take x.f0.toNat ++ (((st.getD x.f0.toNat (0, [])).1, if (st.getD x.f0.toNat (0, [])).1 = 7 then (st.getD x.f0.toNat (0, [])).2 ++ [x.f2] else (st.getD x.f0.toNat (0, [])).2) :: (if 6 ≤ x.f1 then [(x.f1, [])] else []))
theorem right_step (fst : Bool) (st : List LvS) (x : S39) (l : List S40) (hz : Okz x) (hk : ((st.getD x.f0.toNat (0, [])).2).length ≤ 1000000) :
  (RC fst st x → rightF fst st (toN x :: l) = rightF false (nxt st x) l) ∧ (¬ RC fst st x → rightF fst st (toN x :: l) = some false) := by
 obtain ⟨hz2, hz3, _⟩ := hz
 have hv2 := valid_fs x.f2 (by omega)
 have hv3 := valid_fs x.f3 (by omega)
 have hb := bare_iff x
 rw [rightF, show (toN x).f0 = x.f0 from rfl, show (toN x).f1 = x.f1 from rfl, show (toN x).f3 = x.f3 from rfl]
 generalize hq : st.getD x.f0.toNat (0, []) = q at *
 by_cases c1 : x.f0 < 0 ∨ (st.length : Int) ≤ x.f0 ∨ (x.f0 == 0) != fst
 ·rw [if_pos c1]
  refine ⟨fun ⟨⟨a, b, c⟩, _⟩ => ?_, fun _ => rfl⟩
  rcases c1 with c1 | c1 | c1
  ·omega
  ·omega
  ·exfalso
   by_cases z : x.f0 = 0
   ·rw [c.1 z, z] at c1; simp at c1
   ·have : fst = false := by cases fst; rfl; exact absurd (c.2 rfl) z
    rw [this] at c1; simp [z] at c1
 ·rw [if_neg c1]
  have d1 : 0 ≤ x.f0 := by by_cases c : 0 ≤ x.f0; exact c; exact absurd (Or.inl (by omega)) c1
  have d2 : x.f0 < (st.length : Int) := by by_cases c : x.f0 < (st.length : Int); exact c; exact absurd (Or.inr (Or.inl (by omega))) c1
  have d3 : x.f0 = 0 ↔ fst = true := by
   have c3 : ¬ ((x.f0 == 0) != fst) = true := fun e => c1 (Or.inr (Or.inr e))
   cases fst <;> simp at c3 <;> simp [c3]
  by_cases c2 : x.f1 < 1 ∨ 7 < x.f1 ∨ sameI (toN x) (bareI (toN x)) = false
  ·rw [if_pos c2]
   refine ⟨fun ⟨_, ⟨a, b, c⟩, _⟩ => ?_, fun _ => rfl⟩
   rcases c2 with c2 | c2 | c2
   ·omega
   ·omega
   ·rw [hb.2 c] at c2; cases c2
  ·rw [if_neg c2]
   have e1 : 1 ≤ x.f1 := by by_cases c : 1 ≤ x.f1; exact c; exact absurd (Or.inl (by omega)) c2
   have e2 : x.f1 ≤ 7 := by by_cases c : x.f1 ≤ 7; exact c; exact absurd (Or.inr (Or.inl (by omega))) c2
   have e3 := hb.1 (by cases h : sameI (toN x) (bareI (toN x)); exact absurd (Or.inr (Or.inr h)) c2; rfl)
   rw [hv3, Option.bind_some]
   by_cases v3 : Lib.validD x.f3.data.toList = true
   ·rw [v3, if_neg (by decide)]
    have hold : holdsI (toN x) = decide (6 ≤ x.f1) := by
     unfold holdsI toN
     by_cases c : 6 ≤ x.f1
     ·rw [decide_eq_true c]; simp; omega
     ·rw [decide_eq_false c]; simp; omega
    unfold memberF
    rw [show (toN x).f2 = x.f2 from rfl]
    unfold nxt RC
    rw [hq]
    by_cases c7 : q.1 = 7
    ·simp only [if_pos c7]
     rw [hv2, Option.bind_some]
     by_cases v2 : Lib.validD x.f2.data.toList = true
     ·rw [if_pos v2]
      by_cases hm : x.f2 ∈ q.2
      ·rw [if_pos ((hasB_iff _ _).2 hm), Option.bind_some, if_pos rfl]
       exact ⟨fun ⟨_, _, _, ⟨_, a⟩, _⟩ => absurd hm a, fun _ => rfl⟩
      ·rw [if_neg (fun e => hm ((hasB_iff _ _).1 e)), if_pos (by omega), Option.bind_some, if_neg (show ¬ true = false from Bool.noConfusion), hold]
       by_cases c6 : 6 ≤ x.f1
       ·rw [if_pos (decide_eq_true c6)]
        by_cases c64 : 64 ≤ x.f0
        ·rw [if_pos c64]
         exact ⟨fun ⟨_, _, _, _, a⟩ => by have := a c6; omega, fun _ => rfl⟩
        ·rw [if_neg c64]
         simp only [if_pos c6]
         exact ⟨fun _ => by trivial, fun n => absurd ⟨⟨d1, d2, d3⟩, ⟨e1, e2, e3⟩, v3, ⟨v2, hm⟩, fun _ => by omega⟩ n⟩
       ·rw [if_neg (by simpa using c6)]
        simp only [if_neg c6]
        exact ⟨fun _ => by trivial, fun n => absurd ⟨⟨d1, d2, d3⟩, ⟨e1, e2, e3⟩, v3, ⟨v2, hm⟩, fun a => absurd a c6⟩ n⟩
     ·rw [if_neg v2, Option.bind_some, if_pos rfl]
      exact ⟨fun ⟨_, _, _, ⟨a, _⟩, _⟩ => absurd a v2, fun _ => rfl⟩
    ·simp only [if_neg c7]
     rw [Option.bind_some]
     by_cases hm : x.f2.toList = []
     ·rw [hm, if_neg (show ¬ (([] : List UInt8)).isEmpty = false from Bool.noConfusion), hold]
      by_cases c6 : 6 ≤ x.f1
      ·rw [if_pos (decide_eq_true c6)]
       by_cases c64 : 64 ≤ x.f0
       ·rw [if_pos c64]
        exact ⟨fun ⟨_, _, _, _, a⟩ => by have := a c6; omega, fun _ => rfl⟩
       ·rw [if_neg c64]
        simp only [if_pos c6]
        exact ⟨fun _ => by trivial, fun n => absurd ⟨⟨d1, d2, d3⟩, ⟨e1, e2, e3⟩, v3, by trivial, fun _ => by omega⟩ n⟩
      ·rw [if_neg (by simpa using c6)]
       simp only [if_neg c6]
       exact ⟨fun _ => by trivial, fun n => absurd ⟨⟨d1, d2, d3⟩, ⟨e1, e2, e3⟩, v3, by trivial, fun a => absurd a c6⟩ n⟩
     ·rw [if_pos (by cases h : x.f2.toList; exact absurd h hm; rfl)]
      exact ⟨fun ⟨_, _, _, a, _⟩ => absurd a hm, fun _ => rfl⟩
   ·rw [if_pos (by simpa using v3)]
    exact ⟨fun ⟨_, _, a, _⟩ => absurd a v3, fun _ => rfl⟩
def mostN (l : List S39) (k : Nat) : Int := (at8 l (k - 1)).f0 + (if 6 ≤ (at8 l (k - 1)).f1 then 1 else 0)
structure Inv (l : List S39) (k : Nat) (st : List LvS) : Prop where
 len : (st.length : Int) = mostN l k + 1
 le65 : st.length ≤ 65
 lvl0 : st.getD 0 (0, []) = (6, [])
 pos : 1 ≤ st.length
 keys : ∀ d, ((st.getD d (0, [])).2).length ≤ k
 hold : ∀ d, 1 ≤ d → d < st.length → ∃ h, h < k ∧ (at8 l h).f0 = (d : Int) - 1 ∧ (∀ j, h < j → j < k → (at8 l j).f0 ≠ (d : Int) - 1) ∧ (st.getD d (0, [])).1 = (at8 l h).f1 ∧ ((at8 l h).f1 = 6 ∨ (at8 l h).f1 = 7) ∧
  ((at8 l h).f1 = 7 → ∀ key, key ∈ (st.getD d (0, [])).2 ↔ ∃ j, h < j ∧ j < k ∧ (at8 l j).f0 = d ∧ (at8 l j).f2 = key)
theorem nxt_len (st : List LvS) (x : S39) (h0 : 0 ≤ x.f0) (h1 : x.f0 < (st.length : Int)) : ((nxt st x).length : Int) = x.f0 + 1 + (if 6 ≤ x.f1 then 1 else 0) := by
 unfold nxt
 rw [List.length_append, List.length_take, List.length_cons]
 split <;> simp <;> omega
theorem nxt_lo (st : List LvS) (x : S39) (h0 : 0 ≤ x.f0) (h1 : x.f0 < (st.length : Int)) (d : Nat) (hd : (d : Int) < x.f0) : (nxt st x).getD d (0, []) = st.getD d (0, []) := by
 unfold nxt
 rw [List.getD_eq_getElem?_getD, List.getD_eq_getElem?_getD, List.getElem?_append_left (by rw [List.length_take]; omega), List.getElem?_take, if_pos (by omega)]; rfl
theorem nxt_at (st : List LvS) (x : S39) (h0 : 0 ≤ x.f0) (h1 : x.f0 < (st.length : Int)) (d : Nat) (hd : (d : Int) = x.f0) : (nxt st x).getD d (0, []) = ((st.getD d (0, [])).1, if (st.getD d (0, [])).1 = 7 then (st.getD d (0, [])).2 ++ [x.f2] else (st.getD d (0, [])).2) := by
 unfold nxt
 have e : x.f0.toNat = d := by omega
 have hl : (st.take d).length = d := by rw [List.length_take]; omega
 rw [e, List.getD_eq_getElem?_getD, List.getElem?_append_right (by omega), hl, Nat.sub_self]; rfl
theorem nxt_hi (st : List LvS) (x : S39) (h0 : 0 ≤ x.f0) (h1 : x.f0 < (st.length : Int)) (d : Nat) (hd : (d : Int) = x.f0 + 1) (h6 : 6 ≤ x.f1) : (nxt st x).getD d (0, []) = (x.f1, []) := by
 unfold nxt
 have hl : (st.take x.f0.toNat).length = d - 1 := by rw [List.length_take]; omega
 rw [List.getD_eq_getElem?_getD, List.getElem?_append_right (by omega), hl, if_pos h6, show d - (d - 1) = 1 by omega]; rfl
theorem nxt_out (st : List LvS) (x : S39) (h0 : 0 ≤ x.f0) (h1 : x.f0 < (st.length : Int)) (d : Nat) (hd : (nxt st x).length ≤ d) : (nxt st x).getD d (0, []) = (0, []) := by
 rw [List.getD_eq_getElem?_getD, List.getElem?_eq_none hd]; rfl
theorem nxt_keys (st : List LvS) (x : S39) (h0 : 0 ≤ x.f0) (h1 : x.f0 < (st.length : Int)) (k : Nat) (hk : ∀ d, ((st.getD d (0, [])).2).length ≤ k) (d : Nat) : (((nxt st x).getD d (0, [])).2).length ≤ k + 1 := by
 have hl := nxt_len st x h0 h1
 by_cases c1 : (d : Int) < x.f0
 ·rw [nxt_lo st x h0 h1 d c1]; have := hk d; omega
 ·by_cases c2 : (d : Int) = x.f0
  ·rw [nxt_at st x h0 h1 d c2]
   have := hk d
   simp only
   split
   ·rw [List.length_append, List.length_singleton]; omega
   ·omega
  ·by_cases c3 : (d : Int) = x.f0 + 1 ∧ 6 ≤ x.f1
   ·rw [nxt_hi st x h0 h1 d c3.1 c3.2]; exact Nat.zero_le _
   ·rw [nxt_out st x h0 h1 d (by split at hl <;> omega)]; exact Nat.zero_le _
theorem inv_step (l : List S39) (k : Nat) (st : List LvS) (hI : Inv l k st) (hk : 1 ≤ k) (hR : RC false st (at8 l k)) : Inv l (k + 1) (nxt st (at8 l k)) := by
 obtain ⟨⟨h0, h1, h2⟩, ⟨h3, h4, _⟩, _, hmem, h64⟩ := hR
 have hpos : 1 ≤ (at8 l k).f0 := by by_cases c : 1 ≤ (at8 l k).f0; exact c; (have := h2.1 (by omega); cases this)
 have hl := nxt_len st (at8 l k) h0 h1
 have hlen : ((nxt st (at8 l k)).length : Int) = mostN l (k + 1) + 1 := by
  rw [hl]; unfold mostN; rw [Nat.add_sub_cancel]; omega
 have h65 := hI.le65
 refine ⟨hlen, ?_, ?_, by split at hl <;> omega, nxt_keys st (at8 l k) h0 h1 k hI.keys, ?_⟩
 ·by_cases c : 6 ≤ (at8 l k).f1
  ·have := h64 c; rw [if_pos c] at hl; omega
  ·rw [if_neg c] at hl; omega
 ·rw [nxt_lo st (at8 l k) h0 h1 0 (by omega)]; exact hI.lvl0
 ·intro d hd1 hd2
  by_cases c1 : (d : Int) < (at8 l k).f0
  ·rw [nxt_lo st (at8 l k) h0 h1 d c1]
   obtain ⟨h, a1, a2, a3, a4, a5, a6⟩ := hI.hold d hd1 (by omega)
   refine ⟨h, by omega, a2, fun j hj1 hj2 => ?_, a4, a5, fun e key => ?_⟩
   ·by_cases e : j = k
    ·rw [e]; omega
    ·exact a3 j hj1 (by omega)
   ·rw [a6 e key]
    constructor
    ·rintro ⟨j, b1, b2, b3⟩; exact ⟨j, b1, by omega, b3⟩
    ·rintro ⟨j, b1, b2, b3, b4⟩
     refine ⟨j, b1, ?_, b3, b4⟩
     by_cases e : j = k
     ·rw [e] at b3; omega
     ·omega
  ·by_cases c2 : (d : Int) = (at8 l k).f0
   ·rw [nxt_at st (at8 l k) h0 h1 d c2]
    obtain ⟨h, a1, a2, a3, a4, a5, a6⟩ := hI.hold d hd1 (by omega)
    refine ⟨h, by omega, a2, fun j hj1 hj2 => ?_, a4, a5, fun e key => ?_⟩
    ·by_cases e : j = k
     ·rw [e]; omega
     ·exact a3 j hj1 (by omega)
    ·simp only
     rw [if_pos (a4.trans e), List.mem_append, a6 e key, List.mem_singleton]
     constructor
     ·rintro (⟨j, b1, b2, b3⟩ | b)
      ·exact ⟨j, b1, by omega, b3⟩
      ·exact ⟨k, a1, by omega, c2.symm, b.symm⟩
     ·rintro ⟨j, b1, b2, b3, b4⟩
      by_cases e : j = k
      ·rw [e] at b4; exact Or.inr b4.symm
      ·exact Or.inl ⟨j, b1, by omega, b3, b4⟩
   ·have c6 : 6 ≤ (at8 l k).f1 := by by_cases c : 6 ≤ (at8 l k).f1; exact c; (rw [if_neg c] at hl; omega)
    rw [if_pos c6] at hl
    have c3 : (d : Int) = (at8 l k).f0 + 1 := by omega
    rw [nxt_hi st (at8 l k) h0 h1 d c3 c6]
    refine ⟨k, by omega, by omega, fun j hj1 hj2 => by omega, rfl, by omega, fun e key => ⟨fun b => by (cases b), ?_⟩⟩
    rintro ⟨j, b1, b2, _⟩; omega
theorem inv_first (l : List S39) (hR : RC true [(6, [])] (at8 l 0)) : Inv l 1 (nxt [(6, [])] (at8 l 0)) := by
 obtain ⟨⟨h0, h1, h2⟩, ⟨h3, h4, _⟩, _, hmem, h64⟩ := hR
 have hz : (at8 l 0).f0 = 0 := h2.2 rfl
 have hl := nxt_len [(6, [])] (at8 l 0) h0 h1
 refine ⟨by rw [hl]; unfold mostN; rw [Nat.sub_self]; omega, by split at hl <;> omega, ?_, by split at hl <;> omega, nxt_keys [(6, [])] (at8 l 0) h0 h1 0 ?_, ?_⟩
 ·rw [nxt_at _ _ h0 h1 0 (by omega)]; rfl
 ·intro d
  cases d with
  | zero => exact Nat.le_refl _
  | succ d => exact Nat.le_refl _
 ·intro d hd1 hd2
  have c6 : 6 ≤ (at8 l 0).f1 := by by_cases c : 6 ≤ (at8 l 0).f1; exact c; (rw [if_neg c] at hl; omega)
  rw [if_pos c6] at hl
  rw [nxt_hi _ _ h0 h1 d (by omega) c6]
  refine ⟨0, by omega, by omega, fun j hj1 hj2 => by omega, rfl, by omega, fun e key => ⟨fun b => by (cases b), ?_⟩⟩
  rintro ⟨j, b1, b2, _⟩; omega
theorem ba_ext {a b : ByteArray} (h : a.toList = b.toList) : a = b := by
 rw [Lib.toList_data, Lib.toList_data] at h
 cases a; cases b
 exact congrArg ByteArray.mk (Array.toList_inj.1 h)
theorem v8_nil {s : ByteArray} (h : s.toList = []) : V8 s := by
 rw [Lib.toList_data] at h
 unfold V8
 rw [h]; decide +kernel
theorem holder_l0 (l : List S39) (p h : Nat) (hp : p < l.length) (hl : l.length ≤ 1000000) (hh : (at8 l h).f0 = (at8 l p).f0 - 1) (hw : 1 ≤ (at8 l p).f0 ∧ (at8 l p).f0 ≤ 64) (hno : ∀ j, h < j → j < p → (at8 l j).f0 ≠ (at8 l p).f0 - 1) :
  ∀ n k i, i - h = n → h ≤ i → i < p → n < k → cracknelref08_holder.l0 k l (p : Int) (i : Int) = some (h : Int)
 | 0, k, i, h1, h2, h3, h4 => by
  obtain ⟨k, rfl⟩ : ∃ m, k = m + 1 := ⟨k - 1, by omega⟩
  obtain rfl : i = h := by omega
  rw [cracknelref08_holder.l0, if_pos (by omega), if_pos (by omega), if_pos (by omega), if_pos (by omega), if_pos (by omega), rd_at8, rd_at8, w64 (by omega) (by omega), if_pos hh]
 | n + 1, k, i, h1, h2, h3, h4 => by
  obtain ⟨k, rfl⟩ : ∃ m, k = m + 1 := ⟨k - 1, by omega⟩
  rw [cracknelref08_holder.l0, if_pos (by omega), if_pos (by omega), if_pos (by omega), if_pos (by omega), if_pos (by omega), rd_at8, rd_at8, w64 (x := (at8 l p).f0 - 1) (by omega) (by omega), if_neg (hno i (by omega) h3), w64 (by omega) (by omega), show (i : Int) - 1 = ((i - 1 : Nat) : Int) by omega]
  exact holder_l0 l p h hp hl hh hw hno n k (i - 1) (by omega) (by omega) (by omega) (by omega)
theorem alone_l0 (l : List S39) (p : Nat) (hp : p < l.length) (hl : l.length ≤ 1000000) : ∀ n k j, p - j = n → j ≤ p → n < k → ∃ b, cracknelref08_alone.l0 k l (p : Int) (j : Int) = some b ∧ (b = true ↔ ∀ i, j ≤ i → i < p → (at8 l i).f0 = (at8 l p).f0 → (at8 l i).f2 ≠ (at8 l p).f2)
 | 0, k, j, h1, h2, h3 => by
  obtain ⟨k, rfl⟩ : ∃ m, k = m + 1 := ⟨k - 1, by omega⟩
  rw [cracknelref08_alone.l0, if_neg (by omega)]
  exact ⟨true, rfl, fun _ i a b => by omega, fun _ => rfl⟩
 | n + 1, k, j, h1, h2, h3 => by
  obtain ⟨k, rfl⟩ : ∃ m, k = m + 1 := ⟨k - 1, by omega⟩
  obtain ⟨b, hb, hi⟩ := alone_l0 l p hp hl n k (j + 1) (by omega) (by omega) (by omega)
  rw [cracknelref08_alone.l0, if_pos (by omega), if_pos (by omega), if_pos (by omega), if_pos (by omega), if_pos (by omega), rd_at8, rd_at8, w64 (x := (j : Int) + 1) (by omega) (by omega), show (j : Int) + 1 = ((j + 1 : Nat) : Int) by omega, hb]
  by_cases c1 : (at8 l j).f0 = (at8 l p).f0
  ·rw [if_pos c1]
   by_cases c2 : (at8 l j).f2.toList = (at8 l p).f2.toList
   ·rw [if_pos c2]
    exact ⟨false, rfl, fun e => by (cases e), fun e => absurd (ba_ext c2) (e j (Nat.le_refl _) (by omega) c1)⟩
   ·rw [if_neg c2]
    refine ⟨b, rfl, fun e i a1 a2 a3 a4 => ?_, fun e => hi.2 (fun i a1 a2 => e i (by omega) a2)⟩
    by_cases e : i = j
    ·rw [e] at a4; exact c2 (by rw [a4])
    ·exact hi.1 ‹_› i (by omega) a2 a3 a4
  ·rw [if_neg c1]
   refine ⟨b, rfl, fun e i a1 a2 a3 a4 => ?_, fun e => hi.2 (fun i a1 a2 => e i (by omega) a2)⟩
   by_cases e : i = j
   ·rw [e] at a3; exact c1 a3
   ·exact hi.1 ‹_› i (by omega) a2 a3 a4
theorem drop8 (l : List S39) (i : Nat) (h : i < l.length) : l.drop i = at8 l i :: l.drop (i + 1) := by rw [drop_T39 l i h, rd_at8]
theorem l0_j2 (l : List S39) (i K : Nat) (hl : l.length ≤ 1000000) (h1 : 1 ≤ i) (hi : i < l.length) (hm : 0 ≤ mostN l i ∧ mostN l i ≤ 64) (hz : I64 (at8 l (i - 1)).f0) : cracknelref08_Right.l0 (K + 1) l (i : Int) = cracknelref08_Right.j2 K l (i : Int) (mostN l i) := by
 unfold mostN at hm ⊢
 rw [cracknelref08_Right.l0, if_pos (by omega), w64 (by omega) (by omega), if_pos (by omega), if_pos (by omega), show (i : Int) - 1 = ((i - 1 : Nat) : Int) by omega, rd_at8]
 by_cases c : 6 ≤ (at8 l (i - 1)).f1
 ·simp only [if_pos c] at hm ⊢
  rw [w64 (by omega) (by omega)]
 ·simp only [if_neg c] at hm ⊢
  rw [Int.add_zero]
theorem ref_loop (l : List S39) (hz : ∀ i, i < l.length → Okz (at8 l i)) (hl : l.length ≤ 1000000) : ∀ n i st K, l.length - i = n → 1 ≤ i → i ≤ l.length → Inv l i st → 1000050 + l.length + 5 * n ≤ K → ∃ b, rightF false st ((l.drop i).map toN) = some b ∧ cracknelref08_Right.l0 K l (i : Int) = some b
 | 0, i, st, K, hn, h1, hi, hI, hK => by
  obtain ⟨K, rfl⟩ : ∃ m, K = m + 1 := ⟨K - 1, by omega⟩
  refine ⟨true, ?_, ?_⟩
  ·rw [List.drop_eq_nil_of_le (by omega), List.map_nil, rightF]
  ·rw [cracknelref08_Right.l0, if_neg (by omega)]
 | n + 1, i, st, K, hn, h1, hi, hI, hK => by
  have hi' : i < l.length := by omega
  obtain ⟨K, rfl⟩ : ∃ m, K = m + 1 + 1 + 1 + 1 := ⟨K - 4, by omega⟩
  have hlen := hI.len
  have h65 := hI.le65
  have hps := hI.pos
  have hzi := hz i hi'
  have hkeys := hI.keys
  rw [l0_j2 l i _ hl h1 hi' (by omega) (hz (i - 1) (by omega)).2.2.1, drop8 l i hi', List.map_cons]
  obtain ⟨hy, hno⟩ := right_step false st (at8 l i) ((l.drop (i + 1)).map toN) hzi (by have := hkeys (at8 l i).f0.toNat; omega)
  rw [cracknelref08_Right.j2, if_pos (by omega), if_pos (by omega), rd_at8]
  obtain ⟨bm, hbm, hbi⟩ := may_val (at8 l i) hzi (K + 1 + 1) (by omega)
  rw [hbm, Option.bind_some]
  by_cases c : May (at8 l i) ∧ 1 ≤ (at8 l i).f0 ∧ (at8 l i).f0 ≤ mostN l i
  ·obtain ⟨c1, c2, c3⟩ := c
   rw [if_pos (hbi.2 c1), if_neg (by omega), show decide ((at8 l i).f0 > mostN l i) = false from decide_eq_false (by omega)]
   obtain ⟨m1, m2, m3, m4, m5, m6, m7, m8⟩ := c1
   obtain ⟨d, hd⟩ : ∃ d : Nat, (at8 l i).f0 = d := ⟨(at8 l i).f0.toNat, by omega⟩
   obtain ⟨h, a1, a2, a3, a4, a5, a6⟩ := hI.hold d (by omega) (by omega)
   have hg : st.getD (at8 l i).f0.toNat (0, []) = st.getD d (0, []) := by rw [hd, Int.toNat_natCast]
   rw [cracknelref08_Right.j3, if_neg (by decide)]
   unfold cracknelref08_holder.f
   rw [w64 (by omega) (by omega), show (i : Int) - 1 = ((i - 1 : Nat) : Int) by omega, holder_l0 l i h hi' hl (by omega) (by omega) (fun j b1 b2 => by have := a3 j b1 b2; omega) (i - 1 - h) (K + 1) (i - 1) rfl (by omega) (by omega) (by omega), Option.bind_some, if_pos (by omega), if_pos (by omega), rd_at8]
   have hnx : RC false st (at8 l i) → ∃ b, rightF false (nxt st (at8 l i)) ((l.drop (i + 1)).map toN) = some b ∧ ∀ q, q = K ∨ q = K + 1 → cracknelref08_Right.l0 q l ((i + 1 : Nat) : Int) = some b := by
    intro hR
    obtain ⟨b, e1, e2⟩ := ref_loop l hz hl n (i + 1) _ K (by omega) (by omega) (by omega) (inv_step l i st hI h1 hR) (by omega)
    obtain ⟨b', e1', e2'⟩ := ref_loop l hz hl n (i + 1) _ (K + 1) (by omega) (by omega) (by omega) (inv_step l i st hI h1 hR) (by omega)
    obtain rfl : b = b' := Option.some.inj (e1.symm.trans e1')
    exact ⟨b, e1, fun q hq => by rcases hq with rfl | rfl <;> assumption⟩
   rcases a5 with k6 | k7
   ·rw [if_pos k6, if_pos (by omega), if_pos (by omega), rd_at8]
    by_cases ck : (at8 l i).f2.toList = []
    ·have hR : RC false st (at8 l i) := by
      refine ⟨⟨by omega, by omega, ⟨fun e => by omega, fun e => by (cases e)⟩⟩, ⟨m1, m2, m3, m4⟩, m8, ?_, fun e => ?_⟩
      ·rw [hg, a4, k6, if_neg (by decide)]; exact ck
      ·by_cases e64 : (at8 l i).f0 = 64; (have := m6 e64; omega); omega
     obtain ⟨b, e1, e2⟩ := hnx hR
     refine ⟨b, (hy hR).trans e1, ?_⟩
     rw [ck, cracknelref08_Right.j4, if_neg (by decide), if_pos (by omega), if_pos (by omega), rd_at8, if_neg (by omega), w64 (by omega) (by omega), show (i : Int) + 1 = ((i + 1 : Nat) : Int) by omega]
     exact e2 K (Or.inl rfl)
    ·have hR : ¬ RC false st (at8 l i) := by
      rintro ⟨_, _, _, e, _⟩
      rw [hg, a4, k6, if_neg (by decide)] at e
      exact ck e
     refine ⟨false, hno hR, ?_⟩
     rw [cracknelref08_Right.j4, if_pos (bne_iff_ne.2 ck)]
   ·rw [if_neg (by omega), cracknelref08_Right.j4, if_neg (by decide), if_pos (by omega), if_pos (by omega), rd_at8, if_pos k7]
    unfold cracknelref08_alone.f
    obtain ⟨b0, f1, f2⟩ := alone_l0 l i hi' hl (i - (h + 1)) K (h + 1) rfl (by omega) (by omega)
    rw [w64 (x := (h : Int) + 1) (by omega) (by omega), show (h : Int) + 1 = ((h + 1 : Nat) : Int) by omega, f1, Option.bind_some]
    have hmem : (at8 l i).f2 ∉ (st.getD d (0, [])).2 ↔ b0 = true := by
     rw [f2, a6 k7]
     constructor
     ·exact fun e j b1 b2 b3 b4 => e ⟨j, by omega, b2, by omega, b4⟩
     ·rintro e ⟨j, b1, b2, b3, b4⟩
      exact e j (by omega) b2 (by omega) b4
    by_cases cb : b0 = true
    ·have hR : RC false st (at8 l i) := by
      refine ⟨⟨by omega, by omega, ⟨fun e => by omega, fun e => by (cases e)⟩⟩, ⟨m1, m2, m3, m4⟩, m8, ?_, fun e => ?_⟩
      ·rw [hg, a4, k7, if_pos rfl]; exact ⟨m7, hmem.2 cb⟩
      ·by_cases e64 : (at8 l i).f0 = 64; (have := m6 e64; omega); omega
     obtain ⟨b, e1, e2⟩ := hnx hR
     refine ⟨b, (hy hR).trans e1, ?_⟩
     rw [if_pos cb, w64 (by omega) (by omega), show (i : Int) + 1 = ((i + 1 : Nat) : Int) by omega]
     exact e2 K (Or.inl rfl)
    ·have hR : ¬ RC false st (at8 l i) := by
      rintro ⟨_, _, _, e, _⟩
      rw [hg, a4, k7, if_pos rfl] at e
      exact cb (hmem.1 e.2)
     refine ⟨false, hno hR, ?_⟩
     rw [if_neg cb]
  ·have hR : ¬ RC false st (at8 l i) := by
    rintro ⟨⟨b1, b2, b3⟩, ⟨b4, b5, b6, b7⟩, b8, b9, b10⟩
    have hp : (at8 l i).f0 ≠ 0 := fun e => by have := b3.1 e; cases this
    refine c ⟨⟨b4, b5, b6, b7, by omega, fun e => ?_, ?_, b8⟩, by omega, by omega⟩
    ·by_cases c6 : 6 ≤ (at8 l i).f1; (have := b10 c6; omega); omega
    ·split at b9
     ·exact b9.1
     ·exact v8_nil b9
   refine ⟨false, hno hR, ?_⟩
   by_cases cm : bm = true
   ·rw [if_pos cm]
    have cm' := hbi.1 cm
    by_cases c1 : (at8 l i).f0 < 1
    ·rw [if_pos c1, cracknelref08_Right.j3, if_pos rfl]
    ·rw [if_neg c1, show decide ((at8 l i).f0 > mostN l i) = true from decide_eq_true (by by_cases e : (at8 l i).f0 > mostN l i; exact e; exact absurd ⟨cm', by omega, by omega⟩ c), cracknelref08_Right.j3, if_pos rfl]
   ·rw [if_neg cm, cracknelref08_Right.j3, if_pos rfl]
theorem right_ref (l : List S39) (hz : ∀ i, i < l.length → Okz (at8 l i)) (hl : l.length ≤ 1000000) (K : Nat) (hK : 1000060 + 6 * l.length ≤ K) : ∃ b, json_Right.f (l.map toN) = some b ∧ cracknelref08_Right.f K l = some b := by
 unfold json_Right.f cracknelref08_Right.f
 rw [if_pos (by rw [List.length_map]; omega)]
 obtain ⟨K, rfl⟩ : ∃ m, K = m + 1 := ⟨K - 1, by omega⟩
 by_cases c0 : (l.length : Int) = 0
 ·obtain rfl : l = [] := List.eq_nil_of_length_eq_zero (by omega)
  refine ⟨false, ?_, ?_⟩
  ·rw [List.map_nil, rightF]; rfl
  ·rw [if_pos c0, cracknelref08_Right.j0, if_pos rfl]
 ·rw [if_neg c0, if_pos (by omega), show (0 : Int) = ((0 : Nat) : Int) from rfl, rd_at8, show ((0 : Nat) : Int) = 0 from rfl]
  have hz0 := hz 0 (by omega)
  have hd : l.map toN = toN (at8 l 0) :: (l.drop 1).map toN := by
   have := drop8 l 0 (by omega)
   rw [List.drop_zero] at this
   conv => lhs; rw [this]
   rfl
  have hpos : decide (0 < (l.map toN).length) = true := decide_eq_true (by rw [List.length_map]; omega)
  rw [hpos, hd]
  obtain ⟨hy, hno⟩ := right_step true [(6, [])] (at8 l 0) ((l.drop 1).map toN) hz0 (by
   cases (at8 l 0).f0.toNat with
   | zero => exact Nat.zero_le _
   | succ d => exact Nat.zero_le _)
  obtain ⟨bm, hbm, hbi⟩ := may_val (at8 l 0) hz0 (K + 1) (by omega)
  have hnoR : (¬ RC true [(6, [])] (at8 l 0)) → Option.map (fun r => r && true) (rightF true [(6, [])] (toN (at8 l 0) :: (l.drop 1).map toN)) = some false := fun h => by rw [hno h]; rfl
  have hj : cracknelref08_Right.j0 (K + 1) l true = some false := by rw [cracknelref08_Right.j0, if_pos rfl]
  have imp : RC true [(6, [])] (at8 l 0) → (at8 l 0).f0 = 0 ∧ (at8 l 0).f2.toList = [] ∧ May (at8 l 0) := by
   rintro ⟨⟨b1, b2, b3⟩, ⟨b4, b5, b6, b7⟩, b8, b9, b10⟩
   have e := b3.2 rfl
   rw [e, Int.toNat_zero] at b9
   have b9' : (at8 l 0).f2.toList = [] := b9
   exact ⟨e, b9', b4, b5, b6, b7, by omega, fun x => by omega, v8_nil b9', b8⟩
  by_cases c1 : (at8 l 0).f0 = 0
  ·rw [if_pos c1]
   by_cases c2 : (at8 l 0).f2.toList = []
   ·rw [if_pos c2, hbm, Option.bind_some]
    by_cases cm : bm = true
    ·obtain ⟨m1, m2, m3, m4, m5, m6, m7, m8⟩ := hbi.1 cm
     have hR : RC true [(6, [])] (at8 l 0) := by
      refine ⟨⟨by omega, by rw [c1]; decide, ⟨fun _ => rfl, fun _ => c1⟩⟩, ⟨m1, m2, m3, m4⟩, m8, ?_, fun e => by omega⟩
      rw [c1, Int.toNat_zero]
      exact c2
     obtain ⟨b, e1, e2⟩ := ref_loop l hz hl (l.length - 1) 1 _ K rfl (Nat.le_refl _) (by omega) (inv_first l hR) (by omega)
     refine ⟨b, by rw [hy hR, e1]; simp, ?_⟩
     rw [cm, cracknelref08_Right.j0, if_neg (by decide)]
     exact e2
    ·refine ⟨false, hnoR (fun h => cm (hbi.2 (imp h).2.2)), ?_⟩
     rw [show bm = false by simpa using cm]
     exact hj
   ·rw [if_neg c2]
    exact ⟨false, hnoR (fun h => c2 (imp h).2.1), hj⟩
  ·rw [if_neg c1]
   exact ⟨false, hnoR (fun h => c1 (imp h).1), hj⟩
end Go.Proofs.YthhmmaihbjhhgaaGreatDoor.Giv
namespace Go.Proofs.YthhmmaihbjhhgaaGreatDoor.Giv
open Go.RowKit Go.Proofs.YthhmmaihbjhhgaaGreatDoorW.PrintWords Go.Proofs.YthhmmaihbjhhgaaGreatDoorW.PrintLast Go.Proofs.YthhmmaihbjhhgaaGreatDoorW.PrintMore
open Go.Proofs.YthhmmaihbjhhgaaGreatDoor.U1 Go.Proofs.YthhmmaihbjhhgaaGreatDoor.Q1 Go.Proofs.YthhmmaihbjhhgaaGreatDoor.J0 Go.Proofs.YthhmmaihbjhhgaaGreatDoor.J1 Go.Proofs.YthhmmaihbjhhgaaGreatDoor.J2
set_option linter.unusedSimpArgs false
set_option linter.unusedVariables false
theorem small_l0 (l : List S39) (hm : l.length ≤ 9223372036854775806) (h1 : l.length ≤ 100) : ∀ d k i n, l.length - i = d → i ≤ l.length → 0 ≤ n → n ≤ 1000 → d < k → ∃ b, cracknellaw08_small.l0 k l n l (l.length : Int) (i : Int) = some b ∧ (b = true → ∀ j, i ≤ j → j < l.length → (at8 l j).f2.size ≤ 1000 ∧ (at8 l j).f3.size ≤ 1000)
 | 0, k, i, n, e, hi, h0, hn, hk => by
  obtain ⟨k, rfl⟩ : ∃ m, k = m + 1 := ⟨k - 1, by omega⟩
  rw [cracknellaw08_small.l0, if_neg (by omega)]
  exact ⟨true, rfl, fun _ j a b => by omega⟩
 | d + 1, k, i, n, e, hi, h0, hn, hk => by
  obtain ⟨k, rfl⟩ : ∃ m, k = m + 1 := ⟨k - 1, by omega⟩
  have m1 : 0 ≤ mn ((at8 l i).f2.size : Int) 3000 ∧ mn ((at8 l i).f2.size : Int) 3000 ≤ 3000 ∧ (mn ((at8 l i).f2.size : Int) 3000 ≤ 1000 → (at8 l i).f2.size ≤ 1000) := by unfold mn; split <;> omega
  have m2 : 0 ≤ mn ((at8 l i).f3.size : Int) 3000 ∧ mn ((at8 l i).f3.size : Int) 3000 ≤ 3000 ∧ (mn ((at8 l i).f3.size : Int) 3000 ≤ 1000 → (at8 l i).f3.size ≤ 1000) := by unfold mn; split <;> omega
  rw [cracknellaw08_small.l0, if_pos (by omega), if_pos (by omega), if_pos (by omega), rd_at8]
  generalize mn ((at8 l i).f2.size : Int) 3000 = p at *
  generalize mn ((at8 l i).f3.size : Int) 3000 = q at *
  rw [w64 (x := n + (p + q)) (by omega) (by omega)]
  by_cases c : n + (p + q) > 1000
  ·rw [if_pos c]; exact ⟨false, rfl, fun x => by (cases x)⟩
  ·rw [if_neg c, if_neg (by omega), w64 (by omega) (by omega), show (i : Int) + 1 = ((i + 1 : Nat) : Int) by omega]
   obtain ⟨b, hb, hx⟩ := small_l0 l hm h1 d k (i + 1) (n + (p + q)) (by omega) (by omega) (by omega) (by omega) (by omega)
   refine ⟨b, hb, fun x j a1 a2 => ?_⟩
   by_cases z : j = i
   ·rw [z]; exact ⟨m1.2.2 (by omega), m2.2.2 (by omega)⟩
   ·exact hx x j (by omega) a2
theorem small_f (l : List S39) (hm : l.length ≤ 9223372036854775807) (k : Nat) (hk : 102 < k) : ∃ b, cracknellaw08_small.f k l = some b ∧ (b = true → l.length ≤ 100 ∧ ∀ j, j < l.length → (at8 l j).f2.size ≤ 1000 ∧ (at8 l j).f3.size ≤ 1000) := by
 unfold cracknellaw08_small.f
 by_cases h : l.length ≤ 100
 ·obtain ⟨b, hb, hx⟩ := small_l0 l (by omega) h l.length k 0 0 rfl (Nat.zero_le _) (by omega) (by omega) (by omega)
  exact ⟨b, hb, fun x => ⟨h, fun j hj => hx x j (Nat.zero_le _) hj⟩⟩
 ·obtain ⟨k, rfl⟩ : ∃ m, k = m + 1 := ⟨k - 1, by omega⟩
  refine ⟨false, ?_, fun x => by (cases x)⟩
  rw [cracknellaw08_small.l0, if_pos (by omega), if_pos (by omega), if_pos (by omega)]
  split
  ·rfl
  ·rw [if_pos (by omega)]
def OkI (z : S39) : Prop := I64 z.f0 ∧ I64 z.f1 ∧ I64 z.f4
theorem at8_mem (l : List S39) (i : Nat) (h : i < l.length) : at8 l i ∈ l := by
 unfold at8
 rw [List.getD_eq_getElem?_getD, List.getElem?_eq_getElem h]
 exact List.getElem_mem h
theorem okz_of (l : List S39) (ho : ∀ z ∈ l, OkI z) (hs : ∀ j, j < l.length → (at8 l j).f2.size ≤ 1000 ∧ (at8 l j).f3.size ≤ 1000) : ∀ i, i < l.length → Okz (at8 l i) := fun i hi => by
 obtain ⟨a, b⟩ := hs i hi
 obtain ⟨c, d, e⟩ := ho _ (at8_mem l i hi)
 exact ⟨by omega, by omega, c, d, e⟩
theorem alive8 : cracknellaw08_alive.f = some true := rfl
theorem e0_of {s : ByteArray} (h : s.toList = []) : s = e0 := ba_ext (by rw [h, Lib.toList_data]; rfl)
theorem jv_leaf (x : S39) (d : Nat) (hx : x.f0 = d) (h1 : 1 ≤ x.f1) (h5 : x.f1 ≤ 5) (h : (x.f1 ≠ 4 → x.f4 = 0) ∧ (x.f1 ≠ 5 → x.f3.toList = [])) (hv : V8 x.f3) (ho : I64 x.f4) : ∃ t, JV (.v d x.f2) [toN x] t := by
 obtain ⟨f0, f1, f2, f3, f4⟩ := x
 simp only at *
 subst hx
 have e3 : f1 ≠ 5 → f3 = e0 := fun e => e0_of (h.2 e)
 rcases (by omega : f1 = 1 ∨ f1 = 2 ∨ f1 = 3 ∨ f1 = 4 ∨ f1 = 5) with rfl | rfl | rfl | rfl | rfl
 ·obtain rfl := e3 (by decide); obtain rfl := h.1 (by decide); exact ⟨_, JV.null d f2⟩
 ·obtain rfl := e3 (by decide); obtain rfl := h.1 (by decide); exact ⟨_, JV.fls d f2⟩
 ·obtain rfl := e3 (by decide); obtain rfl := h.1 (by decide); exact ⟨_, JV.tru d f2⟩
 ·obtain rfl := e3 (by decide); exact ⟨_, JV.num d f2 f4 ho⟩
 ·obtain rfl := h.1 (by decide); exact ⟨_, JV.str d f2 f3 hv⟩
theorem jv_open (x : S39) (d : Nat) (hx : x.f0 = d) (h6 : 6 ≤ x.f1) (h7 : x.f1 ≤ 7) (h : (x.f1 ≠ 4 → x.f4 = 0) ∧ (x.f1 ≠ 5 → x.f3.toList = [])) (h64 : d < 64) (rows : List S40) (t : B) (hm : JV (.m (d + 1) (x.f1 == 7) [] true) rows t) : ∃ t, JV (.v d x.f2) (toN x :: rows) t := by
 obtain ⟨f0, f1, f2, f3, f4⟩ := x
 simp only at *
 subst hx
 obtain rfl : f3 = e0 := e0_of (h.2 (by omega))
 obtain rfl := h.1 (by omega)
 rcases (by omega : f1 = 6 ∨ f1 = 7) with rfl | rfl
 ·exact ⟨_, JV.arr d f2 rows t h64 hm⟩
 ·exact ⟨_, JV.obj d f2 rows t h64 hm⟩
theorem jv_member (d : Nat) (k : Int) (hk : k = 6 ∨ k = 7) (keys keys' : List ByteArray) (fst : Bool) (x : S39) (hc : if k = 7 then V8 x.f2 ∧ x.f2 ∉ keys else x.f2.toList = []) (hk' : keys' = if k = 7 then keys ++ [x.f2] else keys) (rows rows' : List S40) (t t' : B) (hv : JV (.v d x.f2) rows t) (hm : JV (.m d (k == 7) keys' false) rows' t') : ∃ t, JV (.m d (k == 7) keys fst) (rows ++ rows') t := by
 rcases hk with rfl | rfl
 ·rw [if_neg (by decide)] at hc hk'
  subst hk'
  rw [show x.f2 = e0 from e0_of hc] at hv
  exact ⟨_, JV.elem d keys' fst rows t rows' t' hv hm⟩
 ·rw [if_pos rfl] at hc hk'
  subst hk'
  exact ⟨_, JV.memb d keys fst x.f2 hc.1 hc.2 rows t rows' t' hv hm⟩
theorem right_members : ∀ (n : Nat) (l : List S39), l.length ≤ n → (∀ z ∈ l, Okz z) → ∀ (st : List LvS) (k : Int) (keys : List ByteArray) (fst : Bool), 1 ≤ st.length → st.length ≤ 64 → (k = 6 ∨ k = 7) → (∀ d, ((st ++ [(k, keys)]).getD d (0, [])).2.length + l.length ≤ 1000000) → rightF false (st ++ [(k, keys)]) (l.map toN) = some true →
  ∃ l1 l2 t, l = l1 ++ l2 ∧ JV (.m st.length (k == 7) keys fst) (l1.map toN) t ∧ rightF false st (l2.map toN) = some true
 | _, [], _, _, st, k, keys, fst, h1, h64, hk, hz, h => ⟨[], [], [], rfl, JV.none _ _ _ _, by rw [List.map_nil, rightF]⟩
 | 0, x :: l, hn, _, _, _, _, _, _, _, _, _, _ => by simp at hn
 | n + 1, x :: l, hn, ho, st, k, keys, fst, h1, h64, hk, hz, h => by
  rw [List.length_cons] at hn
  have hox := ho x List.mem_cons_self
  obtain ⟨hy, hno⟩ := right_step false (st ++ [(k, keys)]) x (l.map toN) hox (by have := hz x.f0.toNat; rw [List.length_cons] at this; omega)
  rw [List.map_cons] at h
  have hR : RC false (st ++ [(k, keys)]) x := by
   by_cases c : RC false (st ++ [(k, keys)]) x
   ·exact c
   ·rw [hno c] at h; cases h
  have hR' := hR
  obtain ⟨⟨b1, b2, b3⟩, ⟨b4, b5, b6⟩, b8, b9, b10⟩ := hR
  have hlen : (st ++ [(k, keys)]).length = st.length + 1 := by rw [List.length_append]; rfl
  rw [hlen] at b2
  by_cases c : x.f0 < (st.length : Int)
  ·refine ⟨[], x :: l, [], rfl, JV.none _ _ _ _, ?_⟩
   have hs : shallow (toN x :: l.map toN) (st.length - 1) := by
    intro y hy'
    obtain rfl : toN x = y := Option.some.inj hy'
    show x.f0 ≤ _
    omega
   have e := right_take false (st ++ [(k, keys)]) (toN x :: l.map toN) (st.length - 1) hs (by omega)
   rw [List.map_cons, ← h, e, show st.length - 1 + 1 = st.length by omega, List.take_left]
  ·have hd : x.f0 = st.length := by omega
   have hg : (st ++ [(k, keys)]).getD x.f0.toNat (0, []) = (k, keys) := by
    rw [hd, Int.toNat_natCast, List.getD_eq_getElem?_getD, List.getElem?_append_right (Nat.le_refl _), Nat.sub_self]; rfl
   have ht : (st ++ [(k, keys)]).take x.f0.toNat = st := by rw [hd, Int.toNat_natCast, List.take_left]
   rw [hy hR'] at h
   unfold nxt at h
   rw [hg, ht] at h
   rw [hg] at b9
   have hzk : keys.length + (l.length + 1) ≤ 1000000 := by have := hz x.f0.toNat; rw [hg, List.length_cons] at this; exact this
   have hzd : ∀ d, (st.getD d (0, [])).2.length + (l.length + 1) ≤ 1000000 := by
    intro d
    by_cases cd : d < st.length
    ·have := hz d
     rw [List.getD_eq_getElem?_getD, List.getElem?_append_left cd, ← List.getD_eq_getElem?_getD, List.length_cons] at this
     exact this
    ·rw [List.getD_eq_getElem?_getD, List.getElem?_eq_none (by omega)]
     have : 0 + (l.length + 1) ≤ 1000000 := by omega
     exact this
   have hzn : ∀ (keys2 : List ByteArray), keys2.length ≤ keys.length + 1 → ∀ (l2 : List S39), l2.length ≤ l.length → ∀ d, ((st ++ [(k, keys2)]).getD d (0, [])).2.length + l2.length ≤ 1000000 := by
    intro keys2 hk2 l2 hl2 d
    by_cases cd : d < st.length
    ·have := hzd d
     rw [List.getD_eq_getElem?_getD, List.getElem?_append_left cd, ← List.getD_eq_getElem?_getD]
     omega
    ·rw [List.getD_eq_getElem?_getD, List.getElem?_append_right (by omega)]
     cases hq : d - st.length with
     | zero => show keys2.length + l2.length ≤ _; omega
     | succ q => show 0 + l2.length ≤ _; omega
   generalize hkeys' : (if (k, keys).1 = 7 then (k, keys).2 ++ [x.f2] else (k, keys).2) = keys' at h
   have hkl : keys'.length ≤ keys.length + 1 := by
    rw [← hkeys']
    split
    ·rw [List.length_append]; exact Nat.le_refl _
    ·exact Nat.le_succ _
   have hol : ∀ z ∈ l, Okz z := fun z hz => ho z (List.mem_cons_of_mem _ hz)
   by_cases c6 : 6 ≤ x.f1
   ·rw [if_pos c6] at h
    have h64' := b10 c6
    rw [show st ++ [((k, keys).1, keys'), (x.f1, [])] = (st ++ [(k, keys')]) ++ [(x.f1, [])] by simp] at h
    have hl1 : (st ++ [(k, keys')]).length = st.length + 1 := by rw [List.length_append]; rfl
    obtain ⟨m1, m2, t1, e1, j1, r1⟩ := right_members n l (by omega) hol (st ++ [(k, keys')]) x.f1 [] true (by omega) (by omega) (by omega) (by
     intro d
     by_cases cd : d < (st ++ [(k, keys')]).length
     ·rw [List.getD_eq_getElem?_getD, List.getElem?_append_left cd, ← List.getD_eq_getElem?_getD]
      exact hzn keys' hkl l (Nat.le_refl _) d
     ·rw [List.getD_eq_getElem?_getD, List.getElem?_append_right (by omega)]
      cases hq : d - (st ++ [(k, keys')]).length with
      | zero => show 0 + l.length ≤ _; omega
      | succ q => show 0 + l.length ≤ _; omega) h
    have hm2 : m2.length ≤ l.length := by rw [e1, List.length_append]; omega
    obtain ⟨m3, m4, t2, e2, j2, r2⟩ := right_members n m2 (by omega) (fun z hz => hol z (by rw [e1]; exact List.mem_append_right _ hz)) st k keys' false h1 h64 hk (hzn keys' hkl m2 hm2) r1
    rw [hl1] at j1
    obtain ⟨tv, jv⟩ := jv_open x st.length hd c6 b5 b6 (by omega) _ t1 j1
    obtain ⟨tm, jm⟩ := jv_member st.length k hk keys keys' fst x b9 hkeys'.symm _ _ tv t2 jv j2
    refine ⟨x :: (m1 ++ m3), m4, tm, by rw [e1, e2]; simp, ?_, r2⟩
    rw [List.map_cons, List.map_append]
    exact jm
   ·rw [if_neg c6] at h
    obtain ⟨m3, m4, t2, e2, j2, r2⟩ := right_members n l (by omega) hol st k keys' false h1 h64 hk (hzn keys' hkl l (Nat.le_refl _)) h
    obtain ⟨tv, jv⟩ := jv_leaf x st.length hd b4 (by omega) b6 b8 hox.2.2.2.2
    obtain ⟨tm, jm⟩ := jv_member st.length k hk keys keys' fst x b9 hkeys'.symm _ _ tv t2 jv j2
    exact ⟨x :: m3, m4, tm, by rw [e2]; rfl, jm, r2⟩
theorem right_end (l : List S39) (ho : ∀ z ∈ l, Okz z) (q : LvS) (hq : q.2.length ≤ 1000000) (h : rightF false [q] (l.map toN) = some true) : l = [] := by
 cases l with
 | nil => rfl
 | cons x l =>
  obtain ⟨hy, hno⟩ := right_step false [q] x (l.map toN) (ho x List.mem_cons_self) (by
   cases x.f0.toNat with
   | zero => exact hq
   | succ d => exact Nat.zero_le _)
  have hn : ¬ RC false [q] x := by
   rintro ⟨⟨b1, b2, b3⟩, _⟩
   have b2' : x.f0 < 1 := b2
   have := b3.1 (by omega)
   cases this
  rw [List.map_cons, hno hn] at h
  cases h
theorem right_jv (l : List S39) (ho : ∀ z ∈ l, Okz z) (hl : l.length ≤ 900000) (h : json_Right.f (l.map toN) = some true) : ∃ t, JV (.v 0 e0) (l.map toN) t := by
 unfold json_Right.f at h
 rw [if_pos (by rw [List.length_map]; omega)] at h
 obtain ⟨r, hr, h⟩ := Option.map_eq_some_iff.1 h
 cases l with
 | nil => simp at h
 | cons x l =>
  have h' : r = true := by cases r; cases h; rfl
  subst h'
  have hox := ho x List.mem_cons_self
  obtain ⟨hy, hno⟩ := right_step true [(6, [])] x (l.map toN) hox (by
   cases x.f0.toNat with
   | zero => exact Nat.zero_le _
   | succ d => exact Nat.zero_le _)
  rw [List.map_cons] at hr
  have hR : RC true [(6, [])] x := by
   by_cases c : RC true [(6, [])] x
   ·exact c
   ·rw [hno c] at hr; cases hr
  rw [hy hR] at hr
  obtain ⟨⟨b1, b2, b3⟩, ⟨b4, b5, b6⟩, b8, b9, b10⟩ := hR
  have hz : x.f0 = 0 := b3.2 rfl
  rw [hz, Int.toNat_zero] at b9
  have b9' : x.f2.toList = [] := b9
  have hk2 : x.f2 = e0 := e0_of b9'
  have hol : ∀ z ∈ l, Okz z := fun z hz => ho z (List.mem_cons_of_mem _ hz)
  rw [List.length_cons] at hl
  unfold nxt at hr
  rw [hz, Int.toNat_zero] at hr
  by_cases c6 : 6 ≤ x.f1
  ·rw [if_pos c6] at hr
   have hr' : rightF false ([((6 : Int), ([] : List ByteArray))] ++ [(x.f1, [])]) (l.map toN) = some true := hr
   obtain ⟨m1, m2, t1, e1, j1, r1⟩ := right_members l.length l (Nat.le_refl _) hol [(6, [])] x.f1 [] true (Nat.le_refl _) (by decide) (by omega) (by
    intro d
    match d with
    | 0 => show 0 + l.length ≤ _; omega
    | 1 => show 0 + l.length ≤ _; omega
    | d + 2 => show 0 + l.length ≤ _; omega) hr'
   obtain rfl := right_end m2 (fun z hz => hol z (by rw [e1]; exact List.mem_append_right _ hz)) (6, []) (Nat.zero_le _) r1
   rw [List.append_nil] at e1
   subst e1
   rw [← hk2]
   exact jv_open x 0 hz c6 b5 b6 (by decide) _ t1 j1
  ·rw [if_neg c6] at hr
   have hr' : rightF false [((6 : Int), ([] : List ByteArray))] (l.map toN) = some true := hr
   obtain rfl := right_end l hol (6, []) (Nat.zero_le _) hr'
   rw [← hk2]
   exact jv_leaf x 0 hz b4 (by omega) b6 b8 hox.2.2.2.2
theorem sm_l0 (a b : List S39) (hl : a.length ≤ 1099511627776) (he : a.length = b.length) : ∀ (n k i : Nat), a.length - i = n → i ≤ a.length → n < k → ∃ r, cracknelref08_Same.l0 k a b (i : Int) = some r ∧ (r = true ↔ a.drop i = b.drop i)
 | 0, k, i, h1, h2, h3 => by
  obtain ⟨k, rfl⟩ : ∃ m, k = m + 1 := ⟨k - 1, by omega⟩
  rw [cracknelref08_Same.l0, if_neg (by omega)]
  refine ⟨true, rfl, fun _ => ?_, fun _ => rfl⟩
  rw [List.drop_eq_nil_of_le (by omega), List.drop_eq_nil_of_le (by omega)]
 | n + 1, k, i, h1, h2, h3 => by
  obtain ⟨k, rfl⟩ : ∃ m, k = m + 1 := ⟨k - 1, by omega⟩
  obtain ⟨r, hr, hx⟩ := sm_l0 a b hl he n k (i + 1) (by omega) (by omega) (by omega)
  rw [cracknelref08_Same.l0, if_pos (by omega), if_pos (by omega), if_pos (by omega), w64 (x := (i : Int) + 1) (by omega) (by omega), show (i : Int) + 1 = ((i + 1 : Nat) : Int) by omega, hr, rd_at8, rd_at8]
  rw [drop8 a i (by omega), drop8 b i (by omega)]
  obtain ⟨a0, a1, a2, a3, a4⟩ := at8 a i
  obtain ⟨b0, b1, b2, b3, b4⟩ := at8 b i
  by_cases c : (⟨a0, a1, a2, a3, a4⟩ : S39) = ⟨b0, b1, b2, b3, b4⟩
  ·cases c
   rw [if_neg (by simp)]
   exact ⟨r, rfl, fun e => by rw [hx.1 e], fun e => hx.2 (List.cons.inj e).2⟩
  ·rw [if_pos ?_]
   ·exact ⟨false, rfl, fun e => by (cases e), fun e => absurd (List.cons.inj e).1 c⟩
   ·by_cases d0 : a0 = b0
    ·by_cases d1 : a1 = b1
     ·by_cases d2 : a2.toList = b2.toList
      ·by_cases d3 : a3.toList = b3.toList
       ·by_cases d4 : a4 = b4
        ·exact absurd (by rw [d0, d1, ba_ext d2, ba_ext d3, d4]) c
        ·simp [d4]
       ·simp [d3]
      ·simp [d2]
     ·simp [d1]
    ·simp [d0]
theorem sm_f (a b : List S39) (hl : a.length ≤ 1099511627776) (k : Nat) (hk : a.length < k) : ∃ r, cracknelref08_Same.f k a b = some r ∧ (r = true ↔ a = b) := by
 unfold cracknelref08_Same.f
 by_cases c : (a.length : Int) = (b.length : Int)
 ·rw [if_pos c]
  obtain ⟨r, h1, h2⟩ := sm_l0 a b hl (by omega) a.length k 0 rfl (Nat.zero_le _) hk
  exact ⟨r, h1, by simpa using h2⟩
 ·rw [if_neg c]
  exact ⟨false, rfl, fun e => by (cases e), fun e => absurd (by rw [e]) c⟩
theorem wt_small : ∀ l : List S39, (∀ j, j < l.length → (at8 l j).f2.size ≤ 1000 ∧ (at8 l j).f3.size ≤ 1000) → wt (l.map toN) ≤ 2001 * l.length
 | [], _ => Nat.le_refl _
 | x :: l, h => by
  have h0 := h 0 (by simp)
  have := wt_small l (fun j hj => h (j + 1) (by simpa using hj))
  rw [List.map_cons, wt, List.length_cons]
  have e1 : (toN x).f2.size ≤ 1000 := h0.1
  have e2 : (toN x).f3.size ≤ 1000 := h0.2
  omega
end Go.Proofs.YthhmmaihbjhhgaaGreatDoor.Giv
namespace Go.Proofs.YthhmmaihbjhhgaaGreatDoor.J3
open Go.Proofs.YthhmmaihbjhhgaaGreatDoor.Giv Go.Proofs.YthhmmaihbjhhgaaGreatDoor.U1 Go.Proofs.YthhmmaihbjhhgaaGreatDoor.Q1 Go.Proofs.YthhmmaihbjhhgaaGreatDoor.J0 Go.Proofs.YthhmmaihbjhhgaaGreatDoor.J1 Go.Proofs.YthhmmaihbjhhgaaGreatDoor.J2 Go.RowKit Go.Proofs.YthhmmaihbjhhgaaGreatDoorW.PrintWords Go.Proofs.YthhmmaihbjhhgaaGreatDoorW.PrintLast Go.Proofs.YthhmmaihbjhhgaaGreatDoorW.PrintMore
attribute [local go_sem] max2_int min2_int max_two min_two max_three min_three max_four min_four
set_option linter.unusedVariables false
set_option linter.unusedSimpArgs false
def errW : Option Int → Value
 | none => .nilIface
 | some c => .iface 0 (.int .i64 c)
theorem errW_none : errW none = .nilIface := rfl
theorem errW_some (c : Int) : errW (some c) = .iface 0 (.int .i64 c) := rfl
end Go.Proofs.YthhmmaihbjhhgaaGreatDoor.J3
namespace Go.Proofs.YthhmmaihbjhhgaaGreatDoor.J3
open Go.Proofs.YthhmmaihbjhhgaaGreatDoor.Giv Go.Proofs.YthhmmaihbjhhgaaGreatDoor.U1 Go.Proofs.YthhmmaihbjhhgaaGreatDoor.Q1 Go.Proofs.YthhmmaihbjhhgaaGreatDoor.J0 Go.Proofs.YthhmmaihbjhhgaaGreatDoor.J1 Go.Proofs.YthhmmaihbjhhgaaGreatDoor.J2 Go.RowKit Go.Proofs.YthhmmaihbjhhgaaGreatDoorW.PrintWords Go.Proofs.YthhmmaihbjhhgaaGreatDoorW.PrintLast Go.Proofs.YthhmmaihbjhhgaaGreatDoorW.PrintMore
attribute [local go_sem] max2_int min2_int max_two min_two max_three min_three max_four min_four
set_option linter.unusedVariables false
set_option linter.unusedSimpArgs false
def cracknelref02_digits.l0 : Nat → Int → ByteArray → Option (ByteArray)
 | 0, _, _ => none
 | k + 1, x0, x3 => if x0 ≥ 10 then ((some (([(IntKind.u64.wrap (48 + (Int.tmod x0 10))) % 256] : List Int) : List Int)).bind fun y101 => (if (strOfNums y101).size + x3.size ≤ 9223372036854775807 then (cracknelref02_digits.l0 k (IntKind.u64.wrap (Int.tdiv x0 10)) ((strOfNums y101) ++ x3)) else (none))) else ((some (([(IntKind.u64.wrap (48 + x0)) % 256] : List Int) : List Int)).bind fun y104 => (if (strOfNums y104).size + x3.size ≤ 9223372036854775807 then (some ((strOfNums y104) ++ x3)) else (none)))
def cracknelref02_digits.f (k : Nat) (a0 : Int) : Option (ByteArray) := cracknelref02_digits.l0 k a0 (⟨#[]⟩ : ByteArray)
set_option maxHeartbeats 8000000 in
set_option maxRecDepth 100000 in
theorem cracknelref02_digits.calls (k : Nat) (a0 : Int) (r : ByteArray) (w : World) (h : cracknelref02_digits.f k a0 = some r) :
  Calls Tryz.prog 57 #[.int .u64 a0] w fun e w' => e = .returned (.string r) ∧ Below w.heap.size w w' := by
 have HB := Aside0.mk (Below.refl w.heap.size w)
 have H : (cracknelref02_digits.l0 k a0 (⟨#[]⟩ : ByteArray)) = some r := h
 clear h
 have H' := Aside0.mk H
 clear H
 go_enter Tryz.func57, Tryz.ntmps57
 go_wp2
 go_loopg [0, 3] k (fun kq v0 v3 w' => ∃ (x0_1 : Int) (x3_1 : ByteArray), v0 = .int .u64 x0_1 ∧ v3 = .string x3_1 ∧ Aside0 (cracknelref02_digits.l0 kq x0_1 x3_1 = some r) ∧ Aside0 (kq ≤ k) ∧ Aside0 (Below w.heap.size w w'))
 case atStart => exact ⟨(a0), ((⟨#[]⟩ : ByteArray)), (by first | rfl | (simp; done) | (simp [*]; done)), (by first | rfl | (simp; done) | (simp [*]; done)), H', ⟨Nat.le_refl _⟩, ⟨by repeat (first | (with_reducible first | exact HB.out | apply below_alloc | apply pw_below_drewN | apply below_drew1) | exact HB.out)⟩⟩
 case round =>
  clear H'
  obtain ⟨x0_1, x3_1, rfl, rfl, HA, HK1, HB⟩ := hrel
  cases gk with
  | zero => exact absurd HA.out (by simp [cracknelref02_digits.l0])
  | succ k1 =>
   have H := HA.out
   clear HA
   simp only [cracknelref02_digits.l0] at H
   by_cases c2 : x0_1 ≥ 10
   ·rw [if_pos c2] at H
    have c2b0 : decide (10 ≤ x0_1) = true := decide_eq_true c2
    clear c2
    obtain ⟨y101, hy101⟩ : ∃ y_ : List Int, y_ = (([(IntKind.u64.wrap (48 + (Int.tmod x0_1 10))) % 256] : List Int)) := ⟨_, rfl⟩
    replace H : (if (strOfNums y101).size + x3_1.size ≤ 9223372036854775807 then (cracknelref02_digits.l0 k1 (IntKind.u64.wrap (Int.tdiv x0_1 10)) ((strOfNums y101) ++ x3_1)) else (none)) = some r := by first | (rw [hy101]; with_reducible exact H) | (have H2_ := (Option.bind_some _ _).symm.trans H; rw [hy101]; with_reducible exact H2_) | (have H2_ := (Option.bind_some _ _).symm.trans H; with_reducible exact H2_) | with_reducible exact H | (rw [hy101]; exact H) | exact H
    have Ny101 := Aside0.mk hy101
    clear hy101
    by_cases c3 : (strOfNums y101).size + x3_1.size ≤ 9223372036854775807
    ·rw [if_pos c3] at H
     have c3b0 := eq_true c3
     have c3b1 : decide ((strOfNums y101).size + x3_1.size ≤ 9223372036854775807) = true := decide_eq_true c3
     try have c3b2 : (9223372036854775807 < (strOfNums y101).size + x3_1.size) = False := eq_false (Nat.not_lt.2 c3)
     have H' := Aside0.mk H
     clear H
     go_wp2_with (first | ((with_reducible refine gate_dst (N := 10) rfl ?_); refine Kd.R_lit (Kd.int .u8) _ 5 ?hg (N := 10) ?hd (xs := ([(IntKind.u64.wrap (48 + (Int.tmod x0_1 10))) % 256] : List Int)) (inner := [.int .u8 ((IntKind.u64.wrap (48 + (Int.tmod x0_1 10))) % 256)]) (ok := fun _ => True) (okp := fun _ => True) ?hr ?hp (fun _ hk => hk) trivial (Below.refl _ _) (Nat.le_refl _) (by simp) ?_; (case hd => rfl); (case hg => rfl); (case hr => first | (go_simp; done) | (go_simp; rfl)); (case hp => exact (Reps.one (show Kd.M (Kd.int .u8) _ _ _ ((IntKind.u64.wrap (48 + (Int.tmod x0_1 10))) % 256) [.int .u8 ((IntKind.u64.wrap (48 + (Int.tmod x0_1 10))) % 256)] from rfl) (Reps.none _ _))); intro v102 w4 ho5 hb hg_ hnew_; clear hg_ hnew_; (first | rw [← Ny101.out] at ho5 | (simp only [Int.reduceToNat] at ho5; rw [← Ny101.out] at ho5)); have n0_ := Aside0.mk (Kd.R_lower ho5 (below_size (by repeat (first | (with_reducible first | exact HB.out | apply below_alloc | apply pw_below_drewN | apply below_drew1) | exact HB.out)))); have n1_ := Aside0.mk (below_step (by repeat (first | (with_reducible first | exact HB.out | apply below_alloc | apply pw_below_drewN | apply below_drew1) | exact HB.out)) hb); clear HB; have HO103 := n0_; have HB := n1_; clear n0_ n1_; clear hb ho5; have hcv6 := own_string (P := Tryz.prog) Tryz.underlying43 Tryz.underlying5 Tryz.underlying9 (Kd.own_of_R HO103.out)))
     go_roundg k1
     case measure => have := HK1.out; omega
     case rel => exact ⟨(IntKind.u64.wrap (Int.tdiv x0_1 10)), ((strOfNums y101) ++ x3_1), (by first | rfl | (simp; done) | (simp [*]; done)), (by first | rfl | (simp; done) | (simp [*]; done)), H', ⟨by have := HK1.out; omega⟩, ⟨by repeat (first | (with_reducible first | exact HB.out | apply below_alloc | apply pw_below_drewN | apply below_drew1) | exact HB.out)⟩⟩
    ·rw [if_neg c3] at H
     exact absurd H (by simp)
   ·rw [if_neg c2] at H
    have c2b0 : decide (10 ≤ x0_1) = false := decide_eq_false c2
    clear c2
    obtain ⟨y104, hy104⟩ : ∃ y_ : List Int, y_ = (([(IntKind.u64.wrap (48 + x0_1)) % 256] : List Int)) := ⟨_, rfl⟩
    replace H : (if (strOfNums y104).size + x3_1.size ≤ 9223372036854775807 then (some ((strOfNums y104) ++ x3_1)) else (none)) = some r := by first | (rw [hy104]; with_reducible exact H) | (have H2_ := (Option.bind_some _ _).symm.trans H; rw [hy104]; with_reducible exact H2_) | (have H2_ := (Option.bind_some _ _).symm.trans H; with_reducible exact H2_) | with_reducible exact H | (rw [hy104]; exact H) | exact H
    have Ny104 := Aside0.mk hy104
    clear hy104
    by_cases c7 : (strOfNums y104).size + x3_1.size ≤ 9223372036854775807
    ·rw [if_pos c7] at H
     have c7b0 := eq_true c7
     have c7b1 : decide ((strOfNums y104).size + x3_1.size ≤ 9223372036854775807) = true := decide_eq_true c7
     try have c7b2 : (9223372036854775807 < (strOfNums y104).size + x3_1.size) = False := eq_false (Nat.not_lt.2 c7)
     obtain rfl := Option.some.inj H
     go_wp2_with (first | ((with_reducible refine gate_dst (N := 19) rfl ?_); refine Kd.R_lit (Kd.int .u8) _ 5 ?hg (N := 19) ?hd (xs := ([(IntKind.u64.wrap (48 + x0_1)) % 256] : List Int)) (inner := [.int .u8 ((IntKind.u64.wrap (48 + x0_1)) % 256)]) (ok := fun _ => True) (okp := fun _ => True) ?hr ?hp (fun _ hk => hk) trivial (Below.refl _ _) (Nat.le_refl _) (by simp) ?_; (case hd => rfl); (case hg => rfl); (case hr => first | (go_simp; done) | (go_simp; rfl)); (case hp => exact (Reps.one (show Kd.M (Kd.int .u8) _ _ _ ((IntKind.u64.wrap (48 + x0_1)) % 256) [.int .u8 ((IntKind.u64.wrap (48 + x0_1)) % 256)] from rfl) (Reps.none _ _))); intro v105 w8 ho9 hb hg_ hnew_; clear hg_ hnew_; (first | rw [← Ny104.out] at ho9 | (simp only [Int.reduceToNat] at ho9; rw [← Ny104.out] at ho9)); have n0_ := Aside0.mk (Kd.R_lower ho9 (below_size (by repeat (first | (with_reducible first | exact HB.out | apply below_alloc | apply pw_below_drewN | apply below_drew1) | exact HB.out)))); have n1_ := Aside0.mk (below_step (by repeat (first | (with_reducible first | exact HB.out | apply below_alloc | apply pw_below_drewN | apply below_drew1) | exact HB.out)) hb); clear HB; have HO106 := n0_; have HB := n1_; clear n0_ n1_; clear hb ho9; have hcv10 := own_string (P := Tryz.prog) Tryz.underlying43 Tryz.underlying5 Tryz.underlying9 (Kd.own_of_R HO106.out)))
     go_ret
     exact ⟨by first | rfl | (simp [errW_none, errW_some] <;> rfl) | (simp [*, errW_none, errW_some] <;> rfl), by repeat (first | (with_reducible first | exact HB.out | apply below_alloc | apply pw_below_drewN | apply below_drew1) | exact HB.out)⟩
    ·rw [if_neg c7] at H
     exact absurd H (by simp)
def cracknelref02_Print.f (k : Nat) (a0 : Int) : Option (ByteArray) := if a0 < 0 then ((cracknelref02_digits.f k (IntKind.u64.wrap ((IntKind.u64.wrap (wrap64 (-(wrap64 (a0 + 1))))) + 1))).bind fun t107 => (if 1 + t107.size ≤ 9223372036854775807 then (some ((⟨#[45]⟩ : ByteArray) ++ t107)) else (none))) else ((cracknelref02_digits.f k (IntKind.u64.wrap (a0))).bind fun t108 => (some t108))
set_option maxHeartbeats 8000000 in
set_option maxRecDepth 100000 in
theorem cracknelref02_Print.calls (k : Nat) (a0 : Int) (r : ByteArray) (w : World) (h : cracknelref02_Print.f k a0 = some r) :
  Calls Tryz.prog 37 #[.int .i64 a0] w fun e w' => e = .returned (.string r) ∧ Below w.heap.size w w' := by
 have HB := Aside0.mk (Below.refl w.heap.size w)
 have H : (if a0 < 0 then ((cracknelref02_digits.f k (IntKind.u64.wrap ((IntKind.u64.wrap (wrap64 (-(wrap64 (a0 + 1))))) + 1))).bind fun t107 => (if 1 + t107.size ≤ 9223372036854775807 then (some ((⟨#[45]⟩ : ByteArray) ++ t107)) else (none))) else ((cracknelref02_digits.f k (IntKind.u64.wrap (a0))).bind fun t108 => (some t108))) = some r := h
 clear h
 by_cases c2 : a0 < 0
 ·rw [if_pos c2] at H
  have c2b0 : decide (a0 < 0) = true := decide_eq_true c2
  clear c2
  replace H := Option.bind_eq_some_iff.mp H
  obtain ⟨t107, A30, H⟩ := H
  replace H : (if 1 + t107.size ≤ 9223372036854775807 then (some ((⟨#[45]⟩ : ByteArray) ++ t107)) else (none)) = some r := H
  have A3 := Aside0.mk A30
  clear A30
  by_cases c4 : 1 + t107.size ≤ 9223372036854775807
  ·rw [if_pos c4] at H
   have c4b0 := eq_true c4
   have c4b1 : decide (1 + t107.size ≤ 9223372036854775807) = true := decide_eq_true c4
   try have c4b2 : (9223372036854775807 < 1 + t107.size) = False := eq_false (Nat.not_lt.2 c4)
   obtain rfl := Option.some.inj H
   go_enter Tryz.func37, Tryz.ntmps37
   go_wp2_with (first | ((with_reducible refine gate_callee (f := 57) rfl ?_); refine goesL_ (some 10) rfl rfl Tryz.func57 (by kernel_rfl) rfl #[.int .u64 (IntKind.u64.wrap ((IntKind.u64.wrap (wrap64 (-(wrap64 (a0 + 1))))) + 1))] rfl (by (try simp only [List.map_toArray, List.map_cons, List.map_nil]); first | done | rfl | (simp only [List.length_drop, List.length_take]; rfl)) ?_; (with_reducible refine (cracknelref02_digits.calls k (IntKind.u64.wrap ((IntKind.u64.wrap (wrap64 (-(wrap64 (a0 + 1))))) + 1)) t107 _ A3.out).mono ?_); rintro e w5 ⟨rfl, hb⟩; refine ⟨_, rfl, ?_⟩; have n0_ := Aside0.mk (below_step (by repeat (first | (with_reducible first | exact HB.out | apply below_alloc | apply pw_below_drewN | apply below_drew1) | exact HB.out)) hb); clear HB; have HB := n0_; clear n0_; (try clear hb); (try clear hb2); (try clear hk); (try clear hi)))
   go_ret
   exact ⟨by first | rfl | (simp [errW_none, errW_some] <;> rfl) | (simp [*, errW_none, errW_some] <;> rfl), by repeat (first | (with_reducible first | exact HB.out | apply below_alloc | apply pw_below_drewN | apply below_drew1) | exact HB.out)⟩
  ·rw [if_neg c4] at H
   exact absurd H (by simp)
 ·rw [if_neg c2] at H
  have c2b0 : decide (a0 < 0) = false := decide_eq_false c2
  clear c2
  replace H := Option.bind_eq_some_iff.mp H
  obtain ⟨t108, A60, H⟩ := H
  replace H : (some t108) = some r := H
  have A6 := Aside0.mk A60
  clear A60
  obtain rfl := Option.some.inj H
  go_enter Tryz.func37, Tryz.ntmps37
  go_wp2_with (first | ((with_reducible refine gate_callee (f := 57) rfl ?_); refine goesL_ (some 14) rfl rfl Tryz.func57 (by kernel_rfl) rfl #[.int .u64 (IntKind.u64.wrap (a0))] rfl (by (try simp only [List.map_toArray, List.map_cons, List.map_nil]); first | done | rfl | (simp only [List.length_drop, List.length_take]; rfl)) ?_; (with_reducible refine (cracknelref02_digits.calls k (IntKind.u64.wrap (a0)) t108 _ A6.out).mono ?_); rintro e w7 ⟨rfl, hb⟩; refine ⟨_, rfl, ?_⟩; have n0_ := Aside0.mk (below_step (by repeat (first | (with_reducible first | exact HB.out | apply below_alloc | apply pw_below_drewN | apply below_drew1) | exact HB.out)) hb); clear HB; have HB := n0_; clear n0_; (try clear hb); (try clear hb2); (try clear hk); (try clear hi)))
  go_ret
  exact ⟨by first | rfl | (simp [errW_none, errW_some] <;> rfl) | (simp [*, errW_none, errW_some] <;> rfl), by repeat (first | (with_reducible first | exact HB.out | apply below_alloc | apply pw_below_drewN | apply below_drew1) | exact HB.out)⟩
def cracknelref08_end.l0 : Nat → List (S39) → Int → Int → Option (Int)
 | 0, _, _, _ => none
 | k + 1, x0, x1, x5 => if x5 < (x0.length : Int) then (if 0 ≤ x5 then (if 0 ≤ x1 then (if x1 < (x0.length : Int) then (if ((rd_T39 x0 x5).f0) > ((rd_T39 x0 x1).f0) then (cracknelref08_end.l0 k x0 x1 (wrap64 (x5 + 1))) else (some x5)) else (none)) else (none)) else (none)) else (some x5)
def cracknelref08_end.f (k : Nat) (l0 : List (S39)) (a1 : Int) : Option (Int) := cracknelref08_end.l0 k l0 a1 (wrap64 (a1 + 1))
set_option maxHeartbeats 8000000 in
set_option maxRecDepth 100000 in
theorem cracknelref08_end.calls (k : Nat) (A0 : Option Addr) (c0 : Nat) (l0 : List (S39)) (a1 : Int) (r : Int) (w : World) (hr0 : Kd.C k39 w A0 l0.length l0) (hc0 : l0.length ≤ c0) (h : cracknelref08_end.f k l0 a1 = some r) :
  Calls Tryz.prog 39 #[.slice A0 l0.length c0, .int .i64 a1] w fun e w' => e = .returned (.int .i64 r) ∧ Drawn0 w w' := by
 have HR0 := Aside0.mk hr0
 have HC0 := Aside0.mk hc0
 clear hr0 hc0
 have H : (cracknelref08_end.l0 k l0 a1 (wrap64 (a1 + 1))) = some r := h
 clear h
 have H' := Aside0.mk H
 clear H
 go_enter Tryz.func39, Tryz.ntmps39
 go_wp2
 repeat (go_quiet (fail); try go_wp2)
 go_loopg [5] k (fun kq v5 w' => ∃ (x5_1 : Int), v5 = .int .i64 x5_1 ∧ Aside0 (cracknelref08_end.l0 kq l0 a1 x5_1 = some r) ∧ Aside0 (kq ≤ k) ∧ Drawn0 w w')
 case atStart => exact ⟨(wrap64 (a1 + 1)), (by first | rfl | (simp; done) | (simp [*]; done)), H', ⟨Nat.le_refl _⟩, by repeat (first | exact Drawn0.refl _ | apply Drawn0.step)⟩
 case round =>
  clear H'
  try clear p2
  obtain ⟨x5_1, rfl, HA, HK1, ⟨m1, rfl⟩⟩ := hrel
  cases gk with
  | zero => exact absurd HA.out (by simp [cracknelref08_end.l0])
  | succ k1 =>
   have H := HA.out
   clear HA
   simp only [cracknelref08_end.l0] at H
   by_cases c3 : x5_1 < (l0.length : Int)
   ·rw [if_pos c3] at H
    have c3b0 : decide (x5_1 < (l0.length : Int)) = true := decide_eq_true c3
    clear c3
    by_cases c4 : 0 ≤ x5_1
    ·rw [if_pos c4] at H
     have c4b0 : decide (0 ≤ x5_1) = true := decide_eq_true c4
     clear c4
     by_cases c5 : 0 ≤ a1
     ·rw [if_pos c5] at H
      have c5b0 : decide (0 ≤ a1) = true := decide_eq_true c5
      clear c5
      by_cases c6 : a1 < (l0.length : Int)
      ·rw [if_pos c6] at H
       have c6b0 : decide (a1 < (l0.length : Int)) = true := decide_eq_true c6
       clear c6
       by_cases c7 : ((rd_T39 l0 x5_1).f0) > ((rd_T39 l0 a1).f0)
       ·rw [if_pos c7] at H
        have c7b0 : decide (((rd_T39 l0 a1).f0) < ((rd_T39 l0 x5_1).f0)) = true := decide_eq_true c7
        clear c7
        have H' := Aside0.mk H
        clear H
        have p109 : 0 ≤ (x5_1 : Int) := of_decide_eq_true (by first | (with_reducible assumption) | assumption)
        have q109 : x5_1 < (l0.length : Int) := of_decide_eq_true (by first | (with_reducible assumption) | assumption)
        obtain ⟨ad109, e109, hx109_0, hx109_1, hx109_2, hx109_3, hx109_4⟩ := at_T39 HR0.out x5_1 p109 q109
        cases e109
        replace p109 := eq_true p109
        replace q109 := eq_true q109
        have p110 : 0 ≤ (a1 : Int) := of_decide_eq_true (by first | (with_reducible assumption) | assumption)
        have q110 : a1 < (l0.length : Int) := of_decide_eq_true (by first | (with_reducible assumption) | assumption)
        obtain ⟨ad110, e110, hx110_0, hx110_1, hx110_2, hx110_3, hx110_4⟩ := at_T39 HR0.out a1 p110 q110
        obtain rfl : ad109 = ad110 := (by injection e110)
        replace p110 := eq_true p110
        replace q110 := eq_true q110
        go_wp2
        repeat (go_quiet (fail); try go_wp2)
        go_roundg k1
        case measure => have := HK1.out; omega
        case rel => exact ⟨(wrap64 (x5_1 + 1)), (by first | rfl | (simp; done) | (simp [*]; done)), H', ⟨by have := HK1.out; omega⟩, by repeat (first | exact Drawn0.refl _ | apply Drawn0.step)⟩
       ·rw [if_neg c7] at H
        have c7b0 : decide (((rd_T39 l0 a1).f0) < ((rd_T39 l0 x5_1).f0)) = false := decide_eq_false c7
        clear c7
        obtain rfl := Option.some.inj H
        have p109 : 0 ≤ (x5_1 : Int) := of_decide_eq_true (by first | (with_reducible assumption) | assumption)
        have q109 : x5_1 < (l0.length : Int) := of_decide_eq_true (by first | (with_reducible assumption) | assumption)
        obtain ⟨ad109, e109, hx109_0, hx109_1, hx109_2, hx109_3, hx109_4⟩ := at_T39 HR0.out x5_1 p109 q109
        cases e109
        replace p109 := eq_true p109
        replace q109 := eq_true q109
        have p110 : 0 ≤ (a1 : Int) := of_decide_eq_true (by first | (with_reducible assumption) | assumption)
        have q110 : a1 < (l0.length : Int) := of_decide_eq_true (by first | (with_reducible assumption) | assumption)
        obtain ⟨ad110, e110, hx110_0, hx110_1, hx110_2, hx110_3, hx110_4⟩ := at_T39 HR0.out a1 p110 q110
        obtain rfl : ad109 = ad110 := (by injection e110)
        replace p110 := eq_true p110
        replace q110 := eq_true q110
        go_wp2
        repeat (go_quiet (fail); try go_wp2)
        go_ret
        exact ⟨by first | rfl | (simp; done) | (simp [*]; done), by repeat (first | exact Drawn0.refl _ | apply Drawn0.step)⟩
      ·rw [if_neg c6] at H
       exact absurd H (by simp)
     ·rw [if_neg c5] at H
      exact absurd H (by simp)
    ·rw [if_neg c4] at H
     exact absurd H (by simp)
   ·rw [if_neg c3] at H
    have c3b0 : decide (x5_1 < (l0.length : Int)) = false := decide_eq_false c3
    clear c3
    obtain rfl := Option.some.inj H
    go_wp2
    repeat (go_quiet (fail); try go_wp2)
    go_ret
    exact ⟨by first | rfl | (simp; done) | (simp [*]; done), by repeat (first | exact Drawn0.refl _ | apply Drawn0.step)⟩
end Go.Proofs.YthhmmaihbjhhgaaGreatDoor.J3
