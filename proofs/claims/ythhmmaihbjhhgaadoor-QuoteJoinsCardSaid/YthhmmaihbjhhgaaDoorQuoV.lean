/- The law QuoteJoins, walked by hand. -/
import Derived.Test.YthhmmaihbjhhgaaDoorQ2x1
import Derived.WalkMore
namespace Go.Proofs.YthhmmaihbjhhgaaDoor.Giv
open Go.RowKit Go.Proofs.YthhmmaihbjhhgaaDoorW.PrintWords Go.Proofs.YthhmmaihbjhhgaaDoorW.PrintLast Go.Proofs.YthhmmaihbjhhgaaDoorW.PrintMore
open Go.Proofs.YthhmmaihbjhhgaaDoor.U1 Go.Proofs.YthhmmaihbjhhgaaDoor.Q1 Go.Proofs.YthhmmaihbjhhgaaDoor.Q2

set_option maxHeartbeats 4000000 in
set_option maxRecDepth 100000 in
theorem joins_yes (k : Nat) (a b A B J : ByteArray) (w : World) (ht : Tabs w) (h1 : a.size ≤ 300) (h2 : b.size ≤ 300) (hA : quote_Write.f a = some (A, true)) (hB : quote_Write.f b = some (B, true))
    (hJ : quote_Write.f (a ++ b) = some (J, true)) (zA : 2 ≤ A.size ∧ A.size ≤ 2000) (zB : 2 ≤ B.size ∧ B.size ≤ 2000) (m : Nat) (hm : A.size = m + 1) (hc : A.extract 0 m ++ B.extract 1 B.size = J)
    (hR : quote_Read.f k (A.extract 0 m ++ B.extract 1 B.size) = some (a ++ b, (J.size : Int), 0)) (hal : cracknellaw07_alive.f k = some true) :
    Calls Tryd.prog 13 #[.string a, .string b] w fun e w' => e = .returned (.bool true) ∧ Below w.heap.size w w' := by
  have FA := Aside0.mk hA
  have FB := Aside0.mk hB
  have FJ := Aside0.mk hJ
  have FR := Aside0.mk hR
  have FL := Aside0.mk hal
  have e0 : wrap64 ((A.size : Int) - 1) = (m : Int) := by rw [hm]; unfold wrap64; omega
  have e1 : IntKind.i64.wrap ((A.size : Int) - 1) = (m : Int) := by rw [i64_w]; exact e0
  have q4 : (m ≤ A.size) = True := eq_true (by omega)
  have q5 : (1 ≤ B.size) = True := eq_true (by omega)
  have q6 : (9223372036854775807 < a.size + b.size) = False := eq_false (by omega)
  have q0 : (0 ≤ (m : Int)) = True := eq_true (by omega)
  have q1 : ((m : Int) ≤ (A.size : Int)) = True := eq_true (by omega)
  have q2 : (1 ≤ (B.size : Int)) = True := eq_true (by omega)
  have q3 : (9223372036854775807 < m + (B.size - 1)) = False := eq_false (by omega)
  have c5 : (J.toList == (A.extract 0 m ++ B.extract 1 B.size).toList) = true := by rw [hc]; exact beq_self_eq_true _
  have HB := Aside0.mk (Below.refl w.heap.size w)
  obtain ⟨zA1, zA2⟩ := zA
  obtain ⟨zB1, zB2⟩ := zB
  have c1 : decide (300 < (a.size : Int)) = false := decide_eq_false (by omega)
  have c2 : decide (300 < (b.size : Int)) = false := decide_eq_false (by omega)
  have c3 : decide ((A.size : Int) < 2) = false := decide_eq_false (by omega)
  have c4 : decide ((B.size : Int) < 2) = false := decide_eq_false (by omega)
  clear hA hB hJ hR hal hc
  go_enter Tryd.func13, Tryd.ntmps13
  go_wp2_with (first
    | (go_at_call 33; with_reducible refine (quote_Write.calls a _ _ _ FA.out).mono ?_; rintro e w1 ⟨rfl, hb⟩; have HB := Aside0.mk (below_step HB.out hb))
    | (go_at_call 33; with_reducible refine (quote_Write.calls b _ _ _ FB.out).mono ?_; rintro e w1 ⟨rfl, hb⟩; have HB := Aside0.mk (below_step HB.out hb))
    | (go_at_call 33; with_reducible refine (quote_Write.calls (a ++ b) _ _ _ FJ.out).mono ?_; rintro e w1 ⟨rfl, hb⟩; have HB := Aside0.mk (below_step HB.out hb)))
  clear hm
  have HT : Aside0 (Tabs w) := ⟨ht⟩
  go_region_held3 (fun w' => Below w.heap.size w w')
    (first
      | exact Aside0.out (by assumption)
      | assumption
      | exact below_drew (Aside0.out (by assumption))
      | exact below_drew (by assumption))
    (first
      | (go_at_call 35; with_reducible refine (quote_Read.calls k _ _ _ _ _ FR.out).mono ?_; rintro e w1 ⟨rfl, hb⟩; have hB2 := below_step ‹Below w.heap.size w _› hb))
  have HB := Aside0.mk hB2
  clear hB2
  go_wp2_with fail
  go_region_held3 (fun w' => Below w.heap.size w w')
    (first
      | exact Aside0.out (by assumption)
      | assumption
      | exact below_drew (Aside0.out (by assumption))
      | exact below_drew (by assumption))
    (first
      | (go_at_call 32; with_reducible refine (cracknellaw07_alive.calls k _ _ FL.out).mono ?_; rintro e w1 ⟨rfl, hb⟩; have hB2 := below_step ‹Below w.heap.size w _› hb))
  have HB := Aside0.mk hB2
  clear hB2
  go_wp2_with fail
  go_ret
  exact ⟨rfl, HB.out⟩
set_option maxHeartbeats 4000000 in
set_option maxRecDepth 100000 in
theorem joins_a (k : Nat) (a b : ByteArray) (w : World) (ht : Tabs w) (hal : cracknellaw07_alive.f k = some true) (h1 : 300 < a.size) :
    Calls Tryd.prog 13 #[.string a, .string b] w fun e w' => e = .returned (.bool true) ∧ Below w.heap.size w w' := by
  have FL := Aside0.mk hal
  have HB := Aside0.mk (Below.refl w.heap.size w)
  have c1 : decide (300 < (a.size : Int)) = true := decide_eq_true (by omega)
  clear hal
  go_enter Tryd.func13, Tryd.ntmps13
  go_wp2_with (first
    | (go_at_call 32; with_reducible refine (cracknellaw07_alive.calls k _ _ FL.out).mono ?_; rintro e w1 ⟨rfl, hb⟩; have HB := Aside0.mk (below_step HB.out hb)))
  go_ret
  exact ⟨rfl, HB.out⟩
set_option maxHeartbeats 4000000 in
set_option maxRecDepth 100000 in
theorem joins_b (k : Nat) (a b : ByteArray) (w : World) (ht : Tabs w) (hal : cracknellaw07_alive.f k = some true) (h1 : a.size ≤ 300) (h2 : 300 < b.size) :
    Calls Tryd.prog 13 #[.string a, .string b] w fun e w' => e = .returned (.bool true) ∧ Below w.heap.size w w' := by
  have FL := Aside0.mk hal
  have HB := Aside0.mk (Below.refl w.heap.size w)
  have c1 : decide (300 < (a.size : Int)) = false := decide_eq_false (by omega)
  have c2 : decide (300 < (b.size : Int)) = true := decide_eq_true (by omega)
  clear hal
  go_enter Tryd.func13, Tryd.ntmps13
  go_wp2_with (first
    | (go_at_call 32; with_reducible refine (cracknellaw07_alive.calls k _ _ FL.out).mono ?_; rintro e w1 ⟨rfl, hb⟩; have HB := Aside0.mk (below_step HB.out hb)))
  go_ret
  exact ⟨rfl, HB.out⟩
set_option maxHeartbeats 4000000 in
set_option maxRecDepth 100000 in
theorem joins_no (k : Nat) (a b : ByteArray) (w : World) (ht : Tabs w) (hal : cracknellaw07_alive.f k = some true) (h1 : a.size ≤ 300) (h2 : b.size ≤ 300) (A B : ByteArray) (v : Bool) (hA : quote_Write.f a = some (A, false)) (hB : quote_Write.f b = some (B, v)) :
    Calls Tryd.prog 13 #[.string a, .string b] w fun e w' => e = .returned (.bool true) ∧ Below w.heap.size w w' := by
  have FL := Aside0.mk hal
  have HB := Aside0.mk (Below.refl w.heap.size w)
  have c1 : decide (300 < (a.size : Int)) = false := decide_eq_false (by omega)
  have c2 : decide (300 < (b.size : Int)) = false := decide_eq_false (by omega)
  have FA := Aside0.mk hA
  have FB := Aside0.mk hB
  clear hA hB
  clear hal
  go_enter Tryd.func13, Tryd.ntmps13
  go_wp2_with (first
    | (go_at_call 33; with_reducible refine (quote_Write.calls a _ _ _ FA.out).mono ?_; rintro e w1 ⟨rfl, hb⟩; have HB := Aside0.mk (below_step HB.out hb))
    | (go_at_call 33; with_reducible refine (quote_Write.calls b _ _ _ FB.out).mono ?_; rintro e w1 ⟨rfl, hb⟩; have HB := Aside0.mk (below_step HB.out hb))
    | (go_at_call 32; with_reducible refine (cracknellaw07_alive.calls k _ _ FL.out).mono ?_; rintro e w1 ⟨rfl, hb⟩; have HB := Aside0.mk (below_step HB.out hb)))
  go_ret
  exact ⟨rfl, HB.out⟩
set_option maxHeartbeats 4000000 in
set_option maxRecDepth 100000 in
theorem joins_nob (k : Nat) (a b : ByteArray) (w : World) (ht : Tabs w) (hal : cracknellaw07_alive.f k = some true) (h1 : a.size ≤ 300) (h2 : b.size ≤ 300) (A B : ByteArray) (hA : quote_Write.f a = some (A, true)) (hB : quote_Write.f b = some (B, false)) :
    Calls Tryd.prog 13 #[.string a, .string b] w fun e w' => e = .returned (.bool true) ∧ Below w.heap.size w w' := by
  have FL := Aside0.mk hal
  have HB := Aside0.mk (Below.refl w.heap.size w)
  have c1 : decide (300 < (a.size : Int)) = false := decide_eq_false (by omega)
  have c2 : decide (300 < (b.size : Int)) = false := decide_eq_false (by omega)
  have FA := Aside0.mk hA
  have FB := Aside0.mk hB
  clear hA hB
  clear hal
  go_enter Tryd.func13, Tryd.ntmps13
  go_wp2_with (first
    | (go_at_call 33; with_reducible refine (quote_Write.calls a _ _ _ FA.out).mono ?_; rintro e w1 ⟨rfl, hb⟩; have HB := Aside0.mk (below_step HB.out hb))
    | (go_at_call 33; with_reducible refine (quote_Write.calls b _ _ _ FB.out).mono ?_; rintro e w1 ⟨rfl, hb⟩; have HB := Aside0.mk (below_step HB.out hb))
    | (go_at_call 32; with_reducible refine (cracknellaw07_alive.calls k _ _ FL.out).mono ?_; rintro e w1 ⟨rfl, hb⟩; have HB := Aside0.mk (below_step HB.out hb)))
  go_ret
  exact ⟨rfl, HB.out⟩
end Go.Proofs.YthhmmaihbjhhgaaDoor.Giv
