/- What the proof of JsonApart stands on, part 3: cut and merged by a program out of this session's texts. -/
import Derived.Test.YthhmmaihbjhhgaaDoorKP2
import Derived.Test.YthhmmaihbjhhgaaDoorProg
import Derived.Below
import Derived.Deep.Draws
import Derived.Deep.AppendLies
import Derived.Maps.AppendAt
import Derived.OwnWalk
import Derived.Laws.BytesArg
import Derived.Laws.MakeOwn
import Derived.Laws.OwnMore
import Derived.Deep.OwnRows
import Derived.Tactics
import Derived.Lib.ConvBytes
import Derived.Laws.Slices
import Derived.WalkKit
import Derived.KernelRfl
import Derived.RowKit3
import Derived.Deep.LoopGhost
import Derived.Deep.QuietTactic
import Derived.BigQuiet
import Derived.WideLaws
import Derived.Deep.DeepCutAuto
import Derived.Deep.CutBlock
import Derived.Deep.RegionHeld3
import Derived.Laws.Rows
import Derived.Lib.AppendStr
import Derived.ArgAppend
import Derived.Laws.IdiomCopy
import Derived.OrdersHeld
import Derived.Laws.BitsLemmas
import Derived.RowKit
set_option linter.unusedVariables false
set_option linter.unusedSimpArgs false
namespace Go.Proofs.YthhmmaihbjhhgaaDoor.Giv
open Go.RowKit Go.Proofs.YthhmmaihbjhhgaaDoorW.PrintWords Go.Proofs.YthhmmaihbjhhgaaDoorW.PrintLast Go.Proofs.YthhmmaihbjhhgaaDoorW.PrintMore
open Go.Proofs.YthhmmaihbjhhgaaDoor.U1 Go.Proofs.YthhmmaihbjhhgaaDoor.Q1
set_option linter.unusedSimpArgs false
theorem skip_le (s : ByteArray) (p : Nat) (hp : p ≤ s.size) : skipP s p ≤ s.size := by
  have g : ∀ l : List UInt8, skips l ≤ l.length := by
    intro l
    induction l with
    | nil => exact Nat.le_refl _
    | cons c l ih =>
      rw [skips, List.length_cons]; split
      · omega
      · omega
  have := g (s.data.toList.drop p)
  rw [List.length_drop, data_length] at this
  unfold skipP; omega
/-- is a byte there, behind blanks? how far it was read then -/
def takesP (s : ByteArray) (p : Nat) (c : Nat) : Bool × Nat := if nextC s p = c ∧ skipP s p < s.size then (true, skipP s p + 1) else (false, skipP s p)
set_option maxHeartbeats 4000000 in
set_option maxRecDepth 100000 in
theorem takes_not (w0 W : World) (g : Nat) (s : ByteArray) (p : Nat) (v : Value) (c : Nat) (hR : Rd W g s p v) (hB : Below w0.heap.size w0 W) (hg : w0.heap.size ≤ g) (hp : p ≤ s.size) (hs : s.size ≤ 4611686018427387904) (hc : nextC s p ≠ c) :
    Calls Tryd.prog 101 #[.pointer (some ⟨g, 0, none⟩), .int .u8 (c : Int)] W fun e W' => e = .returned (.bool false) ∧ Rd W' g s (skipP s p) v ∧ Below w0.heap.size w0 W' ∧ KeepBut W W' g none := by
  have HR := Aside0.mk hR
  have HB := Aside0.mk hB
  have HG := Aside0.mk hg
  have HS := Aside0.mk hs
  have HP := Aside0.mk hp
  have hc0 : W.drew.cell? ⟨g, 0, none⟩ = some (.string s) := (blk_cell hR 0).trans rfl
  have n1 : ((nextC s p : Int) == (c : Int)) = false := beq_eq_false_iff_ne.mpr (by omega)
  have n2 : ((nextC s p : Int) != (c : Int)) = true := bne_iff_ne.mpr (by omega)
  clear hc
  clear hR hB hg hs hp
  go_enter Tryd.func101, Tryd.ntmps101
  go_wp2_with fail
  refine wp_region_held_drew (S := fun w' => w'.cell? ⟨g, 0, none⟩ = some (.string s)) (by kernel_rfl) hc0 (fun hHeld => ?_)
  refine wpAnyH_take (i := 0) (oi := { dst := some 5, op := _, type := _, pos := _, after := _, guard := _ }) (v := ?_) rfl (by kernel_rfl) (by kernel_rfl) (by kernel_rfl) (fun _ _ _ h => h) (Or.inl ⟨by rfl, ?_⟩) (by assumption) ?_
  rotate_left
  · intro w hSw
    (try dsimp only at hSw)
    go_simp
    (try with_reducible rfl)
  (try simp only [Act.put, List.setIfInBounds_toArray, List.set_cons_zero, List.set_cons_succ])
  refine wpAnyH_take (i := 2) (oi := { dst := some 7, op := _, type := _, pos := _, after := _, guard := _ }) (v := ?_) rfl (by kernel_rfl) (by kernel_rfl) (by kernel_rfl) (fun _ _ _ h => h) (Or.inl ⟨by rfl, ?_⟩) (by assumption) ?_
  rotate_left
  · intro w hSw
    (try dsimp only at hSw)
    go_simp
    (try with_reducible rfl)
  (try simp only [Act.put, List.setIfInBounds_toArray, List.set_cons_zero, List.set_cons_succ])
  refine wpAnyH_ready (rs := [1]) (by kernel_rfl) (by simp) ?_
  refine AllReadyH.cons (o := { dst := some 6, op := _, type := _, pos := _, after := _, guard := _ }) rfl (fun K hK => ?_) AllReadyH.nil
  go_simp
  (go_at_call 70; refine (next_calls w0 W.drew g s p v HR.out (by repeat (first | exact HB.out | apply below_drew1)) HG.out HP.out HS.out).mono ?_; rintro e w1 ⟨rfl, hR1, hB1, hK1⟩)
  have HR := Aside0.mk hR1
  have HB := Aside0.mk hB1
  have HK := Aside0.mk hK1
  have hd0 : w1.cell? ⟨g, 0, none⟩ = some (.string s) := (blk_cell hR1 0).trans rfl
  have hd1 : w1.cell? ⟨g, 1, none⟩ = some (.int .i64 (skipP s p : Nat)) := (blk_cell hR1 1).trans rfl
  have hf1 := blk_frozen hR1 1
  clear hR1 hB1 hK1
  go_wp2_with fail
  refine hK.out _ _ ?_ (fun hHeld => ?_)
  · exact hd0
  clear hK K
  (try simp only [Act.put, List.setIfInBounds_toArray, List.set_cons_zero, List.set_cons_succ])
  refine wpAnyH_take (i := 3) (oi := { dst := some 8, op := _, type := _, pos := _, after := _, guard := _ }) (v := ?_) rfl (by kernel_rfl) (by kernel_rfl) (by kernel_rfl) (fun _ _ _ h => h) (Or.inl ⟨by rfl, ?_⟩) (by assumption) ?_
  rotate_left
  · intro w hSw
    (try dsimp only at hSw)
    go_simp
    (try with_reducible rfl)
  (try simp only [Act.put, List.setIfInBounds_toArray, List.set_cons_zero, List.set_cons_succ])
  refine wpAnyH_take (i := 4) (oi := { dst := some 9, op := _, type := _, pos := _, after := _, guard := _ }) (v := ?_) rfl (by kernel_rfl) (by kernel_rfl) (by kernel_rfl) (fun _ _ _ h => h) (Or.inl ⟨by rfl, ?_⟩) (by assumption) ?_
  rotate_left
  · intro w hSw
    (try dsimp only at hSw)
    go_simp
    (try with_reducible rfl)
  (try simp only [Act.put, List.setIfInBounds_toArray, List.set_cons_zero, List.set_cons_succ])
  refine wpAnyH_take (i := 5) (oi := { dst := some 10, op := _, type := _, pos := _, after := _, guard := _ }) (v := undef) rfl (by kernel_rfl) (by kernel_rfl) (by kernel_rfl) (fun _ _ _ h => h) (Or.inr ⟨by rfl, rfl⟩) (by assumption) ?_
  (try simp only [Act.put, List.setIfInBounds_toArray, List.set_cons_zero, List.set_cons_succ])
  refine wpAnyH_take (i := 6) (oi := { dst := some 11, op := _, type := _, pos := _, after := _, guard := _ }) (v := undef) rfl (by kernel_rfl) (by kernel_rfl) (by kernel_rfl) (fun _ _ _ h => h) (Or.inr ⟨by rfl, rfl⟩) (by assumption) ?_
  (try simp only [Act.put, List.setIfInBounds_toArray, List.set_cons_zero, List.set_cons_succ])
  refine wpAnyH_take (i := 7) (oi := { dst := some 12, op := _, type := _, pos := _, after := _, guard := _ }) (v := undef) rfl (by kernel_rfl) (by kernel_rfl) (by kernel_rfl) (fun _ _ _ h => h) (Or.inr ⟨by rfl, rfl⟩) (by assumption) ?_
  (try simp only [Act.put, List.setIfInBounds_toArray, List.set_cons_zero, List.set_cons_succ])
  refine wpAnyH_take (i := 8) (oi := { dst := some 13, op := _, type := _, pos := _, after := _, guard := _ }) (v := undef) rfl (by kernel_rfl) (by kernel_rfl) (by kernel_rfl) (fun _ _ _ h => h) (Or.inr ⟨by rfl, rfl⟩) (by assumption) ?_
  (try simp only [Act.put, List.setIfInBounds_toArray, List.set_cons_zero, List.set_cons_succ])
  refine wpAnyH_take (i := 9) (oi := { dst := some 14, op := _, type := _, pos := _, after := _, guard := _ }) (v := undef) rfl (by kernel_rfl) (by kernel_rfl) (by kernel_rfl) (fun _ _ _ h => h) (Or.inr ⟨by rfl, rfl⟩) (by assumption) ?_
  (try simp only [Act.put, List.setIfInBounds_toArray, List.set_cons_zero, List.set_cons_succ])
  refine wpAnyH_take (i := 10) (oi := { dst := some 15, op := _, type := _, pos := _, after := _, guard := _ }) (v := undef) rfl (by kernel_rfl) (by kernel_rfl) (by kernel_rfl) (fun _ _ _ h => h) (Or.inr ⟨by rfl, rfl⟩) (by assumption) ?_
  (try simp only [Act.put, List.setIfInBounds_toArray, List.set_cons_zero, List.set_cons_succ])
  refine wpAnyH_take (i := 11) (oi := { dst := some 16, op := _, type := _, pos := _, after := _, guard := _ }) (v := undef) rfl (by kernel_rfl) (by kernel_rfl) (by kernel_rfl) (fun _ _ _ h => h) (Or.inr ⟨by rfl, rfl⟩) (by assumption) ?_
  (try simp only [Act.put, List.setIfInBounds_toArray, List.set_cons_zero, List.set_cons_succ])
  refine wpAnyH_take (i := 12) (oi := { dst := some 17, op := _, type := _, pos := _, after := _, guard := _ }) (v := undef) rfl (by kernel_rfl) (by kernel_rfl) (by kernel_rfl) (fun _ _ _ h => h) (Or.inr ⟨by rfl, rfl⟩) (by assumption) ?_
  (try simp only [Act.put, List.setIfInBounds_toArray, List.set_cons_zero, List.set_cons_succ])
  refine wpAnyH_take (i := 13) (oi := { dst := some 18, op := _, type := _, pos := _, after := _, guard := _ }) (v := undef) rfl (by kernel_rfl) (by kernel_rfl) (by kernel_rfl) (fun _ _ _ h => h) (Or.inr ⟨by rfl, rfl⟩) (by assumption) ?_
  (try simp only [Act.put, List.setIfInBounds_toArray, List.set_cons_zero, List.set_cons_succ])
  refine wpAnyH_take (i := 14) (oi := { dst := some 19, op := _, type := _, pos := _, after := _, guard := _ }) (v := undef) rfl (by kernel_rfl) (by kernel_rfl) (by kernel_rfl) (fun _ _ _ h => h) (Or.inr ⟨by rfl, rfl⟩) (by assumption) ?_
  (try simp only [Act.put, List.setIfInBounds_toArray, List.set_cons_zero, List.set_cons_succ])
  refine wpAnyH_take (i := 15) (oi := { dst := some 20, op := _, type := _, pos := _, after := _, guard := _ }) (v := ?_) rfl (by kernel_rfl) (by kernel_rfl) (by kernel_rfl) (fun _ _ _ h => h) (Or.inl ⟨by rfl, ?_⟩) (by assumption) ?_
  rotate_left
  · intro w hSw
    (try dsimp only at hSw)
    go_simp
    (try with_reducible rfl)
  (try simp only [Act.put, List.setIfInBounds_toArray, List.set_cons_zero, List.set_cons_succ])
  refine wpAnyH_done (by kernel_rfl) ?_ _
  go_wp2_with fail
  go_ret
  exact ⟨rfl, HR.out, HB.out, HK.out⟩
set_option maxHeartbeats 4000000 in
set_option maxRecDepth 100000 in
theorem takes_end (w0 W : World) (g : Nat) (s : ByteArray) (p : Nat) (v : Value) (c : Nat) (hR : Rd W g s p v) (hB : Below w0.heap.size w0 W) (hg : w0.heap.size ≤ g) (hp : p ≤ s.size) (hs : s.size ≤ 4611686018427387904) (hc : nextC s p = c) (he : skipP s p = s.size) :
    Calls Tryd.prog 101 #[.pointer (some ⟨g, 0, none⟩), .int .u8 (c : Int)] W fun e W' => e = .returned (.bool false) ∧ Rd W' g s (skipP s p) v ∧ Below w0.heap.size w0 W' ∧ KeepBut W W' g none := by
  have HR := Aside0.mk hR
  have HB := Aside0.mk hB
  have HG := Aside0.mk hg
  have HS := Aside0.mk hs
  have HP := Aside0.mk hp
  have hc0 : W.drew.cell? ⟨g, 0, none⟩ = some (.string s) := (blk_cell hR 0).trans rfl
  have n1 : ((nextC s p : Int) == (c : Int)) = true := beq_iff_eq.mpr (by omega)
  have n2 : ((nextC s p : Int) != (c : Int)) = false := bne_eq_false_iff_eq.mpr (by omega)
  have n3 : ((skipP s p : Int) == (s.size : Int)) = true := beq_iff_eq.mpr (by omega)
  clear hc he
  clear hR hB hg hs hp
  go_enter Tryd.func101, Tryd.ntmps101
  go_wp2_with fail
  refine wp_region_held_drew (S := fun w' => w'.cell? ⟨g, 0, none⟩ = some (.string s)) (by kernel_rfl) hc0 (fun hHeld => ?_)
  refine wpAnyH_take (i := 0) (oi := { dst := some 5, op := _, type := _, pos := _, after := _, guard := _ }) (v := ?_) rfl (by kernel_rfl) (by kernel_rfl) (by kernel_rfl) (fun _ _ _ h => h) (Or.inl ⟨by rfl, ?_⟩) (by assumption) ?_
  rotate_left
  · intro w hSw
    (try dsimp only at hSw)
    go_simp
    (try with_reducible rfl)
  (try simp only [Act.put, List.setIfInBounds_toArray, List.set_cons_zero, List.set_cons_succ])
  refine wpAnyH_take (i := 2) (oi := { dst := some 7, op := _, type := _, pos := _, after := _, guard := _ }) (v := ?_) rfl (by kernel_rfl) (by kernel_rfl) (by kernel_rfl) (fun _ _ _ h => h) (Or.inl ⟨by rfl, ?_⟩) (by assumption) ?_
  rotate_left
  · intro w hSw
    (try dsimp only at hSw)
    go_simp
    (try with_reducible rfl)
  (try simp only [Act.put, List.setIfInBounds_toArray, List.set_cons_zero, List.set_cons_succ])
  refine wpAnyH_ready (rs := [1]) (by kernel_rfl) (by simp) ?_
  refine AllReadyH.cons (o := { dst := some 6, op := _, type := _, pos := _, after := _, guard := _ }) rfl (fun K hK => ?_) AllReadyH.nil
  go_simp
  (go_at_call 70; refine (next_calls w0 W.drew g s p v HR.out (by repeat (first | exact HB.out | apply below_drew1)) HG.out HP.out HS.out).mono ?_; rintro e w1 ⟨rfl, hR1, hB1, hK1⟩)
  have HR := Aside0.mk hR1
  have HB := Aside0.mk hB1
  have HK := Aside0.mk hK1
  have hd0 : w1.cell? ⟨g, 0, none⟩ = some (.string s) := (blk_cell hR1 0).trans rfl
  have hd1 : w1.cell? ⟨g, 1, none⟩ = some (.int .i64 (skipP s p : Nat)) := (blk_cell hR1 1).trans rfl
  have hf1 := blk_frozen hR1 1
  clear hR1 hB1 hK1
  go_wp2_with fail
  refine hK.out _ _ ?_ (fun hHeld => ?_)
  · exact hd0
  clear hK K
  (try simp only [Act.put, List.setIfInBounds_toArray, List.set_cons_zero, List.set_cons_succ])
  refine wpAnyH_take (i := 3) (oi := { dst := some 8, op := _, type := _, pos := _, after := _, guard := _ }) (v := ?_) rfl (by kernel_rfl) (by kernel_rfl) (by kernel_rfl) (fun _ _ _ h => h) (Or.inl ⟨by rfl, ?_⟩) (by assumption) ?_
  rotate_left
  · intro w hSw
    (try dsimp only at hSw)
    go_simp
    (try with_reducible rfl)
  (try simp only [Act.put, List.setIfInBounds_toArray, List.set_cons_zero, List.set_cons_succ])
  refine wpAnyH_take (i := 4) (oi := { dst := some 9, op := _, type := _, pos := _, after := _, guard := _ }) (v := ?_) rfl (by kernel_rfl) (by kernel_rfl) (by kernel_rfl) (fun _ _ _ h => h) (Or.inl ⟨by rfl, ?_⟩) (by assumption) ?_
  rotate_left
  · intro w hSw
    (try dsimp only at hSw)
    go_simp
    (try with_reducible rfl)
  (try simp only [Act.put, List.setIfInBounds_toArray, List.set_cons_zero, List.set_cons_succ])
  refine wpAnyH_take (i := 5) (oi := { dst := some 10, op := _, type := _, pos := _, after := _, guard := _ }) (v := ?_) rfl (by kernel_rfl) (by kernel_rfl) (by kernel_rfl) (fun _ _ _ h => h) (Or.inl ⟨by rfl, ?_⟩) (by assumption) ?_
  rotate_left
  · intro w hSw
    (try dsimp only at hSw)
    go_simp
    (try with_reducible rfl)
  (try simp only [Act.put, List.setIfInBounds_toArray, List.set_cons_zero, List.set_cons_succ])
  refine wpAnyH_take (i := 6) (oi := { dst := some 11, op := _, type := _, pos := _, after := _, guard := _ }) (v := ?_) rfl (by kernel_rfl) (by kernel_rfl) (by kernel_rfl) (fun _ _ _ h => h) (Or.inl ⟨by rfl, ?_⟩) (by assumption) ?_
  rotate_left
  · intro w hSw
    (try dsimp only at hSw)
    go_simp
    (try with_reducible rfl)
  (try simp only [Act.put, List.setIfInBounds_toArray, List.set_cons_zero, List.set_cons_succ])
  refine wpAnyH_take (i := 7) (oi := { dst := some 12, op := _, type := _, pos := _, after := _, guard := _ }) (v := ?_) rfl (by kernel_rfl) (by kernel_rfl) (by kernel_rfl) (fun _ _ _ h => h) (Or.inl ⟨by rfl, ?_⟩) (by assumption) ?_
  rotate_left
  · intro w hSw
    (try dsimp only at hSw)
    go_simp
    (try with_reducible rfl)
  (try simp only [Act.put, List.setIfInBounds_toArray, List.set_cons_zero, List.set_cons_succ])
  refine wpAnyH_take (i := 9) (oi := { dst := some 14, op := _, type := _, pos := _, after := _, guard := _ }) (v := ?_) rfl (by kernel_rfl) (by kernel_rfl) (by kernel_rfl) (fun _ _ _ h => h) (Or.inl ⟨by rfl, ?_⟩) (by assumption) ?_
  rotate_left
  · intro w hSw
    (try dsimp only at hSw)
    go_simp
    (try with_reducible rfl)
  (try simp only [Act.put, List.setIfInBounds_toArray, List.set_cons_zero, List.set_cons_succ])
  refine wpAnyH_take (i := 10) (oi := { dst := some 15, op := _, type := _, pos := _, after := _, guard := _ }) (v := ?_) rfl (by kernel_rfl) (by kernel_rfl) (by kernel_rfl) (fun _ _ _ h => h) (Or.inl ⟨by rfl, ?_⟩) (by assumption) ?_
  rotate_left
  · intro w hSw
    (try dsimp only at hSw)
    go_simp
    (try with_reducible rfl)
  (try simp only [Act.put, List.setIfInBounds_toArray, List.set_cons_zero, List.set_cons_succ])
  refine wpAnyH_take (i := 11) (oi := { dst := some 16, op := _, type := _, pos := _, after := _, guard := _ }) (v := ?_) rfl (by kernel_rfl) (by kernel_rfl) (by kernel_rfl) (fun _ _ _ h => h) (Or.inl ⟨by rfl, ?_⟩) (by assumption) ?_
  rotate_left
  · intro w hSw
    (try dsimp only at hSw)
    go_simp
    (try with_reducible rfl)
  (try simp only [Act.put, List.setIfInBounds_toArray, List.set_cons_zero, List.set_cons_succ])
  refine wpAnyH_take (i := 12) (oi := { dst := some 17, op := _, type := _, pos := _, after := _, guard := _ }) (v := ?_) rfl (by kernel_rfl) (by kernel_rfl) (by kernel_rfl) (fun _ _ _ h => h) (Or.inl ⟨by rfl, ?_⟩) (by assumption) ?_
  rotate_left
  · intro w hSw
    (try dsimp only at hSw)
    go_simp
    (try with_reducible rfl)
  (try simp only [Act.put, List.setIfInBounds_toArray, List.set_cons_zero, List.set_cons_succ])
  refine wpAnyH_take (i := 13) (oi := { dst := some 18, op := _, type := _, pos := _, after := _, guard := _ }) (v := ?_) rfl (by kernel_rfl) (by kernel_rfl) (by kernel_rfl) (fun _ _ _ h => h) (Or.inl ⟨by rfl, ?_⟩) (by assumption) ?_
  rotate_left
  · intro w hSw
    (try dsimp only at hSw)
    go_simp
    (try with_reducible rfl)
  (try simp only [Act.put, List.setIfInBounds_toArray, List.set_cons_zero, List.set_cons_succ])
  refine wpAnyH_ready (rs := [8]) (by kernel_rfl) (by simp) ?_
  refine AllReadyH.cons (o := { dst := some 13, op := _, type := _, pos := _, after := _, guard := _ }) rfl (fun K hK => ?_) AllReadyH.nil
  go_simp
  go_wp2_with fail
  refine hK.out _ _ ?_ (fun hHeld => ?_)
  · exact hd0
  clear hK K
  (try simp only [Act.put, List.setIfInBounds_toArray, List.set_cons_zero, List.set_cons_succ])
  refine wpAnyH_take (i := 14) (oi := { dst := some 19, op := _, type := _, pos := _, after := _, guard := _ }) (v := ?_) rfl (by kernel_rfl) (by kernel_rfl) (by kernel_rfl) (fun _ _ _ h => h) (Or.inl ⟨by rfl, ?_⟩) (by assumption) ?_
  rotate_left
  · intro w hSw
    (try dsimp only at hSw)
    go_simp
    (try with_reducible rfl)
  (try simp only [Act.put, List.setIfInBounds_toArray, List.set_cons_zero, List.set_cons_succ])
  refine wpAnyH_take (i := 15) (oi := { dst := some 20, op := _, type := _, pos := _, after := _, guard := _ }) (v := ?_) rfl (by kernel_rfl) (by kernel_rfl) (by kernel_rfl) (fun _ _ _ h => h) (Or.inl ⟨by rfl, ?_⟩) (by assumption) ?_
  rotate_left
  · intro w hSw
    (try dsimp only at hSw)
    go_simp
    (try with_reducible rfl)
  (try simp only [Act.put, List.setIfInBounds_toArray, List.set_cons_zero, List.set_cons_succ])
  refine wpAnyH_done (by kernel_rfl) ?_ _
  go_wp2_with fail
  go_ret
  exact ⟨rfl, HR.out, HB.out, HK.out⟩
set_option maxHeartbeats 4000000 in
set_option maxRecDepth 100000 in
theorem takes_yes (w0 W : World) (g : Nat) (s : ByteArray) (p : Nat) (v : Value) (c : Nat) (hR : Rd W g s p v) (hB : Below w0.heap.size w0 W) (hg : w0.heap.size ≤ g) (hp : p ≤ s.size) (hs : s.size ≤ 4611686018427387904) (hc : nextC s p = c) (he : skipP s p < s.size) :
    Calls Tryd.prog 101 #[.pointer (some ⟨g, 0, none⟩), .int .u8 (c : Int)] W fun e W' => e = .returned (.bool true) ∧ Rd W' g s (skipP s p + 1) v ∧ Below w0.heap.size w0 W' ∧ KeepBut W W' g none := by
  have HR := Aside0.mk hR
  have HB := Aside0.mk hB
  have HG := Aside0.mk hg
  have HS := Aside0.mk hs
  have HP := Aside0.mk hp
  have hc0 : W.drew.cell? ⟨g, 0, none⟩ = some (.string s) := (blk_cell hR 0).trans rfl
  have n1 : ((nextC s p : Int) == (c : Int)) = true := beq_iff_eq.mpr (by omega)
  have n2 : ((nextC s p : Int) != (c : Int)) = false := bne_eq_false_iff_eq.mpr (by omega)
  have n3 : ((skipP s p : Int) == (s.size : Int)) = false := beq_eq_false_iff_ne.mpr (by omega)
  have HW : Aside0 (wrap64 ((skipP s p : Int) + 1) = ((skipP s p + 1 : Nat) : Int)) := ⟨by unfold wrap64; omega⟩
  clear hc he
  clear hR hB hg hs hp
  go_enter Tryd.func101, Tryd.ntmps101
  go_wp2_with fail
  refine wp_region_held_drew (S := fun w' => w'.cell? ⟨g, 0, none⟩ = some (.string s)) (by kernel_rfl) hc0 (fun hHeld => ?_)
  refine wpAnyH_take (i := 0) (oi := { dst := some 5, op := _, type := _, pos := _, after := _, guard := _ }) (v := ?_) rfl (by kernel_rfl) (by kernel_rfl) (by kernel_rfl) (fun _ _ _ h => h) (Or.inl ⟨by rfl, ?_⟩) (by assumption) ?_
  rotate_left
  · intro w hSw
    (try dsimp only at hSw)
    go_simp
    (try with_reducible rfl)
  (try simp only [Act.put, List.setIfInBounds_toArray, List.set_cons_zero, List.set_cons_succ])
  refine wpAnyH_take (i := 2) (oi := { dst := some 7, op := _, type := _, pos := _, after := _, guard := _ }) (v := ?_) rfl (by kernel_rfl) (by kernel_rfl) (by kernel_rfl) (fun _ _ _ h => h) (Or.inl ⟨by rfl, ?_⟩) (by assumption) ?_
  rotate_left
  · intro w hSw
    (try dsimp only at hSw)
    go_simp
    (try with_reducible rfl)
  (try simp only [Act.put, List.setIfInBounds_toArray, List.set_cons_zero, List.set_cons_succ])
  refine wpAnyH_ready (rs := [1]) (by kernel_rfl) (by simp) ?_
  refine AllReadyH.cons (o := { dst := some 6, op := _, type := _, pos := _, after := _, guard := _ }) rfl (fun K hK => ?_) AllReadyH.nil
  go_simp
  (go_at_call 70; refine (next_calls w0 W.drew g s p v HR.out (by repeat (first | exact HB.out | apply below_drew1)) HG.out HP.out HS.out).mono ?_; rintro e w1 ⟨rfl, hR1, hB1, hK1⟩)
  have HR := Aside0.mk hR1
  have HB := Aside0.mk hB1
  have HK := Aside0.mk hK1
  have hd0 : w1.cell? ⟨g, 0, none⟩ = some (.string s) := (blk_cell hR1 0).trans rfl
  have hd1 : w1.cell? ⟨g, 1, none⟩ = some (.int .i64 (skipP s p : Nat)) := (blk_cell hR1 1).trans rfl
  have hf1 := blk_frozen hR1 1
  clear hR1 hB1 hK1
  go_wp2_with fail
  refine hK.out _ _ ?_ (fun hHeld => ?_)
  · exact hd0
  clear hK K
  (try simp only [Act.put, List.setIfInBounds_toArray, List.set_cons_zero, List.set_cons_succ])
  refine wpAnyH_take (i := 3) (oi := { dst := some 8, op := _, type := _, pos := _, after := _, guard := _ }) (v := ?_) rfl (by kernel_rfl) (by kernel_rfl) (by kernel_rfl) (fun _ _ _ h => h) (Or.inl ⟨by rfl, ?_⟩) (by assumption) ?_
  rotate_left
  · intro w hSw
    (try dsimp only at hSw)
    go_simp
    (try with_reducible rfl)
  (try simp only [Act.put, List.setIfInBounds_toArray, List.set_cons_zero, List.set_cons_succ])
  refine wpAnyH_take (i := 4) (oi := { dst := some 9, op := _, type := _, pos := _, after := _, guard := _ }) (v := ?_) rfl (by kernel_rfl) (by kernel_rfl) (by kernel_rfl) (fun _ _ _ h => h) (Or.inl ⟨by rfl, ?_⟩) (by assumption) ?_
  rotate_left
  · intro w hSw
    (try dsimp only at hSw)
    go_simp
    (try with_reducible rfl)
  (try simp only [Act.put, List.setIfInBounds_toArray, List.set_cons_zero, List.set_cons_succ])
  refine wpAnyH_take (i := 5) (oi := { dst := some 10, op := _, type := _, pos := _, after := _, guard := _ }) (v := ?_) rfl (by kernel_rfl) (by kernel_rfl) (by kernel_rfl) (fun _ _ _ h => h) (Or.inl ⟨by rfl, ?_⟩) (by assumption) ?_
  rotate_left
  · intro w hSw
    (try dsimp only at hSw)
    go_simp
    (try with_reducible rfl)
  (try simp only [Act.put, List.setIfInBounds_toArray, List.set_cons_zero, List.set_cons_succ])
  refine wpAnyH_take (i := 6) (oi := { dst := some 11, op := _, type := _, pos := _, after := _, guard := _ }) (v := ?_) rfl (by kernel_rfl) (by kernel_rfl) (by kernel_rfl) (fun _ _ _ h => h) (Or.inl ⟨by rfl, ?_⟩) (by assumption) ?_
  rotate_left
  · intro w hSw
    (try dsimp only at hSw)
    go_simp
    (try with_reducible rfl)
  (try simp only [Act.put, List.setIfInBounds_toArray, List.set_cons_zero, List.set_cons_succ])
  refine wpAnyH_take (i := 7) (oi := { dst := some 12, op := _, type := _, pos := _, after := _, guard := _ }) (v := ?_) rfl (by kernel_rfl) (by kernel_rfl) (by kernel_rfl) (fun _ _ _ h => h) (Or.inl ⟨by rfl, ?_⟩) (by assumption) ?_
  rotate_left
  · intro w hSw
    (try dsimp only at hSw)
    go_simp
    (try with_reducible rfl)
  (try simp only [Act.put, List.setIfInBounds_toArray, List.set_cons_zero, List.set_cons_succ])
  refine wpAnyH_take (i := 9) (oi := { dst := some 14, op := _, type := _, pos := _, after := _, guard := _ }) (v := ?_) rfl (by kernel_rfl) (by kernel_rfl) (by kernel_rfl) (fun _ _ _ h => h) (Or.inl ⟨by rfl, ?_⟩) (by assumption) ?_
  rotate_left
  · intro w hSw
    (try dsimp only at hSw)
    go_simp
    (try with_reducible rfl)
  (try simp only [Act.put, List.setIfInBounds_toArray, List.set_cons_zero, List.set_cons_succ])
  refine wpAnyH_take (i := 10) (oi := { dst := some 15, op := _, type := _, pos := _, after := _, guard := _ }) (v := ?_) rfl (by kernel_rfl) (by kernel_rfl) (by kernel_rfl) (fun _ _ _ h => h) (Or.inl ⟨by rfl, ?_⟩) (by assumption) ?_
  rotate_left
  · intro w hSw
    (try dsimp only at hSw)
    go_simp
    (try with_reducible rfl)
  (try simp only [Act.put, List.setIfInBounds_toArray, List.set_cons_zero, List.set_cons_succ])
  refine wpAnyH_take (i := 11) (oi := { dst := some 16, op := _, type := _, pos := _, after := _, guard := _ }) (v := ?_) rfl (by kernel_rfl) (by kernel_rfl) (by kernel_rfl) (fun _ _ _ h => h) (Or.inl ⟨by rfl, ?_⟩) (by assumption) ?_
  rotate_left
  · intro w hSw
    (try dsimp only at hSw)
    go_simp
    (try with_reducible rfl)
  (try simp only [Act.put, List.setIfInBounds_toArray, List.set_cons_zero, List.set_cons_succ])
  refine wpAnyH_take (i := 12) (oi := { dst := some 17, op := _, type := _, pos := _, after := _, guard := _ }) (v := ?_) rfl (by kernel_rfl) (by kernel_rfl) (by kernel_rfl) (fun _ _ _ h => h) (Or.inl ⟨by rfl, ?_⟩) (by assumption) ?_
  rotate_left
  · intro w hSw
    (try dsimp only at hSw)
    go_simp
    (try with_reducible rfl)
  (try simp only [Act.put, List.setIfInBounds_toArray, List.set_cons_zero, List.set_cons_succ])
  refine wpAnyH_take (i := 13) (oi := { dst := some 18, op := _, type := _, pos := _, after := _, guard := _ }) (v := ?_) rfl (by kernel_rfl) (by kernel_rfl) (by kernel_rfl) (fun _ _ _ h => h) (Or.inl ⟨by rfl, ?_⟩) (by assumption) ?_
  rotate_left
  · intro w hSw
    (try dsimp only at hSw)
    go_simp
    (try with_reducible rfl)
  (try simp only [Act.put, List.setIfInBounds_toArray, List.set_cons_zero, List.set_cons_succ])
  refine wpAnyH_ready (rs := [8]) (by kernel_rfl) (by simp) ?_
  refine AllReadyH.cons (o := { dst := some 13, op := _, type := _, pos := _, after := _, guard := _ }) rfl (fun K hK => ?_) AllReadyH.nil
  go_simp
  go_wp2_with fail
  refine hK.out _ _ ?_ (fun hHeld => ?_)
  · exact hd0
  clear hK K
  (try simp only [Act.put, List.setIfInBounds_toArray, List.set_cons_zero, List.set_cons_succ])
  refine wpAnyH_take (i := 14) (oi := { dst := some 19, op := _, type := _, pos := _, after := _, guard := _ }) (v := ?_) rfl (by kernel_rfl) (by kernel_rfl) (by kernel_rfl) (fun _ _ _ h => h) (Or.inl ⟨by rfl, ?_⟩) (by assumption) ?_
  rotate_left
  · intro w hSw
    (try dsimp only at hSw)
    go_simp
    (try with_reducible rfl)
  (try simp only [Act.put, List.setIfInBounds_toArray, List.set_cons_zero, List.set_cons_succ])
  refine wpAnyH_take (i := 15) (oi := { dst := some 20, op := _, type := _, pos := _, after := _, guard := _ }) (v := ?_) rfl (by kernel_rfl) (by kernel_rfl) (by kernel_rfl) (fun _ _ _ h => h) (Or.inl ⟨by rfl, ?_⟩) (by assumption) ?_
  rotate_left
  · intro w hSw
    (try dsimp only at hSw)
    go_simp
    (try with_reducible rfl)
  (try simp only [Act.put, List.setIfInBounds_toArray, List.set_cons_zero, List.set_cons_succ])
  refine wpAnyH_done (by kernel_rfl) ?_ _
  go_wp2_with fail
  go_ret
  refine ⟨rfl, ?_, below_set HB.out HG.out, KeepBut.set_ HK.out 1 _⟩
  rw [HW.out]
  exact blk_set HR.out 1 _
theorem takes_calls (w0 W : World) (g : Nat) (s : ByteArray) (p : Nat) (v : Value) (c : Nat) (hR : Rd W g s p v) (hB : Below w0.heap.size w0 W) (hg : w0.heap.size ≤ g) (hp : p ≤ s.size) (hs : s.size ≤ 4611686018427387904) :
    Calls Tryd.prog 101 #[.pointer (some ⟨g, 0, none⟩), .int .u8 (c : Int)] W fun e W' => e = .returned (.bool (takesP s p c).1) ∧ Rd W' g s (takesP s p c).2 v ∧ Below w0.heap.size w0 W' ∧ KeepBut W W' g none := by
  have hl := skip_le s p hp
  unfold takesP
  by_cases hc : nextC s p = c
  · by_cases he : skipP s p < s.size
    · rw [if_pos ⟨hc, he⟩]
      exact takes_yes w0 W g s p v c hR hB hg hp hs hc he
    · rw [if_neg (fun h => he h.2)]
      exact takes_end w0 W g s p v c hR hB hg hp hs hc (by omega)
  · rw [if_neg (fun h => hc h.1)]
    exact takes_not w0 W g s p v c hR hB hg hp hs hc
end Go.Proofs.YthhmmaihbjhhgaaDoor.Giv
namespace Go.Proofs.YthhmmaihbjhhgaaDoor.Giv
open Go.RowKit Go.Proofs.YthhmmaihbjhhgaaDoorW.PrintWords Go.Proofs.YthhmmaihbjhhgaaDoorW.PrintLast Go.Proofs.YthhmmaihbjhhgaaDoorW.PrintMore
open Go.Proofs.YthhmmaihbjhhgaaDoor.U1 Go.Proofs.YthhmmaihbjhhgaaDoor.Q1
set_option linter.unusedSimpArgs false
theorem rd_below {W W' : World} {g p : Nat} {s : ByteArray} {v : Value} (h : Rd W g s p v) (hb : Below W.heap.size W W') : Rd W' g s p v := (hb.block g (blk_lt h)).trans h
theorem rd_cell0 {W : World} {g p : Nat} {s : ByteArray} {v : Value} (h : Rd W g s p v) : W.cell? ⟨g, 0, none⟩ = some (.string s) := (blk_cell h 0).trans rfl
theorem rd_cell1 {W : World} {g p : Nat} {s : ByteArray} {v : Value} (h : Rd W g s p v) : W.cell? ⟨g, 1, none⟩ = some (.int .i64 (p : Int)) := (blk_cell h 1).trans rfl
theorem rd_cell2 {W : World} {g p : Nat} {s : ByteArray} {v : Value} (h : Rd W g s p v) : W.cell? ⟨g, 2, none⟩ = some v := (blk_cell h 2).trans rfl
theorem rd_set1 {W : World} {g p q : Nat} {s : ByteArray} {v : Value} (h : Rd W g s p v) {x : Int} (hx : x = (q : Int)) : Rd (W.setCell ⟨g, 1, none⟩ (.int .i64 x)) g s q v := by
  subst hx; exact blk_set h 1 _
theorem rd_set2 {W : World} {g p : Nat} {s : ByteArray} {v : Value} (h : Rd W g s p v) (u : Value) : Rd (W.setCell ⟨g, 2, none⟩ u) g s p u := blk_set h 2 _
set_option maxHeartbeats 4000000 in
set_option maxRecDepth 100000 in
theorem text_calls (k : Nat) (w0 W : World) (g : Nat) (s : ByteArray) (p : Nat) (v : Value) (t : ByteArray) (m : Nat) (er : Int) (hR : Rd W g s p v) (hB : Below w0.heap.size w0 W) (hg : w0.heap.size ≤ g) (hp : p ≤ s.size) (hs : s.size ≤ 4611686018427387904) (hj : JTabs w0)
    (h : quote_Read.f k (s.extract p s.size) = some (t, (m : Int), er)) (hm : p + m ≤ s.size) :
    Calls Tryd.prog 88 #[.pointer (some ⟨g, 0, none⟩)] W fun e W' => e = .returned (.tuple #[.string t, .int .i64 er]) ∧ Rd W' g s (p + m) v ∧ Below w0.heap.size w0 W' ∧ KeepBut W W' g none := by
  have HR := Aside0.mk hR
  have HB := Aside0.mk hB
  have HG := Aside0.mk hg
  have FR := Aside0.mk h
  have JT := Aside0.mk hj
  have HW : Aside0 (wrap64 ((p : Int) + (m : Int)) = ((p + m : Nat) : Int)) := ⟨by unfold wrap64; omega⟩
  have hc0 := rd_cell0 hR
  have hc1 := rd_cell1 hR
  have q0 : (0 ≤ (p : Int)) = True := eq_true (by omega)
  have q1 : ((p : Int) ≤ (s.size : Int)) = True := eq_true (by omega)
  have q2 : (p ≤ s.size) = True := eq_true (by omega)
  clear hR hB hg h hj hs hm
  go_enter Tryd.func88, Tryd.ntmps88
  go_wp2_with fail
  refine wp_region_held_drew (S := fun w' => Below w0.heap.size w0 w' ∧ Rd w' g s p v ∧ KeepBut W w' g none) (by kernel_rfl) ⟨below_drew1 HB.out, HR.out, KeepBut.refl W g none⟩ (fun hHeld => ?_)
  refine wpAnyH_take (i := 0) (oi := { dst := some 8, op := _, type := _, pos := _, after := _, guard := _ }) (v := ?_) rfl (by kernel_rfl) (by kernel_rfl) (by kernel_rfl) (fun _ _ _ h => h) (Or.inl ⟨by rfl, ?_⟩) (by assumption) ?_
  rotate_left
  · intro w hSw
    (try dsimp only at hSw)
    have hl0 := rd_cell0 hSw.2.1
    have hl1 := rd_cell1 hSw.2.1
    clear hSw
    go_simp
    (try with_reducible rfl)
  (try simp only [Act.put, List.setIfInBounds_toArray, List.set_cons_zero, List.set_cons_succ])
  refine wpAnyH_take (i := 1) (oi := { dst := some 9, op := _, type := _, pos := _, after := _, guard := _ }) (v := ?_) rfl (by kernel_rfl) (by kernel_rfl) (by kernel_rfl) (fun _ _ _ h => h) (Or.inl ⟨by rfl, ?_⟩) (by assumption) ?_
  rotate_left
  · intro w hSw
    (try dsimp only at hSw)
    have hl0 := rd_cell0 hSw.2.1
    have hl1 := rd_cell1 hSw.2.1
    clear hSw
    go_simp
    (try with_reducible rfl)
  (try simp only [Act.put, List.setIfInBounds_toArray, List.set_cons_zero, List.set_cons_succ])
  refine wpAnyH_take (i := 2) (oi := { dst := some 10, op := _, type := _, pos := _, after := _, guard := _ }) (v := ?_) rfl (by kernel_rfl) (by kernel_rfl) (by kernel_rfl) (fun _ _ _ h => h) (Or.inl ⟨by rfl, ?_⟩) (by assumption) ?_
  rotate_left
  · intro w hSw
    (try dsimp only at hSw)
    have hl0 := rd_cell0 hSw.2.1
    have hl1 := rd_cell1 hSw.2.1
    clear hSw
    go_simp
    (try with_reducible rfl)
  (try simp only [Act.put, List.setIfInBounds_toArray, List.set_cons_zero, List.set_cons_succ])
  refine wpAnyH_take (i := 3) (oi := { dst := some 11, op := _, type := _, pos := _, after := _, guard := _ }) (v := ?_) rfl (by kernel_rfl) (by kernel_rfl) (by kernel_rfl) (fun _ _ _ h => h) (Or.inl ⟨by rfl, ?_⟩) (by assumption) ?_
  rotate_left
  · intro w hSw
    (try dsimp only at hSw)
    have hl0 := rd_cell0 hSw.2.1
    have hl1 := rd_cell1 hSw.2.1
    clear hSw
    go_simp
    (try with_reducible rfl)
  (try simp only [Act.put, List.setIfInBounds_toArray, List.set_cons_zero, List.set_cons_succ])
  refine wpAnyH_take (i := 4) (oi := { dst := some 12, op := _, type := _, pos := _, after := _, guard := _ }) (v := ?_) rfl (by kernel_rfl) (by kernel_rfl) (by kernel_rfl) (fun _ _ _ h => h) (Or.inl ⟨by rfl, ?_⟩) (by assumption) ?_
  rotate_left
  · intro w hSw
    (try dsimp only at hSw)
    have hl0 := rd_cell0 hSw.2.1
    have hl1 := rd_cell1 hSw.2.1
    clear hSw
    go_simp
    (try with_reducible rfl)
  (try simp only [Act.put, List.setIfInBounds_toArray, List.set_cons_zero, List.set_cons_succ])
  refine wpAnyH_take (i := 5) (oi := { dst := some 13, op := _, type := _, pos := _, after := _, guard := _ }) (v := ?_) rfl (by kernel_rfl) (by kernel_rfl) (by kernel_rfl) (fun _ _ _ h => h) (Or.inl ⟨by rfl, ?_⟩) (by assumption) ?_
  rotate_left
  · intro w hSw
    (try dsimp only at hSw)
    have hl0 := rd_cell0 hSw.2.1
    have hl1 := rd_cell1 hSw.2.1
    clear hSw
    go_simp
    (try with_reducible rfl)
  (try simp only [Act.put, List.setIfInBounds_toArray, List.set_cons_zero, List.set_cons_succ])
  refine wpAnyH_take (i := 6) (oi := { dst := some 14, op := _, type := _, pos := _, after := _, guard := _ }) (v := ?_) rfl (by kernel_rfl) (by kernel_rfl) (by kernel_rfl) (fun _ _ _ h => h) (Or.inl ⟨by rfl, ?_⟩) (by assumption) ?_
  rotate_left
  · intro w hSw
    (try dsimp only at hSw)
    have hl0 := rd_cell0 hSw.2.1
    have hl1 := rd_cell1 hSw.2.1
    clear hSw
    go_simp
    (try with_reducible rfl)
  (try simp only [Act.put, List.setIfInBounds_toArray, List.set_cons_zero, List.set_cons_succ])
  refine wpAnyH_take (i := 7) (oi := { dst := some 15, op := _, type := _, pos := _, after := _, guard := _ }) (v := ?_) rfl (by kernel_rfl) (by kernel_rfl) (by kernel_rfl) (fun _ _ _ h => h) (Or.inl ⟨by rfl, ?_⟩) (by assumption) ?_
  rotate_left
  · intro w hSw
    (try dsimp only at hSw)
    have hl0 := rd_cell0 hSw.2.1
    have hl1 := rd_cell1 hSw.2.1
    clear hSw
    go_simp
    (try with_reducible rfl)
  (try simp only [Act.put, List.setIfInBounds_toArray, List.set_cons_zero, List.set_cons_succ])
  refine wpAnyH_take (i := 8) (oi := { dst := some 16, op := _, type := _, pos := _, after := _, guard := _ }) (v := ?_) rfl (by kernel_rfl) (by kernel_rfl) (by kernel_rfl) (fun _ _ _ h => h) (Or.inl ⟨by rfl, ?_⟩) (by assumption) ?_
  rotate_left
  · intro w hSw
    (try dsimp only at hSw)
    have hl0 := rd_cell0 hSw.2.1
    have hl1 := rd_cell1 hSw.2.1
    clear hSw
    go_simp
    (try with_reducible rfl)
  (try simp only [Act.put, List.setIfInBounds_toArray, List.set_cons_zero, List.set_cons_succ])
  refine wpAnyH_ready (rs := [9]) (by kernel_rfl) (by simp) ?_
  refine AllReadyH.cons (o := { dst := some 17, op := _, type := _, pos := _, after := _, guard := _ }) rfl (fun K hK => ?_) AllReadyH.nil
  go_simp
  (go_at_call 35; refine (quote_Read.calls k _ _ _ _ _ FR.out (JT.out.step hHeld.1).tabs).mono ?_; rintro e w1 ⟨rfl, hb⟩)
  go_wp2_with fail
  refine hK.out _ _ ?_ (fun hHeld => ?_)
  · exact ⟨hHeld.1.trans (hb.mono hHeld.1.size), rd_below hHeld.2.1 hb, hHeld.2.2.trans (KeepBut.of_below hb g none) (.inl rfl)⟩
  clear hK K
  (try simp only [Act.put, List.setIfInBounds_toArray, List.set_cons_zero, List.set_cons_succ])
  refine wpAnyH_take (i := 10) (oi := { dst := some 7, op := _, type := _, pos := _, after := _, guard := _ }) (v := ?_) rfl (by kernel_rfl) (by kernel_rfl) (by kernel_rfl) (fun _ _ _ h => h) (Or.inl ⟨by rfl, ?_⟩) (by assumption) ?_
  rotate_left
  · intro w hSw
    (try dsimp only at hSw)
    have hl0 := rd_cell0 hSw.2.1
    have hl1 := rd_cell1 hSw.2.1
    clear hSw
    go_simp
    (try with_reducible rfl)
  (try simp only [Act.put, List.setIfInBounds_toArray, List.set_cons_zero, List.set_cons_succ])
  refine wpAnyH_take (i := 11) (oi := { dst := some 18, op := _, type := _, pos := _, after := _, guard := _ }) (v := ?_) rfl (by kernel_rfl) (by kernel_rfl) (by kernel_rfl) (fun _ _ _ h => h) (Or.inl ⟨by rfl, ?_⟩) (by assumption) ?_
  rotate_left
  · intro w hSw
    (try dsimp only at hSw)
    have hl0 := rd_cell0 hSw.2.1
    have hl1 := rd_cell1 hSw.2.1
    clear hSw
    go_simp
    (try with_reducible rfl)
  (try simp only [Act.put, List.setIfInBounds_toArray, List.set_cons_zero, List.set_cons_succ])
  refine wpAnyH_take (i := 12) (oi := { dst := some 19, op := _, type := _, pos := _, after := _, guard := _ }) (v := ?_) rfl (by kernel_rfl) (by kernel_rfl) (by kernel_rfl) (fun _ _ _ h => h) (Or.inl ⟨by rfl, ?_⟩) (by assumption) ?_
  rotate_left
  · intro w hSw
    (try dsimp only at hSw)
    have hl0 := rd_cell0 hSw.2.1
    have hl1 := rd_cell1 hSw.2.1
    clear hSw
    go_simp
    (try with_reducible rfl)
  (try simp only [Act.put, List.setIfInBounds_toArray, List.set_cons_zero, List.set_cons_succ])
  refine wpAnyH_take (i := 13) (oi := { dst := some 20, op := _, type := _, pos := _, after := _, guard := _ }) (v := ?_) rfl (by kernel_rfl) (by kernel_rfl) (by kernel_rfl) (fun _ _ _ h => h) (Or.inl ⟨by rfl, ?_⟩) (by assumption) ?_
  rotate_left
  · intro w hSw
    (try dsimp only at hSw)
    have hl0 := rd_cell0 hSw.2.1
    have hl1 := rd_cell1 hSw.2.1
    clear hSw
    go_simp
    (try with_reducible rfl)
  (try simp only [Act.put, List.setIfInBounds_toArray, List.set_cons_zero, List.set_cons_succ])
  refine wpAnyH_take (i := 14) (oi := { dst := some 4, op := _, type := _, pos := _, after := _, guard := _ }) (v := ?_) rfl (by kernel_rfl) (by kernel_rfl) (by kernel_rfl) (fun _ _ _ h => h) (Or.inl ⟨by rfl, ?_⟩) (by assumption) ?_
  rotate_left
  · intro w hSw
    (try dsimp only at hSw)
    have hl0 := rd_cell0 hSw.2.1
    have hl1 := rd_cell1 hSw.2.1
    clear hSw
    go_simp
    (try with_reducible rfl)
  (try simp only [Act.put, List.setIfInBounds_toArray, List.set_cons_zero, List.set_cons_succ])
  refine wpAnyH_take (i := 15) (oi := { dst := some 5, op := _, type := _, pos := _, after := _, guard := _ }) (v := ?_) rfl (by kernel_rfl) (by kernel_rfl) (by kernel_rfl) (fun _ _ _ h => h) (Or.inl ⟨by rfl, ?_⟩) (by assumption) ?_
  rotate_left
  · intro w hSw
    (try dsimp only at hSw)
    have hl0 := rd_cell0 hSw.2.1
    have hl1 := rd_cell1 hSw.2.1
    clear hSw
    go_simp
    (try with_reducible rfl)
  (try simp only [Act.put, List.setIfInBounds_toArray, List.set_cons_zero, List.set_cons_succ])
  refine wpAnyH_take (i := 16) (oi := { dst := some 6, op := _, type := _, pos := _, after := _, guard := _ }) (v := ?_) rfl (by kernel_rfl) (by kernel_rfl) (by kernel_rfl) (fun _ _ _ h => h) (Or.inl ⟨by rfl, ?_⟩) (by assumption) ?_
  rotate_left
  · intro w hSw
    (try dsimp only at hSw)
    have hl0 := rd_cell0 hSw.2.1
    have hl1 := rd_cell1 hSw.2.1
    clear hSw
    go_simp
    (try with_reducible rfl)
  (try simp only [Act.put, List.setIfInBounds_toArray, List.set_cons_zero, List.set_cons_succ])
  refine wpAnyH_done (by kernel_rfl) ?_ _
  have HR1 := Aside0.mk hHeld.2.1
  have HB1 := Aside0.mk hHeld.1
  have HK1 := Aside0.mk hHeld.2.2
  have hd1 := rd_cell1 hHeld.2.1
  have hf1 := blk_frozen hHeld.2.1 1
  clear hHeld hc0 hc1
  go_wp2_with fail
  go_ret2
  exact ⟨rfl, rd_set1 HR1.out HW.out, below_set HB1.out HG.out, KeepBut.set_ HK1.out 1 _⟩
end Go.Proofs.YthhmmaihbjhhgaaDoor.Giv
namespace Go.Proofs.YthhmmaihbjhhgaaDoor.Giv
open Go.RowKit Go.Proofs.YthhmmaihbjhhgaaDoorW.PrintWords Go.Proofs.YthhmmaihbjhhgaaDoorW.PrintLast Go.Proofs.YthhmmaihbjhhgaaDoorW.PrintMore
open Go.Proofs.YthhmmaihbjhhgaaDoor.U1 Go.Proofs.YthhmmaihbjhhgaaDoor.Q1
set_option linter.unusedSimpArgs false
def numB (n : Nat) : Bool := n = 43 || n = 45 || n = 46 || n = 69 || n = 101 || (48 ≤ n && n ≤ 57)
def numsL : List UInt8 → Nat
  | [] => 0
  | c :: l => if numB c.toNat = true then numsL l + 1 else 0
def numP (s : ByteArray) (p : Nat) : Nat := p + numsL (s.data.toList.drop p)
theorem num_end (s : ByteArray) (p : Nat) (h : s.size ≤ p) : numP s p = p := by
  unfold numP
  rw [List.drop_eq_nil_of_le (by rw [data_length]; exact h)]; rfl
theorem num_yes (s : ByteArray) (p : Nat) (h : p < s.size) (hb : numB (s.data.toList.getD p 0).toNat = true) : numP s p = numP s (p + 1) := by
  unfold numP
  rw [dropB s p h, numsL, if_pos hb]; omega
theorem num_not (s : ByteArray) (p : Nat) (h : p < s.size) (hb : ¬ numB (s.data.toList.getD p 0).toNat = true) : numP s p = p := by
  unfold numP
  rw [dropB s p h, numsL, if_neg hb]; rfl
set_option maxRecDepth 100000 in
theorem num_index : ∀ n : Nat, n < 256 → decide (0 ≤ Lib.indexByte [43, 45, 46, 69, 101, 48, 49, 50, 51, 52, 53, 54, 55, 56, 57] n.toUInt8) = numB n := by decide +kernel
/-- a number: it, the error, how far was read -/
def numberS (s : ByteArray) (p : Nat) : Int × Int × Nat := if (readN (s.extract p (numP s p))).2 = true then ((readN (s.extract p (numP s p))).1, 0, numP s p) else (0, 83, p)
set_option maxHeartbeats 4000000 in
set_option maxRecDepth 100000 in
theorem number_calls (w0 W : World) (g : Nat) (s : ByteArray) (p : Nat) (v : Value) (hR : Rd W g s p v) (hB : Below w0.heap.size w0 W) (hg : w0.heap.size ≤ g) (hp : p ≤ s.size) (hs : s.size ≤ 4611686018427387904) (hj : JTabs w0) :
    Calls Tryd.prog 89 #[.pointer (some ⟨g, 0, none⟩)] W fun e W' => e = .returned (.tuple #[.int .i64 (numberS s p).1, .int .i64 (numberS s p).2.1]) ∧ Rd W' g s (numberS s p).2.2 v ∧ Below w0.heap.size w0 W' ∧ KeepBut W W' g none := by
  have HR := Aside0.mk hR
  have HB := Aside0.mk hB
  have HG := Aside0.mk hg
  have HS := Aside0.mk hs
  have JT := Aside0.mk hj
  have HK := Aside0.mk (KeepBut.refl W g none)
  have hc0 := rd_cell0 hR
  have hc1 := rd_cell1 hR
  clear hR hB hg hs hj
  go_enter Tryd.func89, Tryd.ntmps89
  go_wp2_with fail
  clear hc0 hc1
  go_loopg [4] (s.size - p) (fun kq v4 wr => ∃ q : Nat, v4 = .int .i64 q ∧ p ≤ q ∧ q ≤ s.size ∧ kq = s.size - q ∧ Aside0 (numP s q = numP s p) ∧ Aside0 (Rd wr g s p v) ∧ Aside0 (KeepBut W wr g none) ∧ Aside0 (Below w0.heap.size w0 wr))
  case atStart => exact ⟨p, rfl, Nat.le_refl _, hp, rfl, ⟨rfl⟩, HR, HK, HB⟩
  case round =>
    obtain ⟨q, rfl, hpq, hq, hgk, HP, HR, HK, HB⟩ := hrel
    have hc0 := rd_cell0 HR.out
    have hc1 := rd_cell1 HR.out
    have hx : ∀ h : q < s.size, ((s[q]'h).toNat : Int) = bt s (q : Int) := fun h => bt_at s (q : Int) h
    have q0 : (0 ≤ (q : Int)) = True := eq_true (by omega)
    have p0 : (0 ≤ (p : Int)) = True := eq_true (by omega)
    have p1 : ((p : Int) ≤ (q : Int)) = True := eq_true (by omega)
    have p2 : ((q : Int) ≤ (s.size : Int)) = True := eq_true (by omega)
    have p3 : (p ≤ q) = True := eq_true hpq
    have p4 : (q ≤ s.size) = True := eq_true hq
    by_cases hlt : q < s.size
    · have d1 : decide ((q : Int) < (s.size : Int)) = true := decide_eq_true (by omega)
      have q1 : ((q : Int) < (s.size : Int)) = True := eq_true (by omega)
      have hn := UInt8.toNat_lt (s.data.toList.getD q 0)
      have hbt := btL s q
      have hidx : decide (0 ≤ Lib.indexByte [43, 45, 46, 69, 101, 48, 49, 50, 51, 52, 53, 54, 55, 56, 57] ((bt s (q : Int)).toNat.toUInt8)) = numB (s.data.toList.getD q 0).toNat := by
        rw [hbt, Int.toNat_natCast]; exact num_index _ hn
      by_cases hb : numB (s.data.toList.getD q 0).toNat = true
      · rw [hb] at hidx
        have HN : Aside0 (numP s (q + 1) = numP s p) := ⟨by rw [← num_yes s q hlt hb]; exact HP.out⟩
        have HW : Aside0 (wrap64 ((q : Int) + 1) = ((q + 1 : Nat) : Int)) := ⟨by have := HS.out; unfold wrap64; omega⟩
        clear hbt hn hb
        obtain ⟨kk, rfl⟩ : ∃ kk, gk = kk + 1 := ⟨gk - 1, by omega⟩
        go_wp2_with (go_at_call 82; (with_reducible refine (strings_IndexByte.calls (⟨#[43, 45, 46, 69, 101, 48, 49, 50, 51, 52, 53, 54, 55, 56, 57]⟩ : ByteArray) (bt s (q : Int)) _ _ (rfl : strings_IndexByte.f _ _ = some (Lib.indexByte [43, 45, 46, 69, 101, 48, 49, 50, 51, 52, 53, 54, 55, 56, 57] ((bt s (q : Int)).toNat.toUInt8)))).mono ?_); rintro e w' ⟨rfl, ⟨nd, rfl⟩⟩)
        go_roundg kk
        case measure => omega
        case rel => exact ⟨q + 1, by rw [HW.out], by omega, by omega, by omega, HN, HR, HK, ⟨by repeat (first | exact HB.out | apply pw_below_drewN)⟩⟩
      · have hb' : numB (s.data.toList.getD q 0).toNat = false := Bool.eq_false_iff.2 hb
        rw [hb'] at hidx
        have HE : Aside0 (numP s p = q) := ⟨by rw [← HP.out]; exact num_not s q hlt hb⟩
        clear hbt hn hb hb'
        go_wp2_with (go_at_call 82; (with_reducible refine (strings_IndexByte.calls (⟨#[43, 45, 46, 69, 101, 48, 49, 50, 51, 52, 53, 54, 55, 56, 57]⟩ : ByteArray) (bt s (q : Int)) _ _ (rfl : strings_IndexByte.f _ _ = some (Lib.indexByte [43, 45, 46, 69, 101, 48, 49, 50, 51, 52, 53, 54, 55, 56, 57] ((bt s (q : Int)).toNat.toUInt8)))).mono ?_); rintro e w' ⟨rfl, ⟨nd, rfl⟩⟩)
        refine wp_region_held_drew (S := fun w' => Below w0.heap.size w0 w' ∧ Rd w' g s p v ∧ KeepBut W w' g none) (by kernel_rfl) ⟨by repeat (first | exact HB.out | apply pw_below_drewN | apply below_drew1), HR.out, HK.out⟩ (fun hHeld => ?_)
        refine wpAnyH_take (i := 0) (oi := { dst := some 31, op := _, type := _, pos := _, after := _, guard := _ }) (v := ?_) rfl (by kernel_rfl) (by kernel_rfl) (by kernel_rfl) (fun _ _ _ h => h) (Or.inl ⟨by rfl, ?_⟩) (by assumption) ?_
        rotate_left
        · intro w hSw
          (try dsimp only at hSw)
          have hl0 := rd_cell0 hSw.2.1
          have hl1 := rd_cell1 hSw.2.1
          clear hSw
          go_simp
          (try with_reducible rfl)
        (try simp only [Act.put, List.setIfInBounds_toArray, List.set_cons_zero, List.set_cons_succ])
        refine wpAnyH_take (i := 1) (oi := { dst := some 32, op := _, type := _, pos := _, after := _, guard := _ }) (v := ?_) rfl (by kernel_rfl) (by kernel_rfl) (by kernel_rfl) (fun _ _ _ h => h) (Or.inl ⟨by rfl, ?_⟩) (by assumption) ?_
        rotate_left
        · intro w hSw
          (try dsimp only at hSw)
          have hl0 := rd_cell0 hSw.2.1
          have hl1 := rd_cell1 hSw.2.1
          clear hSw
          go_simp
          (try with_reducible rfl)
        (try simp only [Act.put, List.setIfInBounds_toArray, List.set_cons_zero, List.set_cons_succ])
        refine wpAnyH_take (i := 2) (oi := { dst := some 33, op := _, type := _, pos := _, after := _, guard := _ }) (v := ?_) rfl (by kernel_rfl) (by kernel_rfl) (by kernel_rfl) (fun _ _ _ h => h) (Or.inl ⟨by rfl, ?_⟩) (by assumption) ?_
        rotate_left
        · intro w hSw
          (try dsimp only at hSw)
          have hl0 := rd_cell0 hSw.2.1
          have hl1 := rd_cell1 hSw.2.1
          clear hSw
          go_simp
          (try with_reducible rfl)
        (try simp only [Act.put, List.setIfInBounds_toArray, List.set_cons_zero, List.set_cons_succ])
        refine wpAnyH_take (i := 3) (oi := { dst := some 34, op := _, type := _, pos := _, after := _, guard := _ }) (v := ?_) rfl (by kernel_rfl) (by kernel_rfl) (by kernel_rfl) (fun _ _ _ h => h) (Or.inl ⟨by rfl, ?_⟩) (by assumption) ?_
        rotate_left
        · intro w hSw
          (try dsimp only at hSw)
          have hl0 := rd_cell0 hSw.2.1
          have hl1 := rd_cell1 hSw.2.1
          clear hSw
          go_simp
          (try with_reducible rfl)
        (try simp only [Act.put, List.setIfInBounds_toArray, List.set_cons_zero, List.set_cons_succ])
        refine wpAnyH_take (i := 4) (oi := { dst := some 35, op := _, type := _, pos := _, after := _, guard := _ }) (v := ?_) rfl (by kernel_rfl) (by kernel_rfl) (by kernel_rfl) (fun _ _ _ h => h) (Or.inl ⟨by rfl, ?_⟩) (by assumption) ?_
        rotate_left
        · intro w hSw
          (try dsimp only at hSw)
          have hl0 := rd_cell0 hSw.2.1
          have hl1 := rd_cell1 hSw.2.1
          clear hSw
          go_simp
          (try with_reducible rfl)
        (try simp only [Act.put, List.setIfInBounds_toArray, List.set_cons_zero, List.set_cons_succ])
        refine wpAnyH_take (i := 5) (oi := { dst := some 36, op := _, type := _, pos := _, after := _, guard := _ }) (v := ?_) rfl (by kernel_rfl) (by kernel_rfl) (by kernel_rfl) (fun _ _ _ h => h) (Or.inl ⟨by rfl, ?_⟩) (by assumption) ?_
        rotate_left
        · intro w hSw
          (try dsimp only at hSw)
          have hl0 := rd_cell0 hSw.2.1
          have hl1 := rd_cell1 hSw.2.1
          clear hSw
          go_simp
          (try with_reducible rfl)
        (try simp only [Act.put, List.setIfInBounds_toArray, List.set_cons_zero, List.set_cons_succ])
        refine wpAnyH_take (i := 6) (oi := { dst := some 37, op := _, type := _, pos := _, after := _, guard := _ }) (v := ?_) rfl (by kernel_rfl) (by kernel_rfl) (by kernel_rfl) (fun _ _ _ h => h) (Or.inl ⟨by rfl, ?_⟩) (by assumption) ?_
        rotate_left
        · intro w hSw
          (try dsimp only at hSw)
          have hl0 := rd_cell0 hSw.2.1
          have hl1 := rd_cell1 hSw.2.1
          clear hSw
          go_simp
          (try with_reducible rfl)
        (try simp only [Act.put, List.setIfInBounds_toArray, List.set_cons_zero, List.set_cons_succ])
        refine wpAnyH_take (i := 7) (oi := { dst := some 38, op := _, type := _, pos := _, after := _, guard := _ }) (v := ?_) rfl (by kernel_rfl) (by kernel_rfl) (by kernel_rfl) (fun _ _ _ h => h) (Or.inl ⟨by rfl, ?_⟩) (by assumption) ?_
        rotate_left
        · intro w hSw
          (try dsimp only at hSw)
          have hl0 := rd_cell0 hSw.2.1
          have hl1 := rd_cell1 hSw.2.1
          clear hSw
          go_simp
          (try with_reducible rfl)
        (try simp only [Act.put, List.setIfInBounds_toArray, List.set_cons_zero, List.set_cons_succ])
        refine wpAnyH_take (i := 8) (oi := { dst := some 39, op := _, type := _, pos := _, after := _, guard := _ }) (v := ?_) rfl (by kernel_rfl) (by kernel_rfl) (by kernel_rfl) (fun _ _ _ h => h) (Or.inl ⟨by rfl, ?_⟩) (by assumption) ?_
        rotate_left
        · intro w hSw
          (try dsimp only at hSw)
          have hl0 := rd_cell0 hSw.2.1
          have hl1 := rd_cell1 hSw.2.1
          clear hSw
          go_simp
          (try with_reducible rfl)
        (try simp only [Act.put, List.setIfInBounds_toArray, List.set_cons_zero, List.set_cons_succ])
        refine wpAnyH_take (i := 9) (oi := { dst := some 40, op := _, type := _, pos := _, after := _, guard := _ }) (v := ?_) rfl (by kernel_rfl) (by kernel_rfl) (by kernel_rfl) (fun _ _ _ h => h) (Or.inl ⟨by rfl, ?_⟩) (by assumption) ?_
        rotate_left
        · intro w hSw
          (try dsimp only at hSw)
          have hl0 := rd_cell0 hSw.2.1
          have hl1 := rd_cell1 hSw.2.1
          clear hSw
          go_simp
          (try with_reducible rfl)
        (try simp only [Act.put, List.setIfInBounds_toArray, List.set_cons_zero, List.set_cons_succ])
        refine wpAnyH_ready (rs := [10]) (by kernel_rfl) (by simp) ?_
        refine AllReadyH.cons (o := { dst := some 41, op := _, type := _, pos := _, after := _, guard := _ }) rfl (fun K hK => ?_) AllReadyH.nil
        go_simp
        (go_at_call 103; refine (readdec_calls _ _ (JT.out.step hHeld.1)).mono ?_; rintro e w1 ⟨rfl, hb⟩); go_wp2_with fail
        refine hK.out _ _ ?_ (fun hHeld => ?_)
        · exact ⟨hHeld.1.trans (hb.mono hHeld.1.size), rd_below hHeld.2.1 hb, hHeld.2.2.trans (KeepBut.of_below hb g none) (.inl rfl)⟩
        clear hK K
        (try simp only [Act.put, List.setIfInBounds_toArray, List.set_cons_zero, List.set_cons_succ])
        refine wpAnyH_take (i := 11) (oi := { dst := some 30, op := _, type := _, pos := _, after := _, guard := _ }) (v := ?_) rfl (by kernel_rfl) (by kernel_rfl) (by kernel_rfl) (fun _ _ _ h => h) (Or.inl ⟨by rfl, ?_⟩) (by assumption) ?_
        rotate_left
        · intro w hSw
          (try dsimp only at hSw)
          have hl0 := rd_cell0 hSw.2.1
          have hl1 := rd_cell1 hSw.2.1
          clear hSw
          go_simp
          (try with_reducible rfl)
        (try simp only [Act.put, List.setIfInBounds_toArray, List.set_cons_zero, List.set_cons_succ])
        refine wpAnyH_take (i := 12) (oi := { dst := some 42, op := _, type := _, pos := _, after := _, guard := _ }) (v := ?_) rfl (by kernel_rfl) (by kernel_rfl) (by kernel_rfl) (fun _ _ _ h => h) (Or.inl ⟨by rfl, ?_⟩) (by assumption) ?_
        rotate_left
        · intro w hSw
          (try dsimp only at hSw)
          have hl0 := rd_cell0 hSw.2.1
          have hl1 := rd_cell1 hSw.2.1
          clear hSw
          go_simp
          (try with_reducible rfl)
        (try simp only [Act.put, List.setIfInBounds_toArray, List.set_cons_zero, List.set_cons_succ])
        refine wpAnyH_take (i := 13) (oi := { dst := some 43, op := _, type := _, pos := _, after := _, guard := _ }) (v := ?_) rfl (by kernel_rfl) (by kernel_rfl) (by kernel_rfl) (fun _ _ _ h => h) (Or.inl ⟨by rfl, ?_⟩) (by assumption) ?_
        rotate_left
        · intro w hSw
          (try dsimp only at hSw)
          have hl0 := rd_cell0 hSw.2.1
          have hl1 := rd_cell1 hSw.2.1
          clear hSw
          go_simp
          (try with_reducible rfl)
        (try simp only [Act.put, List.setIfInBounds_toArray, List.set_cons_zero, List.set_cons_succ])
        refine wpAnyH_take (i := 14) (oi := { dst := some 5, op := _, type := _, pos := _, after := _, guard := _ }) (v := ?_) rfl (by kernel_rfl) (by kernel_rfl) (by kernel_rfl) (fun _ _ _ h => h) (Or.inl ⟨by rfl, ?_⟩) (by assumption) ?_
        rotate_left
        · intro w hSw
          (try dsimp only at hSw)
          have hl0 := rd_cell0 hSw.2.1
          have hl1 := rd_cell1 hSw.2.1
          clear hSw
          go_simp
          (try with_reducible rfl)
        (try simp only [Act.put, List.setIfInBounds_toArray, List.set_cons_zero, List.set_cons_succ])
        refine wpAnyH_take (i := 15) (oi := { dst := some 6, op := _, type := _, pos := _, after := _, guard := _ }) (v := ?_) rfl (by kernel_rfl) (by kernel_rfl) (by kernel_rfl) (fun _ _ _ h => h) (Or.inl ⟨by rfl, ?_⟩) (by assumption) ?_
        rotate_left
        · intro w hSw
          (try dsimp only at hSw)
          have hl0 := rd_cell0 hSw.2.1
          have hl1 := rd_cell1 hSw.2.1
          clear hSw
          go_simp
          (try with_reducible rfl)
        (try simp only [Act.put, List.setIfInBounds_toArray, List.set_cons_zero, List.set_cons_succ])
        refine wpAnyH_done (by kernel_rfl) ?_ _
        have HR1 := Aside0.mk hHeld.2.1
        have HB1 := Aside0.mk hHeld.1
        have HK1 := Aside0.mk hHeld.2.2
        have hd1 := rd_cell1 hHeld.2.1
        have hf1 := blk_frozen hHeld.2.1 1
        clear hHeld hc0 hc1
        obtain ⟨rr, hrr⟩ : ∃ rr, readN (s.extract p q) = rr := ⟨_, rfl⟩
        rw [hrr]
        have HRR := Aside0.mk hrr
        clear hrr
        obtain ⟨ri, rb⟩ := rr
        cases rb with
        | true =>
          go_wp2_with fail
          go_ret2
          refine ⟨?_, ?_, below_set HB1.out HG.out, KeepBut.set_ HK1.out 1 _⟩
          · unfold numberS; rw [HE.out, HRR.out, if_pos rfl]; rfl
          · unfold numberS; rw [HE.out, HRR.out, if_pos rfl]; exact rd_set1 HR1.out rfl
        | false =>
          go_wp2_with fail
          go_ret2
          refine ⟨?_, ?_, HB1.out, HK1.out⟩
          · unfold numberS; rw [HE.out, HRR.out, if_neg (by simp)]; rfl
          · unfold numberS; rw [HE.out, HRR.out, if_neg (by simp)]; exact HR1.out
    · obtain rfl : q = s.size := by omega
      have d1 : decide ((s.size : Int) < (s.size : Int)) = false := decide_eq_false (by omega)
      have HE : Aside0 (numP s p = s.size) := ⟨by rw [← HP.out]; exact num_end s _ (Nat.le_refl _)⟩
      go_wp2_with fail
      refine wp_region_held_drew (S := fun w' => Below w0.heap.size w0 w' ∧ Rd w' g s p v ∧ KeepBut W w' g none) (by kernel_rfl) ⟨by repeat (first | exact HB.out | apply pw_below_drewN | apply below_drew1), HR.out, HK.out⟩ (fun hHeld => ?_)
      refine wpAnyH_take (i := 0) (oi := { dst := some 31, op := _, type := _, pos := _, after := _, guard := _ }) (v := ?_) rfl (by kernel_rfl) (by kernel_rfl) (by kernel_rfl) (fun _ _ _ h => h) (Or.inl ⟨by rfl, ?_⟩) (by assumption) ?_
      rotate_left
      · intro w hSw
        (try dsimp only at hSw)
        have hl0 := rd_cell0 hSw.2.1
        have hl1 := rd_cell1 hSw.2.1
        clear hSw
        go_simp
        (try with_reducible rfl)
      (try simp only [Act.put, List.setIfInBounds_toArray, List.set_cons_zero, List.set_cons_succ])
      refine wpAnyH_take (i := 1) (oi := { dst := some 32, op := _, type := _, pos := _, after := _, guard := _ }) (v := ?_) rfl (by kernel_rfl) (by kernel_rfl) (by kernel_rfl) (fun _ _ _ h => h) (Or.inl ⟨by rfl, ?_⟩) (by assumption) ?_
      rotate_left
      · intro w hSw
        (try dsimp only at hSw)
        have hl0 := rd_cell0 hSw.2.1
        have hl1 := rd_cell1 hSw.2.1
        clear hSw
        go_simp
        (try with_reducible rfl)
      (try simp only [Act.put, List.setIfInBounds_toArray, List.set_cons_zero, List.set_cons_succ])
      refine wpAnyH_take (i := 2) (oi := { dst := some 33, op := _, type := _, pos := _, after := _, guard := _ }) (v := ?_) rfl (by kernel_rfl) (by kernel_rfl) (by kernel_rfl) (fun _ _ _ h => h) (Or.inl ⟨by rfl, ?_⟩) (by assumption) ?_
      rotate_left
      · intro w hSw
        (try dsimp only at hSw)
        have hl0 := rd_cell0 hSw.2.1
        have hl1 := rd_cell1 hSw.2.1
        clear hSw
        go_simp
        (try with_reducible rfl)
      (try simp only [Act.put, List.setIfInBounds_toArray, List.set_cons_zero, List.set_cons_succ])
      refine wpAnyH_take (i := 3) (oi := { dst := some 34, op := _, type := _, pos := _, after := _, guard := _ }) (v := ?_) rfl (by kernel_rfl) (by kernel_rfl) (by kernel_rfl) (fun _ _ _ h => h) (Or.inl ⟨by rfl, ?_⟩) (by assumption) ?_
      rotate_left
      · intro w hSw
        (try dsimp only at hSw)
        have hl0 := rd_cell0 hSw.2.1
        have hl1 := rd_cell1 hSw.2.1
        clear hSw
        go_simp
        (try with_reducible rfl)
      (try simp only [Act.put, List.setIfInBounds_toArray, List.set_cons_zero, List.set_cons_succ])
      refine wpAnyH_take (i := 4) (oi := { dst := some 35, op := _, type := _, pos := _, after := _, guard := _ }) (v := ?_) rfl (by kernel_rfl) (by kernel_rfl) (by kernel_rfl) (fun _ _ _ h => h) (Or.inl ⟨by rfl, ?_⟩) (by assumption) ?_
      rotate_left
      · intro w hSw
        (try dsimp only at hSw)
        have hl0 := rd_cell0 hSw.2.1
        have hl1 := rd_cell1 hSw.2.1
        clear hSw
        go_simp
        (try with_reducible rfl)
      (try simp only [Act.put, List.setIfInBounds_toArray, List.set_cons_zero, List.set_cons_succ])
      refine wpAnyH_take (i := 5) (oi := { dst := some 36, op := _, type := _, pos := _, after := _, guard := _ }) (v := ?_) rfl (by kernel_rfl) (by kernel_rfl) (by kernel_rfl) (fun _ _ _ h => h) (Or.inl ⟨by rfl, ?_⟩) (by assumption) ?_
      rotate_left
      · intro w hSw
        (try dsimp only at hSw)
        have hl0 := rd_cell0 hSw.2.1
        have hl1 := rd_cell1 hSw.2.1
        clear hSw
        go_simp
        (try with_reducible rfl)
      (try simp only [Act.put, List.setIfInBounds_toArray, List.set_cons_zero, List.set_cons_succ])
      refine wpAnyH_take (i := 6) (oi := { dst := some 37, op := _, type := _, pos := _, after := _, guard := _ }) (v := ?_) rfl (by kernel_rfl) (by kernel_rfl) (by kernel_rfl) (fun _ _ _ h => h) (Or.inl ⟨by rfl, ?_⟩) (by assumption) ?_
      rotate_left
      · intro w hSw
        (try dsimp only at hSw)
        have hl0 := rd_cell0 hSw.2.1
        have hl1 := rd_cell1 hSw.2.1
        clear hSw
        go_simp
        (try with_reducible rfl)
      (try simp only [Act.put, List.setIfInBounds_toArray, List.set_cons_zero, List.set_cons_succ])
      refine wpAnyH_take (i := 7) (oi := { dst := some 38, op := _, type := _, pos := _, after := _, guard := _ }) (v := ?_) rfl (by kernel_rfl) (by kernel_rfl) (by kernel_rfl) (fun _ _ _ h => h) (Or.inl ⟨by rfl, ?_⟩) (by assumption) ?_
      rotate_left
      · intro w hSw
        (try dsimp only at hSw)
        have hl0 := rd_cell0 hSw.2.1
        have hl1 := rd_cell1 hSw.2.1
        clear hSw
        go_simp
        (try with_reducible rfl)
      (try simp only [Act.put, List.setIfInBounds_toArray, List.set_cons_zero, List.set_cons_succ])
      refine wpAnyH_take (i := 8) (oi := { dst := some 39, op := _, type := _, pos := _, after := _, guard := _ }) (v := ?_) rfl (by kernel_rfl) (by kernel_rfl) (by kernel_rfl) (fun _ _ _ h => h) (Or.inl ⟨by rfl, ?_⟩) (by assumption) ?_
      rotate_left
      · intro w hSw
        (try dsimp only at hSw)
        have hl0 := rd_cell0 hSw.2.1
        have hl1 := rd_cell1 hSw.2.1
        clear hSw
        go_simp
        (try with_reducible rfl)
      (try simp only [Act.put, List.setIfInBounds_toArray, List.set_cons_zero, List.set_cons_succ])
      refine wpAnyH_take (i := 9) (oi := { dst := some 40, op := _, type := _, pos := _, after := _, guard := _ }) (v := ?_) rfl (by kernel_rfl) (by kernel_rfl) (by kernel_rfl) (fun _ _ _ h => h) (Or.inl ⟨by rfl, ?_⟩) (by assumption) ?_
      rotate_left
      · intro w hSw
        (try dsimp only at hSw)
        have hl0 := rd_cell0 hSw.2.1
        have hl1 := rd_cell1 hSw.2.1
        clear hSw
        go_simp
        (try with_reducible rfl)
      (try simp only [Act.put, List.setIfInBounds_toArray, List.set_cons_zero, List.set_cons_succ])
      refine wpAnyH_ready (rs := [10]) (by kernel_rfl) (by simp) ?_
      refine AllReadyH.cons (o := { dst := some 41, op := _, type := _, pos := _, after := _, guard := _ }) rfl (fun K hK => ?_) AllReadyH.nil
      go_simp
      (go_at_call 103; refine (readdec_calls _ _ (JT.out.step hHeld.1)).mono ?_; rintro e w1 ⟨rfl, hb⟩); go_wp2_with fail
      refine hK.out _ _ ?_ (fun hHeld => ?_)
      · exact ⟨hHeld.1.trans (hb.mono hHeld.1.size), rd_below hHeld.2.1 hb, hHeld.2.2.trans (KeepBut.of_below hb g none) (.inl rfl)⟩
      clear hK K
      (try simp only [Act.put, List.setIfInBounds_toArray, List.set_cons_zero, List.set_cons_succ])
      refine wpAnyH_take (i := 11) (oi := { dst := some 30, op := _, type := _, pos := _, after := _, guard := _ }) (v := ?_) rfl (by kernel_rfl) (by kernel_rfl) (by kernel_rfl) (fun _ _ _ h => h) (Or.inl ⟨by rfl, ?_⟩) (by assumption) ?_
      rotate_left
      · intro w hSw
        (try dsimp only at hSw)
        have hl0 := rd_cell0 hSw.2.1
        have hl1 := rd_cell1 hSw.2.1
        clear hSw
        go_simp
        (try with_reducible rfl)
      (try simp only [Act.put, List.setIfInBounds_toArray, List.set_cons_zero, List.set_cons_succ])
      refine wpAnyH_take (i := 12) (oi := { dst := some 42, op := _, type := _, pos := _, after := _, guard := _ }) (v := ?_) rfl (by kernel_rfl) (by kernel_rfl) (by kernel_rfl) (fun _ _ _ h => h) (Or.inl ⟨by rfl, ?_⟩) (by assumption) ?_
      rotate_left
      · intro w hSw
        (try dsimp only at hSw)
        have hl0 := rd_cell0 hSw.2.1
        have hl1 := rd_cell1 hSw.2.1
        clear hSw
        go_simp
        (try with_reducible rfl)
      (try simp only [Act.put, List.setIfInBounds_toArray, List.set_cons_zero, List.set_cons_succ])
      refine wpAnyH_take (i := 13) (oi := { dst := some 43, op := _, type := _, pos := _, after := _, guard := _ }) (v := ?_) rfl (by kernel_rfl) (by kernel_rfl) (by kernel_rfl) (fun _ _ _ h => h) (Or.inl ⟨by rfl, ?_⟩) (by assumption) ?_
      rotate_left
      · intro w hSw
        (try dsimp only at hSw)
        have hl0 := rd_cell0 hSw.2.1
        have hl1 := rd_cell1 hSw.2.1
        clear hSw
        go_simp
        (try with_reducible rfl)
      (try simp only [Act.put, List.setIfInBounds_toArray, List.set_cons_zero, List.set_cons_succ])
      refine wpAnyH_take (i := 14) (oi := { dst := some 5, op := _, type := _, pos := _, after := _, guard := _ }) (v := ?_) rfl (by kernel_rfl) (by kernel_rfl) (by kernel_rfl) (fun _ _ _ h => h) (Or.inl ⟨by rfl, ?_⟩) (by assumption) ?_
      rotate_left
      · intro w hSw
        (try dsimp only at hSw)
        have hl0 := rd_cell0 hSw.2.1
        have hl1 := rd_cell1 hSw.2.1
        clear hSw
        go_simp
        (try with_reducible rfl)
      (try simp only [Act.put, List.setIfInBounds_toArray, List.set_cons_zero, List.set_cons_succ])
      refine wpAnyH_take (i := 15) (oi := { dst := some 6, op := _, type := _, pos := _, after := _, guard := _ }) (v := ?_) rfl (by kernel_rfl) (by kernel_rfl) (by kernel_rfl) (fun _ _ _ h => h) (Or.inl ⟨by rfl, ?_⟩) (by assumption) ?_
      rotate_left
      · intro w hSw
        (try dsimp only at hSw)
        have hl0 := rd_cell0 hSw.2.1
        have hl1 := rd_cell1 hSw.2.1
        clear hSw
        go_simp
        (try with_reducible rfl)
      (try simp only [Act.put, List.setIfInBounds_toArray, List.set_cons_zero, List.set_cons_succ])
      refine wpAnyH_done (by kernel_rfl) ?_ _
      have HR1 := Aside0.mk hHeld.2.1
      have HB1 := Aside0.mk hHeld.1
      have HK1 := Aside0.mk hHeld.2.2
      have hd1 := rd_cell1 hHeld.2.1
      have hf1 := blk_frozen hHeld.2.1 1
      clear hHeld hc0 hc1
      obtain ⟨rr, hrr⟩ : ∃ rr, readN (s.extract p s.size) = rr := ⟨_, rfl⟩
      rw [hrr]
      have HRR := Aside0.mk hrr
      clear hrr
      obtain ⟨ri, rb⟩ := rr
      cases rb with
      | true =>
        go_wp2_with fail
        go_ret2
        refine ⟨?_, ?_, below_set HB1.out HG.out, KeepBut.set_ HK1.out 1 _⟩
        · unfold numberS; rw [HE.out, HRR.out, if_pos rfl]; rfl
        · unfold numberS; rw [HE.out, HRR.out, if_pos rfl]; exact rd_set1 HR1.out rfl
      | false =>
        go_wp2_with fail
        go_ret2
        refine ⟨?_, ?_, HB1.out, HK1.out⟩
        · unfold numberS; rw [HE.out, HRR.out, if_neg (by simp)]; rfl
        · unfold numberS; rw [HE.out, HRR.out, if_neg (by simp)]; exact HR1.out
end Go.Proofs.YthhmmaihbjhhgaaDoor.Giv
namespace Go.Proofs.YthhmmaihbjhhgaaDoor.J0
open Go.RowKit Go.Proofs.YthhmmaihbjhhgaaDoorW.PrintWords Go.Proofs.YthhmmaihbjhhgaaDoorW.PrintLast Go.Proofs.YthhmmaihbjhhgaaDoorW.PrintMore
attribute [local go_sem] max2_int min2_int max_two min_two max_three min_three max_four min_four   -- for this text's walks alone
set_option linter.unusedVariables false
set_option linter.unusedSimpArgs false
def errW : Option Int → Value
  | none => .nilIface
  | some c => .iface 0 (.int .i64 c)
theorem errW_none : errW none = .nilIface := rfl
theorem errW_some (c : Int) : errW (some c) = .iface 0 (.int .i64 c) := rfl
end Go.Proofs.YthhmmaihbjhhgaaDoor.J0
namespace Go.Proofs.YthhmmaihbjhhgaaDoor.J0
open Go.RowKit Go.Proofs.YthhmmaihbjhhgaaDoorW.PrintWords Go.Proofs.YthhmmaihbjhhgaaDoorW.PrintLast Go.Proofs.YthhmmaihbjhhgaaDoorW.PrintMore
attribute [local go_sem] max2_int min2_int max_two min_two max_three min_three max_four min_four   -- for this text's walks alone
set_option linter.unusedVariables false
set_option linter.unusedSimpArgs false
def slices_Index_string_string.l0 : Nat → List ByteArray → ByteArray → Int → Int → Option (Int)
  | 0, _, _, _, _ => none
  | k + 1, x0, x1, x7, x8 => if x8 < x7 then (if 0 ≤ x8 then (if x8 < (x0.length : Int) then (if x1.toList = (rdOf ByteArray.empty x0 x8).toList then (some x8) else (slices_Index_string_string.l0 k x0 x1 x7 (wrap64 (x8 + 1)))) else (none)) else (none)) else (some (-1))
def slices_Index_string_string.f (k : Nat) (l0 : List ByteArray) (a1 : ByteArray) : Option (Int) := slices_Index_string_string.l0 k l0 a1 (l0.length : Int) 0
set_option maxHeartbeats 8000000 in
set_option maxRecDepth 100000 in
theorem slices_Index_string_string.calls (k : Nat) (A0 : Option Addr) (c0 : Nat) (l0 : List ByteArray) (a1 : ByteArray) (r : Int) (w : World) (hr0 : Kd.C Kd.string w A0 l0.length l0) (hc0 : l0.length ≤ c0) (h : slices_Index_string_string.f k l0 a1 = some r) :
    Calls Tryd.prog 100 #[.slice A0 l0.length c0, .string a1] w fun e w' => e = .returned (.int .i64 r) ∧ Drawn0 w w' := by
  have HR0 := Aside0.mk hr0
  have HC0 := Aside0.mk hc0
  clear hr0 hc0
  have H : (slices_Index_string_string.l0 k l0 a1 (l0.length : Int) 0) = some r := h
  clear h
  have H' := Aside0.mk H
  clear H
  go_enter Tryd.func100, Tryd.ntmps100
  go_wp2
  go_loopg [8] k (fun kq v8 w' => ∃ (x8_1 : Int), v8 = .int .i64 x8_1 ∧ Aside0 (slices_Index_string_string.l0 kq l0 a1 (l0.length : Int) x8_1 = some r) ∧ Aside0 (kq ≤ k) ∧ Drawn0 w w')
  case atStart => exact ⟨(0), (by first | rfl | (simp; done) | (simp [*]; done)), H', ⟨Nat.le_refl _⟩, by repeat (first | exact Drawn0.refl _ | apply Drawn0.step)⟩
  case round =>
    clear H'
    try clear c1
    try clear p2
    obtain ⟨x8_1, rfl, HA, HK1, ⟨m1, rfl⟩⟩ := hrel
    cases gk with
    | zero => exact absurd HA.out (by simp [slices_Index_string_string.l0])
    | succ k1 =>
      have H := HA.out
      clear HA
      simp only [slices_Index_string_string.l0] at H
      by_cases c3 : x8_1 < (l0.length : Int)
      · rw [if_pos c3] at H
        have c3b0 : decide (x8_1 < (l0.length : Int)) = true := decide_eq_true c3
        clear c3
        by_cases c4 : 0 ≤ x8_1
        · rw [if_pos c4] at H
          have c4b0 : decide (0 ≤ x8_1) = true := decide_eq_true c4
          clear c4
          by_cases c5 : x8_1 < (l0.length : Int)
          · rw [if_pos c5] at H
            have c5b0 : decide (x8_1 < (l0.length : Int)) = true := decide_eq_true c5
            clear c5
            by_cases c6 : a1.toList = (rdOf ByteArray.empty l0 x8_1).toList
            · rw [if_pos c6] at H
              have c6b0 : (a1.toList == (rdOf ByteArray.empty l0 x8_1).toList) = true := beq_iff_eq.mpr c6
              have c6b1 : (a1.toList != (rdOf ByteArray.empty l0 x8_1).toList) = false := bne_eq_false_iff_eq.mpr c6
              clear c6
              obtain rfl := Option.some.inj H
              have p101 : 0 ≤ (x8_1 : Int) := of_decide_eq_true (by first | (with_reducible assumption) | assumption)
              have q101 : x8_1 < (l0.length : Int) := of_decide_eq_true (by first | (with_reducible assumption) | assumption)
              obtain ⟨ad101, e101, hx101_0⟩ := Kd.at_string HR0.out x8_1 p101 q101
              cases e101
              replace p101 := eq_true p101
              replace q101 := eq_true q101
              go_wp2
              go_ret
              exact ⟨by first | rfl | (simp; done) | (simp [*]; done), by repeat (first | exact Drawn0.refl _ | apply Drawn0.step)⟩
            · rw [if_neg c6] at H
              have c6b0 : (a1.toList == (rdOf ByteArray.empty l0 x8_1).toList) = false := beq_eq_false_iff_ne.mpr c6
              have c6b1 : (a1.toList != (rdOf ByteArray.empty l0 x8_1).toList) = true := bne_iff_ne.mpr c6
              have H' := Aside0.mk H
              clear H
              have p101 : 0 ≤ (x8_1 : Int) := of_decide_eq_true (by first | (with_reducible assumption) | assumption)
              have q101 : x8_1 < (l0.length : Int) := of_decide_eq_true (by first | (with_reducible assumption) | assumption)
              obtain ⟨ad101, e101, hx101_0⟩ := Kd.at_string HR0.out x8_1 p101 q101
              cases e101
              replace p101 := eq_true p101
              replace q101 := eq_true q101
              go_wp2
              go_roundg k1
              case measure => have := HK1.out; omega
              case rel => exact ⟨(wrap64 (x8_1 + 1)), (by first | rfl | (simp; done) | (simp [*]; done)), H', ⟨by have := HK1.out; omega⟩, by repeat (first | exact Drawn0.refl _ | apply Drawn0.step)⟩
          · rw [if_neg c5] at H
            exact absurd H (by simp)
        · rw [if_neg c4] at H
          exact absurd H (by simp)
      · rw [if_neg c3] at H
        have c3b0 : decide (x8_1 < (l0.length : Int)) = false := decide_eq_false c3
        clear c3
        obtain rfl := Option.some.inj H
        go_wp2
        go_ret
        exact ⟨by first | rfl | (simp; done) | (simp [*]; done), by repeat (first | exact Drawn0.refl _ | apply Drawn0.step)⟩
def slices_Contains_string_string.f (k : Nat) (l0 : List ByteArray) (a1 : ByteArray) : Option (Bool) := (slices_Index_string_string.f k l0 a1).bind fun t102 => (some (decide (t102 ≥ 0)))
set_option maxHeartbeats 8000000 in
set_option maxRecDepth 100000 in
theorem slices_Contains_string_string.calls (k : Nat) (A0 : Option Addr) (c0 : Nat) (l0 : List ByteArray) (a1 : ByteArray) (r : Bool) (w : World) (hr0 : Kd.C Kd.string w A0 l0.length l0) (hc0 : l0.length ≤ c0) (h : slices_Contains_string_string.f k l0 a1 = some r) :
    Calls Tryd.prog 86 #[.slice A0 l0.length c0, .string a1] w fun e w' => e = .returned (.bool r) ∧ Drawn0 w w' := by
  have HR0 := Aside0.mk hr0
  have HC0 := Aside0.mk hc0
  clear hr0 hc0
  have H : ((slices_Index_string_string.f k l0 a1).bind fun t102 => (some (decide (t102 ≥ 0)))) = some r := h
  clear h
  replace H := Option.bind_eq_some_iff.mp H
  obtain ⟨t102, A30, H⟩ := H
  replace H : (some (decide (t102 ≥ 0))) = some r := H
  have A3 := Aside0.mk A30
  clear A30
  obtain rfl := Option.some.inj H
  go_enter Tryd.func86, Tryd.ntmps86
  go_wp2_with (first | ((with_reducible refine gate_callee (f := 100) rfl ?_); refine goesL_ (some 7) rfl rfl Tryd.func100 (by kernel_rfl) rfl #[.slice A0 l0.length c0, .string a1] rfl (by (try simp only [List.map_toArray, List.map_cons, List.map_nil]); first | done | rfl | (simp only [List.length_drop, List.length_take]; rfl)) ?_; (with_reducible refine (slices_Index_string_string.calls k _ _ l0 a1 t102 _ ?side1 ?side2 A3.out).mono ?_); (case side1 => repeat (first | exact HR0.out | (with_reducible refine Kd.C_alloc ?_ _) | (with_reducible refine Kd.C_drewN ?_ _) | (with_reducible refine Kd.C_drew ?_))); (case side2 => exact HC0.out); rintro e w' ⟨rfl, ⟨nd, rfl⟩⟩; refine ⟨_, rfl, ?_⟩))
  go_ret
  exact ⟨by first | rfl | (simp; done) | (simp [*]; done), by repeat (first | exact Drawn0.refl _ | apply Drawn0.step)⟩
def stringslite_HasPrefix.f (a0 : ByteArray) (a1 : ByteArray) : Option (Bool) := if (a0.size : Int) ≥ (a1.size : Int) then (if 0 ≤ (a1.size : Int) then (if (a1.size : Int) ≤ (a0.size : Int) then (some ((a0.extract 0 ((a1.size : Int) : Int).toNat).toList == a1.toList)) else (none)) else (none)) else (some false)
set_option maxHeartbeats 8000000 in
set_option maxRecDepth 100000 in
theorem stringslite_HasPrefix.calls (a0 : ByteArray) (a1 : ByteArray) (r : Bool) (w : World) (h : stringslite_HasPrefix.f a0 a1 = some r) :
    Calls Tryd.prog 94 #[.string a0, .string a1] w fun e w' => e = .returned (.bool r) ∧ Drawn0 w w' := by
  have H : (if (a0.size : Int) ≥ (a1.size : Int) then (if 0 ≤ (a1.size : Int) then (if (a1.size : Int) ≤ (a0.size : Int) then (some ((a0.extract 0 ((a1.size : Int) : Int).toNat).toList == a1.toList)) else (none)) else (none)) else (some false)) = some r := h
  clear h
  by_cases c3 : (a0.size : Int) ≥ (a1.size : Int)
  · rw [if_pos c3] at H
    have c3b0 : decide ((a1.size : Int) ≤ (a0.size : Int)) = true := decide_eq_true c3
    have c3b1 : decide (a1.size ≤ a0.size) = true := decide_eq_true (Int.ofNat_le.mp c3)
    clear c3
    by_cases c4 : 0 ≤ (a1.size : Int)
    · rw [if_pos c4] at H
      have c4b0 := eq_true c4
      have c4b1 : decide (0 ≤ (a1.size : Int)) = true := decide_eq_true c4
      clear c4
      by_cases c5 : (a1.size : Int) ≤ (a0.size : Int)
      · rw [if_pos c5] at H
        have c5b0 := eq_true c5
        have c5b1 : decide ((a1.size : Int) ≤ (a0.size : Int)) = true := decide_eq_true c5
        clear c5
        obtain rfl := Option.some.inj H
        go_enter Tryd.func94, Tryd.ntmps94
        go_wp2
        go_ret
        exact ⟨by first | rfl | (simp; done) | (simp [*]; done), by repeat (first | exact Drawn0.refl _ | apply Drawn0.step)⟩
      · rw [if_neg c5] at H
        exact absurd H (by simp)
    · rw [if_neg c4] at H
      exact absurd H (by simp)
  · rw [if_neg c3] at H
    have c3b0 : decide ((a1.size : Int) ≤ (a0.size : Int)) = false := decide_eq_false c3
    have c3b1 : decide (a1.size ≤ a0.size) = false := decide_eq_false (fun h => c3 (Int.ofNat_le.mpr h))
    clear c3
    obtain rfl := Option.some.inj H
    go_enter Tryd.func94, Tryd.ntmps94
    go_wp2
    go_ret
    exact ⟨by first | rfl | (simp; done) | (simp [*]; done), by repeat (first | exact Drawn0.refl _ | apply Drawn0.step)⟩
def strings_HasPrefix.f (a0 : ByteArray) (a1 : ByteArray) : Option (Bool) := (stringslite_HasPrefix.f a0 a1).bind fun t103 => (some t103)
set_option maxHeartbeats 8000000 in
set_option maxRecDepth 100000 in
theorem strings_HasPrefix.calls (a0 : ByteArray) (a1 : ByteArray) (r : Bool) (w : World) (h : strings_HasPrefix.f a0 a1 = some r) :
    Calls Tryd.prog 75 #[.string a0, .string a1] w fun e w' => e = .returned (.bool r) ∧ Drawn0 w w' := by
  have H : ((stringslite_HasPrefix.f a0 a1).bind fun t103 => (some t103)) = some r := h
  clear h
  replace H := Option.bind_eq_some_iff.mp H
  obtain ⟨t103, A30, H⟩ := H
  replace H : (some t103) = some r := H
  have A3 := Aside0.mk A30
  clear A30
  obtain rfl := Option.some.inj H
  go_enter Tryd.func75, Tryd.ntmps75
  go_wp2_with (first | ((with_reducible refine gate_callee (f := 94) rfl ?_); refine goesL_ (some 7) rfl rfl Tryd.func94 (by kernel_rfl) rfl #[.string a0, .string a1] rfl (by (try simp only [List.map_toArray, List.map_cons, List.map_nil]); first | done | rfl | (simp only [List.length_drop, List.length_take]; rfl)) ?_; (with_reducible refine (stringslite_HasPrefix.calls a0 a1 t103 _ A3.out).mono ?_); rintro e w' ⟨rfl, ⟨nd, rfl⟩⟩; refine ⟨_, rfl, ?_⟩))
  go_ret
  exact ⟨by first | rfl | (simp; done) | (simp [*]; done), by repeat (first | exact Drawn0.refl _ | apply Drawn0.step)⟩
end Go.Proofs.YthhmmaihbjhhgaaDoor.J0
namespace Go.Proofs.YthhmmaihbjhhgaaDoor.Giv
open Go.RowKit Go.Proofs.YthhmmaihbjhhgaaDoorW.PrintWords Go.Proofs.YthhmmaihbjhhgaaDoorW.PrintLast Go.Proofs.YthhmmaihbjhhgaaDoorW.PrintMore
open Go.Proofs.YthhmmaihbjhhgaaDoor.U1 Go.Proofs.YthhmmaihbjhhgaaDoor.Q1 Go.Proofs.YthhmmaihbjhhgaaDoor.J0
set_option linter.unusedSimpArgs false
theorem str_eq (a b : ByteArray) : a.toList = b.toList ↔ a = b := by
  rw [Lib.toList_data, Lib.toList_data]
  constructor
  · intro h
    cases a; cases b
    simp at h
    rw [h]
  · intro h; rw [h]
def idxB (a : ByteArray) : List ByteArray → Nat → Int
  | [], _ => -1
  | x :: l, i => if a = x then (i : Int) else idxB a l (i + 1)
def hasB (a : ByteArray) : List ByteArray → Bool
  | [] => false
  | x :: l => if a = x then true else hasB a l
theorem idx_has (a : ByteArray) : ∀ (l : List ByteArray) (i : Nat), decide (idxB a l i ≥ 0) = hasB a l
  | [], _ => rfl
  | x :: l, i => by
    unfold idxB hasB
    by_cases c : a = x
    · rw [if_pos c, if_pos c]; exact decide_eq_true (by omega)
    · rw [if_neg c, if_neg c]; exact idx_has a l (i + 1)
theorem hasB_iff (a : ByteArray) : ∀ l : List ByteArray, hasB a l = true ↔ a ∈ l
  | [] => by simp [hasB]
  | x :: l => by
    unfold hasB
    by_cases c : a = x
    · rw [if_pos c]; subst c; simp
    · rw [if_neg c, hasB_iff a l]; simp [c]
theorem index_l0 (l : List ByteArray) (a : ByteArray) (hl : l.length ≤ 9223372036854775807) : ∀ (n k i : Nat), l.length - i = n → i ≤ l.length → n < k → slices_Index_string_string.l0 k l a (l.length : Int) (i : Int) = some (idxB a (l.drop i) i)
  | 0, k, i, h1, h2, h3 => by
    obtain ⟨k, rfl⟩ : ∃ m, k = m + 1 := ⟨k - 1, by omega⟩
    simp only [slices_Index_string_string.l0]
    rw [if_neg (by omega), List.drop_eq_nil_of_le (by omega)]
    rfl
  | n + 1, k, i, h1, h2, h3 => by
    obtain ⟨k, rfl⟩ : ∃ m, k = m + 1 := ⟨k - 1, by omega⟩
    have hi : i < l.length := by omega
    have hd : l.drop i = l[i] :: l.drop (i + 1) := List.drop_eq_getElem_cons hi
    have hr : rdOf ByteArray.empty l (i : Int) = l[i] := by
      unfold rdOf
      rw [Int.toNat_natCast, List.getD_eq_getElem?_getD, List.getElem?_eq_getElem hi]; rfl
    simp only [slices_Index_string_string.l0]
    rw [if_pos (by omega), if_pos (by omega), if_pos (by omega), hr, hd, idxB]
    by_cases c : a = l[i]
    · rw [if_pos ((str_eq _ _).2 c), if_pos c]
    · rw [if_neg (fun h => c ((str_eq _ _).1 h)), if_neg c, show wrap64 ((i : Int) + 1) = ((i + 1 : Nat) : Int) by unfold wrap64; omega, index_l0 l a hl n k (i + 1) (by omega) (by omega) (by omega)]
theorem contains_f (k : Nat) (l : List ByteArray) (a : ByteArray) (hk : l.length < k) (hl : l.length ≤ 9223372036854775807) : slices_Contains_string_string.f k l a = some (hasB a l) := by
  unfold slices_Contains_string_string.f slices_Index_string_string.f
  have h := index_l0 l a hl l.length k 0 (by omega) (by omega) hk
  rw [List.drop_zero] at h
  rw [show (0 : Int) = ((0 : Nat) : Int) from rfl, h, Option.bind_some]
  congr 1
  exact idx_has a l 0
/-- a key: it, the error, how far was read -/
def keyF (k : Nat) (s : ByteArray) (p : Nat) (others : List ByteArray) : Option (ByteArray × Int × Nat) :=
  if nextC s p = 34 then (quote_Read.f k (s.extract (skipP s p) s.size)).bind fun r => if 0 ≤ r.2.1 ∧ (skipP s p : Int) + r.2.1 ≤ s.size then
    (if r.2.2 = 0 then (if hasB r.1 others = true then some (⟨#[]⟩, 82, skipP s p + r.2.1.toNat) else if (takesP s (skipP s p + r.2.1.toNat) 58).1 = true then some (r.1, 0, (takesP s (skipP s p + r.2.1.toNat) 58).2) else some (⟨#[]⟩, 80, (takesP s (skipP s p + r.2.1.toNat) 58).2))
      else some (⟨#[]⟩, r.2.2, skipP s p + r.2.1.toNat)) else none
  else some (⟨#[]⟩, 80, skipP s p)
theorem takes_le (s : ByteArray) (p c : Nat) (hp : p ≤ s.size) : (takesP s p c).2 ≤ s.size := by
  have := skip_le s p hp
  unfold takesP; split
  · rename_i h; exact h.2
  · exact this
section
variable (w0 W : World) (g : Nat) (s : ByteArray) (p : Nat) (v : Value)
set_option maxHeartbeats 4000000 in
set_option maxRecDepth 100000 in
theorem key_none (kv : Value) (hR : Rd W g s p v) (hB : Below w0.heap.size w0 W) (hg : w0.heap.size ≤ g) (hp : p ≤ s.size) (hs : s.size ≤ 4611686018427387904) (hn : nextC s p ≠ 34) :
    Calls Tryd.prog 102 #[.pointer (some ⟨g, 0, none⟩), kv] W fun e W' => e = .returned (.tuple #[.string ⟨#[]⟩, .int .i64 80]) ∧ Rd W' g s (skipP s p) v ∧ Below w0.heap.size w0 W' ∧ KeepBut W W' g none := by
  have HR := Aside0.mk hR
  have HB := Aside0.mk hB
  have HG := Aside0.mk hg
  have HS := Aside0.mk hs
  have HP := Aside0.mk hp
  have n1 : ((nextC s p : Int) == 34) = false := beq_eq_false_iff_ne.mpr (by omega)
  have n2 : ((nextC s p : Int) != 34) = true := bne_iff_ne.mpr (by omega)
  clear hR hB hg hs hp hn
  go_enter Tryd.func102, Tryd.ntmps102
  go_wp2_with (first
    | (go_at_call 70; refine (next_calls w0 W g s p v HR.out HB.out HG.out HP.out HS.out).mono ?_; rintro e w1 ⟨rfl, hR1, hB1, hK1⟩; have HR1 := Aside0.mk hR1; have HB1 := Aside0.mk hB1; have HK1 := Aside0.mk hK1; clear hR1 hB1 hK1))
  go_ret2
  exact ⟨rfl, HR1.out, HB1.out, HK1.out⟩
set_option maxHeartbeats 4000000 in
set_option maxRecDepth 100000 in
theorem key_err (k : Nat) (t : ByteArray) (m : Nat) (er : Int) (A : Option Addr) (c : Nat) (others : List ByteArray) (hR : Rd W g s p v) (hB : Below w0.heap.size w0 W) (hg : w0.heap.size ≤ g) (hp : p ≤ s.size) (hs : s.size ≤ 4611686018427387904) (hj : JTabs w0) (hn : nextC s p = 34)
    (hr : quote_Read.f k (s.extract (skipP s p) s.size) = some (t, (m : Int), er)) (hm : skipP s p + m ≤ s.size) (ho : Kd.R Kd.string 9 W w0.heap.size (fun j => j ≠ g) (.slice A others.length c) others) (he : er ≠ 0) :
    Calls Tryd.prog 102 #[.pointer (some ⟨g, 0, none⟩), .slice A others.length c] W fun e W' => e = .returned (.tuple #[.string ⟨#[]⟩, .int .i64 er]) ∧ Rd W' g s (skipP s p + m) v ∧ Below w0.heap.size w0 W' ∧ KeepBut W W' g none := by
  have HR := Aside0.mk hR
  have HB := Aside0.mk hB
  have HG := Aside0.mk hg
  have HS := Aside0.mk hs
  have HP := Aside0.mk hp
  have JT := Aside0.mk hj
  have FR := Aside0.mk hr
  have HM := Aside0.mk hm
  have HO := Aside0.mk ho
  have HC := Aside0.mk (Kd.R_reads' ho).2.1
  have HL := Aside0.mk (Kd.R_reads' ho).2.2.2.1
  have n1 : ((nextC s p : Int) == 34) = true := beq_iff_eq.mpr (by omega)
  have n2 : ((nextC s p : Int) != 34) = false := bne_eq_false_iff_eq.mpr (by omega)
  have n3 : (er == 0) = false := beq_eq_false_iff_ne.mpr he
  have n4 : (er != 0) = true := bne_iff_ne.mpr he
  clear he
  clear hR hB hg hs hp hn hr hm ho hj
  go_enter Tryd.func102, Tryd.ntmps102
  go_wp2_with (first
    | (go_at_call 70; refine (next_calls w0 W g s p v HR.out HB.out HG.out HP.out HS.out).mono ?_; rintro e w1 ⟨rfl, hR1, hB1, hK1⟩; have HR1 := Aside0.mk hR1; have HB1 := Aside0.mk hB1; have HK1 := Aside0.mk hK1; clear hR1 hB1 hK1)
    | (go_at_call 88; refine (text_calls k w0 w1 g s (skipP s p) v t m _ HR1.out HB1.out HG.out (skip_le s p HP.out) HS.out JT.out FR.out HM.out).mono ?_; rintro e w2 ⟨rfl, hR2, hB2, hK2⟩; have HR2 := Aside0.mk hR2; have HB2 := Aside0.mk hB2; have HK2 := Aside0.mk (HK1.out.trans hK2 (.inl rfl)); clear hR2 hB2 hK2))
  go_ret2
  exact ⟨rfl, HR2.out, HB2.out, HK2.out⟩
set_option maxHeartbeats 4000000 in
set_option maxRecDepth 100000 in
theorem key_twice (k : Nat) (t : ByteArray) (m : Nat) (er : Int) (A : Option Addr) (c : Nat) (others : List ByteArray) (hR : Rd W g s p v) (hB : Below w0.heap.size w0 W) (hg : w0.heap.size ≤ g) (hp : p ≤ s.size) (hs : s.size ≤ 4611686018427387904) (hj : JTabs w0) (hn : nextC s p = 34)
    (hr : quote_Read.f k (s.extract (skipP s p) s.size) = some (t, (m : Int), er)) (hm : skipP s p + m ≤ s.size) (ho : Kd.R Kd.string 9 W w0.heap.size (fun j => j ≠ g) (.slice A others.length c) others) (he : er = 0) (hh : hasB t others = true) :
    Calls Tryd.prog 102 #[.pointer (some ⟨g, 0, none⟩), .slice A others.length c] W fun e W' => e = .returned (.tuple #[.string ⟨#[]⟩, .int .i64 82]) ∧ Rd W' g s (skipP s p + m) v ∧ Below w0.heap.size w0 W' ∧ KeepBut W W' g none := by
  have HR := Aside0.mk hR
  have HB := Aside0.mk hB
  have HG := Aside0.mk hg
  have HS := Aside0.mk hs
  have HP := Aside0.mk hp
  have JT := Aside0.mk hj
  have FR := Aside0.mk hr
  have HM := Aside0.mk hm
  have HO := Aside0.mk ho
  have HC := Aside0.mk (Kd.R_reads' ho).2.1
  have HL := Aside0.mk (Kd.R_reads' ho).2.2.2.1
  have n1 : ((nextC s p : Int) == 34) = true := beq_iff_eq.mpr (by omega)
  have n2 : ((nextC s p : Int) != 34) = false := bne_eq_false_iff_eq.mpr (by omega)
  subst he
  have FC : Aside0 (slices_Contains_string_string.f (others.length + 1) others t = some true) := ⟨by rw [contains_f _ _ _ (by omega) HL.out, hh]⟩
  clear hh
  clear hR hB hg hs hp hn hr hm ho hj
  go_enter Tryd.func102, Tryd.ntmps102
  go_wp2_with (first
    | (go_at_call 70; refine (next_calls w0 W g s p v HR.out HB.out HG.out HP.out HS.out).mono ?_; rintro e w1 ⟨rfl, hR1, hB1, hK1⟩; have HR1 := Aside0.mk hR1; have HB1 := Aside0.mk hB1; have HK1 := Aside0.mk hK1; clear hR1 hB1 hK1)
    | (go_at_call 88; refine (text_calls k w0 w1 g s (skipP s p) v t m _ HR1.out HB1.out HG.out (skip_le s p HP.out) HS.out JT.out FR.out HM.out).mono ?_; rintro e w2 ⟨rfl, hR2, hB2, hK2⟩; have HR2 := Aside0.mk hR2; have HB2 := Aside0.mk hB2; have HK2 := Aside0.mk (HK1.out.trans hK2 (.inl rfl)); clear hR2 hB2 hK2)
    | (go_at_call 86; refine (slices_Contains_string_string.calls (others.length + 1) A c others t _ w2 (Kd.R_reads' (Kd.R_keep HO.out HK2.out (fun _ h => h))).2.2 HC.out FC.out).mono ?_; rintro e w3 ⟨rfl, ⟨nd, rfl⟩⟩))
  go_ret2
  exact ⟨rfl, HR2.out, pw_below_drewN HB2.out _, keep_drewN HK2.out _⟩
set_option maxHeartbeats 4000000 in
set_option maxRecDepth 100000 in
theorem key_colon (k : Nat) (t : ByteArray) (m : Nat) (er : Int) (A : Option Addr) (c : Nat) (others : List ByteArray) (hR : Rd W g s p v) (hB : Below w0.heap.size w0 W) (hg : w0.heap.size ≤ g) (hp : p ≤ s.size) (hs : s.size ≤ 4611686018427387904) (hj : JTabs w0) (hn : nextC s p = 34)
    (hr : quote_Read.f k (s.extract (skipP s p) s.size) = some (t, (m : Int), er)) (hm : skipP s p + m ≤ s.size) (ho : Kd.R Kd.string 9 W w0.heap.size (fun j => j ≠ g) (.slice A others.length c) others) (he : er = 0) (hh : hasB t others = false) (ht : (takesP s (skipP s p + m) 58).1 = false) :
    Calls Tryd.prog 102 #[.pointer (some ⟨g, 0, none⟩), .slice A others.length c] W fun e W' => e = .returned (.tuple #[.string ⟨#[]⟩, .int .i64 80]) ∧ Rd W' g s (takesP s (skipP s p + m) 58).2 v ∧ Below w0.heap.size w0 W' ∧ KeepBut W W' g none := by
  have HR := Aside0.mk hR
  have HB := Aside0.mk hB
  have HG := Aside0.mk hg
  have HS := Aside0.mk hs
  have HP := Aside0.mk hp
  have JT := Aside0.mk hj
  have FR := Aside0.mk hr
  have HM := Aside0.mk hm
  have HO := Aside0.mk ho
  have HC := Aside0.mk (Kd.R_reads' ho).2.1
  have HL := Aside0.mk (Kd.R_reads' ho).2.2.2.1
  have n1 : ((nextC s p : Int) == 34) = true := beq_iff_eq.mpr (by omega)
  have n2 : ((nextC s p : Int) != 34) = false := bne_eq_false_iff_eq.mpr (by omega)
  subst he
  have FC : Aside0 (slices_Contains_string_string.f (others.length + 1) others t = some false) := ⟨by rw [contains_f _ _ _ (by omega) HL.out, hh]⟩
  clear hh
  have n5 : (takesP s (skipP s p + m) 58).1 = false := ht
  clear ht
  clear hR hB hg hs hp hn hr hm ho hj
  go_enter Tryd.func102, Tryd.ntmps102
  go_wp2_with (first
    | (go_at_call 70; refine (next_calls w0 W g s p v HR.out HB.out HG.out HP.out HS.out).mono ?_; rintro e w1 ⟨rfl, hR1, hB1, hK1⟩; have HR1 := Aside0.mk hR1; have HB1 := Aside0.mk hB1; have HK1 := Aside0.mk hK1; clear hR1 hB1 hK1)
    | (go_at_call 88; refine (text_calls k w0 w1 g s (skipP s p) v t m _ HR1.out HB1.out HG.out (skip_le s p HP.out) HS.out JT.out FR.out HM.out).mono ?_; rintro e w2 ⟨rfl, hR2, hB2, hK2⟩; have HR2 := Aside0.mk hR2; have HB2 := Aside0.mk hB2; have HK2 := Aside0.mk (HK1.out.trans hK2 (.inl rfl)); clear hR2 hB2 hK2)
    | (go_at_call 86; refine (slices_Contains_string_string.calls (others.length + 1) A c others t _ w2 (Kd.R_reads' (Kd.R_keep HO.out HK2.out (fun _ h => h))).2.2 HC.out FC.out).mono ?_; rintro e w3 ⟨rfl, ⟨nd, rfl⟩⟩)
    | (go_at_call 101; refine (takes_calls w0 (w2.drewN nd) g s (skipP s p + m) v 58 HR2.out (pw_below_drewN HB2.out _) HG.out HM.out HS.out).mono ?_; rintro e w4 ⟨rfl, hR4, hB4, hK4⟩; have HR4 := Aside0.mk hR4; have HB4 := Aside0.mk hB4; have HK4 := Aside0.mk ((keep_drewN HK2.out nd).trans hK4 (.inl rfl)); clear hR4 hB4 hK4))
  go_ret2
  exact ⟨rfl, HR4.out, HB4.out, HK4.out⟩
set_option maxHeartbeats 4000000 in
set_option maxRecDepth 100000 in
theorem key_yes (k : Nat) (t : ByteArray) (m : Nat) (er : Int) (A : Option Addr) (c : Nat) (others : List ByteArray) (hR : Rd W g s p v) (hB : Below w0.heap.size w0 W) (hg : w0.heap.size ≤ g) (hp : p ≤ s.size) (hs : s.size ≤ 4611686018427387904) (hj : JTabs w0) (hn : nextC s p = 34)
    (hr : quote_Read.f k (s.extract (skipP s p) s.size) = some (t, (m : Int), er)) (hm : skipP s p + m ≤ s.size) (ho : Kd.R Kd.string 9 W w0.heap.size (fun j => j ≠ g) (.slice A others.length c) others) (he : er = 0) (hh : hasB t others = false) (ht : (takesP s (skipP s p + m) 58).1 = true) :
    Calls Tryd.prog 102 #[.pointer (some ⟨g, 0, none⟩), .slice A others.length c] W fun e W' => e = .returned (.tuple #[.string t, .int .i64 0]) ∧ Rd W' g s (takesP s (skipP s p + m) 58).2 v ∧ Below w0.heap.size w0 W' ∧ KeepBut W W' g none := by
  have HR := Aside0.mk hR
  have HB := Aside0.mk hB
  have HG := Aside0.mk hg
  have HS := Aside0.mk hs
  have HP := Aside0.mk hp
  have JT := Aside0.mk hj
  have FR := Aside0.mk hr
  have HM := Aside0.mk hm
  have HO := Aside0.mk ho
  have HC := Aside0.mk (Kd.R_reads' ho).2.1
  have HL := Aside0.mk (Kd.R_reads' ho).2.2.2.1
  have n1 : ((nextC s p : Int) == 34) = true := beq_iff_eq.mpr (by omega)
  have n2 : ((nextC s p : Int) != 34) = false := bne_eq_false_iff_eq.mpr (by omega)
  subst he
  have FC : Aside0 (slices_Contains_string_string.f (others.length + 1) others t = some false) := ⟨by rw [contains_f _ _ _ (by omega) HL.out, hh]⟩
  clear hh
  have n5 : (takesP s (skipP s p + m) 58).1 = true := ht
  clear ht
  clear hR hB hg hs hp hn hr hm ho hj
  go_enter Tryd.func102, Tryd.ntmps102
  go_wp2_with (first
    | (go_at_call 70; refine (next_calls w0 W g s p v HR.out HB.out HG.out HP.out HS.out).mono ?_; rintro e w1 ⟨rfl, hR1, hB1, hK1⟩; have HR1 := Aside0.mk hR1; have HB1 := Aside0.mk hB1; have HK1 := Aside0.mk hK1; clear hR1 hB1 hK1)
    | (go_at_call 88; refine (text_calls k w0 w1 g s (skipP s p) v t m _ HR1.out HB1.out HG.out (skip_le s p HP.out) HS.out JT.out FR.out HM.out).mono ?_; rintro e w2 ⟨rfl, hR2, hB2, hK2⟩; have HR2 := Aside0.mk hR2; have HB2 := Aside0.mk hB2; have HK2 := Aside0.mk (HK1.out.trans hK2 (.inl rfl)); clear hR2 hB2 hK2)
    | (go_at_call 86; refine (slices_Contains_string_string.calls (others.length + 1) A c others t _ w2 (Kd.R_reads' (Kd.R_keep HO.out HK2.out (fun _ h => h))).2.2 HC.out FC.out).mono ?_; rintro e w3 ⟨rfl, ⟨nd, rfl⟩⟩)
    | (go_at_call 101; refine (takes_calls w0 (w2.drewN nd) g s (skipP s p + m) v 58 HR2.out (pw_below_drewN HB2.out _) HG.out HM.out HS.out).mono ?_; rintro e w4 ⟨rfl, hR4, hB4, hK4⟩; have HR4 := Aside0.mk hR4; have HB4 := Aside0.mk hB4; have HK4 := Aside0.mk ((keep_drewN HK2.out nd).trans hK4 (.inl rfl)); clear hR4 hB4 hK4))
  go_ret2
  exact ⟨rfl, HR4.out, HB4.out, HK4.out⟩
theorem key_calls (k : Nat) (others : List ByteArray) (t : ByteArray) (er : Int) (q : Nat) (A : Option Addr) (c : Nat) (h : keyF k s p others = some (t, er, q)) (hR : Rd W g s p v) (hB : Below w0.heap.size w0 W) (hg : w0.heap.size ≤ g) (hp : p ≤ s.size) (hs : s.size ≤ 4611686018427387904) (hj : JTabs w0)
    (ho : Kd.R Kd.string 9 W w0.heap.size (fun j => j ≠ g) (.slice A others.length c) others) :
    Calls Tryd.prog 102 #[.pointer (some ⟨g, 0, none⟩), .slice A others.length c] W fun e W' => e = .returned (.tuple #[.string t, .int .i64 er]) ∧ Rd W' g s q v ∧ Below w0.heap.size w0 W' ∧ KeepBut W W' g none := by
  unfold keyF at h
  by_cases hn : nextC s p = 34
  · rw [if_pos hn] at h
    obtain ⟨⟨t1, m1, e1⟩, hr, h⟩ := Option.bind_eq_some_iff.1 h
    simp only at h
    by_cases hm : 0 ≤ m1 ∧ (skipP s p : Int) + m1 ≤ s.size
    · rw [if_pos hm] at h
      obtain ⟨m, rfl⟩ : ∃ m : Nat, m1 = m := ⟨m1.toNat, by omega⟩
      rw [Int.toNat_natCast] at h
      by_cases he : e1 = 0
      · rw [if_pos he] at h
        by_cases hh : hasB t1 others = true
        · rw [if_pos hh] at h
          cases h
          exact key_twice w0 W g s p v k t1 m e1 A c others hR hB hg hp hs hj hn hr (by omega) ho he hh
        · rw [if_neg hh] at h
          by_cases ht : (takesP s (skipP s p + m) 58).1 = true
          · rw [if_pos ht] at h
            cases h
            exact key_yes w0 W g s p v k t m e1 A c others hR hB hg hp hs hj hn hr (by omega) ho he (Bool.eq_false_iff.2 hh) ht
          · rw [if_neg ht] at h
            cases h
            exact key_colon w0 W g s p v k t1 m e1 A c others hR hB hg hp hs hj hn hr (by omega) ho he (Bool.eq_false_iff.2 hh) (Bool.eq_false_iff.2 ht)
      · rw [if_neg he] at h
        cases h
        exact key_err w0 W g s p v k t1 m er A c others hR hB hg hp hs hj hn hr (by omega) ho he
    · rw [if_neg hm] at h; cases h
  · rw [if_neg hn] at h
    cases h
    exact key_none w0 W g s p v _ hR hB hg hp hs hn
end
end Go.Proofs.YthhmmaihbjhhgaaDoor.Giv
namespace Go.Proofs.YthhmmaihbjhhgaaDoor.J1
open Go.Proofs.YthhmmaihbjhhgaaDoor.Giv Go.Proofs.YthhmmaihbjhhgaaDoor.U1 Go.Proofs.YthhmmaihbjhhgaaDoor.Q1 Go.RowKit Go.Proofs.YthhmmaihbjhhgaaDoorW.PrintWords Go.Proofs.YthhmmaihbjhhgaaDoorW.PrintLast Go.Proofs.YthhmmaihbjhhgaaDoorW.PrintMore
attribute [local go_sem] max2_int min2_int max_two min_two max_three min_three max_four min_four   -- for this text's walks alone
set_option linter.unusedVariables false
set_option linter.unusedSimpArgs false
def errW : Option Int → Value
  | none => .nilIface
  | some c => .iface 0 (.int .i64 c)
theorem errW_none : errW none = .nilIface := rfl
theorem errW_some (c : Int) : errW (some c) = .iface 0 (.int .i64 c) := rfl
theorem info59 : (Tryd.prog.info? 59).map (fun i => (i.zero, i.size, i.bytes)) = some (some (.agg #[(.int .i64 0), (.int .i64 0), (.string ⟨#[]⟩), (.string ⟨#[]⟩), (.int .i64 0)]), 5, 56) := by kernel_rfl
structure S81 where
  f0 : Int
  f1 : Int
  f2 : ByteArray
  f3 : ByteArray
  f4 : Int
def z81 : S81 := ⟨(0 : Int), (0 : Int), (⟨#[]⟩ : ByteArray), (⟨#[]⟩ : ByteArray), (0 : Int)⟩
def k81 : Kd S81 := Kd.iso (Kd.pair (Kd.int .i64) (Kd.pair (Kd.int .i64) (Kd.pair Kd.string (Kd.pair Kd.string (Kd.int .i64))))) (fun x : S81 => (x.f0, x.f1, x.f2, x.f3, x.f4))
theorem k81_open {w : World} {x : S81} {cs : List Value} (h : k81.K w x cs) : cs = [.int .i64 x.f0, .int .i64 x.f1, .string x.f2, .string x.f3, .int .i64 x.f4] := by
  obtain ⟨_, _, rfl, rfl, ⟨_, _, rfl, rfl, ⟨_, _, rfl, rfl, ⟨_, _, rfl, rfl, rfl⟩⟩⟩⟩ := h
  exact rfl
theorem k81_mk (w : World) (x : S81)  : k81.K w x [.int .i64 x.f0, .int .i64 x.f1, .string x.f2, .string x.f3, .int .i64 x.f4] := ⟨[.int .i64 x.f0], [.int .i64 x.f1, .string x.f2, .string x.f3, .int .i64 x.f4], rfl, rfl, ⟨[.int .i64 x.f1], [.string x.f2, .string x.f3, .int .i64 x.f4], rfl, rfl, ⟨[.string x.f2], [.string x.f3, .int .i64 x.f4], rfl, rfl, ⟨[.string x.f3], [.int .i64 x.f4], rfl, rfl, rfl⟩⟩⟩⟩
def rd_T81 (xs : List S81) (i : Int) : S81 := xs.getD i.toNat z81
theorem at_T81 {w : World} {A : Option Addr} {n : Nat} {xs : List S81} (h : Kd.C k81 w A n xs) (i : Int) (h0 : 0 ≤ i) (h1 : i < n) : ∃ ad , A = some ad ∧ w.cell? (ad.add (i.toNat * 5)) = some (.int .i64 (rd_T81 xs i).f0) ∧ w.cell? ⟨(ad.add (i.toNat * 5)).block, (ad.add (i.toNat * 5)).off + 1, none⟩ = some (.int .i64 (rd_T81 xs i).f1) ∧ w.cell? ⟨(ad.add (i.toNat * 5)).block, (ad.add (i.toNat * 5)).off + 2, none⟩ = some (.string (rd_T81 xs i).f2) ∧ w.cell? ⟨(ad.add (i.toNat * 5)).block, (ad.add (i.toNat * 5)).off + 3, none⟩ = some (.string (rd_T81 xs i).f3) ∧ w.cell? ⟨(ad.add (i.toNat * 5)).block, (ad.add (i.toNat * 5)).off + 4, none⟩ = some (.int .i64 (rd_T81 xs i).f4) := by
  obtain ⟨ad, c, e, _, hK, hc0⟩ := Kd.C_get h z81 i h0 h1
  have hc : ∀ j u, c[j]? = some u → w.cell? (ad.add (i.toNat * 5 + j)) = some u := hc0
  obtain rfl := k81_open hK
  exact ⟨ad, e, hc 0 _ rfl, by rw [← add_field _ _ 1 (by omega)]; exact hc 1 _ rfl, by rw [← add_field _ _ 2 (by omega)]; exact hc 2 _ rfl, by rw [← add_field _ _ 3 (by omega)]; exact hc 3 _ rfl, by rw [← add_field _ _ 4 (by omega)]; exact hc 4 _ rfl⟩
structure S59 where
  f0 : Int
  f1 : Int
  f2 : ByteArray
  f3 : ByteArray
  f4 : Int
def z59 : S59 := ⟨(0 : Int), (0 : Int), (⟨#[]⟩ : ByteArray), (⟨#[]⟩ : ByteArray), (0 : Int)⟩
def k59 : Kd S59 := Kd.iso (Kd.pair (Kd.int .i64) (Kd.pair (Kd.int .i64) (Kd.pair Kd.string (Kd.pair Kd.string (Kd.int .i64))))) (fun x : S59 => (x.f0, x.f1, x.f2, x.f3, x.f4))
theorem k59_open {w : World} {x : S59} {cs : List Value} (h : k59.K w x cs) : cs = [.int .i64 x.f0, .int .i64 x.f1, .string x.f2, .string x.f3, .int .i64 x.f4] := by
  obtain ⟨_, _, rfl, rfl, ⟨_, _, rfl, rfl, ⟨_, _, rfl, rfl, ⟨_, _, rfl, rfl, rfl⟩⟩⟩⟩ := h
  exact rfl
theorem k59_mkM (w : World) (base : Nat) (ok : Nat → Prop) (x : S59)  : k59.M w base ok x [.int .i64 x.f0, .int .i64 x.f1, .string x.f2, .string x.f3, .int .i64 x.f4] := ⟨[.int .i64 x.f0], [.int .i64 x.f1, .string x.f2, .string x.f3, .int .i64 x.f4], rfl, rfl, ⟨[.int .i64 x.f1], [.string x.f2, .string x.f3, .int .i64 x.f4], rfl, rfl, ⟨[.string x.f2], [.string x.f3, .int .i64 x.f4], rfl, rfl, ⟨[.string x.f3], [.int .i64 x.f4], rfl, rfl, rfl⟩⟩⟩⟩
def rd_T59 (xs : List S59) (i : Int) : S59 := xs.getD i.toNat z59
theorem at_T59 {w : World} {A : Option Addr} {n : Nat} {xs : List S59} (h : Kd.C k59 w A n xs) (i : Int) (h0 : 0 ≤ i) (h1 : i < n) : ∃ ad , A = some ad ∧ w.cell? (ad.add (i.toNat * 5)) = some (.int .i64 (rd_T59 xs i).f0) ∧ w.cell? ⟨(ad.add (i.toNat * 5)).block, (ad.add (i.toNat * 5)).off + 1, none⟩ = some (.int .i64 (rd_T59 xs i).f1) ∧ w.cell? ⟨(ad.add (i.toNat * 5)).block, (ad.add (i.toNat * 5)).off + 2, none⟩ = some (.string (rd_T59 xs i).f2) ∧ w.cell? ⟨(ad.add (i.toNat * 5)).block, (ad.add (i.toNat * 5)).off + 3, none⟩ = some (.string (rd_T59 xs i).f3) ∧ w.cell? ⟨(ad.add (i.toNat * 5)).block, (ad.add (i.toNat * 5)).off + 4, none⟩ = some (.int .i64 (rd_T59 xs i).f4) := by
  obtain ⟨ad, c, e, _, hK, hc0⟩ := Kd.C_get h z59 i h0 h1
  have hc : ∀ j u, c[j]? = some u → w.cell? (ad.add (i.toNat * 5 + j)) = some u := hc0
  obtain rfl := k59_open hK
  exact ⟨ad, e, hc 0 _ rfl, by rw [← add_field _ _ 1 (by omega)]; exact hc 1 _ rfl, by rw [← add_field _ _ 2 (by omega)]; exact hc 2 _ rfl, by rw [← add_field _ _ 3 (by omega)]; exact hc 3 _ rfl, by rw [← add_field _ _ 4 (by omega)]; exact hc 4 _ rfl⟩
end Go.Proofs.YthhmmaihbjhhgaaDoor.J1
namespace Go.Proofs.YthhmmaihbjhhgaaDoor.Giv
open Go.RowKit Go.Proofs.YthhmmaihbjhhgaaDoorW.PrintWords Go.Proofs.YthhmmaihbjhhgaaDoorW.PrintLast Go.Proofs.YthhmmaihbjhhgaaDoorW.PrintMore
open Go.Proofs.YthhmmaihbjhhgaaDoor.U1 Go.Proofs.YthhmmaihbjhhgaaDoor.Q1 Go.Proofs.YthhmmaihbjhhgaaDoor.J0 Go.Proofs.YthhmmaihbjhhgaaDoor.J1
set_option linter.unusedSimpArgs false
/-- the reader's row is its own -/
abbrev Out (w0 W : World) (g : Nat) (v : Value) (out : List S59) : Prop := Kd.R k59 59 W w0.heap.size (fun j => j ≠ g) v out
/-- what a call that appends leaves -/
structure Left (w0 W W' : World) (g : Nat) (s : ByteArray) (p' : Nat) (v : Value) (out' : List S59) : Prop where
  left : ∃ v', Rd W' g s p' v' ∧ Out w0 W' g v' out' ∧ (v'.ownBlock = v.ownBlock ∨ ∃ b, v'.ownBlock = some b ∧ W.heap.size ≤ b)
  below : Below w0.heap.size w0 W'
  keep : KeepBut W W' g v.ownBlock
def itemV (x : S59) : Value := .agg #[.int .i64 x.f0, .int .i64 x.f1, .string x.f2, .string x.f3, .int .i64 x.f4]
abbrev Itm (W : World) (b : Nat) (x : S59) : Prop := W.heap[b]? = some (.cells #[.int .i64 x.f0, .int .i64 x.f1, .string x.f2, .string x.f3, .int .i64 x.f4] 59 (0, 0))
theorem keep_wide {W W' : World} {g : Nat} {row : Option Nat} (h : KeepBut W W' g none) : KeepBut W W' g row := ⟨h.1, fun i hi hg _ => h.2 i hi hg (by simp)⟩
theorem prefix_f (s : ByteArray) (p : Nat) (t : List UInt8)  : strings_HasPrefix.f (s.extract p s.size) ⟨t.toArray⟩ = some (decide (t <+: s.data.toList.drop p)) := by
  have hz : (⟨t.toArray⟩ : ByteArray).size = t.length := by show t.toArray.size = _; rw [List.size_toArray]
  have hd : (s.extract p s.size).data.toList = s.data.toList.drop p := by
    rw [ByteArray.data_extract, Array.toList_extract]
    simp
    rw [List.take_of_length_le (by rw [List.length_drop, data_length]; exact Nat.le_refl _)]
  have hl : (s.extract p s.size).size = (s.data.toList.drop p).length := by rw [← hd, data_length]
  unfold strings_HasPrefix.f stringslite_HasPrefix.f
  by_cases c : t.length ≤ (s.data.toList.drop p).length
  · rw [if_pos (by omega), if_pos (by omega), if_pos (by omega), Option.bind_some, hz]
    congr 1
    rw [Lib.toList_data, Lib.toList_data, ByteArray.data_extract, Array.toList_extract, hd]
    rw [Bool.eq_iff_iff, beq_iff_eq, decide_eq_true_iff, List.prefix_iff_eq_take]
    simp
    constructor
    · intro h; exact h.symm
    · intro h; exact h.symm
  · rw [if_neg (by omega), Option.bind_some]
    congr 1
    symm
    rw [decide_eq_false_iff_not]
    intro h
    exact c (List.IsPrefix.length_le h)
theorem Left.pre {w0 W w1 W' : World} {g q : Nat} {s : ByteArray} {v : Value} {out : List S59} (hk : KeepBut W w1 g none) (h : Left w0 w1 W' g s q v out) : Left w0 W W' g s q v out :=
  ⟨by obtain ⟨v', a, b, c⟩ := h.left; exact ⟨v', a, b, c.imp id (fun ⟨k, e, hk2⟩ => ⟨k, e, Nat.le_trans hk.1 hk2⟩)⟩, h.below, (keep_wide hk).trans h.keep (.inl rfl)⟩
theorem push_append {ops : Array Oper} {o : Oper} {a : Act} {Kc : Act → World → Prop} {Q : Exit → Act → World → Prop} (sl xl : Operand) {w0 W : World} {g b : Nat} {s : ByteArray} {p : Nat} {v : Value} {x : S59} {out : List S59}
    (hw : Region.wanted o (yielded ops a.tmps) = true) (ho : o.op = .call { callee := .builtin .append, args := #[sl, xl], argTypes := #[49, 49] }) (hs : a.eval sl = v) (hx : a.eval xl = .slice (some ⟨W.heap.size, 0, none⟩) 1 1)
    (hR : Rd W g s p v) (hI : Itm W b x) (hO : Kd.R k59 59 W w0.heap.size (fun j => j ≠ g ∧ j ≠ b) v out) (hB : Below w0.heap.size w0 W) (hg : w0.heap.size ≤ g) (hl : (out.length + 1) * 56 ≤ 140737488355328)
    (h : ∀ (As : Option Addr) (N2 cc : Nat) (w2 : World), Rd w2 g s p v → Left w0 W (w2.setCell ⟨g, 2, none⟩ (.slice As N2 cc)) g s p v (out ++ [x]) → Kc (a.put o.dst (.slice As N2 cc)) w2) :
    if Region.wanted o (yielded ops a.tmps) = true then Oper.wp Tryd.prog o a (W.drew.alloc (.cells #[.int .i64 x.f0, .int .i64 x.f1, .string x.f2, .string x.f3, .int .i64 x.f4] 59)) Kc Q else Kc (a.put o.dst undef) (W.drew.alloc (.cells #[.int .i64 x.f0, .int .i64 x.f1, .string x.f2, .string x.f3, .int .i64 x.f4] 59)) := by
  have h1 := blk_lt hR
  have h2 := blk_lt hI
  have hO' : Kd.R k59 59 W.drew w0.heap.size (fun j => j ≠ g ∧ j ≠ b) v out := Kd.R_move hO (fun _ _ => rfl)
  refine Kd.R_append_step k59 (w0 := w0) (W := W.drew) w0.heap.size hw sl xl 49 59 (.agg #[(.int .i64 0), (.int .i64 0), (.string ⟨#[]⟩), (.string ⟨#[]⟩), (.int .i64 0)]) 56 ho Tryd.underlying49 info59 rfl (by decide) (by decide) v out x [.int .i64 x.f0, .int .i64 x.f1, .string x.f2, .string x.f3, .int .i64 x.f4] (fun j => j ≠ g ∧ j ≠ b) (fun _ => False) hs hx (k59_mkM _ _ _ x) (fun _ h => h.elim) (fun k hk => ?_) hO' (below_drew1 hB) hB.size hl ?_
  · have hk3 : W.heap.size ≤ k := hk
    omega
  intro v2 w2 hO2 hB2 hG2 hA2
  obtain ⟨As, cc, hv2⟩ := Kd.R_slice hO2
  subst hv2
  have hR2 : Rd w2 g s p v := (hG2.block g h1 (fun e => (hO.1 g e.symm).1 rfl)).trans hR
  refine h _ _ _ _ hR2 ⟨⟨_, rd_set2 hR2 _, Kd.R_far (Kd.R_mono hO2 (fun _ h => h.1)) (fun _ h => h) _, hA2⟩, below_set hB2 hg, KeepBut.set_ (KeepBut.of_grown (w := W) ⟨hG2.os, hG2.tape, hG2.output, hG2.size, hG2.block⟩ g) 2 _⟩
theorem keep_push {w1 : World} {g b : Nat} {s : ByteArray} {p : Nat} {v : Value} {x : S59} (hR : Rd w1 g s p v) (hI : Itm w1 b x) (o : Obj) :
    (w1.drew.alloc o).cell? ⟨g, 2, none⟩ = some v ∧ (w1.drew.alloc o).heap[b]? = some (.cells #[.int .i64 x.f0, .int .i64 x.f1, .string x.f2, .string x.f3, .int .i64 x.f4] 59 (0, 0)) := by
  have h1 : g < w1.drew.heap.size := blk_lt hR
  have h2 : b < w1.drew.heap.size := blk_lt hI
  exact ⟨(World.cell?_alloc_lt w1.drew o ⟨g, 2, none⟩ h1).trans (rd_cell2 hR), (Below.heap_alloc w1.drew o b h2).trans hI⟩
theorem ix136_0 (w : World) : (Instr.index 136 (.agg #[.string ⟨#[110, 117, 108, 108]⟩, .string ⟨#[102, 97, 108, 115, 101]⟩, .string ⟨#[116, 114, 117, 101]⟩]) (.int .i64 0)).run Tryd.prog w = .ok (.string ⟨#[110, 117, 108, 108]⟩) w := by kernel_rfl
theorem ix136_1 (w : World) : (Instr.index 136 (.agg #[.string ⟨#[110, 117, 108, 108]⟩, .string ⟨#[102, 97, 108, 115, 101]⟩, .string ⟨#[116, 114, 117, 101]⟩]) (.int .i64 1)).run Tryd.prog w = .ok (.string ⟨#[102, 97, 108, 115, 101]⟩) w := by kernel_rfl
theorem ix136_2 (w : World) : (Instr.index 136 (.agg #[.string ⟨#[110, 117, 108, 108]⟩, .string ⟨#[102, 97, 108, 115, 101]⟩, .string ⟨#[116, 114, 117, 101]⟩]) (.int .i64 2)).run Tryd.prog w = .ok (.string ⟨#[116, 114, 117, 101]⟩) w := by kernel_rfl
set_option maxHeartbeats 8000000 in
set_option maxRecDepth 100000 in
theorem word_walk (w0 W : World) (g : Nat) (s : ByteArray) (p : Nat) (v : Value) (out : List S59) (x : S59) (hR : Rd W g s p v) (hO : Out w0 W g v out) (hB : Below w0.heap.size w0 W) (hg : w0.heap.size ≤ g) (hp : p ≤ s.size) (hs : s.size ≤ 4611686018427387904) (hl : (out.length + 1) * 56 ≤ 140737488355328)
    (b0 b1 b2 : Bool) (h0 : strings_HasPrefix.f (s.extract p s.size) ⟨#[110, 117, 108, 108]⟩ = some b0) (h1 : strings_HasPrefix.f (s.extract p s.size) ⟨#[102, 97, 108, 115, 101]⟩ = some b1) (h2 : strings_HasPrefix.f (s.extract p s.size) ⟨#[116, 114, 117, 101]⟩ = some b2)
    (n0 : b0 = true → p + 4 ≤ s.size) (n1 : b1 = true → p + 5 ≤ s.size) (n2 : b2 = true → p + 4 ≤ s.size) :
    Calls Tryd.prog 90 #[.pointer (some ⟨g, 0, none⟩), itemV x] W fun e W' => e = .returned (.int .i64 (if b0 || b1 || b2 then 0 else 80)) ∧ Left w0 W W' g s (if b0 then p + 4 else if b1 then p + 5 else if b2 then p + 4 else p) v (if b0 then out ++ [⟨x.f0, 1, x.f2, x.f3, x.f4⟩] else if b1 then out ++ [⟨x.f0, 2, x.f2, x.f3, x.f4⟩] else if b2 then out ++ [⟨x.f0, 3, x.f2, x.f3, x.f4⟩] else out) := by
  have HR := Aside0.mk hR
  have HO := Aside0.mk hO
  have HB := Aside0.mk hB
  have HG := Aside0.mk hg
  have HL := Aside0.mk hl
  have HS := Aside0.mk hs
  have F0 := Aside0.mk h0
  have F1 := Aside0.mk h1
  have F2 := Aside0.mk h2
  have HN0 := Aside0.mk n0
  have HN1 := Aside0.mk n1
  have HN2 := Aside0.mk n2
  have q0 : (0 ≤ (p : Int)) = True := eq_true (by omega)
  have q1 : ((p : Int) ≤ (s.size : Int)) = True := eq_true (by omega)
  have q2 : (p ≤ s.size) = True := eq_true (by omega)
  clear hR hB hg hs hO hl h0 h1 h2 n0 n1 n2
  unfold itemV
  go_enter Tryd.func90, Tryd.ntmps90
  go_wp2_with fail
  obtain ⟨b, hb⟩ : ∃ b, W.heap.size = b := ⟨_, rfl⟩
  have hgW := blk_lt HR.out
  have HA : Aside0 (Below W.heap.size W (W.alloc (.cells #[.int .i64 x.f0, .int .i64 x.f1, .string x.f2, .string x.f3, .int .i64 x.f4] 59))) := ⟨below_alloc (Below.refl _ _) _⟩
  have HI : Aside0 (Itm (W.alloc (.cells #[.int .i64 x.f0, .int .i64 x.f1, .string x.f2, .string x.f3, .int .i64 x.f4] 59)) b x) := ⟨by rw [← hb]; exact heap_alloc_new _ _⟩
  have HR := Aside0.mk (rd_below HR.out HA.out)
  have HO : Aside0 (Kd.R k59 59 (W.alloc (.cells #[.int .i64 x.f0, .int .i64 x.f1, .string x.f2, .string x.f3, .int .i64 x.f4] 59)) w0.heap.size (fun j => j ≠ g ∧ j ≠ b) v out) := ⟨Kd.R_below (Kd.R_mono (Kd.R_bound HO.out) (fun k hk => ⟨hk.1, by have := hk.2.2.1; omega⟩)) HA.out⟩
  have HK := Aside0.mk (KeepBut.of_below HA.out g none)
  have HBo := HB
  have HB := Aside0.mk (below_step HB.out HA.out)
  have HB0 : Aside0 (w0.heap.size ≤ W.heap.size) := ⟨HBo.out.size⟩
  have HBG : Aside0 (W.heap.size ≤ b) := ⟨by omega⟩
  have hne1 : ¬ b = g := by omega
  have hne2 : ¬ g = b := by omega
  rw [hb]
  generalize W.alloc (.cells #[.int .i64 x.f0, .int .i64 x.f1, .string x.f2, .string x.f3, .int .i64 x.f4] 59) = W1 at HA HI HR HO HK HB ⊢
  clear HA hb
  go_loopg [8] 3 (fun kq v8 wr => (v8 = .int .i64 0 ∧ kq = 3 ∨ v8 = .int .i64 1 ∧ kq = 2 ∧ b0 = false ∨ v8 = .int .i64 2 ∧ kq = 1 ∧ b0 = false ∧ b1 = false ∨ v8 = .int .i64 3 ∧ kq = 0 ∧ b0 = false ∧ b1 = false ∧ b2 = false) ∧ Aside0 (Rd wr g s p v) ∧ Aside0 (Kd.R k59 59 wr w0.heap.size (fun j => j ≠ g ∧ j ≠ b) v out) ∧ Aside0 (Itm wr b x) ∧ Aside0 (KeepBut W wr g none) ∧ Aside0 (Below w0.heap.size w0 wr))
  case atStart => exact ⟨.inl ⟨rfl, rfl⟩, HR, HO, HI, HK, HB⟩
  case round =>
    obtain ⟨hk, HR, HO, HI, HK, HB⟩ := hrel
    have hc0 := rd_cell0 HR.out
    have hc1 := rd_cell1 HR.out
    rcases hk with ⟨rfl, hgk⟩ | ⟨rfl, hgk, rfl⟩ | ⟨rfl, hgk, rfl, rfl⟩ | ⟨rfl, hgk, rfl, rfl, rfl⟩
    · -- word 0
      cases b0 with
      | true =>
        have HW : Aside0 (wrap64 ((p : Int) + 4) = ((p + 4 : Nat) : Int)) := ⟨by have := HS.out; have := HN0.out rfl; unfold wrap64; omega⟩
        have hc1 := rd_cell1 HR.out
        have hf1 := blk_frozen HR.out 1
        have hi1 : wr.cell? ⟨b, 1, none⟩ = some (.int .i64 x.f1) := (blk_cell HI.out 1).trans rfl
        have hif1 := blk_frozen HI.out 1
        have hix := ix136_0
        go_wp2_with ((go_at_call 75; (with_reducible refine (strings_HasPrefix.calls (s.extract p s.size) (⟨#[110, 117, 108, 108]⟩ : ByteArray) _ _ (F0.out)).mono ?_); rintro e w' ⟨rfl, ⟨nd, rfl⟩⟩; (try first | exact ⟨rfl, _, World.drewN_drewN _ _ _⟩ | exact ⟨rfl, _, Eq.trans (World.drewN_drewN _ _ _) (congrArg (World.drewN _) (Nat.add_assoc _ _ _))⟩)))
        repeat (go_quiet ((go_at_call 75; (with_reducible refine (strings_HasPrefix.calls (s.extract p s.size) (⟨#[110, 117, 108, 108]⟩ : ByteArray) _ _ (F0.out)).mono ?_); rintro e w' ⟨rfl, ⟨nd, rfl⟩⟩; (try first | exact ⟨rfl, _, World.drewN_drewN _ _ _⟩ | exact ⟨rfl, _, Eq.trans (World.drewN_drewN _ _ _) (congrArg (World.drewN _) (Nat.add_assoc _ _ _))⟩))); try go_wp2_with ((go_at_call 75; (with_reducible refine (strings_HasPrefix.calls (s.extract p s.size) (⟨#[110, 117, 108, 108]⟩ : ByteArray) _ _ (F0.out)).mono ?_); rintro e w' ⟨rfl, ⟨nd, rfl⟩⟩; (try first | exact ⟨rfl, _, World.drewN_drewN _ _ _⟩ | exact ⟨rfl, _, Eq.trans (World.drewN_drewN _ _ _) (congrArg (World.drewN _) (Nat.add_assoc _ _ _))⟩))))
        have HRa := Aside0.mk (blk_far (rd_set1 (W := wr.drewN nq) HR.out HW.out) (p := ⟨b, 1, none⟩) hne2 (.int .i64 1))
        have HIa : Aside0 (Itm (((wr.drewN nq).setCell ⟨g, 1, none⟩ (.int .i64 (wrap64 ((p : Int) + 4)))).setCell ⟨b, 1, none⟩ (.int .i64 1)) b (⟨x.f0, 1, x.f2, x.f3, x.f4⟩ : S59)) := ⟨blk_set (blk_far (w := wr.drewN nq) HI.out (p := ⟨g, 1, none⟩) hne1 _) 1 _⟩
        have HOa := Aside0.mk (Kd.R_far (Kd.R_far (w := wr.drewN nq) HO.out (p := ⟨g, 1, none⟩) (fun _ h => h.1) (.int .i64 (wrap64 ((p : Int) + 4)))) (p := ⟨b, 1, none⟩) (fun _ h => h.2) (.int .i64 1))
        have HKa := Aside0.mk (keep_far (KeepBut.set_ (keep_drewN HK.out nq) 1 (.int .i64 (wrap64 ((p : Int) + 4)))) (p := ⟨b, 1, none⟩) HBG.out (.int .i64 1))
        have HBa := Aside0.mk (below_set (j := 1) (below_set (j := 1) (v := .int .i64 (wrap64 ((p : Int) + 4))) (pw_below_drewN HB.out nq) HG.out) (v := .int .i64 1) (g := b) (Nat.le_trans HB0.out HBG.out))
        generalize ((wr.drewN nq).setCell ⟨g, 1, none⟩ (.int .i64 (wrap64 ((p : Int) + 4)))).setCell ⟨b, 1, none⟩ (.int .i64 1) = w1 at HRa HIa HOa HKa HBa ⊢
        clear hc0 hc1 hf1 hi1 hif1
        refine start_ (n := 11) (S := fun w' => w'.cell? ⟨g, 2, none⟩ = some v ∧ w'.heap[b]? = some (.cells #[.int .i64 ((⟨x.f0, 1, x.f2, x.f3, x.f4⟩ : S59)).f0, .int .i64 ((⟨x.f0, 1, x.f2, x.f3, x.f4⟩ : S59)).f1, .string ((⟨x.f0, 1, x.f2, x.f3, x.f4⟩ : S59)).f2, .string ((⟨x.f0, 1, x.f2, x.f3, x.f4⟩ : S59)).f3, .int .i64 ((⟨x.f0, 1, x.f2, x.f3, x.f4⟩ : S59)).f4] 59 (0, 0))) (ds := [7, 10]) #[false, false, false, false, false, false, false, false, false, false, false] (by kernel_rfl) rfl rfl ⟨rd_cell2 HRa.out, HIa.out⟩ (fun hHeld => ?_)
        refine pure_ (i := 0) (N := some 35) (v := ?_) (a' := ?_) #[true, false, false, false, false, false, false, false, false, false, false] rfl rfl (by kernel_rfl) (fun _ _ _ h => h) (Or.inl ⟨by rfl, ?_⟩) ?_ ?_
        rotate_left
        · intro w'
          go_simp
          (try with_reducible rfl)
        rotate_left
        · simp only [Act.put, List.setIfInBounds_toArray, List.set_cons_zero, List.set_cons_succ]
          rfl
        refine pure_ (i := 1) (N := some 36) (v := ?_) (a' := ?_) #[true, true, false, false, false, false, false, false, false, false, false] rfl rfl (by kernel_rfl) (fun _ _ _ h => h) (Or.inl ⟨by rfl, ?_⟩) ?_ ?_
        rotate_left
        · intro w'
          go_simp
          (try with_reducible rfl)
        rotate_left
        · simp only [Act.put, List.setIfInBounds_toArray, List.set_cons_zero, List.set_cons_succ]
          rfl
        refine pure_ (i := 2) (N := some 37) (v := ?_) (a' := ?_) #[true, true, true, false, false, false, false, false, false, false, false] rfl rfl (by kernel_rfl) (fun _ _ _ h => h) (Or.inl ⟨by rfl, ?_⟩) ?_ ?_
        rotate_left
        · intro w'
          go_simp
          (try with_reducible rfl)
        rotate_left
        · simp only [Act.put, List.setIfInBounds_toArray, List.set_cons_zero, List.set_cons_succ]
          rfl
        refine pure_ (i := 3) (N := some 38) (v := ?_) (a' := ?_) #[true, true, true, true, false, false, false, false, false, false, false] rfl rfl (by kernel_rfl) (fun _ _ _ h => h) (Or.inl ⟨by rfl, ?_⟩) ?_ ?_
        rotate_left
        · intro w'
          go_simp
          (try with_reducible rfl)
        rotate_left
        · simp only [Act.put, List.setIfInBounds_toArray, List.set_cons_zero, List.set_cons_succ]
          rfl
        refine take_ (i := 4) (N := some 39) (v := ?_) (a' := ?_) #[true, true, true, true, true, false, false, false, false, false, false] rfl rfl (by kernel_rfl) (fun _ _ _ h => h) (Or.inl ⟨by rfl, ?_⟩) (by assumption) ?_ ?_
        rotate_left
        · intro w hSw
          obtain ⟨hl0, hl1⟩ := hSw
          go_simp
          (try with_reducible rfl)
        rotate_left
        · simp only [Act.put, List.setIfInBounds_toArray, List.set_cons_zero, List.set_cons_succ]
          rfl
        refine take_ (i := 5) (N := some 40) (v := ?_) (a' := ?_) #[true, true, true, true, true, true, false, false, false, false, false] rfl rfl (by kernel_rfl) (fun _ _ _ h => h) (Or.inl ⟨by rfl, ?_⟩) (by assumption) ?_ ?_
        rotate_left
        · intro w hSw
          obtain ⟨hl0, hl1⟩ := hSw
          have hm0 : w.cell? ⟨b, 0, none⟩ = some (.int .i64 ((⟨x.f0, 1, x.f2, x.f3, x.f4⟩ : S59)).f0) := (blk_cell hl1 0).trans rfl
          have hm1 : w.cell? ⟨b, 1, none⟩ = some (.int .i64 ((⟨x.f0, 1, x.f2, x.f3, x.f4⟩ : S59)).f1) := (blk_cell hl1 1).trans rfl
          have hm2 : w.cell? ⟨b, 2, none⟩ = some (.string ((⟨x.f0, 1, x.f2, x.f3, x.f4⟩ : S59)).f2) := (blk_cell hl1 2).trans rfl
          have hm3 : w.cell? ⟨b, 3, none⟩ = some (.string ((⟨x.f0, 1, x.f2, x.f3, x.f4⟩ : S59)).f3) := (blk_cell hl1 3).trans rfl
          have hm4 : w.cell? ⟨b, 4, none⟩ = some (.int .i64 ((⟨x.f0, 1, x.f2, x.f3, x.f4⟩ : S59)).f4) := (blk_cell hl1 4).trans rfl
          clear hl1
          go_simp
          (try with_reducible rfl)
        rotate_left
        · simp only [Act.put, List.setIfInBounds_toArray, List.set_cons_zero, List.set_cons_succ]
          rfl
        refine one_ (i := 6) (N := some 41) #[true, true, true, true, true, true, true, false, false, false, false] rfl rfl (by kernel_rfl) (by decide) (fun K hK => ?_)
        refine event_step (W := w1.drew) (v := .slice (some ⟨w1.heap.size, 0, none⟩) 1 1) (w1 := w1.drew.alloc (.cells #[.int .i64 ((⟨x.f0, 1, x.f2, x.f3, x.f4⟩ : S59)).f0, .int .i64 ((⟨x.f0, 1, x.f2, x.f3, x.f4⟩ : S59)).f1, .string ((⟨x.f0, 1, x.f2, x.f3, x.f4⟩ : S59)).f2, .string ((⟨x.f0, 1, x.f2, x.f3, x.f4⟩ : S59)).f3, .int .i64 ((⟨x.f0, 1, x.f2, x.f3, x.f4⟩ : S59)).f4] 59)) (by rfl) (by kernel_rfl) ?_
        refine hK.out _ _ ?_ (fun hHeld => ?_)
        · exact keep_push HRa.out HIa.out _
        clear hK K
        (try simp only [Act.put, List.setIfInBounds_toArray, List.set_cons_zero, List.set_cons_succ])
        refine last_ (i := 7) (N := some 42) #[true, true, true, true, true, true, true, true, false, false, false] rfl rfl (by kernel_rfl) (by decide) (fun K hK => ?_)
        refine push_append (.tmp 39) (.tmp 41) (by rfl) rfl rfl rfl HRa.out HIa.out HOa.out HBa.out HG.out HL.out ?_
        intro As N2 cc w2 hR2 hP2
        have hc2a := rd_cell2 hR2
        have hf2a := blk_frozen hR2 2
        have HPa := Aside0.mk hP2
        clear hR2 hP2
        refine hK.out _ _ ?_
        clear hK K
        (try simp only [Act.put, List.setIfInBounds_toArray, List.set_cons_zero, List.set_cons_succ])
        refine pure_ (i := 8) (N := some 43) (v := ?_) (a' := ?_) #[true, true, true, true, true, true, true, true, true, false, false] rfl rfl (by kernel_rfl) (fun _ _ _ h => h) (Or.inl ⟨by rfl, ?_⟩) ?_ ?_
        rotate_left
        · intro w'
          go_simp
          (try with_reducible rfl)
        rotate_left
        · simp only [Act.put, List.setIfInBounds_toArray, List.set_cons_zero, List.set_cons_succ]
          rfl
        refine pure_ (i := 9) (N := some 44) (v := ?_) (a' := ?_) #[true, true, true, true, true, true, true, true, true, true, false] rfl rfl (by kernel_rfl) (fun _ _ _ h => h) (Or.inl ⟨by rfl, ?_⟩) ?_ ?_
        rotate_left
        · intro w'
          go_simp
          (try with_reducible rfl)
        rotate_left
        · simp only [Act.put, List.setIfInBounds_toArray, List.set_cons_zero, List.set_cons_succ]
          rfl
        refine last_ (i := 10) (N := none) #[true, true, true, true, true, true, true, true, true, true, true] rfl rfl (by kernel_rfl) (by decide) (fun K hK => ?_)
        go_simp
        refine hK.out _ _ ?_
        clear hK K
        (try simp only [Act.put, List.setIfInBounds_toArray, List.set_cons_zero, List.set_cons_succ])
        refine done_ (by kernel_rfl) ?_
        go_wp2_with fail
        go_ret
        exact ⟨rfl, Left.pre HKa.out HPa.out⟩
      | false =>
        subst hgk
        have hix := ix136_0
        go_wp2_with ((go_at_call 75; (with_reducible refine (strings_HasPrefix.calls (s.extract p s.size) (⟨#[110, 117, 108, 108]⟩ : ByteArray) _ _ (F0.out)).mono ?_); rintro e w' ⟨rfl, ⟨nd, rfl⟩⟩; (try first | exact ⟨rfl, _, World.drewN_drewN _ _ _⟩ | exact ⟨rfl, _, Eq.trans (World.drewN_drewN _ _ _) (congrArg (World.drewN _) (Nat.add_assoc _ _ _))⟩)))
        repeat (go_quiet ((go_at_call 75; (with_reducible refine (strings_HasPrefix.calls (s.extract p s.size) (⟨#[110, 117, 108, 108]⟩ : ByteArray) _ _ (F0.out)).mono ?_); rintro e w' ⟨rfl, ⟨nd, rfl⟩⟩; (try first | exact ⟨rfl, _, World.drewN_drewN _ _ _⟩ | exact ⟨rfl, _, Eq.trans (World.drewN_drewN _ _ _) (congrArg (World.drewN _) (Nat.add_assoc _ _ _))⟩))); try go_wp2_with ((go_at_call 75; (with_reducible refine (strings_HasPrefix.calls (s.extract p s.size) (⟨#[110, 117, 108, 108]⟩ : ByteArray) _ _ (F0.out)).mono ?_); rintro e w' ⟨rfl, ⟨nd, rfl⟩⟩; (try first | exact ⟨rfl, _, World.drewN_drewN _ _ _⟩ | exact ⟨rfl, _, Eq.trans (World.drewN_drewN _ _ _) (congrArg (World.drewN _) (Nat.add_assoc _ _ _))⟩))))
        go_roundg 2
        case measure => omega
        case rel => exact ⟨by simp, HR, HO, HI, HK, ⟨pw_below_drewN HB.out _⟩⟩
    · -- word 1
      cases b1 with
      | true =>
        have HW : Aside0 (wrap64 ((p : Int) + 5) = ((p + 5 : Nat) : Int)) := ⟨by have := HS.out; have := HN1.out rfl; unfold wrap64; omega⟩
        have hc1 := rd_cell1 HR.out
        have hf1 := blk_frozen HR.out 1
        have hi1 : wr.cell? ⟨b, 1, none⟩ = some (.int .i64 x.f1) := (blk_cell HI.out 1).trans rfl
        have hif1 := blk_frozen HI.out 1
        have hix := ix136_1
        go_wp2_with ((go_at_call 75; (with_reducible refine (strings_HasPrefix.calls (s.extract p s.size) (⟨#[102, 97, 108, 115, 101]⟩ : ByteArray) _ _ (F1.out)).mono ?_); rintro e w' ⟨rfl, ⟨nd, rfl⟩⟩; (try first | exact ⟨rfl, _, World.drewN_drewN _ _ _⟩ | exact ⟨rfl, _, Eq.trans (World.drewN_drewN _ _ _) (congrArg (World.drewN _) (Nat.add_assoc _ _ _))⟩)))
        repeat (go_quiet ((go_at_call 75; (with_reducible refine (strings_HasPrefix.calls (s.extract p s.size) (⟨#[102, 97, 108, 115, 101]⟩ : ByteArray) _ _ (F1.out)).mono ?_); rintro e w' ⟨rfl, ⟨nd, rfl⟩⟩; (try first | exact ⟨rfl, _, World.drewN_drewN _ _ _⟩ | exact ⟨rfl, _, Eq.trans (World.drewN_drewN _ _ _) (congrArg (World.drewN _) (Nat.add_assoc _ _ _))⟩))); try go_wp2_with ((go_at_call 75; (with_reducible refine (strings_HasPrefix.calls (s.extract p s.size) (⟨#[102, 97, 108, 115, 101]⟩ : ByteArray) _ _ (F1.out)).mono ?_); rintro e w' ⟨rfl, ⟨nd, rfl⟩⟩; (try first | exact ⟨rfl, _, World.drewN_drewN _ _ _⟩ | exact ⟨rfl, _, Eq.trans (World.drewN_drewN _ _ _) (congrArg (World.drewN _) (Nat.add_assoc _ _ _))⟩))))
        have HRa := Aside0.mk (blk_far (rd_set1 (W := wr.drewN nq) HR.out HW.out) (p := ⟨b, 1, none⟩) hne2 (.int .i64 2))
        have HIa : Aside0 (Itm (((wr.drewN nq).setCell ⟨g, 1, none⟩ (.int .i64 (wrap64 ((p : Int) + 5)))).setCell ⟨b, 1, none⟩ (.int .i64 2)) b (⟨x.f0, 2, x.f2, x.f3, x.f4⟩ : S59)) := ⟨blk_set (blk_far (w := wr.drewN nq) HI.out (p := ⟨g, 1, none⟩) hne1 _) 1 _⟩
        have HOa := Aside0.mk (Kd.R_far (Kd.R_far (w := wr.drewN nq) HO.out (p := ⟨g, 1, none⟩) (fun _ h => h.1) (.int .i64 (wrap64 ((p : Int) + 5)))) (p := ⟨b, 1, none⟩) (fun _ h => h.2) (.int .i64 2))
        have HKa := Aside0.mk (keep_far (KeepBut.set_ (keep_drewN HK.out nq) 1 (.int .i64 (wrap64 ((p : Int) + 5)))) (p := ⟨b, 1, none⟩) HBG.out (.int .i64 2))
        have HBa := Aside0.mk (below_set (j := 1) (below_set (j := 1) (v := .int .i64 (wrap64 ((p : Int) + 5))) (pw_below_drewN HB.out nq) HG.out) (v := .int .i64 2) (g := b) (Nat.le_trans HB0.out HBG.out))
        generalize ((wr.drewN nq).setCell ⟨g, 1, none⟩ (.int .i64 (wrap64 ((p : Int) + 5)))).setCell ⟨b, 1, none⟩ (.int .i64 2) = w1 at HRa HIa HOa HKa HBa ⊢
        clear hc0 hc1 hf1 hi1 hif1
        refine start_ (n := 11) (S := fun w' => w'.cell? ⟨g, 2, none⟩ = some v ∧ w'.heap[b]? = some (.cells #[.int .i64 ((⟨x.f0, 2, x.f2, x.f3, x.f4⟩ : S59)).f0, .int .i64 ((⟨x.f0, 2, x.f2, x.f3, x.f4⟩ : S59)).f1, .string ((⟨x.f0, 2, x.f2, x.f3, x.f4⟩ : S59)).f2, .string ((⟨x.f0, 2, x.f2, x.f3, x.f4⟩ : S59)).f3, .int .i64 ((⟨x.f0, 2, x.f2, x.f3, x.f4⟩ : S59)).f4] 59 (0, 0))) (ds := [7, 10]) #[false, false, false, false, false, false, false, false, false, false, false] (by kernel_rfl) rfl rfl ⟨rd_cell2 HRa.out, HIa.out⟩ (fun hHeld => ?_)
        refine pure_ (i := 0) (N := some 35) (v := ?_) (a' := ?_) #[true, false, false, false, false, false, false, false, false, false, false] rfl rfl (by kernel_rfl) (fun _ _ _ h => h) (Or.inl ⟨by rfl, ?_⟩) ?_ ?_
        rotate_left
        · intro w'
          go_simp
          (try with_reducible rfl)
        rotate_left
        · simp only [Act.put, List.setIfInBounds_toArray, List.set_cons_zero, List.set_cons_succ]
          rfl
        refine pure_ (i := 1) (N := some 36) (v := ?_) (a' := ?_) #[true, true, false, false, false, false, false, false, false, false, false] rfl rfl (by kernel_rfl) (fun _ _ _ h => h) (Or.inl ⟨by rfl, ?_⟩) ?_ ?_
        rotate_left
        · intro w'
          go_simp
          (try with_reducible rfl)
        rotate_left
        · simp only [Act.put, List.setIfInBounds_toArray, List.set_cons_zero, List.set_cons_succ]
          rfl
        refine pure_ (i := 2) (N := some 37) (v := ?_) (a' := ?_) #[true, true, true, false, false, false, false, false, false, false, false] rfl rfl (by kernel_rfl) (fun _ _ _ h => h) (Or.inl ⟨by rfl, ?_⟩) ?_ ?_
        rotate_left
        · intro w'
          go_simp
          (try with_reducible rfl)
        rotate_left
        · simp only [Act.put, List.setIfInBounds_toArray, List.set_cons_zero, List.set_cons_succ]
          rfl
        refine pure_ (i := 3) (N := some 38) (v := ?_) (a' := ?_) #[true, true, true, true, false, false, false, false, false, false, false] rfl rfl (by kernel_rfl) (fun _ _ _ h => h) (Or.inl ⟨by rfl, ?_⟩) ?_ ?_
        rotate_left
        · intro w'
          go_simp
          (try with_reducible rfl)
        rotate_left
        · simp only [Act.put, List.setIfInBounds_toArray, List.set_cons_zero, List.set_cons_succ]
          rfl
        refine take_ (i := 4) (N := some 39) (v := ?_) (a' := ?_) #[true, true, true, true, true, false, false, false, false, false, false] rfl rfl (by kernel_rfl) (fun _ _ _ h => h) (Or.inl ⟨by rfl, ?_⟩) (by assumption) ?_ ?_
        rotate_left
        · intro w hSw
          obtain ⟨hl0, hl1⟩ := hSw
          go_simp
          (try with_reducible rfl)
        rotate_left
        · simp only [Act.put, List.setIfInBounds_toArray, List.set_cons_zero, List.set_cons_succ]
          rfl
        refine take_ (i := 5) (N := some 40) (v := ?_) (a' := ?_) #[true, true, true, true, true, true, false, false, false, false, false] rfl rfl (by kernel_rfl) (fun _ _ _ h => h) (Or.inl ⟨by rfl, ?_⟩) (by assumption) ?_ ?_
        rotate_left
        · intro w hSw
          obtain ⟨hl0, hl1⟩ := hSw
          have hm0 : w.cell? ⟨b, 0, none⟩ = some (.int .i64 ((⟨x.f0, 2, x.f2, x.f3, x.f4⟩ : S59)).f0) := (blk_cell hl1 0).trans rfl
          have hm1 : w.cell? ⟨b, 1, none⟩ = some (.int .i64 ((⟨x.f0, 2, x.f2, x.f3, x.f4⟩ : S59)).f1) := (blk_cell hl1 1).trans rfl
          have hm2 : w.cell? ⟨b, 2, none⟩ = some (.string ((⟨x.f0, 2, x.f2, x.f3, x.f4⟩ : S59)).f2) := (blk_cell hl1 2).trans rfl
          have hm3 : w.cell? ⟨b, 3, none⟩ = some (.string ((⟨x.f0, 2, x.f2, x.f3, x.f4⟩ : S59)).f3) := (blk_cell hl1 3).trans rfl
          have hm4 : w.cell? ⟨b, 4, none⟩ = some (.int .i64 ((⟨x.f0, 2, x.f2, x.f3, x.f4⟩ : S59)).f4) := (blk_cell hl1 4).trans rfl
          clear hl1
          go_simp
          (try with_reducible rfl)
        rotate_left
        · simp only [Act.put, List.setIfInBounds_toArray, List.set_cons_zero, List.set_cons_succ]
          rfl
        refine one_ (i := 6) (N := some 41) #[true, true, true, true, true, true, true, false, false, false, false] rfl rfl (by kernel_rfl) (by decide) (fun K hK => ?_)
        refine event_step (W := w1.drew) (v := .slice (some ⟨w1.heap.size, 0, none⟩) 1 1) (w1 := w1.drew.alloc (.cells #[.int .i64 ((⟨x.f0, 2, x.f2, x.f3, x.f4⟩ : S59)).f0, .int .i64 ((⟨x.f0, 2, x.f2, x.f3, x.f4⟩ : S59)).f1, .string ((⟨x.f0, 2, x.f2, x.f3, x.f4⟩ : S59)).f2, .string ((⟨x.f0, 2, x.f2, x.f3, x.f4⟩ : S59)).f3, .int .i64 ((⟨x.f0, 2, x.f2, x.f3, x.f4⟩ : S59)).f4] 59)) (by rfl) (by kernel_rfl) ?_
        refine hK.out _ _ ?_ (fun hHeld => ?_)
        · exact keep_push HRa.out HIa.out _
        clear hK K
        (try simp only [Act.put, List.setIfInBounds_toArray, List.set_cons_zero, List.set_cons_succ])
        refine last_ (i := 7) (N := some 42) #[true, true, true, true, true, true, true, true, false, false, false] rfl rfl (by kernel_rfl) (by decide) (fun K hK => ?_)
        refine push_append (.tmp 39) (.tmp 41) (by rfl) rfl rfl rfl HRa.out HIa.out HOa.out HBa.out HG.out HL.out ?_
        intro As N2 cc w2 hR2 hP2
        have hc2a := rd_cell2 hR2
        have hf2a := blk_frozen hR2 2
        have HPa := Aside0.mk hP2
        clear hR2 hP2
        refine hK.out _ _ ?_
        clear hK K
        (try simp only [Act.put, List.setIfInBounds_toArray, List.set_cons_zero, List.set_cons_succ])
        refine pure_ (i := 8) (N := some 43) (v := ?_) (a' := ?_) #[true, true, true, true, true, true, true, true, true, false, false] rfl rfl (by kernel_rfl) (fun _ _ _ h => h) (Or.inl ⟨by rfl, ?_⟩) ?_ ?_
        rotate_left
        · intro w'
          go_simp
          (try with_reducible rfl)
        rotate_left
        · simp only [Act.put, List.setIfInBounds_toArray, List.set_cons_zero, List.set_cons_succ]
          rfl
        refine pure_ (i := 9) (N := some 44) (v := ?_) (a' := ?_) #[true, true, true, true, true, true, true, true, true, true, false] rfl rfl (by kernel_rfl) (fun _ _ _ h => h) (Or.inl ⟨by rfl, ?_⟩) ?_ ?_
        rotate_left
        · intro w'
          go_simp
          (try with_reducible rfl)
        rotate_left
        · simp only [Act.put, List.setIfInBounds_toArray, List.set_cons_zero, List.set_cons_succ]
          rfl
        refine last_ (i := 10) (N := none) #[true, true, true, true, true, true, true, true, true, true, true] rfl rfl (by kernel_rfl) (by decide) (fun K hK => ?_)
        go_simp
        refine hK.out _ _ ?_
        clear hK K
        (try simp only [Act.put, List.setIfInBounds_toArray, List.set_cons_zero, List.set_cons_succ])
        refine done_ (by kernel_rfl) ?_
        go_wp2_with fail
        go_ret
        exact ⟨rfl, Left.pre HKa.out HPa.out⟩
      | false =>
        subst hgk
        have hix := ix136_1
        go_wp2_with ((go_at_call 75; (with_reducible refine (strings_HasPrefix.calls (s.extract p s.size) (⟨#[102, 97, 108, 115, 101]⟩ : ByteArray) _ _ (F1.out)).mono ?_); rintro e w' ⟨rfl, ⟨nd, rfl⟩⟩; (try first | exact ⟨rfl, _, World.drewN_drewN _ _ _⟩ | exact ⟨rfl, _, Eq.trans (World.drewN_drewN _ _ _) (congrArg (World.drewN _) (Nat.add_assoc _ _ _))⟩)))
        repeat (go_quiet ((go_at_call 75; (with_reducible refine (strings_HasPrefix.calls (s.extract p s.size) (⟨#[102, 97, 108, 115, 101]⟩ : ByteArray) _ _ (F1.out)).mono ?_); rintro e w' ⟨rfl, ⟨nd, rfl⟩⟩; (try first | exact ⟨rfl, _, World.drewN_drewN _ _ _⟩ | exact ⟨rfl, _, Eq.trans (World.drewN_drewN _ _ _) (congrArg (World.drewN _) (Nat.add_assoc _ _ _))⟩))); try go_wp2_with ((go_at_call 75; (with_reducible refine (strings_HasPrefix.calls (s.extract p s.size) (⟨#[102, 97, 108, 115, 101]⟩ : ByteArray) _ _ (F1.out)).mono ?_); rintro e w' ⟨rfl, ⟨nd, rfl⟩⟩; (try first | exact ⟨rfl, _, World.drewN_drewN _ _ _⟩ | exact ⟨rfl, _, Eq.trans (World.drewN_drewN _ _ _) (congrArg (World.drewN _) (Nat.add_assoc _ _ _))⟩))))
        go_roundg 1
        case measure => omega
        case rel => exact ⟨by simp, HR, HO, HI, HK, ⟨pw_below_drewN HB.out _⟩⟩
    · -- word 2
      cases b2 with
      | true =>
        have HW : Aside0 (wrap64 ((p : Int) + 4) = ((p + 4 : Nat) : Int)) := ⟨by have := HS.out; have := HN2.out rfl; unfold wrap64; omega⟩
        have hc1 := rd_cell1 HR.out
        have hf1 := blk_frozen HR.out 1
        have hi1 : wr.cell? ⟨b, 1, none⟩ = some (.int .i64 x.f1) := (blk_cell HI.out 1).trans rfl
        have hif1 := blk_frozen HI.out 1
        have hix := ix136_2
        go_wp2_with ((go_at_call 75; (with_reducible refine (strings_HasPrefix.calls (s.extract p s.size) (⟨#[116, 114, 117, 101]⟩ : ByteArray) _ _ (F2.out)).mono ?_); rintro e w' ⟨rfl, ⟨nd, rfl⟩⟩; (try first | exact ⟨rfl, _, World.drewN_drewN _ _ _⟩ | exact ⟨rfl, _, Eq.trans (World.drewN_drewN _ _ _) (congrArg (World.drewN _) (Nat.add_assoc _ _ _))⟩)))
        repeat (go_quiet ((go_at_call 75; (with_reducible refine (strings_HasPrefix.calls (s.extract p s.size) (⟨#[116, 114, 117, 101]⟩ : ByteArray) _ _ (F2.out)).mono ?_); rintro e w' ⟨rfl, ⟨nd, rfl⟩⟩; (try first | exact ⟨rfl, _, World.drewN_drewN _ _ _⟩ | exact ⟨rfl, _, Eq.trans (World.drewN_drewN _ _ _) (congrArg (World.drewN _) (Nat.add_assoc _ _ _))⟩))); try go_wp2_with ((go_at_call 75; (with_reducible refine (strings_HasPrefix.calls (s.extract p s.size) (⟨#[116, 114, 117, 101]⟩ : ByteArray) _ _ (F2.out)).mono ?_); rintro e w' ⟨rfl, ⟨nd, rfl⟩⟩; (try first | exact ⟨rfl, _, World.drewN_drewN _ _ _⟩ | exact ⟨rfl, _, Eq.trans (World.drewN_drewN _ _ _) (congrArg (World.drewN _) (Nat.add_assoc _ _ _))⟩))))
        have HRa := Aside0.mk (blk_far (rd_set1 (W := wr.drewN nq) HR.out HW.out) (p := ⟨b, 1, none⟩) hne2 (.int .i64 3))
        have HIa : Aside0 (Itm (((wr.drewN nq).setCell ⟨g, 1, none⟩ (.int .i64 (wrap64 ((p : Int) + 4)))).setCell ⟨b, 1, none⟩ (.int .i64 3)) b (⟨x.f0, 3, x.f2, x.f3, x.f4⟩ : S59)) := ⟨blk_set (blk_far (w := wr.drewN nq) HI.out (p := ⟨g, 1, none⟩) hne1 _) 1 _⟩
        have HOa := Aside0.mk (Kd.R_far (Kd.R_far (w := wr.drewN nq) HO.out (p := ⟨g, 1, none⟩) (fun _ h => h.1) (.int .i64 (wrap64 ((p : Int) + 4)))) (p := ⟨b, 1, none⟩) (fun _ h => h.2) (.int .i64 3))
        have HKa := Aside0.mk (keep_far (KeepBut.set_ (keep_drewN HK.out nq) 1 (.int .i64 (wrap64 ((p : Int) + 4)))) (p := ⟨b, 1, none⟩) HBG.out (.int .i64 3))
        have HBa := Aside0.mk (below_set (j := 1) (below_set (j := 1) (v := .int .i64 (wrap64 ((p : Int) + 4))) (pw_below_drewN HB.out nq) HG.out) (v := .int .i64 3) (g := b) (Nat.le_trans HB0.out HBG.out))
        generalize ((wr.drewN nq).setCell ⟨g, 1, none⟩ (.int .i64 (wrap64 ((p : Int) + 4)))).setCell ⟨b, 1, none⟩ (.int .i64 3) = w1 at HRa HIa HOa HKa HBa ⊢
        clear hc0 hc1 hf1 hi1 hif1
        refine start_ (n := 11) (S := fun w' => w'.cell? ⟨g, 2, none⟩ = some v ∧ w'.heap[b]? = some (.cells #[.int .i64 ((⟨x.f0, 3, x.f2, x.f3, x.f4⟩ : S59)).f0, .int .i64 ((⟨x.f0, 3, x.f2, x.f3, x.f4⟩ : S59)).f1, .string ((⟨x.f0, 3, x.f2, x.f3, x.f4⟩ : S59)).f2, .string ((⟨x.f0, 3, x.f2, x.f3, x.f4⟩ : S59)).f3, .int .i64 ((⟨x.f0, 3, x.f2, x.f3, x.f4⟩ : S59)).f4] 59 (0, 0))) (ds := [7, 10]) #[false, false, false, false, false, false, false, false, false, false, false] (by kernel_rfl) rfl rfl ⟨rd_cell2 HRa.out, HIa.out⟩ (fun hHeld => ?_)
        refine pure_ (i := 0) (N := some 35) (v := ?_) (a' := ?_) #[true, false, false, false, false, false, false, false, false, false, false] rfl rfl (by kernel_rfl) (fun _ _ _ h => h) (Or.inl ⟨by rfl, ?_⟩) ?_ ?_
        rotate_left
        · intro w'
          go_simp
          (try with_reducible rfl)
        rotate_left
        · simp only [Act.put, List.setIfInBounds_toArray, List.set_cons_zero, List.set_cons_succ]
          rfl
        refine pure_ (i := 1) (N := some 36) (v := ?_) (a' := ?_) #[true, true, false, false, false, false, false, false, false, false, false] rfl rfl (by kernel_rfl) (fun _ _ _ h => h) (Or.inl ⟨by rfl, ?_⟩) ?_ ?_
        rotate_left
        · intro w'
          go_simp
          (try with_reducible rfl)
        rotate_left
        · simp only [Act.put, List.setIfInBounds_toArray, List.set_cons_zero, List.set_cons_succ]
          rfl
        refine pure_ (i := 2) (N := some 37) (v := ?_) (a' := ?_) #[true, true, true, false, false, false, false, false, false, false, false] rfl rfl (by kernel_rfl) (fun _ _ _ h => h) (Or.inl ⟨by rfl, ?_⟩) ?_ ?_
        rotate_left
        · intro w'
          go_simp
          (try with_reducible rfl)
        rotate_left
        · simp only [Act.put, List.setIfInBounds_toArray, List.set_cons_zero, List.set_cons_succ]
          rfl
        refine pure_ (i := 3) (N := some 38) (v := ?_) (a' := ?_) #[true, true, true, true, false, false, false, false, false, false, false] rfl rfl (by kernel_rfl) (fun _ _ _ h => h) (Or.inl ⟨by rfl, ?_⟩) ?_ ?_
        rotate_left
        · intro w'
          go_simp
          (try with_reducible rfl)
        rotate_left
        · simp only [Act.put, List.setIfInBounds_toArray, List.set_cons_zero, List.set_cons_succ]
          rfl
        refine take_ (i := 4) (N := some 39) (v := ?_) (a' := ?_) #[true, true, true, true, true, false, false, false, false, false, false] rfl rfl (by kernel_rfl) (fun _ _ _ h => h) (Or.inl ⟨by rfl, ?_⟩) (by assumption) ?_ ?_
        rotate_left
        · intro w hSw
          obtain ⟨hl0, hl1⟩ := hSw
          go_simp
          (try with_reducible rfl)
        rotate_left
        · simp only [Act.put, List.setIfInBounds_toArray, List.set_cons_zero, List.set_cons_succ]
          rfl
        refine take_ (i := 5) (N := some 40) (v := ?_) (a' := ?_) #[true, true, true, true, true, true, false, false, false, false, false] rfl rfl (by kernel_rfl) (fun _ _ _ h => h) (Or.inl ⟨by rfl, ?_⟩) (by assumption) ?_ ?_
        rotate_left
        · intro w hSw
          obtain ⟨hl0, hl1⟩ := hSw
          have hm0 : w.cell? ⟨b, 0, none⟩ = some (.int .i64 ((⟨x.f0, 3, x.f2, x.f3, x.f4⟩ : S59)).f0) := (blk_cell hl1 0).trans rfl
          have hm1 : w.cell? ⟨b, 1, none⟩ = some (.int .i64 ((⟨x.f0, 3, x.f2, x.f3, x.f4⟩ : S59)).f1) := (blk_cell hl1 1).trans rfl
          have hm2 : w.cell? ⟨b, 2, none⟩ = some (.string ((⟨x.f0, 3, x.f2, x.f3, x.f4⟩ : S59)).f2) := (blk_cell hl1 2).trans rfl
          have hm3 : w.cell? ⟨b, 3, none⟩ = some (.string ((⟨x.f0, 3, x.f2, x.f3, x.f4⟩ : S59)).f3) := (blk_cell hl1 3).trans rfl
          have hm4 : w.cell? ⟨b, 4, none⟩ = some (.int .i64 ((⟨x.f0, 3, x.f2, x.f3, x.f4⟩ : S59)).f4) := (blk_cell hl1 4).trans rfl
          clear hl1
          go_simp
          (try with_reducible rfl)
        rotate_left
        · simp only [Act.put, List.setIfInBounds_toArray, List.set_cons_zero, List.set_cons_succ]
          rfl
        refine one_ (i := 6) (N := some 41) #[true, true, true, true, true, true, true, false, false, false, false] rfl rfl (by kernel_rfl) (by decide) (fun K hK => ?_)
        refine event_step (W := w1.drew) (v := .slice (some ⟨w1.heap.size, 0, none⟩) 1 1) (w1 := w1.drew.alloc (.cells #[.int .i64 ((⟨x.f0, 3, x.f2, x.f3, x.f4⟩ : S59)).f0, .int .i64 ((⟨x.f0, 3, x.f2, x.f3, x.f4⟩ : S59)).f1, .string ((⟨x.f0, 3, x.f2, x.f3, x.f4⟩ : S59)).f2, .string ((⟨x.f0, 3, x.f2, x.f3, x.f4⟩ : S59)).f3, .int .i64 ((⟨x.f0, 3, x.f2, x.f3, x.f4⟩ : S59)).f4] 59)) (by rfl) (by kernel_rfl) ?_
        refine hK.out _ _ ?_ (fun hHeld => ?_)
        · exact keep_push HRa.out HIa.out _
        clear hK K
        (try simp only [Act.put, List.setIfInBounds_toArray, List.set_cons_zero, List.set_cons_succ])
        refine last_ (i := 7) (N := some 42) #[true, true, true, true, true, true, true, true, false, false, false] rfl rfl (by kernel_rfl) (by decide) (fun K hK => ?_)
        refine push_append (.tmp 39) (.tmp 41) (by rfl) rfl rfl rfl HRa.out HIa.out HOa.out HBa.out HG.out HL.out ?_
        intro As N2 cc w2 hR2 hP2
        have hc2a := rd_cell2 hR2
        have hf2a := blk_frozen hR2 2
        have HPa := Aside0.mk hP2
        clear hR2 hP2
        refine hK.out _ _ ?_
        clear hK K
        (try simp only [Act.put, List.setIfInBounds_toArray, List.set_cons_zero, List.set_cons_succ])
        refine pure_ (i := 8) (N := some 43) (v := ?_) (a' := ?_) #[true, true, true, true, true, true, true, true, true, false, false] rfl rfl (by kernel_rfl) (fun _ _ _ h => h) (Or.inl ⟨by rfl, ?_⟩) ?_ ?_
        rotate_left
        · intro w'
          go_simp
          (try with_reducible rfl)
        rotate_left
        · simp only [Act.put, List.setIfInBounds_toArray, List.set_cons_zero, List.set_cons_succ]
          rfl
        refine pure_ (i := 9) (N := some 44) (v := ?_) (a' := ?_) #[true, true, true, true, true, true, true, true, true, true, false] rfl rfl (by kernel_rfl) (fun _ _ _ h => h) (Or.inl ⟨by rfl, ?_⟩) ?_ ?_
        rotate_left
        · intro w'
          go_simp
          (try with_reducible rfl)
        rotate_left
        · simp only [Act.put, List.setIfInBounds_toArray, List.set_cons_zero, List.set_cons_succ]
          rfl
        refine last_ (i := 10) (N := none) #[true, true, true, true, true, true, true, true, true, true, true] rfl rfl (by kernel_rfl) (by decide) (fun K hK => ?_)
        go_simp
        refine hK.out _ _ ?_
        clear hK K
        (try simp only [Act.put, List.setIfInBounds_toArray, List.set_cons_zero, List.set_cons_succ])
        refine done_ (by kernel_rfl) ?_
        go_wp2_with fail
        go_ret
        exact ⟨rfl, Left.pre HKa.out HPa.out⟩
      | false =>
        subst hgk
        have hix := ix136_2
        go_wp2_with ((go_at_call 75; (with_reducible refine (strings_HasPrefix.calls (s.extract p s.size) (⟨#[116, 114, 117, 101]⟩ : ByteArray) _ _ (F2.out)).mono ?_); rintro e w' ⟨rfl, ⟨nd, rfl⟩⟩; (try first | exact ⟨rfl, _, World.drewN_drewN _ _ _⟩ | exact ⟨rfl, _, Eq.trans (World.drewN_drewN _ _ _) (congrArg (World.drewN _) (Nat.add_assoc _ _ _))⟩)))
        repeat (go_quiet ((go_at_call 75; (with_reducible refine (strings_HasPrefix.calls (s.extract p s.size) (⟨#[116, 114, 117, 101]⟩ : ByteArray) _ _ (F2.out)).mono ?_); rintro e w' ⟨rfl, ⟨nd, rfl⟩⟩; (try first | exact ⟨rfl, _, World.drewN_drewN _ _ _⟩ | exact ⟨rfl, _, Eq.trans (World.drewN_drewN _ _ _) (congrArg (World.drewN _) (Nat.add_assoc _ _ _))⟩))); try go_wp2_with ((go_at_call 75; (with_reducible refine (strings_HasPrefix.calls (s.extract p s.size) (⟨#[116, 114, 117, 101]⟩ : ByteArray) _ _ (F2.out)).mono ?_); rintro e w' ⟨rfl, ⟨nd, rfl⟩⟩; (try first | exact ⟨rfl, _, World.drewN_drewN _ _ _⟩ | exact ⟨rfl, _, Eq.trans (World.drewN_drewN _ _ _) (congrArg (World.drewN _) (Nat.add_assoc _ _ _))⟩))))
        go_roundg 0
        case measure => omega
        case rel => exact ⟨by simp, HR, HO, HI, HK, ⟨pw_below_drewN HB.out _⟩⟩
    · subst hgk
      go_wp2_with fail
      go_ret
      exact ⟨rfl, ⟨v, HR.out, Kd.R_mono HO.out (fun _ h => h.1), .inl rfl⟩, HB.out, keep_wide HK.out⟩
end Go.Proofs.YthhmmaihbjhhgaaDoor.Giv
namespace Go.Proofs.YthhmmaihbjhhgaaDoor.Giv
open Go.RowKit Go.Proofs.YthhmmaihbjhhgaaDoorW.PrintWords Go.Proofs.YthhmmaihbjhhgaaDoorW.PrintLast Go.Proofs.YthhmmaihbjhhgaaDoorW.PrintMore
open Go.Proofs.YthhmmaihbjhhgaaDoor.U1 Go.Proofs.YthhmmaihbjhhgaaDoor.Q1 Go.Proofs.YthhmmaihbjhhgaaDoor.J0 Go.Proofs.YthhmmaihbjhhgaaDoor.J1
set_option linter.unusedSimpArgs false
def wordF (s : ByteArray) (p : Nat) (out : List S59) (x : S59) : Int × Nat × List S59 :=
  if [110, 117, 108, 108] <+: s.data.toList.drop p then (0, p + 4, out ++ [⟨x.f0, 1, x.f2, x.f3, x.f4⟩])
  else if [102, 97, 108, 115, 101] <+: s.data.toList.drop p then (0, p + 5, out ++ [⟨x.f0, 2, x.f2, x.f3, x.f4⟩])
  else if [116, 114, 117, 101] <+: s.data.toList.drop p then (0, p + 4, out ++ [⟨x.f0, 3, x.f2, x.f3, x.f4⟩])
  else (80, p, out)
theorem word_calls (w0 W : World) (g : Nat) (s : ByteArray) (p : Nat) (v : Value) (out : List S59) (x : S59) (hR : Rd W g s p v) (hO : Out w0 W g v out) (hB : Below w0.heap.size w0 W) (hg : w0.heap.size ≤ g) (hp : p ≤ s.size) (hs : s.size ≤ 4611686018427387904) (hl : (out.length + 1) * 56 ≤ 140737488355328) :
    Calls Tryd.prog 90 #[.pointer (some ⟨g, 0, none⟩), itemV x] W fun e W' => e = .returned (.int .i64 (wordF s p out x).1) ∧ Left w0 W W' g s (wordF s p out x).2.1 v (wordF s p out x).2.2 := by
  have len : ∀ t : List UInt8, decide (t <+: s.data.toList.drop p) = true → p + t.length ≤ s.size := by
    intro t h
    have := List.IsPrefix.length_le (of_decide_eq_true h)
    rw [List.length_drop, data_length] at this
    omega
  have h := word_walk w0 W g s p v out x hR hO hB hg hp hs hl _ _ _ (prefix_f s p [110, 117, 108, 108]) (prefix_f s p [102, 97, 108, 115, 101]) (prefix_f s p [116, 114, 117, 101]) (len _) (len _) (len _)
  unfold wordF
  by_cases a : [110, 117, 108, 108] <+: s.data.toList.drop p
  · rw [decide_eq_true a] at h; rw [if_pos a]; exact h
  · rw [decide_eq_false a] at h; rw [if_neg a]
    by_cases b : [102, 97, 108, 115, 101] <+: s.data.toList.drop p
    · rw [decide_eq_true b] at h; rw [if_pos b]; exact h
    · rw [decide_eq_false b] at h; rw [if_neg b]
      by_cases c : [116, 114, 117, 101] <+: s.data.toList.drop p
      · rw [decide_eq_true c] at h; rw [if_pos c]; exact h
      · rw [decide_eq_false c] at h; rw [if_neg c]; exact h
theorem Left.comp {w0 w1 wf W' : World} {g q : Nat} {s : ByteArray} {v v' : Value} {out : List S59} (hA : v'.ownBlock = v.ownBlock ∨ ∃ b, v'.ownBlock = some b ∧ w1.heap.size ≤ b) (hK : KeepBut w1 wf g v.ownBlock) (h : Left w0 wf W' g s q v' out) : Left w0 w1 W' g s q v out := by
  refine ⟨?_, h.below, hK.trans h.keep hA⟩
  obtain ⟨v2, a, b, c⟩ := h.left
  refine ⟨v2, a, b, ?_⟩
  rcases c with c | ⟨k, c1, c2⟩
  · rw [c]; exact hA
  · exact .inr ⟨k, c1, Nat.le_trans hK.1 c2⟩
set_option maxHeartbeats 8000000 in
set_option maxRecDepth 100000 in
theorem value_word1 (w0 W : World) (g : Nat) (s : ByteArray) (p : Nat) (v : Value) (out : List S59) (x : S59) (hR : Rd W g s p v) (hO : Out w0 W g v out) (hB : Below w0.heap.size w0 W) (hg : w0.heap.size ≤ g) (hp : p ≤ s.size) (hs : s.size ≤ 4611686018427387904) (hj : JTabs w0) (hl : (out.length + 1) * 56 ≤ 140737488355328) (_h91 : nextC s p ≠ 91) (_h123 : nextC s p ≠ 123) (h34 : nextC s p ≠ 34) (h45 : nextC s p ≠ 45) (h48 : nextC s p < 48) :
    Calls Tryd.prog 69 #[.pointer (some ⟨g, 0, none⟩), itemV x] W fun e W' => e = .returned (.int .i64 (wordF s (skipP s p) out x).1) ∧ Left w0 W W' g s (wordF s (skipP s p) out x).2.1 v (wordF s (skipP s p) out x).2.2 := by
  have HR := Aside0.mk hR
  have HO := Aside0.mk hO
  have HB := Aside0.mk hB
  have HG := Aside0.mk hg
  have HS := Aside0.mk hs
  have HP := Aside0.mk hp
  have JT := Aside0.mk hj
  have HP1 := Aside0.mk (skip_le s p hp)
  have HL := Aside0.mk hl
  have c91 : ((nextC s p : Int) == 91) = false := beq_eq_false_iff_ne.mpr (by omega)
  have c123 : ((nextC s p : Int) == 123) = false := beq_eq_false_iff_ne.mpr (by omega)
  have c34 : ((nextC s p : Int) == 34) = false := beq_eq_false_iff_ne.mpr (by omega)
  have c45 : ((nextC s p : Int) == 45) = false := beq_eq_false_iff_ne.mpr (by omega)
  have d48 : decide (48 ≤ (nextC s p : Int)) = false := decide_eq_false (by omega)
  clear hR hB hg hs hO hp hj hl h34 h45 h48
  unfold itemV
  go_enter Tryd.func69, Tryd.ntmps69
  go_wp2_with fail
  obtain ⟨b, hb⟩ : ∃ b, W.heap.size = b := ⟨_, rfl⟩
  have hgW := blk_lt HR.out
  have HA : Aside0 (Below W.heap.size W (W.alloc (.cells #[.int .i64 x.f0, .int .i64 x.f1, .string x.f2, .string x.f3, .int .i64 x.f4] 59))) := ⟨below_alloc (Below.refl _ _) _⟩
  have HI : Aside0 (Itm (W.alloc (.cells #[.int .i64 x.f0, .int .i64 x.f1, .string x.f2, .string x.f3, .int .i64 x.f4] 59)) b x) := ⟨by rw [← hb]; exact heap_alloc_new _ _⟩
  have HR := Aside0.mk (rd_below HR.out HA.out)
  have HO : Aside0 (Kd.R k59 59 (W.alloc (.cells #[.int .i64 x.f0, .int .i64 x.f1, .string x.f2, .string x.f3, .int .i64 x.f4] 59)) w0.heap.size (fun j => j ≠ g ∧ j ≠ b) v out) := ⟨Kd.R_below (Kd.R_mono (Kd.R_bound HO.out) (fun k hk => ⟨hk.1, by have := hk.2.2.1; omega⟩)) HA.out⟩
  have HK := Aside0.mk (KeepBut.of_below HA.out g none)
  have HBo := HB
  have HB := Aside0.mk (below_step HB.out HA.out)
  have HB0 : Aside0 (w0.heap.size ≤ W.heap.size) := ⟨HBo.out.size⟩
  have HBG : Aside0 (W.heap.size ≤ b) := ⟨by omega⟩
  have hne1 : ¬ b = g := by omega
  have hne2 : ¬ g = b := by omega
  rw [hb]
  generalize W.alloc (.cells #[.int .i64 x.f0, .int .i64 x.f1, .string x.f2, .string x.f3, .int .i64 x.f4] 59) = W1 at HA HI HR HO HK HB ⊢
  clear HA hb
  go_wp2_with (first
    | (go_at_call 70; refine (next_calls w0 W1 g s p v HR.out HB.out HG.out HP.out HS.out).mono ?_; rintro e w2 ⟨rfl, hR2, hB2, hK2⟩; have HI := Aside0.mk ((hK2.2 b (blk_lt HI.out) hne1 (by simp)).trans HI.out); have HR := Aside0.mk hR2; have HO := Aside0.mk (Kd.R_keep HO.out hK2 (fun _ h => h.1)) ; have HK := Aside0.mk (HK.out.trans hK2 (.inl rfl)); have HB := Aside0.mk hB2; clear hR2 hB2 hK2; have hm0 : w2.cell? ⟨b, 0, none⟩ = some (.int .i64 x.f0) := (blk_cell HI.out 0).trans rfl; have hm1 : w2.cell? ⟨b, 1, none⟩ = some (.int .i64 x.f1) := (blk_cell HI.out 1).trans rfl; have hm2 : w2.cell? ⟨b, 2, none⟩ = some (.string x.f2) := (blk_cell HI.out 2).trans rfl; have hm3 : w2.cell? ⟨b, 3, none⟩ = some (.string x.f3) := (blk_cell HI.out 3).trans rfl; have hm4 : w2.cell? ⟨b, 4, none⟩ = some (.int .i64 x.f4) := (blk_cell HI.out 4).trans rfl)
    | (go_at_call 90; refine (word_calls w0 w2 g s (skipP s p) v out x HR.out (Kd.R_mono HO.out (fun _ h => h.1)) HB.out HG.out HP1.out HS.out HL.out).mono ?_; rintro e w3 ⟨rfl, hL⟩; have HL3 := Aside0.mk hL; clear hL))
  go_ret
  exact ⟨rfl, Left.pre HK.out HL3.out⟩
set_option maxHeartbeats 8000000 in
set_option maxRecDepth 100000 in
theorem value_word2 (w0 W : World) (g : Nat) (s : ByteArray) (p : Nat) (v : Value) (out : List S59) (x : S59) (hR : Rd W g s p v) (hO : Out w0 W g v out) (hB : Below w0.heap.size w0 W) (hg : w0.heap.size ≤ g) (hp : p ≤ s.size) (hs : s.size ≤ 4611686018427387904) (hj : JTabs w0) (hl : (out.length + 1) * 56 ≤ 140737488355328) (h91 : nextC s p ≠ 91) (h123 : nextC s p ≠ 123) (h34 : nextC s p ≠ 34) (h45 : nextC s p ≠ 45) (h48 : 57 < nextC s p) :
    Calls Tryd.prog 69 #[.pointer (some ⟨g, 0, none⟩), itemV x] W fun e W' => e = .returned (.int .i64 (wordF s (skipP s p) out x).1) ∧ Left w0 W W' g s (wordF s (skipP s p) out x).2.1 v (wordF s (skipP s p) out x).2.2 := by
  have HR := Aside0.mk hR
  have HO := Aside0.mk hO
  have HB := Aside0.mk hB
  have HG := Aside0.mk hg
  have HS := Aside0.mk hs
  have HP := Aside0.mk hp
  have JT := Aside0.mk hj
  have HP1 := Aside0.mk (skip_le s p hp)
  have HL := Aside0.mk hl
  have c91 : ((nextC s p : Int) == 91) = false := beq_eq_false_iff_ne.mpr (by omega)
  have c123 : ((nextC s p : Int) == 123) = false := beq_eq_false_iff_ne.mpr (by omega)
  have c34 : ((nextC s p : Int) == 34) = false := beq_eq_false_iff_ne.mpr (by omega)
  have c45 : ((nextC s p : Int) == 45) = false := beq_eq_false_iff_ne.mpr (by omega)
  have d48 : decide (48 ≤ (nextC s p : Int)) = true := decide_eq_true (by omega)
  have d57 : decide ((nextC s p : Int) ≤ 57) = false := decide_eq_false (by omega)
  clear hR hB hg hs hO hp hj hl h91 h123 h34 h45 h48
  unfold itemV
  go_enter Tryd.func69, Tryd.ntmps69
  go_wp2_with fail
  obtain ⟨b, hb⟩ : ∃ b, W.heap.size = b := ⟨_, rfl⟩
  have hgW := blk_lt HR.out
  have HA : Aside0 (Below W.heap.size W (W.alloc (.cells #[.int .i64 x.f0, .int .i64 x.f1, .string x.f2, .string x.f3, .int .i64 x.f4] 59))) := ⟨below_alloc (Below.refl _ _) _⟩
  have HI : Aside0 (Itm (W.alloc (.cells #[.int .i64 x.f0, .int .i64 x.f1, .string x.f2, .string x.f3, .int .i64 x.f4] 59)) b x) := ⟨by rw [← hb]; exact heap_alloc_new _ _⟩
  have HR := Aside0.mk (rd_below HR.out HA.out)
  have HO : Aside0 (Kd.R k59 59 (W.alloc (.cells #[.int .i64 x.f0, .int .i64 x.f1, .string x.f2, .string x.f3, .int .i64 x.f4] 59)) w0.heap.size (fun j => j ≠ g ∧ j ≠ b) v out) := ⟨Kd.R_below (Kd.R_mono (Kd.R_bound HO.out) (fun k hk => ⟨hk.1, by have := hk.2.2.1; omega⟩)) HA.out⟩
  have HK := Aside0.mk (KeepBut.of_below HA.out g none)
  have HBo := HB
  have HB := Aside0.mk (below_step HB.out HA.out)
  have HB0 : Aside0 (w0.heap.size ≤ W.heap.size) := ⟨HBo.out.size⟩
  have HBG : Aside0 (W.heap.size ≤ b) := ⟨by omega⟩
  have hne1 : ¬ b = g := by omega
  have hne2 : ¬ g = b := by omega
  rw [hb]
  generalize W.alloc (.cells #[.int .i64 x.f0, .int .i64 x.f1, .string x.f2, .string x.f3, .int .i64 x.f4] 59) = W1 at HA HI HR HO HK HB ⊢
  clear HA hb
  go_wp2_with (first
    | (go_at_call 70; refine (next_calls w0 W1 g s p v HR.out HB.out HG.out HP.out HS.out).mono ?_; rintro e w2 ⟨rfl, hR2, hB2, hK2⟩; have HI := Aside0.mk ((hK2.2 b (blk_lt HI.out) hne1 (by simp)).trans HI.out); have HR := Aside0.mk hR2; have HO := Aside0.mk (Kd.R_keep HO.out hK2 (fun _ h => h.1)) ; have HK := Aside0.mk (HK.out.trans hK2 (.inl rfl)); have HB := Aside0.mk hB2; clear hR2 hB2 hK2; have hm0 : w2.cell? ⟨b, 0, none⟩ = some (.int .i64 x.f0) := (blk_cell HI.out 0).trans rfl; have hm1 : w2.cell? ⟨b, 1, none⟩ = some (.int .i64 x.f1) := (blk_cell HI.out 1).trans rfl; have hm2 : w2.cell? ⟨b, 2, none⟩ = some (.string x.f2) := (blk_cell HI.out 2).trans rfl; have hm3 : w2.cell? ⟨b, 3, none⟩ = some (.string x.f3) := (blk_cell HI.out 3).trans rfl; have hm4 : w2.cell? ⟨b, 4, none⟩ = some (.int .i64 x.f4) := (blk_cell HI.out 4).trans rfl)
    | (go_at_call 90; refine (word_calls w0 w2 g s (skipP s p) v out x HR.out (Kd.R_mono HO.out (fun _ h => h.1)) HB.out HG.out HP1.out HS.out HL.out).mono ?_; rintro e w3 ⟨rfl, hL⟩; have HL3 := Aside0.mk hL; clear hL))
  go_ret
  exact ⟨rfl, Left.pre HK.out HL3.out⟩
set_option maxHeartbeats 8000000 in
set_option maxRecDepth 100000 in
theorem value_text_err (w0 W : World) (g : Nat) (s : ByteArray) (p : Nat) (v : Value) (out : List S59) (x : S59) (hR : Rd W g s p v) (hO : Out w0 W g v out) (hB : Below w0.heap.size w0 W) (hg : w0.heap.size ≤ g) (hp : p ≤ s.size) (hs : s.size ≤ 4611686018427387904) (hj : JTabs w0) (k : Nat) (t : ByteArray) (m : Nat) (er : Int) (h34 : nextC s p = 34) (hr : quote_Read.f k (s.extract (skipP s p) s.size) = some (t, (m : Int), er)) (hm : skipP s p + m ≤ s.size) (he : er ≠ 0) :
    Calls Tryd.prog 69 #[.pointer (some ⟨g, 0, none⟩), itemV x] W fun e W' => e = .returned (.int .i64 er) ∧ Left w0 W W' g s (skipP s p + m) v out := by
  have HR := Aside0.mk hR
  have HO := Aside0.mk hO
  have HB := Aside0.mk hB
  have HG := Aside0.mk hg
  have HS := Aside0.mk hs
  have HP := Aside0.mk hp
  have JT := Aside0.mk hj
  have HP1 := Aside0.mk (skip_le s p hp)
  have c91 : ((nextC s p : Int) == 91) = false := beq_eq_false_iff_ne.mpr (by omega)
  have c123 : ((nextC s p : Int) == 123) = false := beq_eq_false_iff_ne.mpr (by omega)
  have c34 : ((nextC s p : Int) == 34) = true := beq_iff_eq.mpr (by omega)
  have c45 : ((nextC s p : Int) == 45) = false := beq_eq_false_iff_ne.mpr (by omega)
  have FR := Aside0.mk hr
  have HM := Aside0.mk hm
  have n1 : (er == 0) = false := beq_eq_false_iff_ne.mpr he
  have n2 : (er != 0) = true := bne_iff_ne.mpr he
  clear hR hB hg hs hO hp hj h34 hr hm he
  unfold itemV
  go_enter Tryd.func69, Tryd.ntmps69
  go_wp2_with fail
  obtain ⟨b, hb⟩ : ∃ b, W.heap.size = b := ⟨_, rfl⟩
  have hgW := blk_lt HR.out
  have HA : Aside0 (Below W.heap.size W (W.alloc (.cells #[.int .i64 x.f0, .int .i64 x.f1, .string x.f2, .string x.f3, .int .i64 x.f4] 59))) := ⟨below_alloc (Below.refl _ _) _⟩
  have HI : Aside0 (Itm (W.alloc (.cells #[.int .i64 x.f0, .int .i64 x.f1, .string x.f2, .string x.f3, .int .i64 x.f4] 59)) b x) := ⟨by rw [← hb]; exact heap_alloc_new _ _⟩
  have HR := Aside0.mk (rd_below HR.out HA.out)
  have HO : Aside0 (Kd.R k59 59 (W.alloc (.cells #[.int .i64 x.f0, .int .i64 x.f1, .string x.f2, .string x.f3, .int .i64 x.f4] 59)) w0.heap.size (fun j => j ≠ g ∧ j ≠ b) v out) := ⟨Kd.R_below (Kd.R_mono (Kd.R_bound HO.out) (fun k hk => ⟨hk.1, by have := hk.2.2.1; omega⟩)) HA.out⟩
  have HK := Aside0.mk (KeepBut.of_below HA.out g none)
  have HBo := HB
  have HB := Aside0.mk (below_step HB.out HA.out)
  have HB0 : Aside0 (w0.heap.size ≤ W.heap.size) := ⟨HBo.out.size⟩
  have HBG : Aside0 (W.heap.size ≤ b) := ⟨by omega⟩
  have hne1 : ¬ b = g := by omega
  have hne2 : ¬ g = b := by omega
  rw [hb]
  generalize W.alloc (.cells #[.int .i64 x.f0, .int .i64 x.f1, .string x.f2, .string x.f3, .int .i64 x.f4] 59) = W1 at HA HI HR HO HK HB ⊢
  clear HA hb
  go_wp2_with (first
    | (go_at_call 70; refine (next_calls w0 W1 g s p v HR.out HB.out HG.out HP.out HS.out).mono ?_; rintro e w2 ⟨rfl, hR2, hB2, hK2⟩; have HI := Aside0.mk ((hK2.2 b (blk_lt HI.out) hne1 (by simp)).trans HI.out); have HR := Aside0.mk hR2; have HO := Aside0.mk (Kd.R_keep HO.out hK2 (fun _ h => h.1)) ; have HK := Aside0.mk (HK.out.trans hK2 (.inl rfl)); have HB := Aside0.mk hB2; clear hR2 hB2 hK2; have hm1 : w2.cell? ⟨b, 1, none⟩ = some (.int .i64 x.f1) := (blk_cell HI.out 1).trans rfl; have hfm1 := blk_frozen HI.out 1)
    | (go_at_call 88; have hRx : Rd (w2.setCell ⟨b, 1, none⟩ (.int .i64 5)) g s (skipP s p) v := blk_far HR.out (p := ⟨b, 1, none⟩) hne2 _; have hIx : Itm (w2.setCell ⟨b, 1, none⟩ (.int .i64 5)) b (⟨x.f0, 5, x.f2, x.f3, x.f4⟩ : S59) := blk_set HI.out 1 _; have hBx := below_set (j := 1) (v := .int .i64 5) (g := b) HB.out (Nat.le_trans HB0.out HBG.out); have hOx := Kd.R_far HO.out (p := ⟨b, 1, none⟩) (fun _ h => h.2) (.int .i64 5); have hKx := keep_far HK.out (p := ⟨b, 1, none⟩) HBG.out (.int .i64 5); refine (text_calls k w0 _ g s (skipP s p) v t m _ hRx hBx HG.out HP1.out HS.out JT.out FR.out HM.out).mono ?_; rintro e w3 ⟨rfl, hR3, hB3, hK3⟩; have HI3 := Aside0.mk ((hK3.2 b (blk_lt hIx) hne1 (by simp)).trans hIx); have HR3 := Aside0.mk hR3; have HO3 := Aside0.mk (Kd.R_keep hOx hK3 (fun _ h => h.1)); have HK3 := Aside0.mk (hKx.trans hK3 (.inl rfl)); have HB3 := Aside0.mk hB3; clear hR3 hB3 hK3 hRx hIx hBx hOx hKx; have hfn := blk_frozen HI3.out 3; have hmn : w3.cell? ⟨b, 3, none⟩ = some (.string x.f3) := (blk_cell HI3.out 3).trans rfl))
  go_ret
  exact ⟨rfl, ⟨v, blk_far HR3.out (p := ⟨b, 3, none⟩) hne2 _, Kd.R_mono (Kd.R_far HO3.out (p := ⟨b, 3, none⟩) (fun _ h => h.2) _) (fun _ h => h.1), .inl rfl⟩, below_set HB3.out (Nat.le_trans HB0.out HBG.out), keep_wide (keep_far HK3.out (p := ⟨b, 3, none⟩) HBG.out _)⟩
set_option maxHeartbeats 8000000 in
set_option maxRecDepth 100000 in
theorem value_text (w0 W : World) (g : Nat) (s : ByteArray) (p : Nat) (v : Value) (out : List S59) (x : S59) (hR : Rd W g s p v) (hO : Out w0 W g v out) (hB : Below w0.heap.size w0 W) (hg : w0.heap.size ≤ g) (hp : p ≤ s.size) (hs : s.size ≤ 4611686018427387904) (hj : JTabs w0) (hl : (out.length + 1) * 56 ≤ 140737488355328) (k : Nat) (t : ByteArray) (m : Nat)  (h34 : nextC s p = 34) (hr : quote_Read.f k (s.extract (skipP s p) s.size) = some (t, (m : Int), 0)) (hm : skipP s p + m ≤ s.size) :
    Calls Tryd.prog 69 #[.pointer (some ⟨g, 0, none⟩), itemV x] W fun e W' => e = .returned (.int .i64 0) ∧ Left w0 W W' g s (skipP s p + m) v (out ++ [(⟨x.f0, 5, x.f2, t, x.f4⟩ : S59)]) := by
  have HR := Aside0.mk hR
  have HO := Aside0.mk hO
  have HB := Aside0.mk hB
  have HG := Aside0.mk hg
  have HS := Aside0.mk hs
  have HP := Aside0.mk hp
  have JT := Aside0.mk hj
  have HP1 := Aside0.mk (skip_le s p hp)
  have HL := Aside0.mk hl
  have c91 : ((nextC s p : Int) == 91) = false := beq_eq_false_iff_ne.mpr (by omega)
  have c123 : ((nextC s p : Int) == 123) = false := beq_eq_false_iff_ne.mpr (by omega)
  have c34 : ((nextC s p : Int) == 34) = true := beq_iff_eq.mpr (by omega)
  have c45 : ((nextC s p : Int) == 45) = false := beq_eq_false_iff_ne.mpr (by omega)
  have FR := Aside0.mk hr
  have HM := Aside0.mk hm
  clear hR hB hg hs hO hp hj hl h34 hr hm
  unfold itemV
  go_enter Tryd.func69, Tryd.ntmps69
  go_wp2_with fail
  obtain ⟨b, hb⟩ : ∃ b, W.heap.size = b := ⟨_, rfl⟩
  have hgW := blk_lt HR.out
  have HA : Aside0 (Below W.heap.size W (W.alloc (.cells #[.int .i64 x.f0, .int .i64 x.f1, .string x.f2, .string x.f3, .int .i64 x.f4] 59))) := ⟨below_alloc (Below.refl _ _) _⟩
  have HI : Aside0 (Itm (W.alloc (.cells #[.int .i64 x.f0, .int .i64 x.f1, .string x.f2, .string x.f3, .int .i64 x.f4] 59)) b x) := ⟨by rw [← hb]; exact heap_alloc_new _ _⟩
  have HR := Aside0.mk (rd_below HR.out HA.out)
  have HO : Aside0 (Kd.R k59 59 (W.alloc (.cells #[.int .i64 x.f0, .int .i64 x.f1, .string x.f2, .string x.f3, .int .i64 x.f4] 59)) w0.heap.size (fun j => j ≠ g ∧ j ≠ b) v out) := ⟨Kd.R_below (Kd.R_mono (Kd.R_bound HO.out) (fun k hk => ⟨hk.1, by have := hk.2.2.1; omega⟩)) HA.out⟩
  have HK := Aside0.mk (KeepBut.of_below HA.out g none)
  have HBo := HB
  have HB := Aside0.mk (below_step HB.out HA.out)
  have HB0 : Aside0 (w0.heap.size ≤ W.heap.size) := ⟨HBo.out.size⟩
  have HBG : Aside0 (W.heap.size ≤ b) := ⟨by omega⟩
  have hne1 : ¬ b = g := by omega
  have hne2 : ¬ g = b := by omega
  rw [hb]
  generalize W.alloc (.cells #[.int .i64 x.f0, .int .i64 x.f1, .string x.f2, .string x.f3, .int .i64 x.f4] 59) = W1 at HA HI HR HO HK HB ⊢
  clear HA hb
  go_wp2_with (first
    | (go_at_call 70; refine (next_calls w0 W1 g s p v HR.out HB.out HG.out HP.out HS.out).mono ?_; rintro e w2 ⟨rfl, hR2, hB2, hK2⟩; have HI := Aside0.mk ((hK2.2 b (blk_lt HI.out) hne1 (by simp)).trans HI.out); have HR := Aside0.mk hR2; have HO := Aside0.mk (Kd.R_keep HO.out hK2 (fun _ h => h.1)) ; have HK := Aside0.mk (HK.out.trans hK2 (.inl rfl)); have HB := Aside0.mk hB2; clear hR2 hB2 hK2; have hm1 : w2.cell? ⟨b, 1, none⟩ = some (.int .i64 x.f1) := (blk_cell HI.out 1).trans rfl; have hfm1 := blk_frozen HI.out 1)
    | (go_at_call 88; have hRx : Rd (w2.setCell ⟨b, 1, none⟩ (.int .i64 5)) g s (skipP s p) v := blk_far HR.out (p := ⟨b, 1, none⟩) hne2 _; have hIx : Itm (w2.setCell ⟨b, 1, none⟩ (.int .i64 5)) b (⟨x.f0, 5, x.f2, x.f3, x.f4⟩ : S59) := blk_set HI.out 1 _; have hBx := below_set (j := 1) (v := .int .i64 5) (g := b) HB.out (Nat.le_trans HB0.out HBG.out); have hOx := Kd.R_far HO.out (p := ⟨b, 1, none⟩) (fun _ h => h.2) (.int .i64 5); have hKx := keep_far HK.out (p := ⟨b, 1, none⟩) HBG.out (.int .i64 5); refine (text_calls k w0 _ g s (skipP s p) v t m _ hRx hBx HG.out HP1.out HS.out JT.out FR.out HM.out).mono ?_; rintro e w3 ⟨rfl, hR3, hB3, hK3⟩; have HI3 := Aside0.mk ((hK3.2 b (blk_lt hIx) hne1 (by simp)).trans hIx); have HR3 := Aside0.mk hR3; have HO3 := Aside0.mk (Kd.R_keep hOx hK3 (fun _ h => h.1)); have HK3 := Aside0.mk (hKx.trans hK3 (.inl rfl)); have HB3 := Aside0.mk hB3; clear hR3 hB3 hK3 hRx hIx hBx hOx hKx; have hfn := blk_frozen HI3.out 3; have hmn : w3.cell? ⟨b, 3, none⟩ = some (.string x.f3) := (blk_cell HI3.out 3).trans rfl))
  have HRa : Aside0 (Rd (w3.setCell ⟨b, 3, none⟩ (.string t)) g s (skipP s p + m) v) := ⟨blk_far HR3.out (p := ⟨b, 3, none⟩) hne2 _⟩
  have HIa : Aside0 (Itm (w3.setCell ⟨b, 3, none⟩ (.string t)) b (⟨x.f0, 5, x.f2, t, x.f4⟩ : S59)) := ⟨blk_set HI3.out 3 _⟩
  have HOa := Aside0.mk (Kd.R_far HO3.out (p := ⟨b, 3, none⟩) (fun _ h => h.2) (.string t))
  have HKa := Aside0.mk (keep_far HK3.out (p := ⟨b, 3, none⟩) HBG.out (.string t))
  have HBa := Aside0.mk (below_set (j := 3) (v := .string t) (g := b) HB3.out (Nat.le_trans HB0.out HBG.out))
  clear hfn hmn
  generalize w3.setCell ⟨b, 3, none⟩ (.string t) = w1 at HRa HIa HOa HKa HBa ⊢
  refine start_ (n := 11) (S := fun w' => w'.cell? ⟨g, 2, none⟩ = some v ∧ w'.heap[b]? = some (.cells #[.int .i64 ((⟨x.f0, 5, x.f2, t, x.f4⟩ : S59)).f0, .int .i64 ((⟨x.f0, 5, x.f2, t, x.f4⟩ : S59)).f1, .string ((⟨x.f0, 5, x.f2, t, x.f4⟩ : S59)).f2, .string ((⟨x.f0, 5, x.f2, t, x.f4⟩ : S59)).f3, .int .i64 ((⟨x.f0, 5, x.f2, t, x.f4⟩ : S59)).f4] 59 (0, 0))) (ds := [7, 10]) #[false, false, false, false, false, false, false, false, false, false, false] (by kernel_rfl) rfl rfl ⟨rd_cell2 HRa.out, HIa.out⟩ (fun hHeld => ?_)
  refine pure_ (i := 0) (N := some 79) (v := ?_) (a' := ?_) #[true, false, false, false, false, false, false, false, false, false, false] rfl rfl (by kernel_rfl) (fun _ _ _ h => h) (Or.inl ⟨by rfl, ?_⟩) ?_ ?_
  rotate_left
  · intro w'
    go_simp
    (try with_reducible rfl)
  rotate_left
  · simp only [Act.put, List.setIfInBounds_toArray, List.set_cons_zero, List.set_cons_succ]
    rfl
  refine pure_ (i := 1) (N := some 80) (v := ?_) (a' := ?_) #[true, true, false, false, false, false, false, false, false, false, false] rfl rfl (by kernel_rfl) (fun _ _ _ h => h) (Or.inl ⟨by rfl, ?_⟩) ?_ ?_
  rotate_left
  · intro w'
    go_simp
    (try with_reducible rfl)
  rotate_left
  · simp only [Act.put, List.setIfInBounds_toArray, List.set_cons_zero, List.set_cons_succ]
    rfl
  refine pure_ (i := 2) (N := some 81) (v := ?_) (a' := ?_) #[true, true, true, false, false, false, false, false, false, false, false] rfl rfl (by kernel_rfl) (fun _ _ _ h => h) (Or.inl ⟨by rfl, ?_⟩) ?_ ?_
  rotate_left
  · intro w'
    go_simp
    (try with_reducible rfl)
  rotate_left
  · simp only [Act.put, List.setIfInBounds_toArray, List.set_cons_zero, List.set_cons_succ]
    rfl
  refine pure_ (i := 3) (N := some 82) (v := ?_) (a' := ?_) #[true, true, true, true, false, false, false, false, false, false, false] rfl rfl (by kernel_rfl) (fun _ _ _ h => h) (Or.inl ⟨by rfl, ?_⟩) ?_ ?_
  rotate_left
  · intro w'
    go_simp
    (try with_reducible rfl)
  rotate_left
  · simp only [Act.put, List.setIfInBounds_toArray, List.set_cons_zero, List.set_cons_succ]
    rfl
  refine take_ (i := 4) (N := some 83) (v := ?_) (a' := ?_) #[true, true, true, true, true, false, false, false, false, false, false] rfl rfl (by kernel_rfl) (fun _ _ _ h => h) (Or.inl ⟨by rfl, ?_⟩) (by assumption) ?_ ?_
  rotate_left
  · intro w hSw
    obtain ⟨hl0, hl1⟩ := hSw
    go_simp
    (try with_reducible rfl)
  rotate_left
  · simp only [Act.put, List.setIfInBounds_toArray, List.set_cons_zero, List.set_cons_succ]
    rfl
  refine take_ (i := 5) (N := some 84) (v := ?_) (a' := ?_) #[true, true, true, true, true, true, false, false, false, false, false] rfl rfl (by kernel_rfl) (fun _ _ _ h => h) (Or.inl ⟨by rfl, ?_⟩) (by assumption) ?_ ?_
  rotate_left
  · intro w hSw
    obtain ⟨hl0, hl1⟩ := hSw
    have hm0 : w.cell? ⟨b, 0, none⟩ = some (.int .i64 ((⟨x.f0, 5, x.f2, t, x.f4⟩ : S59)).f0) := (blk_cell hl1 0).trans rfl
    have hm1 : w.cell? ⟨b, 1, none⟩ = some (.int .i64 ((⟨x.f0, 5, x.f2, t, x.f4⟩ : S59)).f1) := (blk_cell hl1 1).trans rfl
    have hm2 : w.cell? ⟨b, 2, none⟩ = some (.string ((⟨x.f0, 5, x.f2, t, x.f4⟩ : S59)).f2) := (blk_cell hl1 2).trans rfl
    have hm3 : w.cell? ⟨b, 3, none⟩ = some (.string ((⟨x.f0, 5, x.f2, t, x.f4⟩ : S59)).f3) := (blk_cell hl1 3).trans rfl
    have hm4 : w.cell? ⟨b, 4, none⟩ = some (.int .i64 ((⟨x.f0, 5, x.f2, t, x.f4⟩ : S59)).f4) := (blk_cell hl1 4).trans rfl
    clear hl1
    go_simp
    (try with_reducible rfl)
  rotate_left
  · simp only [Act.put, List.setIfInBounds_toArray, List.set_cons_zero, List.set_cons_succ]
    rfl
  refine one_ (i := 6) (N := some 85) #[true, true, true, true, true, true, true, false, false, false, false] rfl rfl (by kernel_rfl) (by decide) (fun K hK => ?_)
  refine event_step (W := w1.drew) (v := .slice (some ⟨w1.heap.size, 0, none⟩) 1 1) (w1 := w1.drew.alloc (.cells #[.int .i64 ((⟨x.f0, 5, x.f2, t, x.f4⟩ : S59)).f0, .int .i64 ((⟨x.f0, 5, x.f2, t, x.f4⟩ : S59)).f1, .string ((⟨x.f0, 5, x.f2, t, x.f4⟩ : S59)).f2, .string ((⟨x.f0, 5, x.f2, t, x.f4⟩ : S59)).f3, .int .i64 ((⟨x.f0, 5, x.f2, t, x.f4⟩ : S59)).f4] 59)) (by rfl) (by kernel_rfl) ?_
  refine hK.out _ _ ?_ (fun hHeld => ?_)
  · exact keep_push HRa.out HIa.out _
  clear hK K
  (try simp only [Act.put, List.setIfInBounds_toArray, List.set_cons_zero, List.set_cons_succ])
  refine last_ (i := 7) (N := some 86) #[true, true, true, true, true, true, true, true, false, false, false] rfl rfl (by kernel_rfl) (by decide) (fun K hK => ?_)
  refine push_append (.tmp 83) (.tmp 85) (by rfl) rfl rfl rfl HRa.out HIa.out HOa.out HBa.out HG.out HL.out ?_
  intro As N2 cc w2 hR2 hP2
  have hc2a := rd_cell2 hR2
  have hf2a := blk_frozen hR2 2
  have HPa := Aside0.mk hP2
  clear hR2 hP2
  refine hK.out _ _ ?_
  clear hK K
  (try simp only [Act.put, List.setIfInBounds_toArray, List.set_cons_zero, List.set_cons_succ])
  refine pure_ (i := 8) (N := some 87) (v := ?_) (a' := ?_) #[true, true, true, true, true, true, true, true, true, false, false] rfl rfl (by kernel_rfl) (fun _ _ _ h => h) (Or.inl ⟨by rfl, ?_⟩) ?_ ?_
  rotate_left
  · intro w'
    go_simp
    (try with_reducible rfl)
  rotate_left
  · simp only [Act.put, List.setIfInBounds_toArray, List.set_cons_zero, List.set_cons_succ]
    rfl
  refine pure_ (i := 9) (N := some 88) (v := ?_) (a' := ?_) #[true, true, true, true, true, true, true, true, true, true, false] rfl rfl (by kernel_rfl) (fun _ _ _ h => h) (Or.inl ⟨by rfl, ?_⟩) ?_ ?_
  rotate_left
  · intro w'
    go_simp
    (try with_reducible rfl)
  rotate_left
  · simp only [Act.put, List.setIfInBounds_toArray, List.set_cons_zero, List.set_cons_succ]
    rfl
  refine last_ (i := 10) (N := none) #[true, true, true, true, true, true, true, true, true, true, true] rfl rfl (by kernel_rfl) (by decide) (fun K hK => ?_)
  go_simp
  refine hK.out _ _ ?_
  clear hK K
  (try simp only [Act.put, List.setIfInBounds_toArray, List.set_cons_zero, List.set_cons_succ])
  refine done_ (by kernel_rfl) ?_
  go_wp2_with fail
  go_ret
  exact ⟨rfl, Left.pre HKa.out HPa.out⟩
set_option maxHeartbeats 8000000 in
set_option maxRecDepth 100000 in
theorem value_num_err_a (w0 W : World) (g : Nat) (s : ByteArray) (p : Nat) (v : Value) (out : List S59) (x : S59) (hR : Rd W g s p v) (hO : Out w0 W g v out) (hB : Below w0.heap.size w0 W) (hg : w0.heap.size ≤ g) (hp : p ≤ s.size) (hs : s.size ≤ 4611686018427387904) (hj : JTabs w0) (n er : Int) (q : Nat) (hn : nextC s p = 45) (hr : numberS s (skipP s p) = (n, er, q)) (he : er ≠ 0) :
    Calls Tryd.prog 69 #[.pointer (some ⟨g, 0, none⟩), itemV x] W fun e W' => e = .returned (.int .i64 er) ∧ Left w0 W W' g s q v out := by
  have HR := Aside0.mk hR
  have HO := Aside0.mk hO
  have HB := Aside0.mk hB
  have HG := Aside0.mk hg
  have HS := Aside0.mk hs
  have HP := Aside0.mk hp
  have JT := Aside0.mk hj
  have HP1 := Aside0.mk (skip_le s p hp)
  have c91 : ((nextC s p : Int) == 91) = false := beq_eq_false_iff_ne.mpr (by omega)
  have c123 : ((nextC s p : Int) == 123) = false := beq_eq_false_iff_ne.mpr (by omega)
  have c34 : ((nextC s p : Int) == 34) = false := beq_eq_false_iff_ne.mpr (by omega)
  have c45 : ((nextC s p : Int) == 45) = true := beq_iff_eq.mpr (by omega)
  have FR := Aside0.mk hr
  have n1 : (er == 0) = false := beq_eq_false_iff_ne.mpr he
  have n2 : (er != 0) = true := bne_iff_ne.mpr he
  clear hR hB hg hs hO hp hj hr hn he
  unfold itemV
  go_enter Tryd.func69, Tryd.ntmps69
  go_wp2_with fail
  obtain ⟨b, hb⟩ : ∃ b, W.heap.size = b := ⟨_, rfl⟩
  have hgW := blk_lt HR.out
  have HA : Aside0 (Below W.heap.size W (W.alloc (.cells #[.int .i64 x.f0, .int .i64 x.f1, .string x.f2, .string x.f3, .int .i64 x.f4] 59))) := ⟨below_alloc (Below.refl _ _) _⟩
  have HI : Aside0 (Itm (W.alloc (.cells #[.int .i64 x.f0, .int .i64 x.f1, .string x.f2, .string x.f3, .int .i64 x.f4] 59)) b x) := ⟨by rw [← hb]; exact heap_alloc_new _ _⟩
  have HR := Aside0.mk (rd_below HR.out HA.out)
  have HO : Aside0 (Kd.R k59 59 (W.alloc (.cells #[.int .i64 x.f0, .int .i64 x.f1, .string x.f2, .string x.f3, .int .i64 x.f4] 59)) w0.heap.size (fun j => j ≠ g ∧ j ≠ b) v out) := ⟨Kd.R_below (Kd.R_mono (Kd.R_bound HO.out) (fun k hk => ⟨hk.1, by have := hk.2.2.1; omega⟩)) HA.out⟩
  have HK := Aside0.mk (KeepBut.of_below HA.out g none)
  have HBo := HB
  have HB := Aside0.mk (below_step HB.out HA.out)
  have HB0 : Aside0 (w0.heap.size ≤ W.heap.size) := ⟨HBo.out.size⟩
  have HBG : Aside0 (W.heap.size ≤ b) := ⟨by omega⟩
  have hne1 : ¬ b = g := by omega
  have hne2 : ¬ g = b := by omega
  rw [hb]
  generalize W.alloc (.cells #[.int .i64 x.f0, .int .i64 x.f1, .string x.f2, .string x.f3, .int .i64 x.f4] 59) = W1 at HA HI HR HO HK HB ⊢
  clear HA hb
  go_wp2_with (first
    | (go_at_call 70; refine (next_calls w0 W1 g s p v HR.out HB.out HG.out HP.out HS.out).mono ?_; rintro e w2 ⟨rfl, hR2, hB2, hK2⟩; have HI := Aside0.mk ((hK2.2 b (blk_lt HI.out) hne1 (by simp)).trans HI.out); have HR := Aside0.mk hR2; have HO := Aside0.mk (Kd.R_keep HO.out hK2 (fun _ h => h.1)) ; have HK := Aside0.mk (HK.out.trans hK2 (.inl rfl)); have HB := Aside0.mk hB2; clear hR2 hB2 hK2; have hm1 : w2.cell? ⟨b, 1, none⟩ = some (.int .i64 x.f1) := (blk_cell HI.out 1).trans rfl; have hfm1 := blk_frozen HI.out 1)
    | (go_at_call 89; have hRx : Rd (w2.setCell ⟨b, 1, none⟩ (.int .i64 4)) g s (skipP s p) v := blk_far HR.out (p := ⟨b, 1, none⟩) hne2 _; have hIx : Itm (w2.setCell ⟨b, 1, none⟩ (.int .i64 4)) b (⟨x.f0, 4, x.f2, x.f3, x.f4⟩ : S59) := blk_set HI.out 1 _; have hBx := below_set (j := 1) (v := .int .i64 4) (g := b) HB.out (Nat.le_trans HB0.out HBG.out); have hOx := Kd.R_far HO.out (p := ⟨b, 1, none⟩) (fun _ h => h.2) (.int .i64 4); have hKx := keep_far HK.out (p := ⟨b, 1, none⟩) HBG.out (.int .i64 4); refine (number_calls w0 _ g s (skipP s p) v hRx hBx HG.out HP1.out HS.out JT.out).mono ?_; rw [FR.out]; rintro e w3 ⟨rfl, hR3, hB3, hK3⟩; have HI3 := Aside0.mk ((hK3.2 b (blk_lt hIx) hne1 (by simp)).trans hIx); have HR3 := Aside0.mk hR3; have HO3 := Aside0.mk (Kd.R_keep hOx hK3 (fun _ h => h.1)); have HK3 := Aside0.mk (hKx.trans hK3 (.inl rfl)); have HB3 := Aside0.mk hB3; clear hR3 hB3 hK3 hRx hIx hBx hOx hKx; have hfn := blk_frozen HI3.out 4; have hmn : w3.cell? ⟨b, 4, none⟩ = some (.int .i64 x.f4) := (blk_cell HI3.out 4).trans rfl))
  go_ret
  exact ⟨rfl, ⟨v, blk_far HR3.out (p := ⟨b, 4, none⟩) hne2 _, Kd.R_mono (Kd.R_far HO3.out (p := ⟨b, 4, none⟩) (fun _ h => h.2) _) (fun _ h => h.1), .inl rfl⟩, below_set HB3.out (Nat.le_trans HB0.out HBG.out), keep_wide (keep_far HK3.out (p := ⟨b, 4, none⟩) HBG.out _)⟩
set_option maxHeartbeats 8000000 in
set_option maxRecDepth 100000 in
theorem value_num_a (w0 W : World) (g : Nat) (s : ByteArray) (p : Nat) (v : Value) (out : List S59) (x : S59) (hR : Rd W g s p v) (hO : Out w0 W g v out) (hB : Below w0.heap.size w0 W) (hg : w0.heap.size ≤ g) (hp : p ≤ s.size) (hs : s.size ≤ 4611686018427387904) (hj : JTabs w0) (hl : (out.length + 1) * 56 ≤ 140737488355328) (n : Int) (q : Nat) (hn : nextC s p = 45) (hr : numberS s (skipP s p) = (n, 0, q)) :
    Calls Tryd.prog 69 #[.pointer (some ⟨g, 0, none⟩), itemV x] W fun e W' => e = .returned (.int .i64 0) ∧ Left w0 W W' g s q v (out ++ [(⟨x.f0, 4, x.f2, x.f3, n⟩ : S59)]) := by
  have HR := Aside0.mk hR
  have HO := Aside0.mk hO
  have HB := Aside0.mk hB
  have HG := Aside0.mk hg
  have HS := Aside0.mk hs
  have HP := Aside0.mk hp
  have JT := Aside0.mk hj
  have HP1 := Aside0.mk (skip_le s p hp)
  have HL := Aside0.mk hl
  have c91 : ((nextC s p : Int) == 91) = false := beq_eq_false_iff_ne.mpr (by omega)
  have c123 : ((nextC s p : Int) == 123) = false := beq_eq_false_iff_ne.mpr (by omega)
  have c34 : ((nextC s p : Int) == 34) = false := beq_eq_false_iff_ne.mpr (by omega)
  have c45 : ((nextC s p : Int) == 45) = true := beq_iff_eq.mpr (by omega)
  have FR := Aside0.mk hr
  clear hR hB hg hs hO hp hj hl hr hn
  unfold itemV
  go_enter Tryd.func69, Tryd.ntmps69
  go_wp2_with fail
  obtain ⟨b, hb⟩ : ∃ b, W.heap.size = b := ⟨_, rfl⟩
  have hgW := blk_lt HR.out
  have HA : Aside0 (Below W.heap.size W (W.alloc (.cells #[.int .i64 x.f0, .int .i64 x.f1, .string x.f2, .string x.f3, .int .i64 x.f4] 59))) := ⟨below_alloc (Below.refl _ _) _⟩
  have HI : Aside0 (Itm (W.alloc (.cells #[.int .i64 x.f0, .int .i64 x.f1, .string x.f2, .string x.f3, .int .i64 x.f4] 59)) b x) := ⟨by rw [← hb]; exact heap_alloc_new _ _⟩
  have HR := Aside0.mk (rd_below HR.out HA.out)
  have HO : Aside0 (Kd.R k59 59 (W.alloc (.cells #[.int .i64 x.f0, .int .i64 x.f1, .string x.f2, .string x.f3, .int .i64 x.f4] 59)) w0.heap.size (fun j => j ≠ g ∧ j ≠ b) v out) := ⟨Kd.R_below (Kd.R_mono (Kd.R_bound HO.out) (fun k hk => ⟨hk.1, by have := hk.2.2.1; omega⟩)) HA.out⟩
  have HK := Aside0.mk (KeepBut.of_below HA.out g none)
  have HBo := HB
  have HB := Aside0.mk (below_step HB.out HA.out)
  have HB0 : Aside0 (w0.heap.size ≤ W.heap.size) := ⟨HBo.out.size⟩
  have HBG : Aside0 (W.heap.size ≤ b) := ⟨by omega⟩
  have hne1 : ¬ b = g := by omega
  have hne2 : ¬ g = b := by omega
  rw [hb]
  generalize W.alloc (.cells #[.int .i64 x.f0, .int .i64 x.f1, .string x.f2, .string x.f3, .int .i64 x.f4] 59) = W1 at HA HI HR HO HK HB ⊢
  clear HA hb
  go_wp2_with (first
    | (go_at_call 70; refine (next_calls w0 W1 g s p v HR.out HB.out HG.out HP.out HS.out).mono ?_; rintro e w2 ⟨rfl, hR2, hB2, hK2⟩; have HI := Aside0.mk ((hK2.2 b (blk_lt HI.out) hne1 (by simp)).trans HI.out); have HR := Aside0.mk hR2; have HO := Aside0.mk (Kd.R_keep HO.out hK2 (fun _ h => h.1)) ; have HK := Aside0.mk (HK.out.trans hK2 (.inl rfl)); have HB := Aside0.mk hB2; clear hR2 hB2 hK2; have hm1 : w2.cell? ⟨b, 1, none⟩ = some (.int .i64 x.f1) := (blk_cell HI.out 1).trans rfl; have hfm1 := blk_frozen HI.out 1)
    | (go_at_call 89; have hRx : Rd (w2.setCell ⟨b, 1, none⟩ (.int .i64 4)) g s (skipP s p) v := blk_far HR.out (p := ⟨b, 1, none⟩) hne2 _; have hIx : Itm (w2.setCell ⟨b, 1, none⟩ (.int .i64 4)) b (⟨x.f0, 4, x.f2, x.f3, x.f4⟩ : S59) := blk_set HI.out 1 _; have hBx := below_set (j := 1) (v := .int .i64 4) (g := b) HB.out (Nat.le_trans HB0.out HBG.out); have hOx := Kd.R_far HO.out (p := ⟨b, 1, none⟩) (fun _ h => h.2) (.int .i64 4); have hKx := keep_far HK.out (p := ⟨b, 1, none⟩) HBG.out (.int .i64 4); refine (number_calls w0 _ g s (skipP s p) v hRx hBx HG.out HP1.out HS.out JT.out).mono ?_; rw [FR.out]; rintro e w3 ⟨rfl, hR3, hB3, hK3⟩; have HI3 := Aside0.mk ((hK3.2 b (blk_lt hIx) hne1 (by simp)).trans hIx); have HR3 := Aside0.mk hR3; have HO3 := Aside0.mk (Kd.R_keep hOx hK3 (fun _ h => h.1)); have HK3 := Aside0.mk (hKx.trans hK3 (.inl rfl)); have HB3 := Aside0.mk hB3; clear hR3 hB3 hK3 hRx hIx hBx hOx hKx; have hfn := blk_frozen HI3.out 4; have hmn : w3.cell? ⟨b, 4, none⟩ = some (.int .i64 x.f4) := (blk_cell HI3.out 4).trans rfl))
  have HRa : Aside0 (Rd (w3.setCell ⟨b, 4, none⟩ (.int .i64 n)) g s q v) := ⟨blk_far HR3.out (p := ⟨b, 4, none⟩) hne2 _⟩
  have HIa : Aside0 (Itm (w3.setCell ⟨b, 4, none⟩ (.int .i64 n)) b (⟨x.f0, 4, x.f2, x.f3, n⟩ : S59)) := ⟨blk_set HI3.out 4 _⟩
  have HOa := Aside0.mk (Kd.R_far HO3.out (p := ⟨b, 4, none⟩) (fun _ h => h.2) (.int .i64 n))
  have HKa := Aside0.mk (keep_far HK3.out (p := ⟨b, 4, none⟩) HBG.out (.int .i64 n))
  have HBa := Aside0.mk (below_set (j := 4) (v := .int .i64 n) (g := b) HB3.out (Nat.le_trans HB0.out HBG.out))
  clear hfn hmn
  generalize w3.setCell ⟨b, 4, none⟩ (.int .i64 n) = w1 at HRa HIa HOa HKa HBa ⊢
  refine start_ (n := 11) (S := fun w' => w'.cell? ⟨g, 2, none⟩ = some v ∧ w'.heap[b]? = some (.cells #[.int .i64 ((⟨x.f0, 4, x.f2, x.f3, n⟩ : S59)).f0, .int .i64 ((⟨x.f0, 4, x.f2, x.f3, n⟩ : S59)).f1, .string ((⟨x.f0, 4, x.f2, x.f3, n⟩ : S59)).f2, .string ((⟨x.f0, 4, x.f2, x.f3, n⟩ : S59)).f3, .int .i64 ((⟨x.f0, 4, x.f2, x.f3, n⟩ : S59)).f4] 59 (0, 0))) (ds := [7, 10]) #[false, false, false, false, false, false, false, false, false, false, false] (by kernel_rfl) rfl rfl ⟨rd_cell2 HRa.out, HIa.out⟩ (fun hHeld => ?_)
  refine pure_ (i := 0) (N := some 79) (v := ?_) (a' := ?_) #[true, false, false, false, false, false, false, false, false, false, false] rfl rfl (by kernel_rfl) (fun _ _ _ h => h) (Or.inl ⟨by rfl, ?_⟩) ?_ ?_
  rotate_left
  · intro w'
    go_simp
    (try with_reducible rfl)
  rotate_left
  · simp only [Act.put, List.setIfInBounds_toArray, List.set_cons_zero, List.set_cons_succ]
    rfl
  refine pure_ (i := 1) (N := some 80) (v := ?_) (a' := ?_) #[true, true, false, false, false, false, false, false, false, false, false] rfl rfl (by kernel_rfl) (fun _ _ _ h => h) (Or.inl ⟨by rfl, ?_⟩) ?_ ?_
  rotate_left
  · intro w'
    go_simp
    (try with_reducible rfl)
  rotate_left
  · simp only [Act.put, List.setIfInBounds_toArray, List.set_cons_zero, List.set_cons_succ]
    rfl
  refine pure_ (i := 2) (N := some 81) (v := ?_) (a' := ?_) #[true, true, true, false, false, false, false, false, false, false, false] rfl rfl (by kernel_rfl) (fun _ _ _ h => h) (Or.inl ⟨by rfl, ?_⟩) ?_ ?_
  rotate_left
  · intro w'
    go_simp
    (try with_reducible rfl)
  rotate_left
  · simp only [Act.put, List.setIfInBounds_toArray, List.set_cons_zero, List.set_cons_succ]
    rfl
  refine pure_ (i := 3) (N := some 82) (v := ?_) (a' := ?_) #[true, true, true, true, false, false, false, false, false, false, false] rfl rfl (by kernel_rfl) (fun _ _ _ h => h) (Or.inl ⟨by rfl, ?_⟩) ?_ ?_
  rotate_left
  · intro w'
    go_simp
    (try with_reducible rfl)
  rotate_left
  · simp only [Act.put, List.setIfInBounds_toArray, List.set_cons_zero, List.set_cons_succ]
    rfl
  refine take_ (i := 4) (N := some 83) (v := ?_) (a' := ?_) #[true, true, true, true, true, false, false, false, false, false, false] rfl rfl (by kernel_rfl) (fun _ _ _ h => h) (Or.inl ⟨by rfl, ?_⟩) (by assumption) ?_ ?_
  rotate_left
  · intro w hSw
    obtain ⟨hl0, hl1⟩ := hSw
    go_simp
    (try with_reducible rfl)
  rotate_left
  · simp only [Act.put, List.setIfInBounds_toArray, List.set_cons_zero, List.set_cons_succ]
    rfl
  refine take_ (i := 5) (N := some 84) (v := ?_) (a' := ?_) #[true, true, true, true, true, true, false, false, false, false, false] rfl rfl (by kernel_rfl) (fun _ _ _ h => h) (Or.inl ⟨by rfl, ?_⟩) (by assumption) ?_ ?_
  rotate_left
  · intro w hSw
    obtain ⟨hl0, hl1⟩ := hSw
    have hm0 : w.cell? ⟨b, 0, none⟩ = some (.int .i64 ((⟨x.f0, 4, x.f2, x.f3, n⟩ : S59)).f0) := (blk_cell hl1 0).trans rfl
    have hm1 : w.cell? ⟨b, 1, none⟩ = some (.int .i64 ((⟨x.f0, 4, x.f2, x.f3, n⟩ : S59)).f1) := (blk_cell hl1 1).trans rfl
    have hm2 : w.cell? ⟨b, 2, none⟩ = some (.string ((⟨x.f0, 4, x.f2, x.f3, n⟩ : S59)).f2) := (blk_cell hl1 2).trans rfl
    have hm3 : w.cell? ⟨b, 3, none⟩ = some (.string ((⟨x.f0, 4, x.f2, x.f3, n⟩ : S59)).f3) := (blk_cell hl1 3).trans rfl
    have hm4 : w.cell? ⟨b, 4, none⟩ = some (.int .i64 ((⟨x.f0, 4, x.f2, x.f3, n⟩ : S59)).f4) := (blk_cell hl1 4).trans rfl
    clear hl1
    go_simp
    (try with_reducible rfl)
  rotate_left
  · simp only [Act.put, List.setIfInBounds_toArray, List.set_cons_zero, List.set_cons_succ]
    rfl
  refine one_ (i := 6) (N := some 85) #[true, true, true, true, true, true, true, false, false, false, false] rfl rfl (by kernel_rfl) (by decide) (fun K hK => ?_)
  refine event_step (W := w1.drew) (v := .slice (some ⟨w1.heap.size, 0, none⟩) 1 1) (w1 := w1.drew.alloc (.cells #[.int .i64 ((⟨x.f0, 4, x.f2, x.f3, n⟩ : S59)).f0, .int .i64 ((⟨x.f0, 4, x.f2, x.f3, n⟩ : S59)).f1, .string ((⟨x.f0, 4, x.f2, x.f3, n⟩ : S59)).f2, .string ((⟨x.f0, 4, x.f2, x.f3, n⟩ : S59)).f3, .int .i64 ((⟨x.f0, 4, x.f2, x.f3, n⟩ : S59)).f4] 59)) (by rfl) (by kernel_rfl) ?_
  refine hK.out _ _ ?_ (fun hHeld => ?_)
  · exact keep_push HRa.out HIa.out _
  clear hK K
  (try simp only [Act.put, List.setIfInBounds_toArray, List.set_cons_zero, List.set_cons_succ])
  refine last_ (i := 7) (N := some 86) #[true, true, true, true, true, true, true, true, false, false, false] rfl rfl (by kernel_rfl) (by decide) (fun K hK => ?_)
  refine push_append (.tmp 83) (.tmp 85) (by rfl) rfl rfl rfl HRa.out HIa.out HOa.out HBa.out HG.out HL.out ?_
  intro As N2 cc w2 hR2 hP2
  have hc2a := rd_cell2 hR2
  have hf2a := blk_frozen hR2 2
  have HPa := Aside0.mk hP2
  clear hR2 hP2
  refine hK.out _ _ ?_
  clear hK K
  (try simp only [Act.put, List.setIfInBounds_toArray, List.set_cons_zero, List.set_cons_succ])
  refine pure_ (i := 8) (N := some 87) (v := ?_) (a' := ?_) #[true, true, true, true, true, true, true, true, true, false, false] rfl rfl (by kernel_rfl) (fun _ _ _ h => h) (Or.inl ⟨by rfl, ?_⟩) ?_ ?_
  rotate_left
  · intro w'
    go_simp
    (try with_reducible rfl)
  rotate_left
  · simp only [Act.put, List.setIfInBounds_toArray, List.set_cons_zero, List.set_cons_succ]
    rfl
  refine pure_ (i := 9) (N := some 88) (v := ?_) (a' := ?_) #[true, true, true, true, true, true, true, true, true, true, false] rfl rfl (by kernel_rfl) (fun _ _ _ h => h) (Or.inl ⟨by rfl, ?_⟩) ?_ ?_
  rotate_left
  · intro w'
    go_simp
    (try with_reducible rfl)
  rotate_left
  · simp only [Act.put, List.setIfInBounds_toArray, List.set_cons_zero, List.set_cons_succ]
    rfl
  refine last_ (i := 10) (N := none) #[true, true, true, true, true, true, true, true, true, true, true] rfl rfl (by kernel_rfl) (by decide) (fun K hK => ?_)
  go_simp
  refine hK.out _ _ ?_
  clear hK K
  (try simp only [Act.put, List.setIfInBounds_toArray, List.set_cons_zero, List.set_cons_succ])
  refine done_ (by kernel_rfl) ?_
  go_wp2_with fail
  go_ret
  exact ⟨rfl, Left.pre HKa.out HPa.out⟩
set_option maxHeartbeats 8000000 in
set_option maxRecDepth 100000 in
theorem value_num_err_b (w0 W : World) (g : Nat) (s : ByteArray) (p : Nat) (v : Value) (out : List S59) (x : S59) (hR : Rd W g s p v) (hO : Out w0 W g v out) (hB : Below w0.heap.size w0 W) (hg : w0.heap.size ≤ g) (hp : p ≤ s.size) (hs : s.size ≤ 4611686018427387904) (hj : JTabs w0) (n er : Int) (q : Nat) (hn : 48 ≤ nextC s p ∧ nextC s p ≤ 57) (hr : numberS s (skipP s p) = (n, er, q)) (he : er ≠ 0) :
    Calls Tryd.prog 69 #[.pointer (some ⟨g, 0, none⟩), itemV x] W fun e W' => e = .returned (.int .i64 er) ∧ Left w0 W W' g s q v out := by
  have HR := Aside0.mk hR
  have HO := Aside0.mk hO
  have HB := Aside0.mk hB
  have HG := Aside0.mk hg
  have HS := Aside0.mk hs
  have HP := Aside0.mk hp
  have JT := Aside0.mk hj
  have HP1 := Aside0.mk (skip_le s p hp)
  have c91 : ((nextC s p : Int) == 91) = false := beq_eq_false_iff_ne.mpr (by omega)
  have c123 : ((nextC s p : Int) == 123) = false := beq_eq_false_iff_ne.mpr (by omega)
  have c34 : ((nextC s p : Int) == 34) = false := beq_eq_false_iff_ne.mpr (by omega)
  have c45 : ((nextC s p : Int) == 45) = false := beq_eq_false_iff_ne.mpr (by omega)
  have d48 : decide (48 ≤ (nextC s p : Int)) = true := decide_eq_true (by omega)
  have d57 : decide ((nextC s p : Int) ≤ 57) = true := decide_eq_true (by omega)
  have FR := Aside0.mk hr
  have n1 : (er == 0) = false := beq_eq_false_iff_ne.mpr he
  have n2 : (er != 0) = true := bne_iff_ne.mpr he
  clear hR hB hg hs hO hp hj hr hn he
  unfold itemV
  go_enter Tryd.func69, Tryd.ntmps69
  go_wp2_with fail
  obtain ⟨b, hb⟩ : ∃ b, W.heap.size = b := ⟨_, rfl⟩
  have hgW := blk_lt HR.out
  have HA : Aside0 (Below W.heap.size W (W.alloc (.cells #[.int .i64 x.f0, .int .i64 x.f1, .string x.f2, .string x.f3, .int .i64 x.f4] 59))) := ⟨below_alloc (Below.refl _ _) _⟩
  have HI : Aside0 (Itm (W.alloc (.cells #[.int .i64 x.f0, .int .i64 x.f1, .string x.f2, .string x.f3, .int .i64 x.f4] 59)) b x) := ⟨by rw [← hb]; exact heap_alloc_new _ _⟩
  have HR := Aside0.mk (rd_below HR.out HA.out)
  have HO : Aside0 (Kd.R k59 59 (W.alloc (.cells #[.int .i64 x.f0, .int .i64 x.f1, .string x.f2, .string x.f3, .int .i64 x.f4] 59)) w0.heap.size (fun j => j ≠ g ∧ j ≠ b) v out) := ⟨Kd.R_below (Kd.R_mono (Kd.R_bound HO.out) (fun k hk => ⟨hk.1, by have := hk.2.2.1; omega⟩)) HA.out⟩
  have HK := Aside0.mk (KeepBut.of_below HA.out g none)
  have HBo := HB
  have HB := Aside0.mk (below_step HB.out HA.out)
  have HB0 : Aside0 (w0.heap.size ≤ W.heap.size) := ⟨HBo.out.size⟩
  have HBG : Aside0 (W.heap.size ≤ b) := ⟨by omega⟩
  have hne1 : ¬ b = g := by omega
  have hne2 : ¬ g = b := by omega
  rw [hb]
  generalize W.alloc (.cells #[.int .i64 x.f0, .int .i64 x.f1, .string x.f2, .string x.f3, .int .i64 x.f4] 59) = W1 at HA HI HR HO HK HB ⊢
  clear HA hb
  go_wp2_with (first
    | (go_at_call 70; refine (next_calls w0 W1 g s p v HR.out HB.out HG.out HP.out HS.out).mono ?_; rintro e w2 ⟨rfl, hR2, hB2, hK2⟩; have HI := Aside0.mk ((hK2.2 b (blk_lt HI.out) hne1 (by simp)).trans HI.out); have HR := Aside0.mk hR2; have HO := Aside0.mk (Kd.R_keep HO.out hK2 (fun _ h => h.1)) ; have HK := Aside0.mk (HK.out.trans hK2 (.inl rfl)); have HB := Aside0.mk hB2; clear hR2 hB2 hK2; have hm1 : w2.cell? ⟨b, 1, none⟩ = some (.int .i64 x.f1) := (blk_cell HI.out 1).trans rfl; have hfm1 := blk_frozen HI.out 1)
    | (go_at_call 89; have hRx : Rd (w2.setCell ⟨b, 1, none⟩ (.int .i64 4)) g s (skipP s p) v := blk_far HR.out (p := ⟨b, 1, none⟩) hne2 _; have hIx : Itm (w2.setCell ⟨b, 1, none⟩ (.int .i64 4)) b (⟨x.f0, 4, x.f2, x.f3, x.f4⟩ : S59) := blk_set HI.out 1 _; have hBx := below_set (j := 1) (v := .int .i64 4) (g := b) HB.out (Nat.le_trans HB0.out HBG.out); have hOx := Kd.R_far HO.out (p := ⟨b, 1, none⟩) (fun _ h => h.2) (.int .i64 4); have hKx := keep_far HK.out (p := ⟨b, 1, none⟩) HBG.out (.int .i64 4); refine (number_calls w0 _ g s (skipP s p) v hRx hBx HG.out HP1.out HS.out JT.out).mono ?_; rw [FR.out]; rintro e w3 ⟨rfl, hR3, hB3, hK3⟩; have HI3 := Aside0.mk ((hK3.2 b (blk_lt hIx) hne1 (by simp)).trans hIx); have HR3 := Aside0.mk hR3; have HO3 := Aside0.mk (Kd.R_keep hOx hK3 (fun _ h => h.1)); have HK3 := Aside0.mk (hKx.trans hK3 (.inl rfl)); have HB3 := Aside0.mk hB3; clear hR3 hB3 hK3 hRx hIx hBx hOx hKx; have hfn := blk_frozen HI3.out 4; have hmn : w3.cell? ⟨b, 4, none⟩ = some (.int .i64 x.f4) := (blk_cell HI3.out 4).trans rfl))
  go_ret
  exact ⟨rfl, ⟨v, blk_far HR3.out (p := ⟨b, 4, none⟩) hne2 _, Kd.R_mono (Kd.R_far HO3.out (p := ⟨b, 4, none⟩) (fun _ h => h.2) _) (fun _ h => h.1), .inl rfl⟩, below_set HB3.out (Nat.le_trans HB0.out HBG.out), keep_wide (keep_far HK3.out (p := ⟨b, 4, none⟩) HBG.out _)⟩
set_option maxHeartbeats 8000000 in
set_option maxRecDepth 100000 in
theorem value_num_b (w0 W : World) (g : Nat) (s : ByteArray) (p : Nat) (v : Value) (out : List S59) (x : S59) (hR : Rd W g s p v) (hO : Out w0 W g v out) (hB : Below w0.heap.size w0 W) (hg : w0.heap.size ≤ g) (hp : p ≤ s.size) (hs : s.size ≤ 4611686018427387904) (hj : JTabs w0) (hl : (out.length + 1) * 56 ≤ 140737488355328) (n : Int) (q : Nat) (hn : 48 ≤ nextC s p ∧ nextC s p ≤ 57) (hr : numberS s (skipP s p) = (n, 0, q)) :
    Calls Tryd.prog 69 #[.pointer (some ⟨g, 0, none⟩), itemV x] W fun e W' => e = .returned (.int .i64 0) ∧ Left w0 W W' g s q v (out ++ [(⟨x.f0, 4, x.f2, x.f3, n⟩ : S59)]) := by
  have HR := Aside0.mk hR
  have HO := Aside0.mk hO
  have HB := Aside0.mk hB
  have HG := Aside0.mk hg
  have HS := Aside0.mk hs
  have HP := Aside0.mk hp
  have JT := Aside0.mk hj
  have HP1 := Aside0.mk (skip_le s p hp)
  have HL := Aside0.mk hl
  have c91 : ((nextC s p : Int) == 91) = false := beq_eq_false_iff_ne.mpr (by omega)
  have c123 : ((nextC s p : Int) == 123) = false := beq_eq_false_iff_ne.mpr (by omega)
  have c34 : ((nextC s p : Int) == 34) = false := beq_eq_false_iff_ne.mpr (by omega)
  have c45 : ((nextC s p : Int) == 45) = false := beq_eq_false_iff_ne.mpr (by omega)
  have d48 : decide (48 ≤ (nextC s p : Int)) = true := decide_eq_true (by omega)
  have d57 : decide ((nextC s p : Int) ≤ 57) = true := decide_eq_true (by omega)
  have FR := Aside0.mk hr
  clear hR hB hg hs hO hp hj hl hr hn
  unfold itemV
  go_enter Tryd.func69, Tryd.ntmps69
  go_wp2_with fail
  obtain ⟨b, hb⟩ : ∃ b, W.heap.size = b := ⟨_, rfl⟩
  have hgW := blk_lt HR.out
  have HA : Aside0 (Below W.heap.size W (W.alloc (.cells #[.int .i64 x.f0, .int .i64 x.f1, .string x.f2, .string x.f3, .int .i64 x.f4] 59))) := ⟨below_alloc (Below.refl _ _) _⟩
  have HI : Aside0 (Itm (W.alloc (.cells #[.int .i64 x.f0, .int .i64 x.f1, .string x.f2, .string x.f3, .int .i64 x.f4] 59)) b x) := ⟨by rw [← hb]; exact heap_alloc_new _ _⟩
  have HR := Aside0.mk (rd_below HR.out HA.out)
  have HO : Aside0 (Kd.R k59 59 (W.alloc (.cells #[.int .i64 x.f0, .int .i64 x.f1, .string x.f2, .string x.f3, .int .i64 x.f4] 59)) w0.heap.size (fun j => j ≠ g ∧ j ≠ b) v out) := ⟨Kd.R_below (Kd.R_mono (Kd.R_bound HO.out) (fun k hk => ⟨hk.1, by have := hk.2.2.1; omega⟩)) HA.out⟩
  have HK := Aside0.mk (KeepBut.of_below HA.out g none)
  have HBo := HB
  have HB := Aside0.mk (below_step HB.out HA.out)
  have HB0 : Aside0 (w0.heap.size ≤ W.heap.size) := ⟨HBo.out.size⟩
  have HBG : Aside0 (W.heap.size ≤ b) := ⟨by omega⟩
  have hne1 : ¬ b = g := by omega
  have hne2 : ¬ g = b := by omega
  rw [hb]
  generalize W.alloc (.cells #[.int .i64 x.f0, .int .i64 x.f1, .string x.f2, .string x.f3, .int .i64 x.f4] 59) = W1 at HA HI HR HO HK HB ⊢
  clear HA hb
  go_wp2_with (first
    | (go_at_call 70; refine (next_calls w0 W1 g s p v HR.out HB.out HG.out HP.out HS.out).mono ?_; rintro e w2 ⟨rfl, hR2, hB2, hK2⟩; have HI := Aside0.mk ((hK2.2 b (blk_lt HI.out) hne1 (by simp)).trans HI.out); have HR := Aside0.mk hR2; have HO := Aside0.mk (Kd.R_keep HO.out hK2 (fun _ h => h.1)) ; have HK := Aside0.mk (HK.out.trans hK2 (.inl rfl)); have HB := Aside0.mk hB2; clear hR2 hB2 hK2; have hm1 : w2.cell? ⟨b, 1, none⟩ = some (.int .i64 x.f1) := (blk_cell HI.out 1).trans rfl; have hfm1 := blk_frozen HI.out 1)
    | (go_at_call 89; have hRx : Rd (w2.setCell ⟨b, 1, none⟩ (.int .i64 4)) g s (skipP s p) v := blk_far HR.out (p := ⟨b, 1, none⟩) hne2 _; have hIx : Itm (w2.setCell ⟨b, 1, none⟩ (.int .i64 4)) b (⟨x.f0, 4, x.f2, x.f3, x.f4⟩ : S59) := blk_set HI.out 1 _; have hBx := below_set (j := 1) (v := .int .i64 4) (g := b) HB.out (Nat.le_trans HB0.out HBG.out); have hOx := Kd.R_far HO.out (p := ⟨b, 1, none⟩) (fun _ h => h.2) (.int .i64 4); have hKx := keep_far HK.out (p := ⟨b, 1, none⟩) HBG.out (.int .i64 4); refine (number_calls w0 _ g s (skipP s p) v hRx hBx HG.out HP1.out HS.out JT.out).mono ?_; rw [FR.out]; rintro e w3 ⟨rfl, hR3, hB3, hK3⟩; have HI3 := Aside0.mk ((hK3.2 b (blk_lt hIx) hne1 (by simp)).trans hIx); have HR3 := Aside0.mk hR3; have HO3 := Aside0.mk (Kd.R_keep hOx hK3 (fun _ h => h.1)); have HK3 := Aside0.mk (hKx.trans hK3 (.inl rfl)); have HB3 := Aside0.mk hB3; clear hR3 hB3 hK3 hRx hIx hBx hOx hKx; have hfn := blk_frozen HI3.out 4; have hmn : w3.cell? ⟨b, 4, none⟩ = some (.int .i64 x.f4) := (blk_cell HI3.out 4).trans rfl))
  have HRa : Aside0 (Rd (w3.setCell ⟨b, 4, none⟩ (.int .i64 n)) g s q v) := ⟨blk_far HR3.out (p := ⟨b, 4, none⟩) hne2 _⟩
  have HIa : Aside0 (Itm (w3.setCell ⟨b, 4, none⟩ (.int .i64 n)) b (⟨x.f0, 4, x.f2, x.f3, n⟩ : S59)) := ⟨blk_set HI3.out 4 _⟩
  have HOa := Aside0.mk (Kd.R_far HO3.out (p := ⟨b, 4, none⟩) (fun _ h => h.2) (.int .i64 n))
  have HKa := Aside0.mk (keep_far HK3.out (p := ⟨b, 4, none⟩) HBG.out (.int .i64 n))
  have HBa := Aside0.mk (below_set (j := 4) (v := .int .i64 n) (g := b) HB3.out (Nat.le_trans HB0.out HBG.out))
  clear hfn hmn
  generalize w3.setCell ⟨b, 4, none⟩ (.int .i64 n) = w1 at HRa HIa HOa HKa HBa ⊢
  refine start_ (n := 11) (S := fun w' => w'.cell? ⟨g, 2, none⟩ = some v ∧ w'.heap[b]? = some (.cells #[.int .i64 ((⟨x.f0, 4, x.f2, x.f3, n⟩ : S59)).f0, .int .i64 ((⟨x.f0, 4, x.f2, x.f3, n⟩ : S59)).f1, .string ((⟨x.f0, 4, x.f2, x.f3, n⟩ : S59)).f2, .string ((⟨x.f0, 4, x.f2, x.f3, n⟩ : S59)).f3, .int .i64 ((⟨x.f0, 4, x.f2, x.f3, n⟩ : S59)).f4] 59 (0, 0))) (ds := [7, 10]) #[false, false, false, false, false, false, false, false, false, false, false] (by kernel_rfl) rfl rfl ⟨rd_cell2 HRa.out, HIa.out⟩ (fun hHeld => ?_)
  refine pure_ (i := 0) (N := some 79) (v := ?_) (a' := ?_) #[true, false, false, false, false, false, false, false, false, false, false] rfl rfl (by kernel_rfl) (fun _ _ _ h => h) (Or.inl ⟨by rfl, ?_⟩) ?_ ?_
  rotate_left
  · intro w'
    go_simp
    (try with_reducible rfl)
  rotate_left
  · simp only [Act.put, List.setIfInBounds_toArray, List.set_cons_zero, List.set_cons_succ]
    rfl
  refine pure_ (i := 1) (N := some 80) (v := ?_) (a' := ?_) #[true, true, false, false, false, false, false, false, false, false, false] rfl rfl (by kernel_rfl) (fun _ _ _ h => h) (Or.inl ⟨by rfl, ?_⟩) ?_ ?_
  rotate_left
  · intro w'
    go_simp
    (try with_reducible rfl)
  rotate_left
  · simp only [Act.put, List.setIfInBounds_toArray, List.set_cons_zero, List.set_cons_succ]
    rfl
  refine pure_ (i := 2) (N := some 81) (v := ?_) (a' := ?_) #[true, true, true, false, false, false, false, false, false, false, false] rfl rfl (by kernel_rfl) (fun _ _ _ h => h) (Or.inl ⟨by rfl, ?_⟩) ?_ ?_
  rotate_left
  · intro w'
    go_simp
    (try with_reducible rfl)
  rotate_left
  · simp only [Act.put, List.setIfInBounds_toArray, List.set_cons_zero, List.set_cons_succ]
    rfl
  refine pure_ (i := 3) (N := some 82) (v := ?_) (a' := ?_) #[true, true, true, true, false, false, false, false, false, false, false] rfl rfl (by kernel_rfl) (fun _ _ _ h => h) (Or.inl ⟨by rfl, ?_⟩) ?_ ?_
  rotate_left
  · intro w'
    go_simp
    (try with_reducible rfl)
  rotate_left
  · simp only [Act.put, List.setIfInBounds_toArray, List.set_cons_zero, List.set_cons_succ]
    rfl
  refine take_ (i := 4) (N := some 83) (v := ?_) (a' := ?_) #[true, true, true, true, true, false, false, false, false, false, false] rfl rfl (by kernel_rfl) (fun _ _ _ h => h) (Or.inl ⟨by rfl, ?_⟩) (by assumption) ?_ ?_
  rotate_left
  · intro w hSw
    obtain ⟨hl0, hl1⟩ := hSw
    go_simp
    (try with_reducible rfl)
  rotate_left
  · simp only [Act.put, List.setIfInBounds_toArray, List.set_cons_zero, List.set_cons_succ]
    rfl
  refine take_ (i := 5) (N := some 84) (v := ?_) (a' := ?_) #[true, true, true, true, true, true, false, false, false, false, false] rfl rfl (by kernel_rfl) (fun _ _ _ h => h) (Or.inl ⟨by rfl, ?_⟩) (by assumption) ?_ ?_
  rotate_left
  · intro w hSw
    obtain ⟨hl0, hl1⟩ := hSw
    have hm0 : w.cell? ⟨b, 0, none⟩ = some (.int .i64 ((⟨x.f0, 4, x.f2, x.f3, n⟩ : S59)).f0) := (blk_cell hl1 0).trans rfl
    have hm1 : w.cell? ⟨b, 1, none⟩ = some (.int .i64 ((⟨x.f0, 4, x.f2, x.f3, n⟩ : S59)).f1) := (blk_cell hl1 1).trans rfl
    have hm2 : w.cell? ⟨b, 2, none⟩ = some (.string ((⟨x.f0, 4, x.f2, x.f3, n⟩ : S59)).f2) := (blk_cell hl1 2).trans rfl
    have hm3 : w.cell? ⟨b, 3, none⟩ = some (.string ((⟨x.f0, 4, x.f2, x.f3, n⟩ : S59)).f3) := (blk_cell hl1 3).trans rfl
    have hm4 : w.cell? ⟨b, 4, none⟩ = some (.int .i64 ((⟨x.f0, 4, x.f2, x.f3, n⟩ : S59)).f4) := (blk_cell hl1 4).trans rfl
    clear hl1
    go_simp
    (try with_reducible rfl)
  rotate_left
  · simp only [Act.put, List.setIfInBounds_toArray, List.set_cons_zero, List.set_cons_succ]
    rfl
  refine one_ (i := 6) (N := some 85) #[true, true, true, true, true, true, true, false, false, false, false] rfl rfl (by kernel_rfl) (by decide) (fun K hK => ?_)
  refine event_step (W := w1.drew) (v := .slice (some ⟨w1.heap.size, 0, none⟩) 1 1) (w1 := w1.drew.alloc (.cells #[.int .i64 ((⟨x.f0, 4, x.f2, x.f3, n⟩ : S59)).f0, .int .i64 ((⟨x.f0, 4, x.f2, x.f3, n⟩ : S59)).f1, .string ((⟨x.f0, 4, x.f2, x.f3, n⟩ : S59)).f2, .string ((⟨x.f0, 4, x.f2, x.f3, n⟩ : S59)).f3, .int .i64 ((⟨x.f0, 4, x.f2, x.f3, n⟩ : S59)).f4] 59)) (by rfl) (by kernel_rfl) ?_
  refine hK.out _ _ ?_ (fun hHeld => ?_)
  · exact keep_push HRa.out HIa.out _
  clear hK K
  (try simp only [Act.put, List.setIfInBounds_toArray, List.set_cons_zero, List.set_cons_succ])
  refine last_ (i := 7) (N := some 86) #[true, true, true, true, true, true, true, true, false, false, false] rfl rfl (by kernel_rfl) (by decide) (fun K hK => ?_)
  refine push_append (.tmp 83) (.tmp 85) (by rfl) rfl rfl rfl HRa.out HIa.out HOa.out HBa.out HG.out HL.out ?_
  intro As N2 cc w2 hR2 hP2
  have hc2a := rd_cell2 hR2
  have hf2a := blk_frozen hR2 2
  have HPa := Aside0.mk hP2
  clear hR2 hP2
  refine hK.out _ _ ?_
  clear hK K
  (try simp only [Act.put, List.setIfInBounds_toArray, List.set_cons_zero, List.set_cons_succ])
  refine pure_ (i := 8) (N := some 87) (v := ?_) (a' := ?_) #[true, true, true, true, true, true, true, true, true, false, false] rfl rfl (by kernel_rfl) (fun _ _ _ h => h) (Or.inl ⟨by rfl, ?_⟩) ?_ ?_
  rotate_left
  · intro w'
    go_simp
    (try with_reducible rfl)
  rotate_left
  · simp only [Act.put, List.setIfInBounds_toArray, List.set_cons_zero, List.set_cons_succ]
    rfl
  refine pure_ (i := 9) (N := some 88) (v := ?_) (a' := ?_) #[true, true, true, true, true, true, true, true, true, true, false] rfl rfl (by kernel_rfl) (fun _ _ _ h => h) (Or.inl ⟨by rfl, ?_⟩) ?_ ?_
  rotate_left
  · intro w'
    go_simp
    (try with_reducible rfl)
  rotate_left
  · simp only [Act.put, List.setIfInBounds_toArray, List.set_cons_zero, List.set_cons_succ]
    rfl
  refine last_ (i := 10) (N := none) #[true, true, true, true, true, true, true, true, true, true, true] rfl rfl (by kernel_rfl) (by decide) (fun K hK => ?_)
  go_simp
  refine hK.out _ _ ?_
  clear hK K
  (try simp only [Act.put, List.setIfInBounds_toArray, List.set_cons_zero, List.set_cons_succ])
  refine done_ (by kernel_rfl) ?_
  go_wp2_with fail
  go_ret
  exact ⟨rfl, Left.pre HKa.out HPa.out⟩
set_option maxHeartbeats 8000000 in
set_option maxRecDepth 100000 in
theorem value_deep91 (w0 W : World) (g : Nat) (s : ByteArray) (p : Nat) (v : Value) (out : List S59) (x : S59) (hR : Rd W g s p v) (hO : Out w0 W g v out) (hB : Below w0.heap.size w0 W) (hg : w0.heap.size ≤ g) (hp : p ≤ s.size) (hs : s.size ≤ 4611686018427387904) (hj : JTabs w0) (hc : nextC s p = 91) (hd : 64 ≤ x.f0) :
    Calls Tryd.prog 69 #[.pointer (some ⟨g, 0, none⟩), itemV x] W fun e W' => e = .returned (.int .i64 81) ∧ Left w0 W W' g s (skipP s p) v out := by
  have HR := Aside0.mk hR
  have HO := Aside0.mk hO
  have HB := Aside0.mk hB
  have HG := Aside0.mk hg
  have HS := Aside0.mk hs
  have HP := Aside0.mk hp
  have JT := Aside0.mk hj
  have HP1 := Aside0.mk (skip_le s p hp)
  have c91 : ((nextC s p : Int) == 91) = true := beq_iff_eq.mpr (by omega)
  have c123 : ((nextC s p : Int) == 123) = false := beq_eq_false_iff_ne.mpr (by omega)
  have HC : Aside0 ((nextC s p : Int) = 91) := ⟨by omega⟩
  have d64 : decide (64 ≤ x.f0) = true := decide_eq_true (by omega)
  clear hR hB hg hs hO hp hj hc hd
  unfold itemV
  go_enter Tryd.func69, Tryd.ntmps69
  go_wp2_with fail
  obtain ⟨b, hb⟩ : ∃ b, W.heap.size = b := ⟨_, rfl⟩
  have hgW := blk_lt HR.out
  have HA : Aside0 (Below W.heap.size W (W.alloc (.cells #[.int .i64 x.f0, .int .i64 x.f1, .string x.f2, .string x.f3, .int .i64 x.f4] 59))) := ⟨below_alloc (Below.refl _ _) _⟩
  have HI : Aside0 (Itm (W.alloc (.cells #[.int .i64 x.f0, .int .i64 x.f1, .string x.f2, .string x.f3, .int .i64 x.f4] 59)) b x) := ⟨by rw [← hb]; exact heap_alloc_new _ _⟩
  have HR := Aside0.mk (rd_below HR.out HA.out)
  have HO : Aside0 (Kd.R k59 59 (W.alloc (.cells #[.int .i64 x.f0, .int .i64 x.f1, .string x.f2, .string x.f3, .int .i64 x.f4] 59)) w0.heap.size (fun j => j ≠ g ∧ j ≠ b) v out) := ⟨Kd.R_below (Kd.R_mono (Kd.R_bound HO.out) (fun k hk => ⟨hk.1, by have := hk.2.2.1; omega⟩)) HA.out⟩
  have HK := Aside0.mk (KeepBut.of_below HA.out g none)
  have HBo := HB
  have HB := Aside0.mk (below_step HB.out HA.out)
  have HB0 : Aside0 (w0.heap.size ≤ W.heap.size) := ⟨HBo.out.size⟩
  have HBG : Aside0 (W.heap.size ≤ b) := ⟨by omega⟩
  have hne1 : ¬ b = g := by omega
  have hne2 : ¬ g = b := by omega
  rw [hb]
  generalize W.alloc (.cells #[.int .i64 x.f0, .int .i64 x.f1, .string x.f2, .string x.f3, .int .i64 x.f4] 59) = W1 at HA HI HR HO HK HB ⊢
  clear HA hb
  go_wp2_with (go_at_call 70; refine (next_calls w0 W1 g s p v HR.out HB.out HG.out HP.out HS.out).mono ?_; rintro e w2 ⟨rfl, hR2, hB2, hK2⟩; have HI := Aside0.mk ((hK2.2 b (blk_lt HI.out) hne1 (by simp)).trans HI.out); have HR := Aside0.mk hR2; have HO := Aside0.mk (Kd.R_keep HO.out hK2 (fun _ h => h.1)) ; have HK := Aside0.mk (HK.out.trans hK2 (.inl rfl)); have HB := Aside0.mk hB2; clear hR2 hB2 hK2; have hm0 : w2.cell? ⟨b, 0, none⟩ = some (.int .i64 x.f0) := (blk_cell HI.out 0).trans rfl; have hm1 : w2.cell? ⟨b, 1, none⟩ = some (.int .i64 x.f1) := (blk_cell HI.out 1).trans rfl; have hfm1 := blk_frozen HI.out 1; have hcc1 := rd_cell1 HR.out; have hcf1 := blk_frozen HR.out 1)
  go_ret
  exact ⟨rfl, ⟨v, blk_far HR.out (p := ⟨b, 1, none⟩) hne2 _, Kd.R_mono (Kd.R_far HO.out (p := ⟨b, 1, none⟩) (fun _ h => h.2) (.int .i64 6)) (fun _ h => h.1), .inl rfl⟩, below_set (j := 1) (v := .int .i64 6) (g := b) HB.out (Nat.le_trans HB0.out HBG.out), keep_wide (keep_far HK.out (p := ⟨b, 1, none⟩) HBG.out (.int .i64 6))⟩
set_option maxHeartbeats 8000000 in
set_option maxRecDepth 100000 in
theorem value_open91 (w0 W : World) (g : Nat) (s : ByteArray) (p : Nat) (v : Value) (out : List S59) (x : S59) (hR : Rd W g s p v) (hO : Out w0 W g v out) (hB : Below w0.heap.size w0 W) (hg : w0.heap.size ≤ g) (hp : p ≤ s.size) (hs : s.size ≤ 4611686018427387904) (hj : JTabs w0) (hc : nextC s p = 91) (hd : x.f0 < 64) (hl : (out.length + 1) * 56 ≤ 140737488355328) (hq : skipP s p < s.size) (er : Int) (q : Nat) (out' : List S59) (hM : ∀ (W1 : World) (v1 : Value), Rd W1 g s (skipP s p + 1) v1 → Out w0 W1 g v1 (out ++ [(⟨x.f0, 6, x.f2, x.f3, x.f4⟩ : S59)]) → Below w0.heap.size w0 W1 → Calls Tryd.prog 87 #[.pointer (some ⟨g, 0, none⟩), itemV (⟨x.f0, 6, x.f2, x.f3, x.f4⟩ : S59), .int .u8 93] W1 fun e W' => e = .returned (.int .i64 er) ∧ Left w0 W1 W' g s q v1 out') :
    Calls Tryd.prog 69 #[.pointer (some ⟨g, 0, none⟩), itemV x] W fun e W' => e = .returned (.int .i64 er) ∧ Left w0 W W' g s q v out' := by
  have HR := Aside0.mk hR
  have HO := Aside0.mk hO
  have HB := Aside0.mk hB
  have HG := Aside0.mk hg
  have HS := Aside0.mk hs
  have HP := Aside0.mk hp
  have JT := Aside0.mk hj
  have HP1 := Aside0.mk (skip_le s p hp)
  have c91 : ((nextC s p : Int) == 91) = true := beq_iff_eq.mpr (by omega)
  have c123 : ((nextC s p : Int) == 123) = false := beq_eq_false_iff_ne.mpr (by omega)
  have HC : Aside0 ((nextC s p : Int) = 91) := ⟨by omega⟩
  have d64 : decide (64 ≤ x.f0) = false := decide_eq_false (by omega)
  have HL := Aside0.mk hl
  have HM := Aside0.mk hM
  have HW : Aside0 (wrap64 ((skipP s p : Int) + 1) = ((skipP s p + 1 : Nat) : Int)) := ⟨by unfold wrap64; omega⟩
  have hu : IntKind.u8.wrap ((nextC s p : Int) + 2) = 93 := by rw [HC.out]; rfl
  have hu2 : ((nextC s p : Int) + 2) % 256 = 93 := by rw [HC.out]; rfl
  clear hR hB hg hs hO hp hj hc hd hl hM hq
  unfold itemV
  go_enter Tryd.func69, Tryd.ntmps69
  go_wp2_with fail
  obtain ⟨b, hb⟩ : ∃ b, W.heap.size = b := ⟨_, rfl⟩
  have hgW := blk_lt HR.out
  have HA : Aside0 (Below W.heap.size W (W.alloc (.cells #[.int .i64 x.f0, .int .i64 x.f1, .string x.f2, .string x.f3, .int .i64 x.f4] 59))) := ⟨below_alloc (Below.refl _ _) _⟩
  have HI : Aside0 (Itm (W.alloc (.cells #[.int .i64 x.f0, .int .i64 x.f1, .string x.f2, .string x.f3, .int .i64 x.f4] 59)) b x) := ⟨by rw [← hb]; exact heap_alloc_new _ _⟩
  have HR := Aside0.mk (rd_below HR.out HA.out)
  have HO : Aside0 (Kd.R k59 59 (W.alloc (.cells #[.int .i64 x.f0, .int .i64 x.f1, .string x.f2, .string x.f3, .int .i64 x.f4] 59)) w0.heap.size (fun j => j ≠ g ∧ j ≠ b) v out) := ⟨Kd.R_below (Kd.R_mono (Kd.R_bound HO.out) (fun k hk => ⟨hk.1, by have := hk.2.2.1; omega⟩)) HA.out⟩
  have HK := Aside0.mk (KeepBut.of_below HA.out g none)
  have HBo := HB
  have HB := Aside0.mk (below_step HB.out HA.out)
  have HB0 : Aside0 (w0.heap.size ≤ W.heap.size) := ⟨HBo.out.size⟩
  have HBG : Aside0 (W.heap.size ≤ b) := ⟨by omega⟩
  have hne1 : ¬ b = g := by omega
  have hne2 : ¬ g = b := by omega
  rw [hb]
  generalize W.alloc (.cells #[.int .i64 x.f0, .int .i64 x.f1, .string x.f2, .string x.f3, .int .i64 x.f4] 59) = W1 at HA HI HR HO HK HB ⊢
  clear HA hb
  go_wp2_with (go_at_call 70; refine (next_calls w0 W1 g s p v HR.out HB.out HG.out HP.out HS.out).mono ?_; rintro e w2 ⟨rfl, hR2, hB2, hK2⟩; have HI := Aside0.mk ((hK2.2 b (blk_lt HI.out) hne1 (by simp)).trans HI.out); have HR := Aside0.mk hR2; have HO := Aside0.mk (Kd.R_keep HO.out hK2 (fun _ h => h.1)) ; have HK := Aside0.mk (HK.out.trans hK2 (.inl rfl)); have HB := Aside0.mk hB2; clear hR2 hB2 hK2; have hm0 : w2.cell? ⟨b, 0, none⟩ = some (.int .i64 x.f0) := (blk_cell HI.out 0).trans rfl; have hm1 : w2.cell? ⟨b, 1, none⟩ = some (.int .i64 x.f1) := (blk_cell HI.out 1).trans rfl; have hfm1 := blk_frozen HI.out 1; have hcc1 := rd_cell1 HR.out; have hcf1 := blk_frozen HR.out 1)
  have HRb : Aside0 (Rd (w2.setCell ⟨b, 1, none⟩ (.int .i64 6)) g s (skipP s p) v) := ⟨blk_far HR.out (p := ⟨b, 1, none⟩) hne2 _⟩
  have HIb : Aside0 (Itm (w2.setCell ⟨b, 1, none⟩ (.int .i64 6)) b (⟨x.f0, 6, x.f2, x.f3, x.f4⟩ : S59)) := ⟨blk_set HI.out 1 _⟩
  have HOb := Aside0.mk (Kd.R_far HO.out (p := ⟨b, 1, none⟩) (fun _ h => h.2) (.int .i64 6))
  have HKb := Aside0.mk (keep_far HK.out (p := ⟨b, 1, none⟩) HBG.out (.int .i64 6))
  have HBb := Aside0.mk (below_set (j := 1) (v := .int .i64 6) (g := b) HB.out (Nat.le_trans HB0.out HBG.out))
  have HRa : Aside0 (Rd ((w2.setCell ⟨b, 1, none⟩ (.int .i64 6)).setCell ⟨g, 1, none⟩ (.int .i64 (wrap64 ((skipP s p : Int) + 1)))) g s (skipP s p + 1) v) := ⟨rd_set1 HRb.out HW.out⟩
  have HIa : Aside0 (Itm ((w2.setCell ⟨b, 1, none⟩ (.int .i64 6)).setCell ⟨g, 1, none⟩ (.int .i64 (wrap64 ((skipP s p : Int) + 1)))) b (⟨x.f0, 6, x.f2, x.f3, x.f4⟩ : S59)) := ⟨blk_far HIb.out (p := ⟨g, 1, none⟩) hne1 _⟩
  have HOa := Aside0.mk (Kd.R_far HOb.out (p := ⟨g, 1, none⟩) (fun _ h => h.1) (.int .i64 (wrap64 ((skipP s p : Int) + 1))))
  have HKa := Aside0.mk (KeepBut.set_ HKb.out 1 (.int .i64 (wrap64 ((skipP s p : Int) + 1))))
  have HBa := Aside0.mk (below_set (j := 1) (v := .int .i64 (wrap64 ((skipP s p : Int) + 1))) HBb.out HG.out)
  clear HRb HIb HOb HKb HBb hcc1 hcf1 hm0 hm1 hfm1
  generalize (w2.setCell ⟨b, 1, none⟩ (.int .i64 6)).setCell ⟨g, 1, none⟩ (.int .i64 (wrap64 ((skipP s p : Int) + 1))) = w1 at HRa HIa HOa HKa HBa ⊢
  refine start_ (n := 11) (S := fun w' => w'.cell? ⟨g, 2, none⟩ = some v ∧ w'.heap[b]? = some (.cells #[.int .i64 ((⟨x.f0, 6, x.f2, x.f3, x.f4⟩ : S59)).f0, .int .i64 ((⟨x.f0, 6, x.f2, x.f3, x.f4⟩ : S59)).f1, .string ((⟨x.f0, 6, x.f2, x.f3, x.f4⟩ : S59)).f2, .string ((⟨x.f0, 6, x.f2, x.f3, x.f4⟩ : S59)).f3, .int .i64 ((⟨x.f0, 6, x.f2, x.f3, x.f4⟩ : S59)).f4] 59 (0, 0))) (ds := [7, 10]) #[false, false, false, false, false, false, false, false, false, false, false] (by kernel_rfl) rfl rfl ⟨rd_cell2 HRa.out, HIa.out⟩ (fun hHeld => ?_)
  refine pure_ (i := 0) (N := some 33) (v := ?_) (a' := ?_) #[true, false, false, false, false, false, false, false, false, false, false] rfl rfl (by kernel_rfl) (fun _ _ _ h => h) (Or.inl ⟨by rfl, ?_⟩) ?_ ?_
  rotate_left
  · intro w'
    go_simp
    (try with_reducible rfl)
  rotate_left
  · simp only [Act.put, List.setIfInBounds_toArray, List.set_cons_zero, List.set_cons_succ]
    rfl
  refine pure_ (i := 1) (N := some 34) (v := ?_) (a' := ?_) #[true, true, false, false, false, false, false, false, false, false, false] rfl rfl (by kernel_rfl) (fun _ _ _ h => h) (Or.inl ⟨by rfl, ?_⟩) ?_ ?_
  rotate_left
  · intro w'
    go_simp
    (try with_reducible rfl)
  rotate_left
  · simp only [Act.put, List.setIfInBounds_toArray, List.set_cons_zero, List.set_cons_succ]
    rfl
  refine pure_ (i := 2) (N := some 35) (v := ?_) (a' := ?_) #[true, true, true, false, false, false, false, false, false, false, false] rfl rfl (by kernel_rfl) (fun _ _ _ h => h) (Or.inl ⟨by rfl, ?_⟩) ?_ ?_
  rotate_left
  · intro w'
    go_simp
    (try with_reducible rfl)
  rotate_left
  · simp only [Act.put, List.setIfInBounds_toArray, List.set_cons_zero, List.set_cons_succ]
    rfl
  refine pure_ (i := 3) (N := some 36) (v := ?_) (a' := ?_) #[true, true, true, true, false, false, false, false, false, false, false] rfl rfl (by kernel_rfl) (fun _ _ _ h => h) (Or.inl ⟨by rfl, ?_⟩) ?_ ?_
  rotate_left
  · intro w'
    go_simp
    (try with_reducible rfl)
  rotate_left
  · simp only [Act.put, List.setIfInBounds_toArray, List.set_cons_zero, List.set_cons_succ]
    rfl
  refine take_ (i := 4) (N := some 37) (v := ?_) (a' := ?_) #[true, true, true, true, true, false, false, false, false, false, false] rfl rfl (by kernel_rfl) (fun _ _ _ h => h) (Or.inl ⟨by rfl, ?_⟩) (by assumption) ?_ ?_
  rotate_left
  · intro w hSw
    obtain ⟨hl0, hl1⟩ := hSw
    go_simp
    (try with_reducible rfl)
  rotate_left
  · simp only [Act.put, List.setIfInBounds_toArray, List.set_cons_zero, List.set_cons_succ]
    rfl
  refine take_ (i := 5) (N := some 38) (v := ?_) (a' := ?_) #[true, true, true, true, true, true, false, false, false, false, false] rfl rfl (by kernel_rfl) (fun _ _ _ h => h) (Or.inl ⟨by rfl, ?_⟩) (by assumption) ?_ ?_
  rotate_left
  · intro w hSw
    obtain ⟨hl0, hl1⟩ := hSw
    have hm0 : w.cell? ⟨b, 0, none⟩ = some (.int .i64 ((⟨x.f0, 6, x.f2, x.f3, x.f4⟩ : S59)).f0) := (blk_cell hl1 0).trans rfl
    have hm1 : w.cell? ⟨b, 1, none⟩ = some (.int .i64 ((⟨x.f0, 6, x.f2, x.f3, x.f4⟩ : S59)).f1) := (blk_cell hl1 1).trans rfl
    have hm2 : w.cell? ⟨b, 2, none⟩ = some (.string ((⟨x.f0, 6, x.f2, x.f3, x.f4⟩ : S59)).f2) := (blk_cell hl1 2).trans rfl
    have hm3 : w.cell? ⟨b, 3, none⟩ = some (.string ((⟨x.f0, 6, x.f2, x.f3, x.f4⟩ : S59)).f3) := (blk_cell hl1 3).trans rfl
    have hm4 : w.cell? ⟨b, 4, none⟩ = some (.int .i64 ((⟨x.f0, 6, x.f2, x.f3, x.f4⟩ : S59)).f4) := (blk_cell hl1 4).trans rfl
    clear hl1
    go_simp
    (try with_reducible rfl)
  rotate_left
  · simp only [Act.put, List.setIfInBounds_toArray, List.set_cons_zero, List.set_cons_succ]
    rfl
  refine one_ (i := 6) (N := some 39) #[true, true, true, true, true, true, true, false, false, false, false] rfl rfl (by kernel_rfl) (by decide) (fun K hK => ?_)
  refine event_step (W := w1.drew) (v := .slice (some ⟨w1.heap.size, 0, none⟩) 1 1) (w1 := w1.drew.alloc (.cells #[.int .i64 ((⟨x.f0, 6, x.f2, x.f3, x.f4⟩ : S59)).f0, .int .i64 ((⟨x.f0, 6, x.f2, x.f3, x.f4⟩ : S59)).f1, .string ((⟨x.f0, 6, x.f2, x.f3, x.f4⟩ : S59)).f2, .string ((⟨x.f0, 6, x.f2, x.f3, x.f4⟩ : S59)).f3, .int .i64 ((⟨x.f0, 6, x.f2, x.f3, x.f4⟩ : S59)).f4] 59)) (by rfl) (by kernel_rfl) ?_
  refine hK.out _ _ ?_ (fun hHeld => ?_)
  · exact keep_push HRa.out HIa.out _
  clear hK K
  (try simp only [Act.put, List.setIfInBounds_toArray, List.set_cons_zero, List.set_cons_succ])
  refine last_ (i := 7) (N := some 40) #[true, true, true, true, true, true, true, true, false, false, false] rfl rfl (by kernel_rfl) (by decide) (fun K hK => ?_)
  refine push_append (.tmp 37) (.tmp 39) (by rfl) rfl rfl rfl HRa.out HIa.out HOa.out HBa.out HG.out HL.out ?_
  intro As N2 cc w2 hR2 hP2
  have hc2a := rd_cell2 hR2
  have hf2a := blk_frozen hR2 2
  have HPa := Aside0.mk hP2
  clear hR2 hP2
  refine hK.out _ _ ?_
  clear hK K
  (try simp only [Act.put, List.setIfInBounds_toArray, List.set_cons_zero, List.set_cons_succ])
  refine pure_ (i := 8) (N := some 41) (v := ?_) (a' := ?_) #[true, true, true, true, true, true, true, true, true, false, false] rfl rfl (by kernel_rfl) (fun _ _ _ h => h) (Or.inl ⟨by rfl, ?_⟩) ?_ ?_
  rotate_left
  · intro w'
    go_simp
    (try with_reducible rfl)
  rotate_left
  · simp only [Act.put, List.setIfInBounds_toArray, List.set_cons_zero, List.set_cons_succ]
    rfl
  refine pure_ (i := 9) (N := some 42) (v := ?_) (a' := ?_) #[true, true, true, true, true, true, true, true, true, true, false] rfl rfl (by kernel_rfl) (fun _ _ _ h => h) (Or.inl ⟨by rfl, ?_⟩) ?_ ?_
  rotate_left
  · intro w'
    go_simp
    (try with_reducible rfl)
  rotate_left
  · simp only [Act.put, List.setIfInBounds_toArray, List.set_cons_zero, List.set_cons_succ]
    rfl
  refine last_ (i := 10) (N := none) #[true, true, true, true, true, true, true, true, true, true, true] rfl rfl (by kernel_rfl) (by decide) (fun K hK => ?_)
  go_simp
  refine hK.out _ _ ?_
  clear hK K
  (try simp only [Act.put, List.setIfInBounds_toArray, List.set_cons_zero, List.set_cons_succ])
  refine done_ (by kernel_rfl) ?_
  clear hc2a hf2a
  generalize w2.setCell ⟨g, 2, none⟩ (.slice As N2 cc) = wf at HPa ⊢
  obtain ⟨⟨v', hR', hO', hA'⟩, hB', hK'⟩ := HPa.out
  have HIf : Aside0 (Itm wf b (⟨x.f0, 6, x.f2, x.f3, x.f4⟩ : S59)) := ⟨(hK'.2 b (blk_lt HIa.out) hne1 (fun e => (HOa.out.1 b e.symm).2 rfl)).trans HIa.out⟩
  have hm0 : wf.cell? ⟨b, 0, none⟩ = some (.int .i64 x.f0) := (blk_cell HIf.out 0).trans rfl
  have hm1 : wf.cell? ⟨b, 1, none⟩ = some (.int .i64 6) := (blk_cell HIf.out 1).trans rfl
  have hm2 : wf.cell? ⟨b, 2, none⟩ = some (.string x.f2) := (blk_cell HIf.out 2).trans rfl
  have hm3 : wf.cell? ⟨b, 3, none⟩ = some (.string x.f3) := (blk_cell HIf.out 3).trans rfl
  have hm4 : wf.cell? ⟨b, 4, none⟩ = some (.int .i64 x.f4) := (blk_cell HIf.out 4).trans rfl
  have HR' := Aside0.mk hR'
  have HO' := Aside0.mk hO'
  have HB' := Aside0.mk hB'
  have HA' := Aside0.mk hA'
  have HK' := Aside0.mk hK'
  clear hR' hO' hB' hA' hK'
  go_wp2_with (go_at_call 87; refine (HM.out wf v' HR'.out HO'.out HB'.out).mono ?_; rintro e w4 ⟨rfl, hL⟩; have HL4 := Aside0.mk hL; clear hL)
  go_ret
  exact ⟨rfl, Left.pre HKa.out (Left.comp HA'.out HK'.out HL4.out)⟩
set_option maxHeartbeats 8000000 in
set_option maxRecDepth 100000 in
theorem value_deep123 (w0 W : World) (g : Nat) (s : ByteArray) (p : Nat) (v : Value) (out : List S59) (x : S59) (hR : Rd W g s p v) (hO : Out w0 W g v out) (hB : Below w0.heap.size w0 W) (hg : w0.heap.size ≤ g) (hp : p ≤ s.size) (hs : s.size ≤ 4611686018427387904) (hj : JTabs w0) (hc : nextC s p = 123) (hd : 64 ≤ x.f0) :
    Calls Tryd.prog 69 #[.pointer (some ⟨g, 0, none⟩), itemV x] W fun e W' => e = .returned (.int .i64 81) ∧ Left w0 W W' g s (skipP s p) v out := by
  have HR := Aside0.mk hR
  have HO := Aside0.mk hO
  have HB := Aside0.mk hB
  have HG := Aside0.mk hg
  have HS := Aside0.mk hs
  have HP := Aside0.mk hp
  have JT := Aside0.mk hj
  have HP1 := Aside0.mk (skip_le s p hp)
  have c91 : ((nextC s p : Int) == 91) = false := beq_eq_false_iff_ne.mpr (by omega)
  have c123 : ((nextC s p : Int) == 123) = true := beq_iff_eq.mpr (by omega)
  have HC : Aside0 ((nextC s p : Int) = 123) := ⟨by omega⟩
  have d64 : decide (64 ≤ x.f0) = true := decide_eq_true (by omega)
  clear hR hB hg hs hO hp hj hc hd
  unfold itemV
  go_enter Tryd.func69, Tryd.ntmps69
  go_wp2_with fail
  obtain ⟨b, hb⟩ : ∃ b, W.heap.size = b := ⟨_, rfl⟩
  have hgW := blk_lt HR.out
  have HA : Aside0 (Below W.heap.size W (W.alloc (.cells #[.int .i64 x.f0, .int .i64 x.f1, .string x.f2, .string x.f3, .int .i64 x.f4] 59))) := ⟨below_alloc (Below.refl _ _) _⟩
  have HI : Aside0 (Itm (W.alloc (.cells #[.int .i64 x.f0, .int .i64 x.f1, .string x.f2, .string x.f3, .int .i64 x.f4] 59)) b x) := ⟨by rw [← hb]; exact heap_alloc_new _ _⟩
  have HR := Aside0.mk (rd_below HR.out HA.out)
  have HO : Aside0 (Kd.R k59 59 (W.alloc (.cells #[.int .i64 x.f0, .int .i64 x.f1, .string x.f2, .string x.f3, .int .i64 x.f4] 59)) w0.heap.size (fun j => j ≠ g ∧ j ≠ b) v out) := ⟨Kd.R_below (Kd.R_mono (Kd.R_bound HO.out) (fun k hk => ⟨hk.1, by have := hk.2.2.1; omega⟩)) HA.out⟩
  have HK := Aside0.mk (KeepBut.of_below HA.out g none)
  have HBo := HB
  have HB := Aside0.mk (below_step HB.out HA.out)
  have HB0 : Aside0 (w0.heap.size ≤ W.heap.size) := ⟨HBo.out.size⟩
  have HBG : Aside0 (W.heap.size ≤ b) := ⟨by omega⟩
  have hne1 : ¬ b = g := by omega
  have hne2 : ¬ g = b := by omega
  rw [hb]
  generalize W.alloc (.cells #[.int .i64 x.f0, .int .i64 x.f1, .string x.f2, .string x.f3, .int .i64 x.f4] 59) = W1 at HA HI HR HO HK HB ⊢
  clear HA hb
  go_wp2_with (go_at_call 70; refine (next_calls w0 W1 g s p v HR.out HB.out HG.out HP.out HS.out).mono ?_; rintro e w2 ⟨rfl, hR2, hB2, hK2⟩; have HI := Aside0.mk ((hK2.2 b (blk_lt HI.out) hne1 (by simp)).trans HI.out); have HR := Aside0.mk hR2; have HO := Aside0.mk (Kd.R_keep HO.out hK2 (fun _ h => h.1)) ; have HK := Aside0.mk (HK.out.trans hK2 (.inl rfl)); have HB := Aside0.mk hB2; clear hR2 hB2 hK2; have hm0 : w2.cell? ⟨b, 0, none⟩ = some (.int .i64 x.f0) := (blk_cell HI.out 0).trans rfl; have hm1 : w2.cell? ⟨b, 1, none⟩ = some (.int .i64 x.f1) := (blk_cell HI.out 1).trans rfl; have hfm1 := blk_frozen HI.out 1; have hcc1 := rd_cell1 HR.out; have hcf1 := blk_frozen HR.out 1)
  go_ret
  exact ⟨rfl, ⟨v, blk_far (blk_far HR.out (p := ⟨b, 1, none⟩) hne2 (.int .i64 6)) (p := ⟨b, 1, none⟩) hne2 _, Kd.R_mono (Kd.R_far (Kd.R_far HO.out (p := ⟨b, 1, none⟩) (fun _ h => h.2) (.int .i64 6)) (p := ⟨b, 1, none⟩) (fun _ h => h.2) (.int .i64 7)) (fun _ h => h.1), .inl rfl⟩, below_set (j := 1) (v := .int .i64 7) (g := b) (below_set (j := 1) (v := .int .i64 6) (g := b) HB.out (Nat.le_trans HB0.out HBG.out)) (Nat.le_trans HB0.out HBG.out), keep_wide (keep_far (keep_far HK.out (p := ⟨b, 1, none⟩) HBG.out (.int .i64 6)) (p := ⟨b, 1, none⟩) HBG.out (.int .i64 7))⟩
set_option maxHeartbeats 8000000 in
set_option maxRecDepth 100000 in
theorem value_open123 (w0 W : World) (g : Nat) (s : ByteArray) (p : Nat) (v : Value) (out : List S59) (x : S59) (hR : Rd W g s p v) (hO : Out w0 W g v out) (hB : Below w0.heap.size w0 W) (hg : w0.heap.size ≤ g) (hp : p ≤ s.size) (hs : s.size ≤ 4611686018427387904) (hj : JTabs w0) (hc : nextC s p = 123) (hd : x.f0 < 64) (hl : (out.length + 1) * 56 ≤ 140737488355328) (hq : skipP s p < s.size) (er : Int) (q : Nat) (out' : List S59) (hM : ∀ (W1 : World) (v1 : Value), Rd W1 g s (skipP s p + 1) v1 → Out w0 W1 g v1 (out ++ [(⟨x.f0, 7, x.f2, x.f3, x.f4⟩ : S59)]) → Below w0.heap.size w0 W1 → Calls Tryd.prog 87 #[.pointer (some ⟨g, 0, none⟩), itemV (⟨x.f0, 7, x.f2, x.f3, x.f4⟩ : S59), .int .u8 125] W1 fun e W' => e = .returned (.int .i64 er) ∧ Left w0 W1 W' g s q v1 out') :
    Calls Tryd.prog 69 #[.pointer (some ⟨g, 0, none⟩), itemV x] W fun e W' => e = .returned (.int .i64 er) ∧ Left w0 W W' g s q v out' := by
  have HR := Aside0.mk hR
  have HO := Aside0.mk hO
  have HB := Aside0.mk hB
  have HG := Aside0.mk hg
  have HS := Aside0.mk hs
  have HP := Aside0.mk hp
  have JT := Aside0.mk hj
  have HP1 := Aside0.mk (skip_le s p hp)
  have c91 : ((nextC s p : Int) == 91) = false := beq_eq_false_iff_ne.mpr (by omega)
  have c123 : ((nextC s p : Int) == 123) = true := beq_iff_eq.mpr (by omega)
  have HC : Aside0 ((nextC s p : Int) = 123) := ⟨by omega⟩
  have d64 : decide (64 ≤ x.f0) = false := decide_eq_false (by omega)
  have HL := Aside0.mk hl
  have HM := Aside0.mk hM
  have HW : Aside0 (wrap64 ((skipP s p : Int) + 1) = ((skipP s p + 1 : Nat) : Int)) := ⟨by unfold wrap64; omega⟩
  have hu : IntKind.u8.wrap ((nextC s p : Int) + 2) = 125 := by rw [HC.out]; rfl
  have hu2 : ((nextC s p : Int) + 2) % 256 = 125 := by rw [HC.out]; rfl
  clear hR hB hg hs hO hp hj hc hd hl hM hq
  unfold itemV
  go_enter Tryd.func69, Tryd.ntmps69
  go_wp2_with fail
  obtain ⟨b, hb⟩ : ∃ b, W.heap.size = b := ⟨_, rfl⟩
  have hgW := blk_lt HR.out
  have HA : Aside0 (Below W.heap.size W (W.alloc (.cells #[.int .i64 x.f0, .int .i64 x.f1, .string x.f2, .string x.f3, .int .i64 x.f4] 59))) := ⟨below_alloc (Below.refl _ _) _⟩
  have HI : Aside0 (Itm (W.alloc (.cells #[.int .i64 x.f0, .int .i64 x.f1, .string x.f2, .string x.f3, .int .i64 x.f4] 59)) b x) := ⟨by rw [← hb]; exact heap_alloc_new _ _⟩
  have HR := Aside0.mk (rd_below HR.out HA.out)
  have HO : Aside0 (Kd.R k59 59 (W.alloc (.cells #[.int .i64 x.f0, .int .i64 x.f1, .string x.f2, .string x.f3, .int .i64 x.f4] 59)) w0.heap.size (fun j => j ≠ g ∧ j ≠ b) v out) := ⟨Kd.R_below (Kd.R_mono (Kd.R_bound HO.out) (fun k hk => ⟨hk.1, by have := hk.2.2.1; omega⟩)) HA.out⟩
  have HK := Aside0.mk (KeepBut.of_below HA.out g none)
  have HBo := HB
  have HB := Aside0.mk (below_step HB.out HA.out)
  have HB0 : Aside0 (w0.heap.size ≤ W.heap.size) := ⟨HBo.out.size⟩
  have HBG : Aside0 (W.heap.size ≤ b) := ⟨by omega⟩
  have hne1 : ¬ b = g := by omega
  have hne2 : ¬ g = b := by omega
  rw [hb]
  generalize W.alloc (.cells #[.int .i64 x.f0, .int .i64 x.f1, .string x.f2, .string x.f3, .int .i64 x.f4] 59) = W1 at HA HI HR HO HK HB ⊢
  clear HA hb
  go_wp2_with (go_at_call 70; refine (next_calls w0 W1 g s p v HR.out HB.out HG.out HP.out HS.out).mono ?_; rintro e w2 ⟨rfl, hR2, hB2, hK2⟩; have HI := Aside0.mk ((hK2.2 b (blk_lt HI.out) hne1 (by simp)).trans HI.out); have HR := Aside0.mk hR2; have HO := Aside0.mk (Kd.R_keep HO.out hK2 (fun _ h => h.1)) ; have HK := Aside0.mk (HK.out.trans hK2 (.inl rfl)); have HB := Aside0.mk hB2; clear hR2 hB2 hK2; have hm0 : w2.cell? ⟨b, 0, none⟩ = some (.int .i64 x.f0) := (blk_cell HI.out 0).trans rfl; have hm1 : w2.cell? ⟨b, 1, none⟩ = some (.int .i64 x.f1) := (blk_cell HI.out 1).trans rfl; have hfm1 := blk_frozen HI.out 1; have hcc1 := rd_cell1 HR.out; have hcf1 := blk_frozen HR.out 1)
  have HRb : Aside0 (Rd ((w2.setCell ⟨b, 1, none⟩ (.int .i64 6)).setCell ⟨b, 1, none⟩ (.int .i64 7)) g s (skipP s p) v) := ⟨blk_far (blk_far HR.out (p := ⟨b, 1, none⟩) hne2 (.int .i64 6)) (p := ⟨b, 1, none⟩) hne2 _⟩
  have HIb : Aside0 (Itm ((w2.setCell ⟨b, 1, none⟩ (.int .i64 6)).setCell ⟨b, 1, none⟩ (.int .i64 7)) b (⟨x.f0, 7, x.f2, x.f3, x.f4⟩ : S59)) := ⟨blk_set (blk_set HI.out 1 (.int .i64 6)) 1 _⟩
  have HOb := Aside0.mk (Kd.R_far (Kd.R_far HO.out (p := ⟨b, 1, none⟩) (fun _ h => h.2) (.int .i64 6)) (p := ⟨b, 1, none⟩) (fun _ h => h.2) (.int .i64 7))
  have HKb := Aside0.mk (keep_far (keep_far HK.out (p := ⟨b, 1, none⟩) HBG.out (.int .i64 6)) (p := ⟨b, 1, none⟩) HBG.out (.int .i64 7))
  have HBb := Aside0.mk (below_set (j := 1) (v := .int .i64 7) (g := b) (below_set (j := 1) (v := .int .i64 6) (g := b) HB.out (Nat.le_trans HB0.out HBG.out)) (Nat.le_trans HB0.out HBG.out))
  have HRa : Aside0 (Rd (((w2.setCell ⟨b, 1, none⟩ (.int .i64 6)).setCell ⟨b, 1, none⟩ (.int .i64 7)).setCell ⟨g, 1, none⟩ (.int .i64 (wrap64 ((skipP s p : Int) + 1)))) g s (skipP s p + 1) v) := ⟨rd_set1 HRb.out HW.out⟩
  have HIa : Aside0 (Itm (((w2.setCell ⟨b, 1, none⟩ (.int .i64 6)).setCell ⟨b, 1, none⟩ (.int .i64 7)).setCell ⟨g, 1, none⟩ (.int .i64 (wrap64 ((skipP s p : Int) + 1)))) b (⟨x.f0, 7, x.f2, x.f3, x.f4⟩ : S59)) := ⟨blk_far HIb.out (p := ⟨g, 1, none⟩) hne1 _⟩
  have HOa := Aside0.mk (Kd.R_far HOb.out (p := ⟨g, 1, none⟩) (fun _ h => h.1) (.int .i64 (wrap64 ((skipP s p : Int) + 1))))
  have HKa := Aside0.mk (KeepBut.set_ HKb.out 1 (.int .i64 (wrap64 ((skipP s p : Int) + 1))))
  have HBa := Aside0.mk (below_set (j := 1) (v := .int .i64 (wrap64 ((skipP s p : Int) + 1))) HBb.out HG.out)
  clear HRb HIb HOb HKb HBb hcc1 hcf1 hm0 hm1 hfm1
  generalize ((w2.setCell ⟨b, 1, none⟩ (.int .i64 6)).setCell ⟨b, 1, none⟩ (.int .i64 7)).setCell ⟨g, 1, none⟩ (.int .i64 (wrap64 ((skipP s p : Int) + 1))) = w1 at HRa HIa HOa HKa HBa ⊢
  refine start_ (n := 11) (S := fun w' => w'.cell? ⟨g, 2, none⟩ = some v ∧ w'.heap[b]? = some (.cells #[.int .i64 ((⟨x.f0, 7, x.f2, x.f3, x.f4⟩ : S59)).f0, .int .i64 ((⟨x.f0, 7, x.f2, x.f3, x.f4⟩ : S59)).f1, .string ((⟨x.f0, 7, x.f2, x.f3, x.f4⟩ : S59)).f2, .string ((⟨x.f0, 7, x.f2, x.f3, x.f4⟩ : S59)).f3, .int .i64 ((⟨x.f0, 7, x.f2, x.f3, x.f4⟩ : S59)).f4] 59 (0, 0))) (ds := [7, 10]) #[false, false, false, false, false, false, false, false, false, false, false] (by kernel_rfl) rfl rfl ⟨rd_cell2 HRa.out, HIa.out⟩ (fun hHeld => ?_)
  refine pure_ (i := 0) (N := some 33) (v := ?_) (a' := ?_) #[true, false, false, false, false, false, false, false, false, false, false] rfl rfl (by kernel_rfl) (fun _ _ _ h => h) (Or.inl ⟨by rfl, ?_⟩) ?_ ?_
  rotate_left
  · intro w'
    go_simp
    (try with_reducible rfl)
  rotate_left
  · simp only [Act.put, List.setIfInBounds_toArray, List.set_cons_zero, List.set_cons_succ]
    rfl
  refine pure_ (i := 1) (N := some 34) (v := ?_) (a' := ?_) #[true, true, false, false, false, false, false, false, false, false, false] rfl rfl (by kernel_rfl) (fun _ _ _ h => h) (Or.inl ⟨by rfl, ?_⟩) ?_ ?_
  rotate_left
  · intro w'
    go_simp
    (try with_reducible rfl)
  rotate_left
  · simp only [Act.put, List.setIfInBounds_toArray, List.set_cons_zero, List.set_cons_succ]
    rfl
  refine pure_ (i := 2) (N := some 35) (v := ?_) (a' := ?_) #[true, true, true, false, false, false, false, false, false, false, false] rfl rfl (by kernel_rfl) (fun _ _ _ h => h) (Or.inl ⟨by rfl, ?_⟩) ?_ ?_
  rotate_left
  · intro w'
    go_simp
    (try with_reducible rfl)
  rotate_left
  · simp only [Act.put, List.setIfInBounds_toArray, List.set_cons_zero, List.set_cons_succ]
    rfl
  refine pure_ (i := 3) (N := some 36) (v := ?_) (a' := ?_) #[true, true, true, true, false, false, false, false, false, false, false] rfl rfl (by kernel_rfl) (fun _ _ _ h => h) (Or.inl ⟨by rfl, ?_⟩) ?_ ?_
  rotate_left
  · intro w'
    go_simp
    (try with_reducible rfl)
  rotate_left
  · simp only [Act.put, List.setIfInBounds_toArray, List.set_cons_zero, List.set_cons_succ]
    rfl
  refine take_ (i := 4) (N := some 37) (v := ?_) (a' := ?_) #[true, true, true, true, true, false, false, false, false, false, false] rfl rfl (by kernel_rfl) (fun _ _ _ h => h) (Or.inl ⟨by rfl, ?_⟩) (by assumption) ?_ ?_
  rotate_left
  · intro w hSw
    obtain ⟨hl0, hl1⟩ := hSw
    go_simp
    (try with_reducible rfl)
  rotate_left
  · simp only [Act.put, List.setIfInBounds_toArray, List.set_cons_zero, List.set_cons_succ]
    rfl
  refine take_ (i := 5) (N := some 38) (v := ?_) (a' := ?_) #[true, true, true, true, true, true, false, false, false, false, false] rfl rfl (by kernel_rfl) (fun _ _ _ h => h) (Or.inl ⟨by rfl, ?_⟩) (by assumption) ?_ ?_
  rotate_left
  · intro w hSw
    obtain ⟨hl0, hl1⟩ := hSw
    have hm0 : w.cell? ⟨b, 0, none⟩ = some (.int .i64 ((⟨x.f0, 7, x.f2, x.f3, x.f4⟩ : S59)).f0) := (blk_cell hl1 0).trans rfl
    have hm1 : w.cell? ⟨b, 1, none⟩ = some (.int .i64 ((⟨x.f0, 7, x.f2, x.f3, x.f4⟩ : S59)).f1) := (blk_cell hl1 1).trans rfl
    have hm2 : w.cell? ⟨b, 2, none⟩ = some (.string ((⟨x.f0, 7, x.f2, x.f3, x.f4⟩ : S59)).f2) := (blk_cell hl1 2).trans rfl
    have hm3 : w.cell? ⟨b, 3, none⟩ = some (.string ((⟨x.f0, 7, x.f2, x.f3, x.f4⟩ : S59)).f3) := (blk_cell hl1 3).trans rfl
    have hm4 : w.cell? ⟨b, 4, none⟩ = some (.int .i64 ((⟨x.f0, 7, x.f2, x.f3, x.f4⟩ : S59)).f4) := (blk_cell hl1 4).trans rfl
    clear hl1
    go_simp
    (try with_reducible rfl)
  rotate_left
  · simp only [Act.put, List.setIfInBounds_toArray, List.set_cons_zero, List.set_cons_succ]
    rfl
  refine one_ (i := 6) (N := some 39) #[true, true, true, true, true, true, true, false, false, false, false] rfl rfl (by kernel_rfl) (by decide) (fun K hK => ?_)
  refine event_step (W := w1.drew) (v := .slice (some ⟨w1.heap.size, 0, none⟩) 1 1) (w1 := w1.drew.alloc (.cells #[.int .i64 ((⟨x.f0, 7, x.f2, x.f3, x.f4⟩ : S59)).f0, .int .i64 ((⟨x.f0, 7, x.f2, x.f3, x.f4⟩ : S59)).f1, .string ((⟨x.f0, 7, x.f2, x.f3, x.f4⟩ : S59)).f2, .string ((⟨x.f0, 7, x.f2, x.f3, x.f4⟩ : S59)).f3, .int .i64 ((⟨x.f0, 7, x.f2, x.f3, x.f4⟩ : S59)).f4] 59)) (by rfl) (by kernel_rfl) ?_
  refine hK.out _ _ ?_ (fun hHeld => ?_)
  · exact keep_push HRa.out HIa.out _
  clear hK K
  (try simp only [Act.put, List.setIfInBounds_toArray, List.set_cons_zero, List.set_cons_succ])
  refine last_ (i := 7) (N := some 40) #[true, true, true, true, true, true, true, true, false, false, false] rfl rfl (by kernel_rfl) (by decide) (fun K hK => ?_)
  refine push_append (.tmp 37) (.tmp 39) (by rfl) rfl rfl rfl HRa.out HIa.out HOa.out HBa.out HG.out HL.out ?_
  intro As N2 cc w2 hR2 hP2
  have hc2a := rd_cell2 hR2
  have hf2a := blk_frozen hR2 2
  have HPa := Aside0.mk hP2
  clear hR2 hP2
  refine hK.out _ _ ?_
  clear hK K
  (try simp only [Act.put, List.setIfInBounds_toArray, List.set_cons_zero, List.set_cons_succ])
  refine pure_ (i := 8) (N := some 41) (v := ?_) (a' := ?_) #[true, true, true, true, true, true, true, true, true, false, false] rfl rfl (by kernel_rfl) (fun _ _ _ h => h) (Or.inl ⟨by rfl, ?_⟩) ?_ ?_
  rotate_left
  · intro w'
    go_simp
    (try with_reducible rfl)
  rotate_left
  · simp only [Act.put, List.setIfInBounds_toArray, List.set_cons_zero, List.set_cons_succ]
    rfl
  refine pure_ (i := 9) (N := some 42) (v := ?_) (a' := ?_) #[true, true, true, true, true, true, true, true, true, true, false] rfl rfl (by kernel_rfl) (fun _ _ _ h => h) (Or.inl ⟨by rfl, ?_⟩) ?_ ?_
  rotate_left
  · intro w'
    go_simp
    (try with_reducible rfl)
  rotate_left
  · simp only [Act.put, List.setIfInBounds_toArray, List.set_cons_zero, List.set_cons_succ]
    rfl
  refine last_ (i := 10) (N := none) #[true, true, true, true, true, true, true, true, true, true, true] rfl rfl (by kernel_rfl) (by decide) (fun K hK => ?_)
  go_simp
  refine hK.out _ _ ?_
  clear hK K
  (try simp only [Act.put, List.setIfInBounds_toArray, List.set_cons_zero, List.set_cons_succ])
  refine done_ (by kernel_rfl) ?_
  clear hc2a hf2a
  generalize w2.setCell ⟨g, 2, none⟩ (.slice As N2 cc) = wf at HPa ⊢
  obtain ⟨⟨v', hR', hO', hA'⟩, hB', hK'⟩ := HPa.out
  have HIf : Aside0 (Itm wf b (⟨x.f0, 7, x.f2, x.f3, x.f4⟩ : S59)) := ⟨(hK'.2 b (blk_lt HIa.out) hne1 (fun e => (HOa.out.1 b e.symm).2 rfl)).trans HIa.out⟩
  have hm0 : wf.cell? ⟨b, 0, none⟩ = some (.int .i64 x.f0) := (blk_cell HIf.out 0).trans rfl
  have hm1 : wf.cell? ⟨b, 1, none⟩ = some (.int .i64 7) := (blk_cell HIf.out 1).trans rfl
  have hm2 : wf.cell? ⟨b, 2, none⟩ = some (.string x.f2) := (blk_cell HIf.out 2).trans rfl
  have hm3 : wf.cell? ⟨b, 3, none⟩ = some (.string x.f3) := (blk_cell HIf.out 3).trans rfl
  have hm4 : wf.cell? ⟨b, 4, none⟩ = some (.int .i64 x.f4) := (blk_cell HIf.out 4).trans rfl
  have HR' := Aside0.mk hR'
  have HO' := Aside0.mk hO'
  have HB' := Aside0.mk hB'
  have HA' := Aside0.mk hA'
  have HK' := Aside0.mk hK'
  clear hR' hO' hB' hA' hK'
  go_wp2_with (go_at_call 87; refine (HM.out wf v' HR'.out HO'.out HB'.out).mono ?_; rintro e w4 ⟨rfl, hL⟩; have HL4 := Aside0.mk hL; clear hL)
  go_ret
  exact ⟨rfl, Left.pre HKa.out (Left.comp HA'.out HK'.out HL4.out)⟩
end Go.Proofs.YthhmmaihbjhhgaaDoor.Giv
namespace Go.Proofs.YthhmmaihbjhhgaaDoor.Giv
open Go.RowKit Go.Proofs.YthhmmaihbjhhgaaDoorW.PrintWords Go.Proofs.YthhmmaihbjhhgaaDoorW.PrintLast Go.Proofs.YthhmmaihbjhhgaaDoorW.PrintMore
open Go.Proofs.YthhmmaihbjhhgaaDoor.U1 Go.Proofs.YthhmmaihbjhhgaaDoor.Q1 Go.Proofs.YthhmmaihbjhhgaaDoor.J0 Go.Proofs.YthhmmaihbjhhgaaDoor.J1
set_option linter.unusedSimpArgs false
theorem info9 : (Tryd.prog.info? 9).map (fun i => (i.zero, i.size, i.bytes)) = some (some (.string ⟨#[]⟩), 1, 16) := by kernel_rfl
abbrev Res := Int × Nat × List S59
/-- what stands behind a member's key (or none): its value, and how it goes on -/
def afterKey (V : Nat → List S59 → S59 → Option Res) (L : Nat → List S59 → List ByteArray → Option Res) (s : ByteArray) (x : S59) (e : Nat) (p : Nat) (out : List S59) (keys : List ByteArray) (key : ByteArray) : Option Res :=
  (V p out ⟨x.f0 + 1, 0, key, ⟨#[]⟩, 0⟩).bind fun r => if r.2.1 ≤ s.size then
    (if r.1 = 0 then (if (takesP s r.2.1 e).1 = true then some (0, (takesP s r.2.1 e).2, r.2.2) else if (takesP s (takesP s r.2.1 e).2 44).1 = true then L (takesP s (takesP s r.2.1 e).2 44).2 r.2.2 keys else some (80, (takesP s (takesP s r.2.1 e).2 44).2, r.2.2)) else some r) else none
mutual
def valueF : Nat → ByteArray → Nat → List S59 → S59 → Option Res
  | 0, _, _, _, _ => none
  | k + 1, s, p, out, x =>
    if nextC s p = 91 then (if 64 ≤ x.f0 then some (81, skipP s p, out) else if (out.length + 1) * 56 ≤ 140737488355328 ∧ skipP s p < s.size then membersF k s (skipP s p + 1) (out ++ [⟨x.f0, 6, x.f2, x.f3, x.f4⟩]) ⟨x.f0, 6, x.f2, x.f3, x.f4⟩ 93 else none)
    else if nextC s p = 123 then (if 64 ≤ x.f0 then some (81, skipP s p, out) else if (out.length + 1) * 56 ≤ 140737488355328 ∧ skipP s p < s.size then membersF k s (skipP s p + 1) (out ++ [⟨x.f0, 7, x.f2, x.f3, x.f4⟩]) ⟨x.f0, 7, x.f2, x.f3, x.f4⟩ 125 else none)
    else if nextC s p = 34 then (quote_Read.f k (s.extract (skipP s p) s.size)).bind fun r => if 0 ≤ r.2.1 ∧ (skipP s p : Int) + r.2.1 ≤ s.size ∧ (out.length + 1) * 56 ≤ 140737488355328 then (if r.2.2 = 0 then some (0, skipP s p + r.2.1.toNat, out ++ [⟨x.f0, 5, x.f2, r.1, x.f4⟩]) else some (r.2.2, skipP s p + r.2.1.toNat, out)) else none
    else if (out.length + 1) * 56 ≤ 140737488355328 then
      (if nextC s p = 45 ∨ (48 ≤ nextC s p ∧ nextC s p ≤ 57) then (if (numberS s (skipP s p)).2.1 = 0 then some (0, (numberS s (skipP s p)).2.2, out ++ [⟨x.f0, 4, x.f2, x.f3, (numberS s (skipP s p)).1⟩]) else some ((numberS s (skipP s p)).2.1, (numberS s (skipP s p)).2.2, out))
      else some (wordF s (skipP s p) out x)) else none
def membersF : Nat → ByteArray → Nat → List S59 → S59 → Nat → Option Res
  | 0, _, _, _, _, _ => none
  | k + 1, s, p, out, x, e => if (takesP s p e).1 = true then some (0, (takesP s p e).2, out) else membersL k s (takesP s p e).2 out x e []
def membersL : Nat → ByteArray → Nat → List S59 → S59 → Nat → List ByteArray → Option Res
  | 0, _, _, _, _, _, _ => none
  | k + 1, s, p, out, x, e, keys => if 0 ≤ x.f0 ∧ x.f0 < 64 then
    (if x.f1 = 7 then (if (keys.length + 1) * 16 ≤ 140737488355328 then (keyF k s p keys).bind fun r => if r.2.2 ≤ s.size then (if r.2.1 = 0 then afterKey (fun p o y => valueF k s p o y) (fun p o ks => membersL k s p o x e ks) s x e r.2.2 out (keys ++ [r.1]) r.1 else some (r.2.1, r.2.2, out)) else none else none)
    else afterKey (fun p o y => valueF k s p o y) (fun p o ks => membersL k s p o x e ks) s x e p out keys ⟨#[]⟩) else none
end
theorem out_flat {w0 W : World} {v : Value} {out : List S59} {ok ok' : Nat → Prop} (h : Kd.R k59 59 W w0.heap.size ok v out) (hok : ∀ k, v.ownBlock = some k → ok k → ok' k) : Kd.R k59 59 W w0.heap.size ok' v out := Kd.R_flat (fun h => h) h hok
theorem keys_flat {w0 W : World} {v : Value} {keys : List ByteArray} {ok ok' : Nat → Prop} (h : Kd.R Kd.string 9 W w0.heap.size ok v keys) (hok : ∀ k, v.ownBlock = some k → ok k → ok' k) : Kd.R Kd.string 9 W w0.heap.size ok' v keys := Kd.R_flat (fun h => h) h hok
/-- the state of an array's or object's reading: the reader, its row, the keys' row, the item -/
structure MS (w0 W : World) (g b : Nat) (s : ByteArray) (x : S59) (v0 kv v : Value) (p : Nat) (out : List S59) (keys : List ByteArray) (w : World) : Prop where
  rd : Rd w g s p v
  out : Out w0 w g v out
  keys : Kd.R Kd.string 9 w w0.heap.size (fun j => j ≠ g) kv keys
  dis : ∀ j, v.ownBlock = some j → kv.ownBlock ≠ some j ∧ j ≠ b
  kb : kv.ownBlock ≠ some b
  kn : ∀ j, kv.ownBlock = some j → W.heap.size ≤ j
  itm : Itm w b x
  bg : b ≠ g
  keep : KeepBut W w g v0.ownBlock
  own : v.ownBlock = v0.ownBlock ∨ ∃ j, v.ownBlock = some j ∧ W.heap.size ≤ j
  below : Below w0.heap.size w0 w
  base : w0.heap.size ≤ g
theorem out_lt {w0 W : World} {ok : Nat → Prop} {v : Value} {out : List S59} (h : Kd.R k59 59 W w0.heap.size ok v out) {j : Nat} (e : v.ownBlock = some j) : j < W.heap.size := ((Kd.R_bound h).1 j e).2.2.1
theorem keys_lt {w0 W : World} {ok : Nat → Prop} {v : Value} {keys : List ByteArray} (h : Kd.R Kd.string 9 W w0.heap.size ok v keys) {j : Nat} (e : v.ownBlock = some j) : j < W.heap.size := ((Kd.R_bound h).1 j e).2.2.1
section
variable {w0 W : World} {g b : Nat} {s : ByteArray} {x : S59} {v0 kv v : Value} {p : Nat} {out : List S59} {keys : List ByteArray} {w : World}
theorem MS.quiet (h : MS w0 W g b s x v0 kv v p out keys w) {w2 : World} {p2 : Nat} (hR : Rd w2 g s p2 v) (hB : Below w0.heap.size w0 w2) (hK : KeepBut w w2 g none) : MS w0 W g b s x v0 kv v p2 out keys w2 where
  rd := hR
  out := Kd.R_keep h.out hK (fun _ h => h)
  keys := Kd.R_keep h.keys hK (fun _ h => h)
  dis := h.dis
  kb := h.kb
  kn := h.kn
  itm := (hK.2 b (blk_lt h.itm) h.bg (by simp)).trans h.itm
  bg := h.bg
  keep := h.keep.trans (keep_wide hK) (.inl rfl)
  own := h.own
  below := hB
  base := h.base
theorem MS.value (h : MS w0 W g b s x v0 kv v p out keys w) {w4 : World} {q : Nat} {out2 : List S59} (hL : Left w0 w w4 g s q v out2) : ∃ v4, MS w0 W g b s x v0 kv v4 q out2 keys w4 := by
  obtain ⟨⟨v4, hR, hO, hA⟩, hB, hK⟩ := hL
  have hvb : some b ≠ v.ownBlock := fun e => (h.dis b e.symm).2 rfl
  refine ⟨v4, hR, hO, ?_, ?_, h.kb, h.kn, (hK.2 b (blk_lt h.itm) h.bg hvb).trans h.itm, h.bg, h.keep.trans hK h.own, ?_, hB, h.base⟩
  · refine keys_flat (Kd.R_step (keys_flat h.keys (ok' := fun j => j ≠ g ∧ some j ≠ v.ownBlock) (fun j hj hg => ⟨hg, fun e => (h.dis j e.symm).1 hj⟩)) (fun j hj hlt => hK.2 j hlt hj.1 hj.2)) (fun _ _ h => h.1)
  · intro j hj
    rcases hA with e | ⟨k, e, hk⟩
    · exact h.dis j (e ▸ hj)
    · have : k = j := Option.some.inj (e.symm.trans hj)
      subst this
      refine ⟨fun e2 => ?_, fun e2 => ?_⟩
      · have := keys_lt h.keys e2; omega
      · have := blk_lt h.itm; omega
  · rcases hA with e | ⟨k, e, hk⟩
    · rw [e]; exact h.own
    · exact .inr ⟨k, e, Nat.le_trans h.keep.1 hk⟩
theorem MS.append (h : MS w0 W g b s x v0 kv v p out keys w) {w3 : World} {kv1 : Value} {keys1 : List ByteArray} (hO : Kd.R Kd.string 9 w3 w0.heap.size (fun j => j ≠ g) kv1 keys1) (hB : Below w0.heap.size w0 w3) (hg : w.grownBy w3 kv.ownBlock)
    (hA : kv1.ownBlock = kv.ownBlock ∨ ∃ j, kv1.ownBlock = some j ∧ w.heap.size ≤ j) : MS w0 W g b s x v0 kv1 v p out keys1 w3 := by
  have hgk : some g ≠ kv.ownBlock := fun e => h.keys.1 g e.symm rfl
  have hbk : some b ≠ kv.ownBlock := fun e => h.kb e.symm
  refine ⟨blk_grown h.rd hg hgk, ?_, hO, ?_, ?_, ?_, blk_grown h.itm hg hbk, h.bg, ?_, h.own, hB, h.base⟩
  · exact out_flat (Kd.R_grown (out_flat h.out (ok' := fun j => j ≠ g ∧ some j ≠ kv.ownBlock) (fun j hj hg => ⟨hg, fun e => (h.dis j hj).1 e.symm⟩)) hg (fun _ h => h.2)) (fun _ _ h => h.1)
  · intro j hj
    refine ⟨fun e => ?_, (h.dis j hj).2⟩
    rcases hA with e2 | ⟨k, e2, hk⟩
    · exact (h.dis j hj).1 (e2 ▸ e)
    · have : k = j := Option.some.inj (e2.symm.trans e)
      have := out_lt h.out hj
      omega
  · intro e
    rcases hA with e2 | ⟨k, e2, hk⟩
    · exact h.kb (e2 ▸ e)
    · have : k = b := Option.some.inj (e2.symm.trans e)
      have := blk_lt h.itm
      omega
  · intro j e
    rcases hA with e2 | ⟨k, e2, hk⟩
    · exact h.kn j (e2 ▸ e)
    · have : k = j := Option.some.inj (e2.symm.trans e)
      have := h.keep.1
      omega
  · cases hk : kv.ownBlock with
    | none => rw [hk] at hg; exact h.keep.trans (keep_wide (KeepBut.of_grown hg g)) (.inl rfl)
    | some j => rw [hk] at hg; exact h.keep.trans (KeepBut.of_grown hg g) (.inr ⟨j, rfl, h.kn j hk⟩)
theorem MS.left (h : MS w0 W g b s x v0 kv v p out keys w) : Left w0 W w g s p v0 out := ⟨⟨v, h.rd, h.out, h.own⟩, h.below, h.keep⟩
theorem MS.start (W1 : World) (hR : Rd W g s p v) (hO : Out w0 W g v out) (hB : Below w0.heap.size w0 W) (hg : w0.heap.size ≤ g) (hb : W.heap.size = b) (h1 : W1 = W.alloc (.cells #[.int .i64 x.f0, .int .i64 x.f1, .string x.f2, .string x.f3, .int .i64 x.f4] 59)) : MS w0 W g b s x v (.slice none 0 0) v p out [] W1 := by
  subst h1
  have hA : Below W.heap.size W (W.alloc (.cells #[.int .i64 x.f0, .int .i64 x.f1, .string x.f2, .string x.f3, .int .i64 x.f4] 59)) := below_alloc (Below.refl _ _) _
  have hgl := blk_lt hR
  refine ⟨rd_below hR hA, Kd.R_below hO hA, Kd.R_nil _ _ _ _ _, ?_, by simp [Value.ownBlock], by simp [Value.ownBlock], by rw [← hb]; exact heap_alloc_new _ _, by omega, keep_wide (KeepBut.of_below hA g none), .inl rfl, below_step hB hA, hg⟩
  intro j hj
  have := out_lt hO hj
  exact ⟨by simp [Value.ownBlock], by omega⟩
end
/-- the contract of value at a fuel -/
def VC (w0 : World) (g : Nat) (s : ByteArray) (k : Nat) : Prop := ∀ (W : World) (p : Nat) (v : Value) (out : List S59) (y : S59) (r : Res), valueF k s p out y = some r → Rd W g s p v → Out w0 W g v out → Below w0.heap.size w0 W → p ≤ s.size →
  Calls Tryd.prog 69 #[.pointer (some ⟨g, 0, none⟩), itemV y] W fun e W' => e = .returned (.int .i64 r.1) ∧ Left w0 W W' g s r.2.1 v r.2.2
theorem after_cases {V : Nat → List S59 → S59 → Option Res} {L : Nat → List S59 → List ByteArray → Option Res} {s : ByteArray} {x : S59} {e p : Nat} {out : List S59} {keys : List ByteArray} {key : ByteArray} {r : Res} (h : afterKey V L s x e p out keys key = some r) :
    ∃ r1 : Res, V p out ⟨x.f0 + 1, 0, key, ⟨#[]⟩, 0⟩ = some r1 ∧ r1.2.1 ≤ s.size ∧ ((r1.1 ≠ 0 ∧ r = r1) ∨ (r1.1 = 0 ∧ (takesP s r1.2.1 e).1 = true ∧ r = (0, (takesP s r1.2.1 e).2, r1.2.2))
      ∨ (r1.1 = 0 ∧ (takesP s r1.2.1 e).1 = false ∧ (takesP s (takesP s r1.2.1 e).2 44).1 = true ∧ L (takesP s (takesP s r1.2.1 e).2 44).2 r1.2.2 keys = some r)
      ∨ (r1.1 = 0 ∧ (takesP s r1.2.1 e).1 = false ∧ (takesP s (takesP s r1.2.1 e).2 44).1 = false ∧ r = (80, (takesP s (takesP s r1.2.1 e).2 44).2, r1.2.2))) := by
  unfold afterKey at h
  obtain ⟨r1, hV, h⟩ := Option.bind_eq_some_iff.1 h
  refine ⟨r1, hV, ?_⟩
  by_cases a : r1.2.1 ≤ s.size
  · rw [if_pos a] at h
    refine ⟨a, ?_⟩
    by_cases c : r1.1 = 0
    · rw [if_pos c] at h
      by_cases d : (takesP s r1.2.1 e).1 = true
      · rw [if_pos d] at h
        exact .inr (.inl ⟨c, d, (Option.some.inj h).symm⟩)
      · rw [if_neg d] at h
        by_cases f : (takesP s (takesP s r1.2.1 e).2 44).1 = true
        · rw [if_pos f] at h
          exact .inr (.inr (.inl ⟨c, Bool.eq_false_iff.2 d, f, h⟩))
        · rw [if_neg f] at h
          exact .inr (.inr (.inr ⟨c, Bool.eq_false_iff.2 d, Bool.eq_false_iff.2 f, (Option.some.inj h).symm⟩))
    · rw [if_neg c] at h
      exact .inl ⟨c, (Option.some.inj h).symm⟩
  · rw [if_neg a] at h; cases h
set_option maxHeartbeats 16000000 in
set_option maxRecDepth 100000 in
theorem members_loop (w0 W : World) (g : Nat) (s : ByteArray) (p : Nat) (v : Value) (out : List S59) (x : S59) (e k : Nat) (r : Res) (hR : Rd W g s p v) (hO : Out w0 W g v out) (hB : Below w0.heap.size w0 W) (hg : w0.heap.size ≤ g) (hp : p ≤ s.size) (hs : s.size ≤ 4611686018427387904) (hj : JTabs w0)
    (hIH : ∀ j, j < k → VC w0 g s j) (ht : (takesP s p e).1 = false) (h : membersL k s (takesP s p e).2 out x e [] = some r) :
    Calls Tryd.prog 87 #[.pointer (some ⟨g, 0, none⟩), itemV x, .int .u8 (e : Int)] W fun ev W' => ev = .returned (.int .i64 r.1) ∧ Left w0 W W' g s r.2.1 v r.2.2 := by
  have HR := Aside0.mk hR
  have HO := Aside0.mk hO
  have HB := Aside0.mk hB
  have HG := Aside0.mk hg
  have HS := Aside0.mk hs
  have JT := Aside0.mk hj
  have IH := Aside0.mk hIH
  have HL := Aside0.mk h
  have HPs := Aside0.mk hp
  have HPt := Aside0.mk (takes_le s p e hp)
  clear hR hB hg hs hO hj hIH h hp
  unfold itemV
  go_enter Tryd.func87, Tryd.ntmps87
  go_wp2_with fail
  obtain ⟨b, hb⟩ : ∃ b, W.heap.size = b := ⟨_, rfl⟩
  have HM := Aside0.mk (MS.start (x := x) (W.alloc (.cells #[.int .i64 x.f0, .int .i64 x.f1, .string x.f2, .string x.f3, .int .i64 x.f4] 59)) HR.out HO.out HB.out HG.out hb rfl)
  rw [hb]
  generalize W.alloc (.cells #[.int .i64 x.f0, .int .i64 x.f1, .string x.f2, .string x.f3, .int .i64 x.f4] 59) = W1 at HM ⊢
  clear hb HR HO HB
  go_wp2_with (go_at_call 101; refine (takes_calls w0 W1 g s p v e HM.out.rd HM.out.below HG.out HPs.out HS.out).mono ?_; rintro ev w1 ⟨rfl, hR1, hB1, hK1⟩; have HM1 := Aside0.mk (HM.out.quiet hR1 hB1 hK1); clear hR1 hB1 hK1)
  go_loopg [7] k (fun kq v7 wr => ∃ (p : Nat) (out : List S59) (keys : List ByteArray) (vq : Value), Aside0 (membersL kq s p out x e keys = some r) ∧ Aside0 (kq ≤ k) ∧ Aside0 (p ≤ s.size) ∧ Aside0 (MS w0 W g b s x v v7 vq p out keys wr))
  case atStart => exact ⟨_, out, [], v, HL, ⟨Nat.le_refl _⟩, HPt, HM1⟩
  case round =>
    clear HPs HPt HL HM HM1
    obtain ⟨p, out, keys, vq, HL, HKK, HP, HM⟩ := hrel
    cases gk with
    | zero => exact absurd HL.out (by simp [membersL])
    | succ k1 =>
      have H := HL.out
      rw [membersL] at H
      by_cases hx : 0 ≤ x.f0 ∧ x.f0 < 64
      · rw [if_pos hx] at H
        obtain ⟨hx0, hx1⟩ := hx
        have hm0 : wr.cell? ⟨b, 0, none⟩ = some (.int .i64 x.f0) := (blk_cell HM.out.itm 0).trans rfl
        have hm1 : wr.cell? ⟨b, 1, none⟩ = some (.int .i64 x.f1) := (blk_cell HM.out.itm 1).trans rfl
        by_cases h7 : x.f1 = 7
        · rw [if_pos h7] at H
          have d7 : (x.f1 == 7) = true := beq_iff_eq.mpr h7
          clear h7
          by_cases hlk : (keys.length + 1) * 16 ≤ 140737488355328
          · rw [if_pos hlk] at H
            have HLK := Aside0.mk hlk
            clear hlk
            obtain ⟨⟨t, erk, q⟩, hK, H⟩ := Option.bind_eq_some_iff.1 H
            have FK := Aside0.mk hK
            clear hK
            simp only at H
            obtain ⟨A, c, rfl⟩ := Kd.R_slice HM.out.keys
            by_cases hqs : q ≤ s.size
            · rw [if_pos hqs] at H
              have HPk := Aside0.mk hqs
              clear hqs
              by_cases hek : erk = 0
              · rw [if_pos hek] at H
                subst hek
                obtain ⟨⟨er1, q1, out1⟩, hV, hq1, hcase⟩ := after_cases H
                have FV := Aside0.mk hV
                have HPq := Aside0.mk hq1
                clear H hV hq1
                simp only at hcase
                rcases hcase with ⟨hc, hr⟩ | ⟨rfl, ht1, hr⟩ | ⟨rfl, ht1, ht2, hr⟩ | ⟨rfl, ht1, ht2, hr⟩
                · have n1 : (er1 == 0) = false := beq_eq_false_iff_ne.mpr hc
                  have n2 : (er1 != 0) = true := bne_iff_ne.mpr hc
                  have HRR := Aside0.mk hr
                  clear hc hr
                  go_wp2_with (first
                            | (go_at_call 102; with_reducible refine (key_calls w0 wr g s p vq k1 keys t _ q A c FK.out HM.out.rd HM.out.below HG.out HP.out HS.out JT.out HM.out.keys).mono ?_; rintro ev w2 ⟨rfl, hR2, hB2, hK2⟩; have HM2 := Aside0.mk (HM.out.quiet hR2 hB2 hK2); clear hR2 hB2 hK2; have hm02 : w2.cell? ⟨b, 0, none⟩ = some (.int .i64 x.f0) := (blk_cell HM2.out.itm 0).trans rfl)
                            | (at_builtin; refine Kd.R_append Kd.string (w0 := w0) (W := w2) w0.heap.size rfl (.tmp 28) (.tmp 30) 83 9 (.string ⟨#[]⟩) 16 rfl Tryd.underlying83 info9 rfl (by decide) (by decide) (.slice A keys.length c) keys t [.string t] (fun j => j ≠ g) (fun _ => False) rfl rfl rfl (fun _ h => h.elim) (fun k hk => by have := blk_lt HM2.out.rd; omega) HM2.out.keys HM2.out.below HM2.out.below.size HLK.out ?_; intro v1 w3 hO3 hB3 hg3 hA3; obtain ⟨A1, c1, hv1⟩ := Kd.R_slice hO3; obtain ⟨N1, hN1⟩ : ∃ N1, (keys ++ [t]).length = N1 := ⟨_, rfl⟩; rw [hN1] at hv1; clear hN1; subst hv1; have HM3 := Aside0.mk (HM2.out.append hO3 hB3 hg3 hA3); clear hO3 hB3 hg3 hA3; have hm03 : w3.cell? ⟨b, 0, none⟩ = some (.int .i64 x.f0) := (blk_cell HM3.out.itm 0).trans rfl)
                            | (go_at_call 69; refine (IH.out k1 (by have := HKK.out; omega) w3 q vq out ⟨x.f0 + 1, 0, t, ⟨#[]⟩, 0⟩ _ FV.out HM3.out.rd HM3.out.out HM3.out.below HPk.out).mono ?_; rintro ev w4 ⟨rfl, hL4⟩; obtain ⟨v4, hM4⟩ := HM3.out.value hL4; have HM4 := Aside0.mk hM4; clear hL4 hM4))
                  go_ret
                  rw [HRR.out]
                  exact ⟨rfl, HM4.out.left⟩
                · have HRR := Aside0.mk hr
                  clear hr
                  go_wp2_with (first
                            | (go_at_call 102; with_reducible refine (key_calls w0 wr g s p vq k1 keys t _ q A c FK.out HM.out.rd HM.out.below HG.out HP.out HS.out JT.out HM.out.keys).mono ?_; rintro ev w2 ⟨rfl, hR2, hB2, hK2⟩; have HM2 := Aside0.mk (HM.out.quiet hR2 hB2 hK2); clear hR2 hB2 hK2; have hm02 : w2.cell? ⟨b, 0, none⟩ = some (.int .i64 x.f0) := (blk_cell HM2.out.itm 0).trans rfl)
                            | (at_builtin; refine Kd.R_append Kd.string (w0 := w0) (W := w2) w0.heap.size rfl (.tmp 28) (.tmp 30) 83 9 (.string ⟨#[]⟩) 16 rfl Tryd.underlying83 info9 rfl (by decide) (by decide) (.slice A keys.length c) keys t [.string t] (fun j => j ≠ g) (fun _ => False) rfl rfl rfl (fun _ h => h.elim) (fun k hk => by have := blk_lt HM2.out.rd; omega) HM2.out.keys HM2.out.below HM2.out.below.size HLK.out ?_; intro v1 w3 hO3 hB3 hg3 hA3; obtain ⟨A1, c1, hv1⟩ := Kd.R_slice hO3; obtain ⟨N1, hN1⟩ : ∃ N1, (keys ++ [t]).length = N1 := ⟨_, rfl⟩; rw [hN1] at hv1; clear hN1; subst hv1; have HM3 := Aside0.mk (HM2.out.append hO3 hB3 hg3 hA3); clear hO3 hB3 hg3 hA3; have hm03 : w3.cell? ⟨b, 0, none⟩ = some (.int .i64 x.f0) := (blk_cell HM3.out.itm 0).trans rfl)
                            | (go_at_call 69; refine (IH.out k1 (by have := HKK.out; omega) w3 q vq out ⟨x.f0 + 1, 0, t, ⟨#[]⟩, 0⟩ _ FV.out HM3.out.rd HM3.out.out HM3.out.below HPk.out).mono ?_; rintro ev w4 ⟨rfl, hL4⟩; obtain ⟨v4, hM4⟩ := HM3.out.value hL4; have HM4 := Aside0.mk hM4; clear hL4 hM4)
                            | (go_at_call 101; with_reducible refine (takes_calls w0 w4 g s q1 v4 e HM4.out.rd HM4.out.below HG.out HPq.out HS.out).mono ?_; rintro ev w5 ⟨rfl, hR5, hB5, hK5⟩; have HM5 := Aside0.mk (HM4.out.quiet hR5 hB5 hK5); clear hR5 hB5 hK5))
                  go_ret
                  rw [HRR.out]
                  exact ⟨rfl, HM5.out.left⟩
                · have HRR := Aside0.mk hr
                  clear hr
                  go_wp2_with (first
                            | (go_at_call 102; with_reducible refine (key_calls w0 wr g s p vq k1 keys t _ q A c FK.out HM.out.rd HM.out.below HG.out HP.out HS.out JT.out HM.out.keys).mono ?_; rintro ev w2 ⟨rfl, hR2, hB2, hK2⟩; have HM2 := Aside0.mk (HM.out.quiet hR2 hB2 hK2); clear hR2 hB2 hK2; have hm02 : w2.cell? ⟨b, 0, none⟩ = some (.int .i64 x.f0) := (blk_cell HM2.out.itm 0).trans rfl)
                            | (at_builtin; refine Kd.R_append Kd.string (w0 := w0) (W := w2) w0.heap.size rfl (.tmp 28) (.tmp 30) 83 9 (.string ⟨#[]⟩) 16 rfl Tryd.underlying83 info9 rfl (by decide) (by decide) (.slice A keys.length c) keys t [.string t] (fun j => j ≠ g) (fun _ => False) rfl rfl rfl (fun _ h => h.elim) (fun k hk => by have := blk_lt HM2.out.rd; omega) HM2.out.keys HM2.out.below HM2.out.below.size HLK.out ?_; intro v1 w3 hO3 hB3 hg3 hA3; obtain ⟨A1, c1, hv1⟩ := Kd.R_slice hO3; obtain ⟨N1, hN1⟩ : ∃ N1, (keys ++ [t]).length = N1 := ⟨_, rfl⟩; rw [hN1] at hv1; clear hN1; subst hv1; have HM3 := Aside0.mk (HM2.out.append hO3 hB3 hg3 hA3); clear hO3 hB3 hg3 hA3; have hm03 : w3.cell? ⟨b, 0, none⟩ = some (.int .i64 x.f0) := (blk_cell HM3.out.itm 0).trans rfl)
                            | (go_at_call 69; refine (IH.out k1 (by have := HKK.out; omega) w3 q vq out ⟨x.f0 + 1, 0, t, ⟨#[]⟩, 0⟩ _ FV.out HM3.out.rd HM3.out.out HM3.out.below HPk.out).mono ?_; rintro ev w4 ⟨rfl, hL4⟩; obtain ⟨v4, hM4⟩ := HM3.out.value hL4; have HM4 := Aside0.mk hM4; clear hL4 hM4)
                            | (go_at_call 101; with_reducible refine (takes_calls w0 w4 g s q1 v4 e HM4.out.rd HM4.out.below HG.out HPq.out HS.out).mono ?_; rintro ev w5 ⟨rfl, hR5, hB5, hK5⟩; have HM5 := Aside0.mk (HM4.out.quiet hR5 hB5 hK5); clear hR5 hB5 hK5)
                            | (go_at_call 101; refine (takes_calls w0 w5 g s (takesP s q1 e).2 v4 44 HM5.out.rd HM5.out.below HG.out (takes_le s q1 e HPq.out) HS.out).mono ?_; rintro ev w6 ⟨rfl, hR6, hB6, hK6⟩; have HM6 := Aside0.mk (HM5.out.quiet hR6 hB6 hK6); clear hR6 hB6 hK6))
                  go_roundg k1
                  case measure => omega
                  case rel => exact ⟨_, out1, (keys ++ [t]), v4, HRR, ⟨by have := HKK.out; omega⟩, ⟨takes_le s _ 44 (takes_le s q1 e HPq.out)⟩, HM6⟩
                · have HRR := Aside0.mk hr
                  clear hr
                  go_wp2_with (first
                            | (go_at_call 102; with_reducible refine (key_calls w0 wr g s p vq k1 keys t _ q A c FK.out HM.out.rd HM.out.below HG.out HP.out HS.out JT.out HM.out.keys).mono ?_; rintro ev w2 ⟨rfl, hR2, hB2, hK2⟩; have HM2 := Aside0.mk (HM.out.quiet hR2 hB2 hK2); clear hR2 hB2 hK2; have hm02 : w2.cell? ⟨b, 0, none⟩ = some (.int .i64 x.f0) := (blk_cell HM2.out.itm 0).trans rfl)
                            | (at_builtin; refine Kd.R_append Kd.string (w0 := w0) (W := w2) w0.heap.size rfl (.tmp 28) (.tmp 30) 83 9 (.string ⟨#[]⟩) 16 rfl Tryd.underlying83 info9 rfl (by decide) (by decide) (.slice A keys.length c) keys t [.string t] (fun j => j ≠ g) (fun _ => False) rfl rfl rfl (fun _ h => h.elim) (fun k hk => by have := blk_lt HM2.out.rd; omega) HM2.out.keys HM2.out.below HM2.out.below.size HLK.out ?_; intro v1 w3 hO3 hB3 hg3 hA3; obtain ⟨A1, c1, hv1⟩ := Kd.R_slice hO3; obtain ⟨N1, hN1⟩ : ∃ N1, (keys ++ [t]).length = N1 := ⟨_, rfl⟩; rw [hN1] at hv1; clear hN1; subst hv1; have HM3 := Aside0.mk (HM2.out.append hO3 hB3 hg3 hA3); clear hO3 hB3 hg3 hA3; have hm03 : w3.cell? ⟨b, 0, none⟩ = some (.int .i64 x.f0) := (blk_cell HM3.out.itm 0).trans rfl)
                            | (go_at_call 69; refine (IH.out k1 (by have := HKK.out; omega) w3 q vq out ⟨x.f0 + 1, 0, t, ⟨#[]⟩, 0⟩ _ FV.out HM3.out.rd HM3.out.out HM3.out.below HPk.out).mono ?_; rintro ev w4 ⟨rfl, hL4⟩; obtain ⟨v4, hM4⟩ := HM3.out.value hL4; have HM4 := Aside0.mk hM4; clear hL4 hM4)
                            | (go_at_call 101; with_reducible refine (takes_calls w0 w4 g s q1 v4 e HM4.out.rd HM4.out.below HG.out HPq.out HS.out).mono ?_; rintro ev w5 ⟨rfl, hR5, hB5, hK5⟩; have HM5 := Aside0.mk (HM4.out.quiet hR5 hB5 hK5); clear hR5 hB5 hK5)
                            | (go_at_call 101; refine (takes_calls w0 w5 g s (takesP s q1 e).2 v4 44 HM5.out.rd HM5.out.below HG.out (takes_le s q1 e HPq.out) HS.out).mono ?_; rintro ev w6 ⟨rfl, hR6, hB6, hK6⟩; have HM6 := Aside0.mk (HM5.out.quiet hR6 hB6 hK6); clear hR6 hB6 hK6))
                  go_ret
                  rw [HRR.out]
                  exact ⟨rfl, HM6.out.left⟩
              · rw [if_neg hek] at H
                have n1 : (erk == 0) = false := beq_eq_false_iff_ne.mpr hek
                have n2 : (erk != 0) = true := bne_iff_ne.mpr hek
                have HRR := Aside0.mk (Option.some.inj H)
                clear H hek
                go_wp2_with (go_at_call 102; with_reducible refine (key_calls w0 wr g s p vq k1 keys t _ q A c FK.out HM.out.rd HM.out.below HG.out HP.out HS.out JT.out HM.out.keys).mono ?_; rintro ev w2 ⟨rfl, hR2, hB2, hK2⟩; have HM2 := Aside0.mk (HM.out.quiet hR2 hB2 hK2); clear hR2 hB2 hK2; have hm02 : w2.cell? ⟨b, 0, none⟩ = some (.int .i64 x.f0) := (blk_cell HM2.out.itm 0).trans rfl)
                go_ret
                rw [← HRR.out]
                exact ⟨rfl, HM2.out.left⟩
            · rw [if_neg hqs] at H; cases H
          · rw [if_neg hlk] at H; cases H
        · rw [if_neg h7] at H
          have d7 : (x.f1 == 7) = false := beq_eq_false_iff_ne.mpr h7
          obtain ⟨⟨er1, q1, out1⟩, hV, hq1, hcase⟩ := after_cases H
          have FV := Aside0.mk hV
          have HPq := Aside0.mk hq1
          clear H hV hq1
          simp only at hcase
          rcases hcase with ⟨hc, hr⟩ | ⟨rfl, ht1, hr⟩ | ⟨rfl, ht1, ht2, hr⟩ | ⟨rfl, ht1, ht2, hr⟩
          · have n1 : (er1 == 0) = false := beq_eq_false_iff_ne.mpr hc
            have n2 : (er1 != 0) = true := bne_iff_ne.mpr hc
            have HRR := Aside0.mk hr
            clear hc hr
            go_wp2_with (first
                      | (go_at_call 69; refine (IH.out k1 (by have := HKK.out; omega) wr p vq out ⟨x.f0 + 1, 0, ⟨#[]⟩, ⟨#[]⟩, 0⟩ _ FV.out HM.out.rd HM.out.out HM.out.below HP.out).mono ?_; rintro ev w4 ⟨rfl, hL4⟩; obtain ⟨v4, hM4⟩ := HM.out.value hL4; have HM4 := Aside0.mk hM4; clear hL4 hM4))
            go_ret
            rw [HRR.out]
            exact ⟨rfl, HM4.out.left⟩
          · have HRR := Aside0.mk hr
            clear hr
            go_wp2_with (first
                      | (go_at_call 69; refine (IH.out k1 (by have := HKK.out; omega) wr p vq out ⟨x.f0 + 1, 0, ⟨#[]⟩, ⟨#[]⟩, 0⟩ _ FV.out HM.out.rd HM.out.out HM.out.below HP.out).mono ?_; rintro ev w4 ⟨rfl, hL4⟩; obtain ⟨v4, hM4⟩ := HM.out.value hL4; have HM4 := Aside0.mk hM4; clear hL4 hM4)
                      | (go_at_call 101; with_reducible refine (takes_calls w0 w4 g s q1 v4 e HM4.out.rd HM4.out.below HG.out HPq.out HS.out).mono ?_; rintro ev w5 ⟨rfl, hR5, hB5, hK5⟩; have HM5 := Aside0.mk (HM4.out.quiet hR5 hB5 hK5); clear hR5 hB5 hK5))
            go_ret
            rw [HRR.out]
            exact ⟨rfl, HM5.out.left⟩
          · have HRR := Aside0.mk hr
            clear hr
            go_wp2_with (first
                      | (go_at_call 69; refine (IH.out k1 (by have := HKK.out; omega) wr p vq out ⟨x.f0 + 1, 0, ⟨#[]⟩, ⟨#[]⟩, 0⟩ _ FV.out HM.out.rd HM.out.out HM.out.below HP.out).mono ?_; rintro ev w4 ⟨rfl, hL4⟩; obtain ⟨v4, hM4⟩ := HM.out.value hL4; have HM4 := Aside0.mk hM4; clear hL4 hM4)
                      | (go_at_call 101; with_reducible refine (takes_calls w0 w4 g s q1 v4 e HM4.out.rd HM4.out.below HG.out HPq.out HS.out).mono ?_; rintro ev w5 ⟨rfl, hR5, hB5, hK5⟩; have HM5 := Aside0.mk (HM4.out.quiet hR5 hB5 hK5); clear hR5 hB5 hK5)
                      | (go_at_call 101; refine (takes_calls w0 w5 g s (takesP s q1 e).2 v4 44 HM5.out.rd HM5.out.below HG.out (takes_le s q1 e HPq.out) HS.out).mono ?_; rintro ev w6 ⟨rfl, hR6, hB6, hK6⟩; have HM6 := Aside0.mk (HM5.out.quiet hR6 hB6 hK6); clear hR6 hB6 hK6))
            go_roundg k1
            case measure => omega
            case rel => exact ⟨_, out1, keys, v4, HRR, ⟨by have := HKK.out; omega⟩, ⟨takes_le s _ 44 (takes_le s q1 e HPq.out)⟩, HM6⟩
          · have HRR := Aside0.mk hr
            clear hr
            go_wp2_with (first
                      | (go_at_call 69; refine (IH.out k1 (by have := HKK.out; omega) wr p vq out ⟨x.f0 + 1, 0, ⟨#[]⟩, ⟨#[]⟩, 0⟩ _ FV.out HM.out.rd HM.out.out HM.out.below HP.out).mono ?_; rintro ev w4 ⟨rfl, hL4⟩; obtain ⟨v4, hM4⟩ := HM.out.value hL4; have HM4 := Aside0.mk hM4; clear hL4 hM4)
                      | (go_at_call 101; with_reducible refine (takes_calls w0 w4 g s q1 v4 e HM4.out.rd HM4.out.below HG.out HPq.out HS.out).mono ?_; rintro ev w5 ⟨rfl, hR5, hB5, hK5⟩; have HM5 := Aside0.mk (HM4.out.quiet hR5 hB5 hK5); clear hR5 hB5 hK5)
                      | (go_at_call 101; refine (takes_calls w0 w5 g s (takesP s q1 e).2 v4 44 HM5.out.rd HM5.out.below HG.out (takes_le s q1 e HPq.out) HS.out).mono ?_; rintro ev w6 ⟨rfl, hR6, hB6, hK6⟩; have HM6 := Aside0.mk (HM5.out.quiet hR6 hB6 hK6); clear hR6 hB6 hK6))
            go_ret
            rw [HRR.out]
            exact ⟨rfl, HM6.out.left⟩
      · rw [if_neg hx] at H; cases H
end Go.Proofs.YthhmmaihbjhhgaaDoor.Giv
