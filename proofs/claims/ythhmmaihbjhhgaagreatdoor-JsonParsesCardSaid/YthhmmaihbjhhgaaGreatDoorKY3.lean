/- What the proof of chapter 8's laws, part 3, stands on: cut and merged by a program out of this session's texts. -/
import Derived.Test.YthhmmaihbjhhgaaGreatDoorKY2
import Derived.Test.YthhmmaihbjhhgaaGreatDoorProg
import Derived.Below
import Derived.Deep.Draws
import Derived.Deep.AppendLies
import Derived.Maps.AppendAt
import Derived.OwnWalk
import Derived.Laws.BytesArg
import Derived.Laws.MakeOwn
import Derived.Laws.OwnMore
import Derived.Deep.OwnRows
import Derived.Tactics
import Derived.Lib.ConvBytes
import Derived.Laws.Slices
import Derived.WalkKit
import Derived.KernelRfl
import Derived.RowKit3
import Derived.Deep.LoopGhost
import Derived.Deep.QuietTactic
import Derived.BigQuiet
import Derived.WideLaws
import Derived.Deep.DeepCutAuto
import Derived.Deep.CutBlock
import Derived.Deep.RegionHeld3
import Derived.Laws.Rows
import Derived.Lib.AppendStr
import Derived.ArgAppend
import Derived.Laws.IdiomCopy
import Derived.OrdersHeld
import Derived.Laws.BitsLemmas
import Derived.RowKit
set_option linter.unusedVariables false
set_option linter.unusedSimpArgs false
set_option linter.unusedSectionVars false
set_option maxHeartbeats 8000000
set_option maxRecDepth 100000
namespace Go.Proofs.NGiv
open Go.RowKit Go.Proofs.Wa Go.Proofs.Wb Go.Proofs.Wc
open Go.Proofs.NU1 Go.Proofs.NQ1
theorem Xu (s : ByteArray) (p : Nat) (hp : p ≤ s.size) : Zb s p ≤ s.size := by
 have g : ∀ l : List UInt8, skips l ≤ l.length := by
  intro l
  induction l with
  | nil => exact Xbc _
  | cons c l ih =>
   rw [skips, Xbd]; split
   ·omega
   ·omega
 have := g (s.data.toList.drop p)
 rw [Zbb, data_length] at this
 unfold Zb; omega
def Xi (s : ByteArray) (p : Nat) (c : Nat) : Bool × Nat := if zd s p = c ∧ Zb s p < s.size then (true, Zb s p + 1) else (false, Zb s p)
theorem takes_not (w0 W : World) (g : Nat) (s : ByteArray) (p : Nat) (v : Value) (c : Nat) (hR : Rd W g s p v) (hB : Below w0.heap.size w0 W) (hg : w0.heap.size ≤ g) (hp : p ≤ s.size) (hs : s.size ≤ 4611686018427387904) (hc : zd s p ≠ c) :
  Calls Tryz.prog 60 #[.pointer (some ⟨g, 0, none⟩), .int .u8 (c : Int)] W fun e W' => e = .returned (.bool false) ∧ Rd W' g s (Zb s p) v ∧ Below w0.heap.size w0 W' ∧ KeepBut W W' g none := by
 have HR := Aside0.mk hR
 have HB := Aside0.mk hB
 have HG := Aside0.mk hg
 have HS := Aside0.mk hs
 have HP := Aside0.mk hp
 have hc0 : W.drew.cell? ⟨g, 0, none⟩ = some (.string s) := (zb hR 0).trans rfl
 have n1 : ((zd s p : Int) == (c : Int)) = false := Ybb.mpr (by omega)
 have n2 : ((zd s p : Int) != (c : Int)) = true := Zbh.mpr (by omega)
 clear hc
 clear hR hB hg hs hp
 go_enter Tryz.func60, Tryz.ntmps60
 go_wp2_with fail
 refine wp_region_held_drew (S := fun w' => w'.cell? ⟨g, 0, none⟩ = some (.string s)) (by kernel_rfl) hc0 (fun hHeld => ?_)
 refine tA 0 5 (v := ?_) rfl (.inl ⟨by rfl, ?_⟩) ?_
 rotate_left
 ·intro w hSw
  (try dsimp only at hSw)
  go_simp
  (try with_reducible rfl)
 (try simp only [Act.put, qA, qB, qC])
 refine tA 2 7 (v := ?_) rfl (.inl ⟨by rfl, ?_⟩) ?_
 rotate_left
 ·intro w hSw
  (try dsimp only at hSw)
  go_simp
  (try with_reducible rfl)
 (try simp only [Act.put, qA, qB, qC])
 refine wpAnyH_ready (rs := [1]) (by kernel_rfl) (by simp) ?_
 refine tB 6 rfl (fun K hK => ?_) AllReadyH.nil
 go_simp
 (go_at_call 23; refine (Zn w0 W.drew g s p v HR.out (by repeat (first | exact HB.out | apply Xa)) HG.out HP.out HS.out).mono ?_; rintro e w1 ⟨rfl, hR1, hB1, hK1⟩)
 have HR := Aside0.mk hR1
 have HB := Aside0.mk hB1
 have HK := Aside0.mk hK1
 have hd0 : w1.cell? ⟨g, 0, none⟩ = some (.string s) := (zb hR1 0).trans rfl
 have hd1 : w1.cell? ⟨g, 1, none⟩ = some (.int .i64 (Zb s p : Nat)) := (zb hR1 1).trans rfl
 have hf1 := zg hR1 1
 clear hR1 hB1 hK1
 go_wp2_with fail
 refine hK.out _ _ ?_ (fun hHeld => ?_)
 ·exact hd0
 clear hK K
 (try simp only [Act.put, qA, qB, qC])
 refine tA 3 8 (v := ?_) rfl (.inl ⟨by rfl, ?_⟩) ?_
 rotate_left
 ·intro w hSw
  (try dsimp only at hSw)
  go_simp
  (try with_reducible rfl)
 (try simp only [Act.put, qA, qB, qC])
 refine tA 4 9 (v := ?_) rfl (.inl ⟨by rfl, ?_⟩) ?_
 rotate_left
 ·intro w hSw
  (try dsimp only at hSw)
  go_simp
  (try with_reducible rfl)
 (try simp only [Act.put, qA, qB, qC])
 refine tA 5 10 (v := undef) rfl (.inr ⟨by rfl, rfl⟩) ?_
 (try simp only [Act.put, qA, qB, qC])
 refine tA 6 11 (v := undef) rfl (.inr ⟨by rfl, rfl⟩) ?_
 (try simp only [Act.put, qA, qB, qC])
 refine tA 7 12 (v := undef) rfl (.inr ⟨by rfl, rfl⟩) ?_
 (try simp only [Act.put, qA, qB, qC])
 refine tA 8 13 (v := undef) rfl (.inr ⟨by rfl, rfl⟩) ?_
 (try simp only [Act.put, qA, qB, qC])
 refine tA 9 14 (v := undef) rfl (.inr ⟨by rfl, rfl⟩) ?_
 (try simp only [Act.put, qA, qB, qC])
 refine tA 10 15 (v := undef) rfl (.inr ⟨by rfl, rfl⟩) ?_
 (try simp only [Act.put, qA, qB, qC])
 refine tA 11 16 (v := undef) rfl (.inr ⟨by rfl, rfl⟩) ?_
 (try simp only [Act.put, qA, qB, qC])
 refine tA 12 17 (v := undef) rfl (.inr ⟨by rfl, rfl⟩) ?_
 (try simp only [Act.put, qA, qB, qC])
 refine tA 13 18 (v := undef) rfl (.inr ⟨by rfl, rfl⟩) ?_
 (try simp only [Act.put, qA, qB, qC])
 refine tA 14 19 (v := undef) rfl (.inr ⟨by rfl, rfl⟩) ?_
 (try simp only [Act.put, qA, qB, qC])
 refine tA 15 20 (v := ?_) rfl (.inl ⟨by rfl, ?_⟩) ?_
 rotate_left
 ·intro w hSw
  (try dsimp only at hSw)
  go_simp
  (try with_reducible rfl)
 (try simp only [Act.put, qA, qB, qC])
 refine wpAnyH_done (by kernel_rfl) ?_ _
 go_wp2_with fail
 go_ret
 exact ⟨rfl, HR.out, HB.out, HK.out⟩
theorem takes_end (w0 W : World) (g : Nat) (s : ByteArray) (p : Nat) (v : Value) (c : Nat) (hR : Rd W g s p v) (hB : Below w0.heap.size w0 W) (hg : w0.heap.size ≤ g) (hp : p ≤ s.size) (hs : s.size ≤ 4611686018427387904) (hc : zd s p = c) (he : Zb s p = s.size) :
  Calls Tryz.prog 60 #[.pointer (some ⟨g, 0, none⟩), .int .u8 (c : Int)] W fun e W' => e = .returned (.bool false) ∧ Rd W' g s (Zb s p) v ∧ Below w0.heap.size w0 W' ∧ KeepBut W W' g none := by
 have HR := Aside0.mk hR
 have HB := Aside0.mk hB
 have HG := Aside0.mk hg
 have HS := Aside0.mk hs
 have HP := Aside0.mk hp
 have hc0 : W.drew.cell? ⟨g, 0, none⟩ = some (.string s) := (zb hR 0).trans rfl
 have n1 : ((zd s p : Int) == (c : Int)) = true := Ybf.mpr (by omega)
 have n2 : ((zd s p : Int) != (c : Int)) = false := Ybh.mpr (by omega)
 have n3 : ((Zb s p : Int) == (s.size : Int)) = true := Ybf.mpr (by omega)
 clear hc he
 clear hR hB hg hs hp
 go_enter Tryz.func60, Tryz.ntmps60
 go_wp2_with fail
 refine wp_region_held_drew (S := fun w' => w'.cell? ⟨g, 0, none⟩ = some (.string s)) (by kernel_rfl) hc0 (fun hHeld => ?_)
 refine tA 0 5 (v := ?_) rfl (.inl ⟨by rfl, ?_⟩) ?_
 rotate_left
 ·intro w hSw
  (try dsimp only at hSw)
  go_simp
  (try with_reducible rfl)
 (try simp only [Act.put, qA, qB, qC])
 refine tA 2 7 (v := ?_) rfl (.inl ⟨by rfl, ?_⟩) ?_
 rotate_left
 ·intro w hSw
  (try dsimp only at hSw)
  go_simp
  (try with_reducible rfl)
 (try simp only [Act.put, qA, qB, qC])
 refine wpAnyH_ready (rs := [1]) (by kernel_rfl) (by simp) ?_
 refine tB 6 rfl (fun K hK => ?_) AllReadyH.nil
 go_simp
 (go_at_call 23; refine (Zn w0 W.drew g s p v HR.out (by repeat (first | exact HB.out | apply Xa)) HG.out HP.out HS.out).mono ?_; rintro e w1 ⟨rfl, hR1, hB1, hK1⟩)
 have HR := Aside0.mk hR1
 have HB := Aside0.mk hB1
 have HK := Aside0.mk hK1
 have hd0 : w1.cell? ⟨g, 0, none⟩ = some (.string s) := (zb hR1 0).trans rfl
 have hd1 : w1.cell? ⟨g, 1, none⟩ = some (.int .i64 (Zb s p : Nat)) := (zb hR1 1).trans rfl
 have hf1 := zg hR1 1
 clear hR1 hB1 hK1
 go_wp2_with fail
 refine hK.out _ _ ?_ (fun hHeld => ?_)
 ·exact hd0
 clear hK K
 (try simp only [Act.put, qA, qB, qC])
 refine tA 3 8 (v := ?_) rfl (.inl ⟨by rfl, ?_⟩) ?_
 rotate_left
 ·intro w hSw
  (try dsimp only at hSw)
  go_simp
  (try with_reducible rfl)
 (try simp only [Act.put, qA, qB, qC])
 refine tA 4 9 (v := ?_) rfl (.inl ⟨by rfl, ?_⟩) ?_
 rotate_left
 ·intro w hSw
  (try dsimp only at hSw)
  go_simp
  (try with_reducible rfl)
 (try simp only [Act.put, qA, qB, qC])
 refine tA 5 10 (v := ?_) rfl (.inl ⟨by rfl, ?_⟩) ?_
 rotate_left
 ·intro w hSw
  (try dsimp only at hSw)
  go_simp
  (try with_reducible rfl)
 (try simp only [Act.put, qA, qB, qC])
 refine tA 6 11 (v := ?_) rfl (.inl ⟨by rfl, ?_⟩) ?_
 rotate_left
 ·intro w hSw
  (try dsimp only at hSw)
  go_simp
  (try with_reducible rfl)
 (try simp only [Act.put, qA, qB, qC])
 refine tA 7 12 (v := ?_) rfl (.inl ⟨by rfl, ?_⟩) ?_
 rotate_left
 ·intro w hSw
  (try dsimp only at hSw)
  go_simp
  (try with_reducible rfl)
 (try simp only [Act.put, qA, qB, qC])
 refine tA 9 14 (v := ?_) rfl (.inl ⟨by rfl, ?_⟩) ?_
 rotate_left
 ·intro w hSw
  (try dsimp only at hSw)
  go_simp
  (try with_reducible rfl)
 (try simp only [Act.put, qA, qB, qC])
 refine tA 10 15 (v := ?_) rfl (.inl ⟨by rfl, ?_⟩) ?_
 rotate_left
 ·intro w hSw
  (try dsimp only at hSw)
  go_simp
  (try with_reducible rfl)
 (try simp only [Act.put, qA, qB, qC])
 refine tA 11 16 (v := ?_) rfl (.inl ⟨by rfl, ?_⟩) ?_
 rotate_left
 ·intro w hSw
  (try dsimp only at hSw)
  go_simp
  (try with_reducible rfl)
 (try simp only [Act.put, qA, qB, qC])
 refine tA 12 17 (v := ?_) rfl (.inl ⟨by rfl, ?_⟩) ?_
 rotate_left
 ·intro w hSw
  (try dsimp only at hSw)
  go_simp
  (try with_reducible rfl)
 (try simp only [Act.put, qA, qB, qC])
 refine tA 13 18 (v := ?_) rfl (.inl ⟨by rfl, ?_⟩) ?_
 rotate_left
 ·intro w hSw
  (try dsimp only at hSw)
  go_simp
  (try with_reducible rfl)
 (try simp only [Act.put, qA, qB, qC])
 refine wpAnyH_ready (rs := [8]) (by kernel_rfl) (by simp) ?_
 refine tB 13 rfl (fun K hK => ?_) AllReadyH.nil
 go_simp
 go_wp2_with fail
 refine hK.out _ _ ?_ (fun hHeld => ?_)
 ·exact hd0
 clear hK K
 (try simp only [Act.put, qA, qB, qC])
 refine tA 14 19 (v := ?_) rfl (.inl ⟨by rfl, ?_⟩) ?_
 rotate_left
 ·intro w hSw
  (try dsimp only at hSw)
  go_simp
  (try with_reducible rfl)
 (try simp only [Act.put, qA, qB, qC])
 refine tA 15 20 (v := ?_) rfl (.inl ⟨by rfl, ?_⟩) ?_
 rotate_left
 ·intro w hSw
  (try dsimp only at hSw)
  go_simp
  (try with_reducible rfl)
 (try simp only [Act.put, qA, qB, qC])
 refine wpAnyH_done (by kernel_rfl) ?_ _
 go_wp2_with fail
 go_ret
 exact ⟨rfl, HR.out, HB.out, HK.out⟩
theorem takes_yes (w0 W : World) (g : Nat) (s : ByteArray) (p : Nat) (v : Value) (c : Nat) (hR : Rd W g s p v) (hB : Below w0.heap.size w0 W) (hg : w0.heap.size ≤ g) (hp : p ≤ s.size) (hs : s.size ≤ 4611686018427387904) (hc : zd s p = c) (he : Zb s p < s.size) :
  Calls Tryz.prog 60 #[.pointer (some ⟨g, 0, none⟩), .int .u8 (c : Int)] W fun e W' => e = .returned (.bool true) ∧ Rd W' g s (Zb s p + 1) v ∧ Below w0.heap.size w0 W' ∧ KeepBut W W' g none := by
 have HR := Aside0.mk hR
 have HB := Aside0.mk hB
 have HG := Aside0.mk hg
 have HS := Aside0.mk hs
 have HP := Aside0.mk hp
 have hc0 : W.drew.cell? ⟨g, 0, none⟩ = some (.string s) := (zb hR 0).trans rfl
 have n1 : ((zd s p : Int) == (c : Int)) = true := Ybf.mpr (by omega)
 have n2 : ((zd s p : Int) != (c : Int)) = false := Ybh.mpr (by omega)
 have n3 : ((Zb s p : Int) == (s.size : Int)) = false := Ybb.mpr (by omega)
 have HW : Aside0 (wrap64 ((Zb s p : Int) + 1) = ((Zb s p + 1 : Nat) : Int)) := ⟨by unfold wrap64; omega⟩
 clear hc he
 clear hR hB hg hs hp
 go_enter Tryz.func60, Tryz.ntmps60
 go_wp2_with fail
 refine wp_region_held_drew (S := fun w' => w'.cell? ⟨g, 0, none⟩ = some (.string s)) (by kernel_rfl) hc0 (fun hHeld => ?_)
 refine tA 0 5 (v := ?_) rfl (.inl ⟨by rfl, ?_⟩) ?_
 rotate_left
 ·intro w hSw
  (try dsimp only at hSw)
  go_simp
  (try with_reducible rfl)
 (try simp only [Act.put, qA, qB, qC])
 refine tA 2 7 (v := ?_) rfl (.inl ⟨by rfl, ?_⟩) ?_
 rotate_left
 ·intro w hSw
  (try dsimp only at hSw)
  go_simp
  (try with_reducible rfl)
 (try simp only [Act.put, qA, qB, qC])
 refine wpAnyH_ready (rs := [1]) (by kernel_rfl) (by simp) ?_
 refine tB 6 rfl (fun K hK => ?_) AllReadyH.nil
 go_simp
 (go_at_call 23; refine (Zn w0 W.drew g s p v HR.out (by repeat (first | exact HB.out | apply Xa)) HG.out HP.out HS.out).mono ?_; rintro e w1 ⟨rfl, hR1, hB1, hK1⟩)
 have HR := Aside0.mk hR1
 have HB := Aside0.mk hB1
 have HK := Aside0.mk hK1
 have hd0 : w1.cell? ⟨g, 0, none⟩ = some (.string s) := (zb hR1 0).trans rfl
 have hd1 : w1.cell? ⟨g, 1, none⟩ = some (.int .i64 (Zb s p : Nat)) := (zb hR1 1).trans rfl
 have hf1 := zg hR1 1
 clear hR1 hB1 hK1
 go_wp2_with fail
 refine hK.out _ _ ?_ (fun hHeld => ?_)
 ·exact hd0
 clear hK K
 (try simp only [Act.put, qA, qB, qC])
 refine tA 3 8 (v := ?_) rfl (.inl ⟨by rfl, ?_⟩) ?_
 rotate_left
 ·intro w hSw
  (try dsimp only at hSw)
  go_simp
  (try with_reducible rfl)
 (try simp only [Act.put, qA, qB, qC])
 refine tA 4 9 (v := ?_) rfl (.inl ⟨by rfl, ?_⟩) ?_
 rotate_left
 ·intro w hSw
  (try dsimp only at hSw)
  go_simp
  (try with_reducible rfl)
 (try simp only [Act.put, qA, qB, qC])
 refine tA 5 10 (v := ?_) rfl (.inl ⟨by rfl, ?_⟩) ?_
 rotate_left
 ·intro w hSw
  (try dsimp only at hSw)
  go_simp
  (try with_reducible rfl)
 (try simp only [Act.put, qA, qB, qC])
 refine tA 6 11 (v := ?_) rfl (.inl ⟨by rfl, ?_⟩) ?_
 rotate_left
 ·intro w hSw
  (try dsimp only at hSw)
  go_simp
  (try with_reducible rfl)
 (try simp only [Act.put, qA, qB, qC])
 refine tA 7 12 (v := ?_) rfl (.inl ⟨by rfl, ?_⟩) ?_
 rotate_left
 ·intro w hSw
  (try dsimp only at hSw)
  go_simp
  (try with_reducible rfl)
 (try simp only [Act.put, qA, qB, qC])
 refine tA 9 14 (v := ?_) rfl (.inl ⟨by rfl, ?_⟩) ?_
 rotate_left
 ·intro w hSw
  (try dsimp only at hSw)
  go_simp
  (try with_reducible rfl)
 (try simp only [Act.put, qA, qB, qC])
 refine tA 10 15 (v := ?_) rfl (.inl ⟨by rfl, ?_⟩) ?_
 rotate_left
 ·intro w hSw
  (try dsimp only at hSw)
  go_simp
  (try with_reducible rfl)
 (try simp only [Act.put, qA, qB, qC])
 refine tA 11 16 (v := ?_) rfl (.inl ⟨by rfl, ?_⟩) ?_
 rotate_left
 ·intro w hSw
  (try dsimp only at hSw)
  go_simp
  (try with_reducible rfl)
 (try simp only [Act.put, qA, qB, qC])
 refine tA 12 17 (v := ?_) rfl (.inl ⟨by rfl, ?_⟩) ?_
 rotate_left
 ·intro w hSw
  (try dsimp only at hSw)
  go_simp
  (try with_reducible rfl)
 (try simp only [Act.put, qA, qB, qC])
 refine tA 13 18 (v := ?_) rfl (.inl ⟨by rfl, ?_⟩) ?_
 rotate_left
 ·intro w hSw
  (try dsimp only at hSw)
  go_simp
  (try with_reducible rfl)
 (try simp only [Act.put, qA, qB, qC])
 refine wpAnyH_ready (rs := [8]) (by kernel_rfl) (by simp) ?_
 refine tB 13 rfl (fun K hK => ?_) AllReadyH.nil
 go_simp
 go_wp2_with fail
 refine hK.out _ _ ?_ (fun hHeld => ?_)
 ·exact hd0
 clear hK K
 (try simp only [Act.put, qA, qB, qC])
 refine tA 14 19 (v := ?_) rfl (.inl ⟨by rfl, ?_⟩) ?_
 rotate_left
 ·intro w hSw
  (try dsimp only at hSw)
  go_simp
  (try with_reducible rfl)
 (try simp only [Act.put, qA, qB, qC])
 refine tA 15 20 (v := ?_) rfl (.inl ⟨by rfl, ?_⟩) ?_
 rotate_left
 ·intro w hSw
  (try dsimp only at hSw)
  go_simp
  (try with_reducible rfl)
 (try simp only [Act.put, qA, qB, qC])
 refine wpAnyH_done (by kernel_rfl) ?_ _
 go_wp2_with fail
 go_ret
 refine ⟨rfl, ?_, Yj HB.out HG.out, KeepBut.set_ HK.out 1 _⟩
 rw [HW.out]
 exact zq HR.out 1 _
theorem Zr (w0 W : World) (g : Nat) (s : ByteArray) (p : Nat) (v : Value) (c : Nat) (hR : Rd W g s p v) (hB : Below w0.heap.size w0 W) (hg : w0.heap.size ≤ g) (hp : p ≤ s.size) (hs : s.size ≤ 4611686018427387904) :
  Calls Tryz.prog 60 #[.pointer (some ⟨g, 0, none⟩), .int .u8 (c : Int)] W fun e W' => e = .returned (.bool (Xi s p c).1) ∧ Rd W' g s (Xi s p c).2 v ∧ Below w0.heap.size w0 W' ∧ KeepBut W W' g none := by
 have hl := Xu s p hp
 unfold Xi
 by_cases hc : zd s p = c
 ·by_cases he : Zb s p < s.size
  ·rw [if_pos ⟨hc, he⟩]
   exact takes_yes w0 W g s p v c hR hB hg hp hs hc he
  ·rw [if_neg (fun h => he h.2)]
   exact takes_end w0 W g s p v c hR hB hg hp hs hc (by omega)
 ·rw [if_neg (fun h => hc h.1)]
  exact takes_not w0 W g s p v c hR hB hg hp hs hc
theorem Zu {W W' : World} {g p : Nat} {s : ByteArray} {v : Value} (h : Rd W g s p v) (hb : Below W.heap.size W W') : Rd W' g s p v := (hb.block g (Yg h)).trans h
theorem Xh {W : World} {g p : Nat} {s : ByteArray} {v : Value} (h : Rd W g s p v) : W.cell? ⟨g, 0, none⟩ = some (.string s) := (zb h 0).trans rfl
theorem Yf {W : World} {g p : Nat} {s : ByteArray} {v : Value} (h : Rd W g s p v) : W.cell? ⟨g, 1, none⟩ = some (.int .i64 (p : Int)) := (zb h 1).trans rfl
theorem Xr {W : World} {g p : Nat} {s : ByteArray} {v : Value} (h : Rd W g s p v) : W.cell? ⟨g, 2, none⟩ = some v := (zb h 2).trans rfl
theorem xS {W : World} {g p q : Nat} {s : ByteArray} {v : Value} (h : Rd W g s p v) {x : Int} (hx : x = (q : Int)) : Rd (W.setCell ⟨g, 1, none⟩ (.int .i64 x)) g s q v := by
 subst hx; exact zq h 1 _
theorem rd_set2 {W : World} {g p : Nat} {s : ByteArray} {v : Value} (h : Rd W g s p v) (u : Value) : Rd (W.setCell ⟨g, 2, none⟩ u) g s p u := zq h 2 _
theorem ZO (k : Nat) (w0 W : World) (g : Nat) (s : ByteArray) (p : Nat) (v : Value) (t : ByteArray) (m : Nat) (er : Int) (hR : Rd W g s p v) (hB : Below w0.heap.size w0 W) (hg : w0.heap.size ≤ g) (hp : p ≤ s.size) (hs : s.size ≤ 4611686018427387904) (hj : JTabs w0)
  (h : Zj.f k (s.extract p s.size) = some (t, (m : Int), er)) (hm : p + m ≤ s.size) :
  Calls Tryz.prog 41 #[.pointer (some ⟨g, 0, none⟩)] W fun e W' => e = .returned (.tuple #[.string t, .int .i64 er]) ∧ Rd W' g s (p + m) v ∧ Below w0.heap.size w0 W' ∧ KeepBut W W' g none := by
 have HR := Aside0.mk hR
 have HB := Aside0.mk hB
 have HG := Aside0.mk hg
 have FR := Aside0.mk h
 have JT := Aside0.mk hj
 have HW : Aside0 (wrap64 ((p : Int) + (m : Int)) = ((p + m : Nat) : Int)) := ⟨by unfold wrap64; omega⟩
 have hc0 := Xh hR
 have hc1 := Yf hR
 have q0 : (0 ≤ (p : Int)) = True := eq_true (by omega)
 have q1 : ((p : Int) ≤ (s.size : Int)) = True := eq_true (by omega)
 have q2 : (p ≤ s.size) = True := eq_true (by omega)
 clear hR hB hg h hj hs hm
 go_enter Tryz.func41, Tryz.ntmps41
 go_wp2_with fail
 refine wp_region_held_drew (S := fun w' => Below w0.heap.size w0 w' ∧ Rd w' g s p v ∧ KeepBut W w' g none) (by kernel_rfl) ⟨Xa HB.out, HR.out, KeepBut.refl W g none⟩ (fun hHeld => ?_)
 refine tA 0 8 (v := ?_) rfl (.inl ⟨by rfl, ?_⟩) ?_
 rotate_left
 ·intro w hSw
  (try dsimp only at hSw)
  have hl0 := Xh hSw.2.1
  have hl1 := Yf hSw.2.1
  clear hSw
  go_simp
  (try with_reducible rfl)
 (try simp only [Act.put, qA, qB, qC])
 refine tA 1 9 (v := ?_) rfl (.inl ⟨by rfl, ?_⟩) ?_
 rotate_left
 ·intro w hSw
  (try dsimp only at hSw)
  have hl0 := Xh hSw.2.1
  have hl1 := Yf hSw.2.1
  clear hSw
  go_simp
  (try with_reducible rfl)
 (try simp only [Act.put, qA, qB, qC])
 refine tA 2 10 (v := ?_) rfl (.inl ⟨by rfl, ?_⟩) ?_
 rotate_left
 ·intro w hSw
  (try dsimp only at hSw)
  have hl0 := Xh hSw.2.1
  have hl1 := Yf hSw.2.1
  clear hSw
  go_simp
  (try with_reducible rfl)
 (try simp only [Act.put, qA, qB, qC])
 refine tA 3 11 (v := ?_) rfl (.inl ⟨by rfl, ?_⟩) ?_
 rotate_left
 ·intro w hSw
  (try dsimp only at hSw)
  have hl0 := Xh hSw.2.1
  have hl1 := Yf hSw.2.1
  clear hSw
  go_simp
  (try with_reducible rfl)
 (try simp only [Act.put, qA, qB, qC])
 refine tA 4 12 (v := ?_) rfl (.inl ⟨by rfl, ?_⟩) ?_
 rotate_left
 ·intro w hSw
  (try dsimp only at hSw)
  have hl0 := Xh hSw.2.1
  have hl1 := Yf hSw.2.1
  clear hSw
  go_simp
  (try with_reducible rfl)
 (try simp only [Act.put, qA, qB, qC])
 refine tA 5 13 (v := ?_) rfl (.inl ⟨by rfl, ?_⟩) ?_
 rotate_left
 ·intro w hSw
  (try dsimp only at hSw)
  have hl0 := Xh hSw.2.1
  have hl1 := Yf hSw.2.1
  clear hSw
  go_simp
  (try with_reducible rfl)
 (try simp only [Act.put, qA, qB, qC])
 refine tA 6 14 (v := ?_) rfl (.inl ⟨by rfl, ?_⟩) ?_
 rotate_left
 ·intro w hSw
  (try dsimp only at hSw)
  have hl0 := Xh hSw.2.1
  have hl1 := Yf hSw.2.1
  clear hSw
  go_simp
  (try with_reducible rfl)
 (try simp only [Act.put, qA, qB, qC])
 refine tA 7 15 (v := ?_) rfl (.inl ⟨by rfl, ?_⟩) ?_
 rotate_left
 ·intro w hSw
  (try dsimp only at hSw)
  have hl0 := Xh hSw.2.1
  have hl1 := Yf hSw.2.1
  clear hSw
  go_simp
  (try with_reducible rfl)
 (try simp only [Act.put, qA, qB, qC])
 refine tA 8 16 (v := ?_) rfl (.inl ⟨by rfl, ?_⟩) ?_
 rotate_left
 ·intro w hSw
  (try dsimp only at hSw)
  have hl0 := Xh hSw.2.1
  have hl1 := Yf hSw.2.1
  clear hSw
  go_simp
  (try with_reducible rfl)
 (try simp only [Act.put, qA, qB, qC])
 refine wpAnyH_ready (rs := [9]) (by kernel_rfl) (by simp) ?_
 refine tB 17 rfl (fun K hK => ?_) AllReadyH.nil
 go_simp
 (go_at_call 62; refine (Zj.calls k _ _ _ _ _ FR.out (JT.out.step hHeld.1).tabs).mono ?_; rintro e w1 ⟨rfl, hb⟩)
 go_wp2_with fail
 refine hK.out _ _ ?_ (fun hHeld => ?_)
 ·exact ⟨hHeld.1.trans (hb.mono hHeld.1.size), Zu hHeld.2.1 hb, hHeld.2.2.trans (KeepBut.of_below hb g none) (.inl rfl)⟩
 clear hK K
 (try simp only [Act.put, qA, qB, qC])
 refine tA 10 7 (v := ?_) rfl (.inl ⟨by rfl, ?_⟩) ?_
 rotate_left
 ·intro w hSw
  (try dsimp only at hSw)
  have hl0 := Xh hSw.2.1
  have hl1 := Yf hSw.2.1
  clear hSw
  go_simp
  (try with_reducible rfl)
 (try simp only [Act.put, qA, qB, qC])
 refine tA 11 18 (v := ?_) rfl (.inl ⟨by rfl, ?_⟩) ?_
 rotate_left
 ·intro w hSw
  (try dsimp only at hSw)
  have hl0 := Xh hSw.2.1
  have hl1 := Yf hSw.2.1
  clear hSw
  go_simp
  (try with_reducible rfl)
 (try simp only [Act.put, qA, qB, qC])
 refine tA 12 19 (v := ?_) rfl (.inl ⟨by rfl, ?_⟩) ?_
 rotate_left
 ·intro w hSw
  (try dsimp only at hSw)
  have hl0 := Xh hSw.2.1
  have hl1 := Yf hSw.2.1
  clear hSw
  go_simp
  (try with_reducible rfl)
 (try simp only [Act.put, qA, qB, qC])
 refine tA 13 20 (v := ?_) rfl (.inl ⟨by rfl, ?_⟩) ?_
 rotate_left
 ·intro w hSw
  (try dsimp only at hSw)
  have hl0 := Xh hSw.2.1
  have hl1 := Yf hSw.2.1
  clear hSw
  go_simp
  (try with_reducible rfl)
 (try simp only [Act.put, qA, qB, qC])
 refine tA 14 4 (v := ?_) rfl (.inl ⟨by rfl, ?_⟩) ?_
 rotate_left
 ·intro w hSw
  (try dsimp only at hSw)
  have hl0 := Xh hSw.2.1
  have hl1 := Yf hSw.2.1
  clear hSw
  go_simp
  (try with_reducible rfl)
 (try simp only [Act.put, qA, qB, qC])
 refine tA 15 5 (v := ?_) rfl (.inl ⟨by rfl, ?_⟩) ?_
 rotate_left
 ·intro w hSw
  (try dsimp only at hSw)
  have hl0 := Xh hSw.2.1
  have hl1 := Yf hSw.2.1
  clear hSw
  go_simp
  (try with_reducible rfl)
 (try simp only [Act.put, qA, qB, qC])
 refine tA 16 6 (v := ?_) rfl (.inl ⟨by rfl, ?_⟩) ?_
 rotate_left
 ·intro w hSw
  (try dsimp only at hSw)
  have hl0 := Xh hSw.2.1
  have hl1 := Yf hSw.2.1
  clear hSw
  go_simp
  (try with_reducible rfl)
 (try simp only [Act.put, qA, qB, qC])
 refine wpAnyH_done (by kernel_rfl) ?_ _
 have HR1 := Aside0.mk hHeld.2.1
 have HB1 := Aside0.mk hHeld.1
 have HK1 := Aside0.mk hHeld.2.2
 have hd1 := Yf hHeld.2.1
 have hf1 := zg hHeld.2.1 1
 clear hHeld hc0 hc1
 go_wp2_with fail
 go_ret2
 exact ⟨rfl, xS HR1.out HW.out, Yj HB1.out HG.out, KeepBut.set_ HK1.out 1 _⟩
def numB (n : Nat) : Bool := n = 43 || n = 45 || n = 46 || n = 69 || n = 101 || (48 ≤ n && n ≤ 57)
def numsL : List UInt8 → Nat
 | [] => 0
 | c :: l => if numB c.toNat = true then numsL l + 1 else 0
def numP (s : ByteArray) (p : Nat) : Nat := p + numsL (s.data.toList.drop p)
theorem num_end (s : ByteArray) (p : Nat) (h : s.size ≤ p) : numP s p = p := by
 unfold numP
 rw [xbp (by rw [data_length]; exact h)]; rfl
theorem num_yes (s : ByteArray) (p : Nat) (h : p < s.size) (hb : numB (s.data.toList.getD p 0).toNat = true) : numP s p = numP s (p + 1) := by
 unfold numP
 rw [dropB s p h, numsL, if_pos hb]; omega
theorem num_not (s : ByteArray) (p : Nat) (h : p < s.size) (hb : ¬ numB (s.data.toList.getD p 0).toNat = true) : numP s p = p := by
 unfold numP
 rw [dropB s p h, numsL, if_neg hb]; rfl
theorem num_index : ∀ n : Nat, n < 256 → decide (0 ≤ Lib.indexByte [43, 45, 46, 69, 101, 48, 49, 50, 51, 52, 53, 54, 55, 56, 57] n.toUInt8) = numB n := by decide +kernel
def Yq (s : ByteArray) (p : Nat) : Int × Int × Nat := if (Yu (s.extract p (numP s p))).2 = true then ((Yu (s.extract p (numP s p))).1, 0, numP s p) else (0, 83, p)
theorem yU (w0 W : World) (g : Nat) (s : ByteArray) (p : Nat) (v : Value) (hR : Rd W g s p v) (hB : Below w0.heap.size w0 W) (hg : w0.heap.size ≤ g) (hp : p ≤ s.size) (hs : s.size ≤ 4611686018427387904) (hj : JTabs w0) :
  Calls Tryz.prog 42 #[.pointer (some ⟨g, 0, none⟩)] W fun e W' => e = .returned (.tuple #[.int .i64 (Yq s p).1, .int .i64 (Yq s p).2.1]) ∧ Rd W' g s (Yq s p).2.2 v ∧ Below w0.heap.size w0 W' ∧ KeepBut W W' g none := by
 have HR := Aside0.mk hR
 have HB := Aside0.mk hB
 have HG := Aside0.mk hg
 have HS := Aside0.mk hs
 have JT := Aside0.mk hj
 have HK := Aside0.mk (KeepBut.refl W g none)
 have hc0 := Xh hR
 have hc1 := Yf hR
 clear hR hB hg hs hj
 go_enter Tryz.func42, Tryz.ntmps42
 go_wp2_with fail
 clear hc0 hc1
 go_loopg [4] (s.size - p) (fun kq v4 wr => ∃ q : Nat, v4 = .int .i64 q ∧ p ≤ q ∧ q ≤ s.size ∧ kq = s.size - q ∧ Aside0 (numP s q = numP s p) ∧ Aside0 (Rd wr g s p v) ∧ Aside0 (KeepBut W wr g none) ∧ Aside0 (Below w0.heap.size w0 wr))
 case atStart => exact ⟨p, rfl, Xbc _, hp, rfl, ⟨rfl⟩, HR, HK, HB⟩
 case round =>
  obtain ⟨q, rfl, hpq, hq, hgk, HP, HR, HK, HB⟩ := hrel
  have hc0 := Xh HR.out
  have hc1 := Yf HR.out
  have hx : ∀ h : q < s.size, ((s[q]'h).toNat : Int) = bt s (q : Int) := fun h => Xo s (q : Int) h
  have q0 : (0 ≤ (q : Int)) = True := eq_true (by omega)
  have p0 : (0 ≤ (p : Int)) = True := eq_true (by omega)
  have p1 : ((p : Int) ≤ (q : Int)) = True := eq_true (by omega)
  have p2 : ((q : Int) ≤ (s.size : Int)) = True := eq_true (by omega)
  have p3 : (p ≤ q) = True := eq_true hpq
  have p4 : (q ≤ s.size) = True := eq_true hq
  by_cases hlt : q < s.size
  ·have d1 : decide ((q : Int) < (s.size : Int)) = true := decide_eq_true (by omega)
   have q1 : ((q : Int) < (s.size : Int)) = True := eq_true (by omega)
   have hn := UInt8.toNat_lt (s.data.toList.getD q 0)
   have hbt := btL s q
   have hidx : decide (0 ≤ Lib.indexByte [43, 45, 46, 69, 101, 48, 49, 50, 51, 52, 53, 54, 55, 56, 57] ((bt s (q : Int)).toNat.toUInt8)) = numB (s.data.toList.getD q 0).toNat := by
    rw [hbt, Ybd]; exact num_index _ hn
   by_cases hb : numB (s.data.toList.getD q 0).toNat = true
   ·rw [hb] at hidx
    have HN : Aside0 (numP s (q + 1) = numP s p) := ⟨by rw [← num_yes s q hlt hb]; exact HP.out⟩
    have HW : Aside0 (wrap64 ((q : Int) + 1) = ((q + 1 : Nat) : Int)) := ⟨by have := HS.out; unfold wrap64; omega⟩
    clear hbt hn hb
    obtain ⟨kk, rfl⟩ : ∃ kk, gk = kk + 1 := ⟨gk - 1, by omega⟩
    go_wp2_with (go_at_call 44; (with_reducible refine (strings_IndexByte.calls (⟨#[43, 45, 46, 69, 101, 48, 49, 50, 51, 52, 53, 54, 55, 56, 57]⟩ : ByteArray) (bt s (q : Int)) _ _ (rfl : strings_IndexByte.f _ _ = some (Lib.indexByte [43, 45, 46, 69, 101, 48, 49, 50, 51, 52, 53, 54, 55, 56, 57] ((bt s (q : Int)).toNat.toUInt8)))).mono ?_); rintro e w' ⟨rfl, ⟨nd, rfl⟩⟩)
    go_roundg kk
    case measure => omega
    case rel => exact ⟨q + 1, by rw [HW.out], by omega, by omega, by omega, HN, HR, HK, ⟨by repeat (first | exact HB.out | apply Ya)⟩⟩
   ·have hb' : numB (s.data.toList.getD q 0).toNat = false := ybh.2 hb
    rw [hb'] at hidx
    have HE : Aside0 (numP s p = q) := ⟨by rw [← HP.out]; exact num_not s q hlt hb⟩
    clear hbt hn hb hb'
    go_wp2_with (go_at_call 44; (with_reducible refine (strings_IndexByte.calls (⟨#[43, 45, 46, 69, 101, 48, 49, 50, 51, 52, 53, 54, 55, 56, 57]⟩ : ByteArray) (bt s (q : Int)) _ _ (rfl : strings_IndexByte.f _ _ = some (Lib.indexByte [43, 45, 46, 69, 101, 48, 49, 50, 51, 52, 53, 54, 55, 56, 57] ((bt s (q : Int)).toNat.toUInt8)))).mono ?_); rintro e w' ⟨rfl, ⟨nd, rfl⟩⟩)
    refine wp_region_held_drew (S := fun w' => Below w0.heap.size w0 w' ∧ Rd w' g s p v ∧ KeepBut W w' g none) (by kernel_rfl) ⟨by repeat (first | exact HB.out | apply Ya | apply Xa), HR.out, HK.out⟩ (fun hHeld => ?_)
    refine tA 0 31 (v := ?_) rfl (.inl ⟨by rfl, ?_⟩) ?_
    rotate_left
    ·intro w hSw
     (try dsimp only at hSw)
     have hl0 := Xh hSw.2.1
     have hl1 := Yf hSw.2.1
     clear hSw
     go_simp
     (try with_reducible rfl)
    (try simp only [Act.put, qA, qB, qC])
    refine tA 1 32 (v := ?_) rfl (.inl ⟨by rfl, ?_⟩) ?_
    rotate_left
    ·intro w hSw
     (try dsimp only at hSw)
     have hl0 := Xh hSw.2.1
     have hl1 := Yf hSw.2.1
     clear hSw
     go_simp
     (try with_reducible rfl)
    (try simp only [Act.put, qA, qB, qC])
    refine tA 2 33 (v := ?_) rfl (.inl ⟨by rfl, ?_⟩) ?_
    rotate_left
    ·intro w hSw
     (try dsimp only at hSw)
     have hl0 := Xh hSw.2.1
     have hl1 := Yf hSw.2.1
     clear hSw
     go_simp
     (try with_reducible rfl)
    (try simp only [Act.put, qA, qB, qC])
    refine tA 3 34 (v := ?_) rfl (.inl ⟨by rfl, ?_⟩) ?_
    rotate_left
    ·intro w hSw
     (try dsimp only at hSw)
     have hl0 := Xh hSw.2.1
     have hl1 := Yf hSw.2.1
     clear hSw
     go_simp
     (try with_reducible rfl)
    (try simp only [Act.put, qA, qB, qC])
    refine tA 4 35 (v := ?_) rfl (.inl ⟨by rfl, ?_⟩) ?_
    rotate_left
    ·intro w hSw
     (try dsimp only at hSw)
     have hl0 := Xh hSw.2.1
     have hl1 := Yf hSw.2.1
     clear hSw
     go_simp
     (try with_reducible rfl)
    (try simp only [Act.put, qA, qB, qC])
    refine tA 5 36 (v := ?_) rfl (.inl ⟨by rfl, ?_⟩) ?_
    rotate_left
    ·intro w hSw
     (try dsimp only at hSw)
     have hl0 := Xh hSw.2.1
     have hl1 := Yf hSw.2.1
     clear hSw
     go_simp
     (try with_reducible rfl)
    (try simp only [Act.put, qA, qB, qC])
    refine tA 6 37 (v := ?_) rfl (.inl ⟨by rfl, ?_⟩) ?_
    rotate_left
    ·intro w hSw
     (try dsimp only at hSw)
     have hl0 := Xh hSw.2.1
     have hl1 := Yf hSw.2.1
     clear hSw
     go_simp
     (try with_reducible rfl)
    (try simp only [Act.put, qA, qB, qC])
    refine tA 7 38 (v := ?_) rfl (.inl ⟨by rfl, ?_⟩) ?_
    rotate_left
    ·intro w hSw
     (try dsimp only at hSw)
     have hl0 := Xh hSw.2.1
     have hl1 := Yf hSw.2.1
     clear hSw
     go_simp
     (try with_reducible rfl)
    (try simp only [Act.put, qA, qB, qC])
    refine tA 8 39 (v := ?_) rfl (.inl ⟨by rfl, ?_⟩) ?_
    rotate_left
    ·intro w hSw
     (try dsimp only at hSw)
     have hl0 := Xh hSw.2.1
     have hl1 := Yf hSw.2.1
     clear hSw
     go_simp
     (try with_reducible rfl)
    (try simp only [Act.put, qA, qB, qC])
    refine tA 9 40 (v := ?_) rfl (.inl ⟨by rfl, ?_⟩) ?_
    rotate_left
    ·intro w hSw
     (try dsimp only at hSw)
     have hl0 := Xh hSw.2.1
     have hl1 := Yf hSw.2.1
     clear hSw
     go_simp
     (try with_reducible rfl)
    (try simp only [Act.put, qA, qB, qC])
    refine wpAnyH_ready (rs := [10]) (by kernel_rfl) (by simp) ?_
    refine tB 41 rfl (fun K hK => ?_) AllReadyH.nil
    go_simp
    (go_at_call 63; refine (xaj _ _ (JT.out.step hHeld.1)).mono ?_; rintro e w1 ⟨rfl, hb⟩); go_wp2_with fail
    refine hK.out _ _ ?_ (fun hHeld => ?_)
    ·exact ⟨hHeld.1.trans (hb.mono hHeld.1.size), Zu hHeld.2.1 hb, hHeld.2.2.trans (KeepBut.of_below hb g none) (.inl rfl)⟩
    clear hK K
    (try simp only [Act.put, qA, qB, qC])
    refine tA 11 30 (v := ?_) rfl (.inl ⟨by rfl, ?_⟩) ?_
    rotate_left
    ·intro w hSw
     (try dsimp only at hSw)
     have hl0 := Xh hSw.2.1
     have hl1 := Yf hSw.2.1
     clear hSw
     go_simp
     (try with_reducible rfl)
    (try simp only [Act.put, qA, qB, qC])
    refine tA 12 42 (v := ?_) rfl (.inl ⟨by rfl, ?_⟩) ?_
    rotate_left
    ·intro w hSw
     (try dsimp only at hSw)
     have hl0 := Xh hSw.2.1
     have hl1 := Yf hSw.2.1
     clear hSw
     go_simp
     (try with_reducible rfl)
    (try simp only [Act.put, qA, qB, qC])
    refine tA 13 43 (v := ?_) rfl (.inl ⟨by rfl, ?_⟩) ?_
    rotate_left
    ·intro w hSw
     (try dsimp only at hSw)
     have hl0 := Xh hSw.2.1
     have hl1 := Yf hSw.2.1
     clear hSw
     go_simp
     (try with_reducible rfl)
    (try simp only [Act.put, qA, qB, qC])
    refine tA 14 5 (v := ?_) rfl (.inl ⟨by rfl, ?_⟩) ?_
    rotate_left
    ·intro w hSw
     (try dsimp only at hSw)
     have hl0 := Xh hSw.2.1
     have hl1 := Yf hSw.2.1
     clear hSw
     go_simp
     (try with_reducible rfl)
    (try simp only [Act.put, qA, qB, qC])
    refine tA 15 6 (v := ?_) rfl (.inl ⟨by rfl, ?_⟩) ?_
    rotate_left
    ·intro w hSw
     (try dsimp only at hSw)
     have hl0 := Xh hSw.2.1
     have hl1 := Yf hSw.2.1
     clear hSw
     go_simp
     (try with_reducible rfl)
    (try simp only [Act.put, qA, qB, qC])
    refine wpAnyH_done (by kernel_rfl) ?_ _
    have HR1 := Aside0.mk hHeld.2.1
    have HB1 := Aside0.mk hHeld.1
    have HK1 := Aside0.mk hHeld.2.2
    have hd1 := Yf hHeld.2.1
    have hf1 := zg hHeld.2.1 1
    clear hHeld hc0 hc1
    obtain ⟨rr, hrr⟩ : ∃ rr, Yu (s.extract p q) = rr := ⟨_, rfl⟩
    rw [hrr]
    have HRR := Aside0.mk hrr
    clear hrr
    obtain ⟨ri, rb⟩ := rr
    cases rb with
    | true =>
     go_wp2_with fail
     go_ret2
     refine ⟨?_, ?_, Yj HB1.out HG.out, KeepBut.set_ HK1.out 1 _⟩
     ·unfold Yq; rw [HE.out, HRR.out, if_pos rfl]; rfl
     ·unfold Yq; rw [HE.out, HRR.out, if_pos rfl]; exact xS HR1.out rfl
    | false =>
     go_wp2_with fail
     go_ret2
     refine ⟨?_, ?_, HB1.out, HK1.out⟩
     ·unfold Yq; rw [HE.out, HRR.out, if_neg (by simp)]; rfl
     ·unfold Yq; rw [HE.out, HRR.out, if_neg (by simp)]; exact HR1.out
  ·obtain rfl : q = s.size := by omega
   have d1 : decide ((s.size : Int) < (s.size : Int)) = false := zbd (by omega)
   have HE : Aside0 (numP s p = s.size) := ⟨by rw [← HP.out]; exact num_end s _ (Xbc _)⟩
   go_wp2_with fail
   refine wp_region_held_drew (S := fun w' => Below w0.heap.size w0 w' ∧ Rd w' g s p v ∧ KeepBut W w' g none) (by kernel_rfl) ⟨by repeat (first | exact HB.out | apply Ya | apply Xa), HR.out, HK.out⟩ (fun hHeld => ?_)
   refine tA 0 31 (v := ?_) rfl (.inl ⟨by rfl, ?_⟩) ?_
   rotate_left
   ·intro w hSw
    (try dsimp only at hSw)
    have hl0 := Xh hSw.2.1
    have hl1 := Yf hSw.2.1
    clear hSw
    go_simp
    (try with_reducible rfl)
   (try simp only [Act.put, qA, qB, qC])
   refine tA 1 32 (v := ?_) rfl (.inl ⟨by rfl, ?_⟩) ?_
   rotate_left
   ·intro w hSw
    (try dsimp only at hSw)
    have hl0 := Xh hSw.2.1
    have hl1 := Yf hSw.2.1
    clear hSw
    go_simp
    (try with_reducible rfl)
   (try simp only [Act.put, qA, qB, qC])
   refine tA 2 33 (v := ?_) rfl (.inl ⟨by rfl, ?_⟩) ?_
   rotate_left
   ·intro w hSw
    (try dsimp only at hSw)
    have hl0 := Xh hSw.2.1
    have hl1 := Yf hSw.2.1
    clear hSw
    go_simp
    (try with_reducible rfl)
   (try simp only [Act.put, qA, qB, qC])
   refine tA 3 34 (v := ?_) rfl (.inl ⟨by rfl, ?_⟩) ?_
   rotate_left
   ·intro w hSw
    (try dsimp only at hSw)
    have hl0 := Xh hSw.2.1
    have hl1 := Yf hSw.2.1
    clear hSw
    go_simp
    (try with_reducible rfl)
   (try simp only [Act.put, qA, qB, qC])
   refine tA 4 35 (v := ?_) rfl (.inl ⟨by rfl, ?_⟩) ?_
   rotate_left
   ·intro w hSw
    (try dsimp only at hSw)
    have hl0 := Xh hSw.2.1
    have hl1 := Yf hSw.2.1
    clear hSw
    go_simp
    (try with_reducible rfl)
   (try simp only [Act.put, qA, qB, qC])
   refine tA 5 36 (v := ?_) rfl (.inl ⟨by rfl, ?_⟩) ?_
   rotate_left
   ·intro w hSw
    (try dsimp only at hSw)
    have hl0 := Xh hSw.2.1
    have hl1 := Yf hSw.2.1
    clear hSw
    go_simp
    (try with_reducible rfl)
   (try simp only [Act.put, qA, qB, qC])
   refine tA 6 37 (v := ?_) rfl (.inl ⟨by rfl, ?_⟩) ?_
   rotate_left
   ·intro w hSw
    (try dsimp only at hSw)
    have hl0 := Xh hSw.2.1
    have hl1 := Yf hSw.2.1
    clear hSw
    go_simp
    (try with_reducible rfl)
   (try simp only [Act.put, qA, qB, qC])
   refine tA 7 38 (v := ?_) rfl (.inl ⟨by rfl, ?_⟩) ?_
   rotate_left
   ·intro w hSw
    (try dsimp only at hSw)
    have hl0 := Xh hSw.2.1
    have hl1 := Yf hSw.2.1
    clear hSw
    go_simp
    (try with_reducible rfl)
   (try simp only [Act.put, qA, qB, qC])
   refine tA 8 39 (v := ?_) rfl (.inl ⟨by rfl, ?_⟩) ?_
   rotate_left
   ·intro w hSw
    (try dsimp only at hSw)
    have hl0 := Xh hSw.2.1
    have hl1 := Yf hSw.2.1
    clear hSw
    go_simp
    (try with_reducible rfl)
   (try simp only [Act.put, qA, qB, qC])
   refine tA 9 40 (v := ?_) rfl (.inl ⟨by rfl, ?_⟩) ?_
   rotate_left
   ·intro w hSw
    (try dsimp only at hSw)
    have hl0 := Xh hSw.2.1
    have hl1 := Yf hSw.2.1
    clear hSw
    go_simp
    (try with_reducible rfl)
   (try simp only [Act.put, qA, qB, qC])
   refine wpAnyH_ready (rs := [10]) (by kernel_rfl) (by simp) ?_
   refine tB 41 rfl (fun K hK => ?_) AllReadyH.nil
   go_simp
   (go_at_call 63; refine (xaj _ _ (JT.out.step hHeld.1)).mono ?_; rintro e w1 ⟨rfl, hb⟩); go_wp2_with fail
   refine hK.out _ _ ?_ (fun hHeld => ?_)
   ·exact ⟨hHeld.1.trans (hb.mono hHeld.1.size), Zu hHeld.2.1 hb, hHeld.2.2.trans (KeepBut.of_below hb g none) (.inl rfl)⟩
   clear hK K
   (try simp only [Act.put, qA, qB, qC])
   refine tA 11 30 (v := ?_) rfl (.inl ⟨by rfl, ?_⟩) ?_
   rotate_left
   ·intro w hSw
    (try dsimp only at hSw)
    have hl0 := Xh hSw.2.1
    have hl1 := Yf hSw.2.1
    clear hSw
    go_simp
    (try with_reducible rfl)
   (try simp only [Act.put, qA, qB, qC])
   refine tA 12 42 (v := ?_) rfl (.inl ⟨by rfl, ?_⟩) ?_
   rotate_left
   ·intro w hSw
    (try dsimp only at hSw)
    have hl0 := Xh hSw.2.1
    have hl1 := Yf hSw.2.1
    clear hSw
    go_simp
    (try with_reducible rfl)
   (try simp only [Act.put, qA, qB, qC])
   refine tA 13 43 (v := ?_) rfl (.inl ⟨by rfl, ?_⟩) ?_
   rotate_left
   ·intro w hSw
    (try dsimp only at hSw)
    have hl0 := Xh hSw.2.1
    have hl1 := Yf hSw.2.1
    clear hSw
    go_simp
    (try with_reducible rfl)
   (try simp only [Act.put, qA, qB, qC])
   refine tA 14 5 (v := ?_) rfl (.inl ⟨by rfl, ?_⟩) ?_
   rotate_left
   ·intro w hSw
    (try dsimp only at hSw)
    have hl0 := Xh hSw.2.1
    have hl1 := Yf hSw.2.1
    clear hSw
    go_simp
    (try with_reducible rfl)
   (try simp only [Act.put, qA, qB, qC])
   refine tA 15 6 (v := ?_) rfl (.inl ⟨by rfl, ?_⟩) ?_
   rotate_left
   ·intro w hSw
    (try dsimp only at hSw)
    have hl0 := Xh hSw.2.1
    have hl1 := Yf hSw.2.1
    clear hSw
    go_simp
    (try with_reducible rfl)
   (try simp only [Act.put, qA, qB, qC])
   refine wpAnyH_done (by kernel_rfl) ?_ _
   have HR1 := Aside0.mk hHeld.2.1
   have HB1 := Aside0.mk hHeld.1
   have HK1 := Aside0.mk hHeld.2.2
   have hd1 := Yf hHeld.2.1
   have hf1 := zg hHeld.2.1 1
   clear hHeld hc0 hc1
   obtain ⟨rr, hrr⟩ : ∃ rr, Yu (s.extract p s.size) = rr := ⟨_, rfl⟩
   rw [hrr]
   have HRR := Aside0.mk hrr
   clear hrr
   obtain ⟨ri, rb⟩ := rr
   cases rb with
   | true =>
    go_wp2_with fail
    go_ret2
    refine ⟨?_, ?_, Yj HB1.out HG.out, KeepBut.set_ HK1.out 1 _⟩
    ·unfold Yq; rw [HE.out, HRR.out, if_pos rfl]; rfl
    ·unfold Yq; rw [HE.out, HRR.out, if_pos rfl]; exact xS HR1.out rfl
   | false =>
    go_wp2_with fail
    go_ret2
    refine ⟨?_, ?_, HB1.out, HK1.out⟩
    ·unfold Yq; rw [HE.out, HRR.out, if_neg (by simp)]; rfl
    ·unfold Yq; rw [HE.out, HRR.out, if_neg (by simp)]; exact HR1.out
end Go.Proofs.NGiv
namespace Go.Proofs.NJ0
open Go.RowKit Go.Proofs.Wa Go.Proofs.Wb Go.Proofs.Wc
attribute [local go_sem] YL XL YR XR yI xI zM yM
def errW : Option Int → Value
 | none => .nilIface
 | some c => .iface 0 (.int .i64 c)
theorem errW_none : errW none = .nilIface := rfl
theorem Yd (c : Int) : errW (some c) = .iface 0 (.int .i64 c) := rfl
def Xg.l0 : Nat → List ByteArray → ByteArray → Int → Int → Option (Int)
 | 0, _, _, _, _ => none
 | k + 1, x0, x1, x7, x8 => if x8 < x7 then (if 0 ≤ x8 then (if x8 < (x0.length : Int) then (if x1.toList = (rdOf ByteArray.empty x0 x8).toList then (some x8) else (Xg.l0 k x0 x1 x7 (wrap64 (x8 + 1)))) else (none)) else (none)) else (some (-1))
def Xg.f (k : Nat) (l0 : List ByteArray) (a1 : ByteArray) : Option (Int) := Xg.l0 k l0 a1 (l0.length : Int) 0
theorem Xg.calls (k : Nat) (A0 : Option Addr) (c0 : Nat) (l0 : List ByteArray) (a1 : ByteArray) (r : Int) (w : World) (hr0 : Kd.C Kd.string w A0 l0.length l0) (hc0 : l0.length ≤ c0) (h : Xg.f k l0 a1 = some r) :
  Calls Tryz.prog 71 #[.slice A0 l0.length c0, .string a1] w fun e w' => e = .returned (.int .i64 r) ∧ Drawn0 w w' := by
 have HR0 := Aside0.mk hr0
 have HC0 := Aside0.mk hc0
 clear hr0 hc0
 have H : (Xg.l0 k l0 a1 (l0.length : Int) 0) = some r := h
 clear h
 have H' := Aside0.mk H
 clear H
 go_enter Tryz.func71, Tryz.ntmps71
 go_wp2
 go_loopg [8] k (fun kq v8 w' => ∃ (x8_1 : Int), v8 = .int .i64 x8_1 ∧ Aside0 (Xg.l0 kq l0 a1 (l0.length : Int) x8_1 = some r) ∧ Aside0 (kq ≤ k) ∧ Drawn0 w w')
 case atStart => exact ⟨(0), (by first | rfl | (simp; done) | (simp [*]; done)), H', ⟨Xbc _⟩, by repeat (first | exact Drawn0.refl _ | apply Drawn0.step)⟩
 case round =>
  clear H'
  try clear c1
  try clear p2
  obtain ⟨x8_1, rfl, HA, HK1, ⟨m1, rfl⟩⟩ := hrel
  cases gk with
  | zero => exact absurd HA.out (by simp [Xg.l0])
  | succ k1 =>
   have H := HA.out
   clear HA
   simp only [Xg.l0] at H
   by_cases c3 : x8_1 < (l0.length : Int)
   ·rw [if_pos c3] at H
    have c3b0 : decide (x8_1 < (l0.length : Int)) = true := decide_eq_true c3
    clear c3
    by_cases c4 : 0 ≤ x8_1
    ·rw [if_pos c4] at H
     have c4b0 : decide (0 ≤ x8_1) = true := decide_eq_true c4
     clear c4
     by_cases c5 : x8_1 < (l0.length : Int)
     ·rw [if_pos c5] at H
      have c5b0 : decide (x8_1 < (l0.length : Int)) = true := decide_eq_true c5
      clear c5
      by_cases c6 : a1.toList = (rdOf ByteArray.empty l0 x8_1).toList
      ·rw [if_pos c6] at H
       have c6b0 : (a1.toList == (rdOf ByteArray.empty l0 x8_1).toList) = true := Ybf.mpr c6
       have c6b1 : (a1.toList != (rdOf ByteArray.empty l0 x8_1).toList) = false := Ybh.mpr c6
       clear c6
       obtain rfl := Option.some.inj H
       have p101 : 0 ≤ (x8_1 : Int) := xbc (by first | (with_reducible assumption) | assumption)
       have q101 : x8_1 < (l0.length : Int) := xbc (by first | (with_reducible assumption) | assumption)
       obtain ⟨ad101, e101, hx101_0⟩ := Kd.at_string HR0.out x8_1 p101 q101
       cases e101
       replace p101 := eq_true p101
       replace q101 := eq_true q101
       go_wp2
       go_ret
       exact ⟨by first | rfl | (simp; done) | (simp [*]; done), by repeat (first | exact Drawn0.refl _ | apply Drawn0.step)⟩
      ·rw [if_neg c6] at H
       have c6b0 : (a1.toList == (rdOf ByteArray.empty l0 x8_1).toList) = false := Ybb.mpr c6
       have c6b1 : (a1.toList != (rdOf ByteArray.empty l0 x8_1).toList) = true := Zbh.mpr c6
       have H' := Aside0.mk H
       clear H
       have p101 : 0 ≤ (x8_1 : Int) := xbc (by first | (with_reducible assumption) | assumption)
       have q101 : x8_1 < (l0.length : Int) := xbc (by first | (with_reducible assumption) | assumption)
       obtain ⟨ad101, e101, hx101_0⟩ := Kd.at_string HR0.out x8_1 p101 q101
       cases e101
       replace p101 := eq_true p101
       replace q101 := eq_true q101
       go_wp2
       go_roundg k1
       case measure => have := HK1.out; omega
       case rel => exact ⟨(wrap64 (x8_1 + 1)), (by first | rfl | (simp; done) | (simp [*]; done)), H', ⟨by have := HK1.out; omega⟩, by repeat (first | exact Drawn0.refl _ | apply Drawn0.step)⟩
     ·rw [if_neg c5] at H
      exact absurd H (by simp)
    ·rw [if_neg c4] at H
     exact absurd H (by simp)
   ·rw [if_neg c3] at H
    have c3b0 : decide (x8_1 < (l0.length : Int)) = false := zbd c3
    clear c3
    obtain rfl := Option.some.inj H
    go_wp2
    go_ret
    exact ⟨by first | rfl | (simp; done) | (simp [*]; done), by repeat (first | exact Drawn0.refl _ | apply Drawn0.step)⟩
def Zh.f (k : Nat) (l0 : List ByteArray) (a1 : ByteArray) : Option (Bool) := (Xg.f k l0 a1).bind fun t102 => (some (decide (t102 ≥ 0)))
theorem Zh.calls (k : Nat) (A0 : Option Addr) (c0 : Nat) (l0 : List ByteArray) (a1 : ByteArray) (r : Bool) (w : World) (hr0 : Kd.C Kd.string w A0 l0.length l0) (hc0 : l0.length ≤ c0) (h : Zh.f k l0 a1 = some r) :
  Calls Tryz.prog 53 #[.slice A0 l0.length c0, .string a1] w fun e w' => e = .returned (.bool r) ∧ Drawn0 w w' := by
 have HR0 := Aside0.mk hr0
 have HC0 := Aside0.mk hc0
 clear hr0 hc0
 have H : ((Xg.f k l0 a1).bind fun t102 => (some (decide (t102 ≥ 0)))) = some r := h
 clear h
 replace H := Ybe.mp H
 obtain ⟨t102, A30, H⟩ := H
 replace H : (some (decide (t102 ≥ 0))) = some r := H
 have A3 := Aside0.mk A30
 clear A30
 obtain rfl := Option.some.inj H
 go_enter Tryz.func53, Tryz.ntmps53
 go_wp2_with (first | ((with_reducible refine Xd (f := 71) rfl ?_); refine Xj (some 7) rfl rfl Tryz.func71 (by kernel_rfl) rfl #[.slice A0 l0.length c0, .string a1] rfl (by (try simp only [zbg, Xbf, ybg]); first | done | rfl | (simp only [Zbb, ybc]; rfl)) ?_; (with_reducible refine (Xg.calls k _ _ l0 a1 t102 _ ?side1 ?side2 A3.out).mono ?_); (case side1 => repeat (first | exact HR0.out | (with_reducible refine Kd.C_alloc ?_ _) | (with_reducible refine Kd.C_drewN ?_ _) | (with_reducible refine Kd.C_drew ?_))); (case side2 => exact HC0.out); rintro e w' ⟨rfl, ⟨nd, rfl⟩⟩; refine ⟨_, rfl, ?_⟩))
 go_ret
 exact ⟨by first | rfl | (simp; done) | (simp [*]; done), by repeat (first | exact Drawn0.refl _ | apply Drawn0.step)⟩
def Yt.f (a0 : ByteArray) (a1 : ByteArray) : Option (Bool) := if (a0.size : Int) ≥ (a1.size : Int) then (if 0 ≤ (a1.size : Int) then (if (a1.size : Int) ≤ (a0.size : Int) then (some ((a0.extract 0 ((a1.size : Int) : Int).toNat).toList == a1.toList)) else (none)) else (none)) else (some false)
theorem Yt.calls (a0 : ByteArray) (a1 : ByteArray) (r : Bool) (w : World) (h : Yt.f a0 a1 = some r) :
  Calls Tryz.prog 75 #[.string a0, .string a1] w fun e w' => e = .returned (.bool r) ∧ Drawn0 w w' := by
 have H : (if (a0.size : Int) ≥ (a1.size : Int) then (if 0 ≤ (a1.size : Int) then (if (a1.size : Int) ≤ (a0.size : Int) then (some ((a0.extract 0 ((a1.size : Int) : Int).toNat).toList == a1.toList)) else (none)) else (none)) else (some false)) = some r := h
 clear h
 by_cases c3 : (a0.size : Int) ≥ (a1.size : Int)
 ·rw [if_pos c3] at H
  have c3b0 : decide ((a1.size : Int) ≤ (a0.size : Int)) = true := decide_eq_true c3
  have c3b1 : decide (a1.size ≤ a0.size) = true := decide_eq_true (Int.ofNat_le.mp c3)
  clear c3
  by_cases c4 : 0 ≤ (a1.size : Int)
  ·rw [if_pos c4] at H
   have c4b0 := eq_true c4
   have c4b1 : decide (0 ≤ (a1.size : Int)) = true := decide_eq_true c4
   clear c4
   by_cases c5 : (a1.size : Int) ≤ (a0.size : Int)
   ·rw [if_pos c5] at H
    have c5b0 := eq_true c5
    have c5b1 : decide ((a1.size : Int) ≤ (a0.size : Int)) = true := decide_eq_true c5
    clear c5
    obtain rfl := Option.some.inj H
    go_enter Tryz.func75, Tryz.ntmps75
    go_wp2
    go_ret
    exact ⟨by first | rfl | (simp; done) | (simp [*]; done), by repeat (first | exact Drawn0.refl _ | apply Drawn0.step)⟩
   ·rw [if_neg c5] at H
    exact absurd H (by simp)
  ·rw [if_neg c4] at H
   exact absurd H (by simp)
 ·rw [if_neg c3] at H
  have c3b0 : decide ((a1.size : Int) ≤ (a0.size : Int)) = false := zbd c3
  have c3b1 : decide (a1.size ≤ a0.size) = false := zbd (fun h => c3 (Int.ofNat_le.mpr h))
  clear c3
  obtain rfl := Option.some.inj H
  go_enter Tryz.func75, Tryz.ntmps75
  go_wp2
  go_ret
  exact ⟨by first | rfl | (simp; done) | (simp [*]; done), by repeat (first | exact Drawn0.refl _ | apply Drawn0.step)⟩
def zh.f (a0 : ByteArray) (a1 : ByteArray) : Option (Bool) := (Yt.f a0 a1).bind fun t103 => (some t103)
theorem zh.calls (a0 : ByteArray) (a1 : ByteArray) (r : Bool) (w : World) (h : zh.f a0 a1 = some r) :
  Calls Tryz.prog 64 #[.string a0, .string a1] w fun e w' => e = .returned (.bool r) ∧ Drawn0 w w' := by
 have H : ((Yt.f a0 a1).bind fun t103 => (some t103)) = some r := h
 clear h
 replace H := Ybe.mp H
 obtain ⟨t103, A30, H⟩ := H
 replace H : (some t103) = some r := H
 have A3 := Aside0.mk A30
 clear A30
 obtain rfl := Option.some.inj H
 go_enter Tryz.func64, Tryz.ntmps64
 go_wp2_with (first | ((with_reducible refine Xd (f := 75) rfl ?_); refine Xj (some 7) rfl rfl Tryz.func75 (by kernel_rfl) rfl #[.string a0, .string a1] rfl (by (try simp only [zbg, Xbf, ybg]); first | done | rfl | (simp only [Zbb, ybc]; rfl)) ?_; (with_reducible refine (Yt.calls a0 a1 t103 _ A3.out).mono ?_); rintro e w' ⟨rfl, ⟨nd, rfl⟩⟩; refine ⟨_, rfl, ?_⟩))
 go_ret
 exact ⟨by first | rfl | (simp; done) | (simp [*]; done), by repeat (first | exact Drawn0.refl _ | apply Drawn0.step)⟩
end Go.Proofs.NJ0
namespace Go.Proofs.NGiv
open Go.RowKit Go.Proofs.Wa Go.Proofs.Wb Go.Proofs.Wc
open Go.Proofs.NU1 Go.Proofs.NQ1 Go.Proofs.NJ0
theorem str_eq (a b : ByteArray) : a.toList = b.toList ↔ a = b := by
 rw [Lib.toList_data, Lib.toList_data]
 constructor
 ·intro h
  cases a; cases b
  simp at h
  rw [h]
 ·intro h; rw [h]
def idxB (a : ByteArray) : List ByteArray → Nat → Int
 | [], _ => -1
 | x :: l, i => if a = x then (i : Int) else idxB a l (i + 1)
def hasB (a : ByteArray) : List ByteArray → Bool
 | [] => false
 | x :: l => if a = x then true else hasB a l
theorem idx_has (a : ByteArray) : ∀ (l : List ByteArray) (i : Nat), decide (idxB a l i ≥ 0) = hasB a l
 | [], _ => rfl
 | x :: l, i => by
  unfold idxB hasB
  by_cases c : a = x
  ·rw [if_pos c, if_pos c]; exact decide_eq_true (by omega)
  ·rw [if_neg c, if_neg c]; exact idx_has a l (i + 1)
theorem xay (a : ByteArray) : ∀ l : List ByteArray, hasB a l = true ↔ a ∈ l
 | [] => by simp [hasB]
 | x :: l => by
  unfold hasB
  by_cases c : a = x
  ·rw [if_pos c]; subst c; simp
  ·rw [if_neg c, xay a l]; simp [c]
theorem XaS (l : List ByteArray) (a : ByteArray) (hl : l.length ≤ 9223372036854775807) : ∀ (n k i : Nat), l.length - i = n → i ≤ l.length → n < k → Xg.l0 k l a (l.length : Int) (i : Int) = some (idxB a (l.drop i) i)
 | 0, k, i, h1, h2, h3 => by
  obtain ⟨k, rfl⟩ : ∃ m, k = m + 1 := ⟨k - 1, by omega⟩
  simp only [Xg.l0]
  rw [if_neg (by omega), xbp (by omega)]
  rfl
 | n + 1, k, i, h1, h2, h3 => by
  obtain ⟨k, rfl⟩ : ∃ m, k = m + 1 := ⟨k - 1, by omega⟩
  have hi : i < l.length := by omega
  have hd : l.drop i = l[i] :: l.drop (i + 1) := Xbo hi
  have hr : rdOf ByteArray.empty l (i : Int) = l[i] := by
   unfold rdOf
   rw [Ybd, zbe, zbf hi]; rfl
  simp only [Xg.l0]
  rw [if_pos (by omega), if_pos (by omega), if_pos (by omega), hr, hd, idxB]
  by_cases c : a = l[i]
  ·rw [if_pos ((str_eq _ _).2 c), if_pos c]
  ·rw [if_neg (fun h => c ((str_eq _ _).1 h)), if_neg c, show wrap64 ((i : Int) + 1) = ((i + 1 : Nat) : Int) by unfold wrap64; omega, XaS l a hl n k (i + 1) (by omega) (by omega) (by omega)]
theorem xU (k : Nat) (l : List ByteArray) (a : ByteArray) (hk : l.length < k) (hl : l.length ≤ 9223372036854775807) : Zh.f k l a = some (hasB a l) := by
 unfold Zh.f Xg.f
 have h := XaS l a hl l.length k 0 (by omega) (by omega) hk
 rw [xbt] at h
 rw [show (0 : Int) = ((0 : Nat) : Int) from rfl, h, Zbf]
 congr 1
 exact idx_has a l 0
def keyF (k : Nat) (s : ByteArray) (p : Nat) (others : List ByteArray) : Option (ByteArray × Int × Nat) :=
 if zd s p = 34 then (Zj.f k (s.extract (Zb s p) s.size)).bind fun r => if 0 ≤ r.2.1 ∧ (Zb s p : Int) + r.2.1 ≤ s.size then
  (if r.2.2 = 0 then (if hasB r.1 others = true then some (⟨#[]⟩, 82, Zb s p + r.2.1.toNat) else if (Xi s (Zb s p + r.2.1.toNat) 58).1 = true then some (r.1, 0, (Xi s (Zb s p + r.2.1.toNat) 58).2) else some (⟨#[]⟩, 80, (Xi s (Zb s p + r.2.1.toNat) 58).2))
   else some (⟨#[]⟩, r.2.2, Zb s p + r.2.1.toNat)) else none
 else some (⟨#[]⟩, 80, Zb s p)
theorem zH (s : ByteArray) (p c : Nat) (hp : p ≤ s.size) : (Xi s p c).2 ≤ s.size := by
 have := Xu s p hp
 unfold Xi; split
 ·rename_i h; exact h.2
 ·exact this
section
variable (w0 W : World) (g : Nat) (s : ByteArray) (p : Nat) (v : Value)
theorem key_none (kv : Value) (hR : Rd W g s p v) (hB : Below w0.heap.size w0 W) (hg : w0.heap.size ≤ g) (hp : p ≤ s.size) (hs : s.size ≤ 4611686018427387904) (hn : zd s p ≠ 34) :
  Calls Tryz.prog 61 #[.pointer (some ⟨g, 0, none⟩), kv] W fun e W' => e = .returned (.tuple #[.string ⟨#[]⟩, .int .i64 80]) ∧ Rd W' g s (Zb s p) v ∧ Below w0.heap.size w0 W' ∧ KeepBut W W' g none := by
 have HR := Aside0.mk hR
 have HB := Aside0.mk hB
 have HG := Aside0.mk hg
 have HS := Aside0.mk hs
 have HP := Aside0.mk hp
 have n1 : ((zd s p : Int) == 34) = false := Ybb.mpr (by omega)
 have n2 : ((zd s p : Int) != 34) = true := Zbh.mpr (by omega)
 clear hR hB hg hs hp hn
 go_enter Tryz.func61, Tryz.ntmps61
 go_wp2_with (first
  | (go_at_call 23; refine (Zn w0 W g s p v HR.out HB.out HG.out HP.out HS.out).mono ?_; rintro e w1 ⟨rfl, hR1, hB1, hK1⟩; have HR1 := Aside0.mk hR1; have HB1 := Aside0.mk hB1; have HK1 := Aside0.mk hK1; clear hR1 hB1 hK1))
 go_ret2
 exact ⟨rfl, HR1.out, HB1.out, HK1.out⟩
theorem key_err (k : Nat) (t : ByteArray) (m : Nat) (er : Int) (A : Option Addr) (c : Nat) (others : List ByteArray) (hR : Rd W g s p v) (hB : Below w0.heap.size w0 W) (hg : w0.heap.size ≤ g) (hp : p ≤ s.size) (hs : s.size ≤ 4611686018427387904) (hj : JTabs w0) (hn : zd s p = 34)
  (hr : Zj.f k (s.extract (Zb s p) s.size) = some (t, (m : Int), er)) (hm : Zb s p + m ≤ s.size) (ho : Kd.R Kd.string 9 W w0.heap.size (fun j => j ≠ g) (.slice A others.length c) others) (he : er ≠ 0) :
  Calls Tryz.prog 61 #[.pointer (some ⟨g, 0, none⟩), .slice A others.length c] W fun e W' => e = .returned (.tuple #[.string ⟨#[]⟩, .int .i64 er]) ∧ Rd W' g s (Zb s p + m) v ∧ Below w0.heap.size w0 W' ∧ KeepBut W W' g none := by
 have HR := Aside0.mk hR
 have HB := Aside0.mk hB
 have HG := Aside0.mk hg
 have HS := Aside0.mk hs
 have HP := Aside0.mk hp
 have JT := Aside0.mk hj
 have FR := Aside0.mk hr
 have HM := Aside0.mk hm
 have HO := Aside0.mk ho
 have HC := Aside0.mk (Kd.R_reads' ho).2.1
 have HL := Aside0.mk (Kd.R_reads' ho).2.2.2.1
 have n1 : ((zd s p : Int) == 34) = true := Ybf.mpr (by omega)
 have n2 : ((zd s p : Int) != 34) = false := Ybh.mpr (by omega)
 have n3 : (er == 0) = false := Ybb.mpr he
 have n4 : (er != 0) = true := Zbh.mpr he
 clear he
 clear hR hB hg hs hp hn hr hm ho hj
 go_enter Tryz.func61, Tryz.ntmps61
 go_wp2_with (first
  | (go_at_call 23; refine (Zn w0 W g s p v HR.out HB.out HG.out HP.out HS.out).mono ?_; rintro e w1 ⟨rfl, hR1, hB1, hK1⟩; have HR1 := Aside0.mk hR1; have HB1 := Aside0.mk hB1; have HK1 := Aside0.mk hK1; clear hR1 hB1 hK1)
  | (go_at_call 41; refine (ZO k w0 w1 g s (Zb s p) v t m _ HR1.out HB1.out HG.out (Xu s p HP.out) HS.out JT.out FR.out HM.out).mono ?_; rintro e w2 ⟨rfl, hR2, hB2, hK2⟩; have HR2 := Aside0.mk hR2; have HB2 := Aside0.mk hB2; have HK2 := Aside0.mk (HK1.out.trans hK2 (.inl rfl)); clear hR2 hB2 hK2))
 go_ret2
 exact ⟨rfl, HR2.out, HB2.out, HK2.out⟩
theorem key_twice (k : Nat) (t : ByteArray) (m : Nat) (er : Int) (A : Option Addr) (c : Nat) (others : List ByteArray) (hR : Rd W g s p v) (hB : Below w0.heap.size w0 W) (hg : w0.heap.size ≤ g) (hp : p ≤ s.size) (hs : s.size ≤ 4611686018427387904) (hj : JTabs w0) (hn : zd s p = 34)
  (hr : Zj.f k (s.extract (Zb s p) s.size) = some (t, (m : Int), er)) (hm : Zb s p + m ≤ s.size) (ho : Kd.R Kd.string 9 W w0.heap.size (fun j => j ≠ g) (.slice A others.length c) others) (he : er = 0) (hh : hasB t others = true) :
  Calls Tryz.prog 61 #[.pointer (some ⟨g, 0, none⟩), .slice A others.length c] W fun e W' => e = .returned (.tuple #[.string ⟨#[]⟩, .int .i64 82]) ∧ Rd W' g s (Zb s p + m) v ∧ Below w0.heap.size w0 W' ∧ KeepBut W W' g none := by
 have HR := Aside0.mk hR
 have HB := Aside0.mk hB
 have HG := Aside0.mk hg
 have HS := Aside0.mk hs
 have HP := Aside0.mk hp
 have JT := Aside0.mk hj
 have FR := Aside0.mk hr
 have HM := Aside0.mk hm
 have HO := Aside0.mk ho
 have HC := Aside0.mk (Kd.R_reads' ho).2.1
 have HL := Aside0.mk (Kd.R_reads' ho).2.2.2.1
 have n1 : ((zd s p : Int) == 34) = true := Ybf.mpr (by omega)
 have n2 : ((zd s p : Int) != 34) = false := Ybh.mpr (by omega)
 subst he
 have FC : Aside0 (Zh.f (others.length + 1) others t = some true) := ⟨by rw [xU _ _ _ (by omega) HL.out, hh]⟩
 clear hh
 clear hR hB hg hs hp hn hr hm ho hj
 go_enter Tryz.func61, Tryz.ntmps61
 go_wp2_with (first
  | (go_at_call 23; refine (Zn w0 W g s p v HR.out HB.out HG.out HP.out HS.out).mono ?_; rintro e w1 ⟨rfl, hR1, hB1, hK1⟩; have HR1 := Aside0.mk hR1; have HB1 := Aside0.mk hB1; have HK1 := Aside0.mk hK1; clear hR1 hB1 hK1)
  | (go_at_call 41; refine (ZO k w0 w1 g s (Zb s p) v t m _ HR1.out HB1.out HG.out (Xu s p HP.out) HS.out JT.out FR.out HM.out).mono ?_; rintro e w2 ⟨rfl, hR2, hB2, hK2⟩; have HR2 := Aside0.mk hR2; have HB2 := Aside0.mk hB2; have HK2 := Aside0.mk (HK1.out.trans hK2 (.inl rfl)); clear hR2 hB2 hK2)
  | (go_at_call 53; refine (Zh.calls (others.length + 1) A c others t _ w2 (Kd.R_reads' (Kd.R_keep HO.out HK2.out (fun _ h => h))).2.2 HC.out FC.out).mono ?_; rintro e w3 ⟨rfl, ⟨nd, rfl⟩⟩))
 go_ret2
 exact ⟨rfl, HR2.out, Ya HB2.out _, YI HK2.out _⟩
theorem key_colon (k : Nat) (t : ByteArray) (m : Nat) (er : Int) (A : Option Addr) (c : Nat) (others : List ByteArray) (hR : Rd W g s p v) (hB : Below w0.heap.size w0 W) (hg : w0.heap.size ≤ g) (hp : p ≤ s.size) (hs : s.size ≤ 4611686018427387904) (hj : JTabs w0) (hn : zd s p = 34)
  (hr : Zj.f k (s.extract (Zb s p) s.size) = some (t, (m : Int), er)) (hm : Zb s p + m ≤ s.size) (ho : Kd.R Kd.string 9 W w0.heap.size (fun j => j ≠ g) (.slice A others.length c) others) (he : er = 0) (hh : hasB t others = false) (ht : (Xi s (Zb s p + m) 58).1 = false) :
  Calls Tryz.prog 61 #[.pointer (some ⟨g, 0, none⟩), .slice A others.length c] W fun e W' => e = .returned (.tuple #[.string ⟨#[]⟩, .int .i64 80]) ∧ Rd W' g s (Xi s (Zb s p + m) 58).2 v ∧ Below w0.heap.size w0 W' ∧ KeepBut W W' g none := by
 have HR := Aside0.mk hR
 have HB := Aside0.mk hB
 have HG := Aside0.mk hg
 have HS := Aside0.mk hs
 have HP := Aside0.mk hp
 have JT := Aside0.mk hj
 have FR := Aside0.mk hr
 have HM := Aside0.mk hm
 have HO := Aside0.mk ho
 have HC := Aside0.mk (Kd.R_reads' ho).2.1
 have HL := Aside0.mk (Kd.R_reads' ho).2.2.2.1
 have n1 : ((zd s p : Int) == 34) = true := Ybf.mpr (by omega)
 have n2 : ((zd s p : Int) != 34) = false := Ybh.mpr (by omega)
 subst he
 have FC : Aside0 (Zh.f (others.length + 1) others t = some false) := ⟨by rw [xU _ _ _ (by omega) HL.out, hh]⟩
 clear hh
 have n5 : (Xi s (Zb s p + m) 58).1 = false := ht
 clear ht
 clear hR hB hg hs hp hn hr hm ho hj
 go_enter Tryz.func61, Tryz.ntmps61
 go_wp2_with (first
  | (go_at_call 23; refine (Zn w0 W g s p v HR.out HB.out HG.out HP.out HS.out).mono ?_; rintro e w1 ⟨rfl, hR1, hB1, hK1⟩; have HR1 := Aside0.mk hR1; have HB1 := Aside0.mk hB1; have HK1 := Aside0.mk hK1; clear hR1 hB1 hK1)
  | (go_at_call 41; refine (ZO k w0 w1 g s (Zb s p) v t m _ HR1.out HB1.out HG.out (Xu s p HP.out) HS.out JT.out FR.out HM.out).mono ?_; rintro e w2 ⟨rfl, hR2, hB2, hK2⟩; have HR2 := Aside0.mk hR2; have HB2 := Aside0.mk hB2; have HK2 := Aside0.mk (HK1.out.trans hK2 (.inl rfl)); clear hR2 hB2 hK2)
  | (go_at_call 53; refine (Zh.calls (others.length + 1) A c others t _ w2 (Kd.R_reads' (Kd.R_keep HO.out HK2.out (fun _ h => h))).2.2 HC.out FC.out).mono ?_; rintro e w3 ⟨rfl, ⟨nd, rfl⟩⟩)
  | (go_at_call 60; refine (Zr w0 (w2.drewN nd) g s (Zb s p + m) v 58 HR2.out (Ya HB2.out _) HG.out HM.out HS.out).mono ?_; rintro e w4 ⟨rfl, hR4, hB4, hK4⟩; have HR4 := Aside0.mk hR4; have HB4 := Aside0.mk hB4; have HK4 := Aside0.mk ((YI HK2.out nd).trans hK4 (.inl rfl)); clear hR4 hB4 hK4))
 go_ret2
 exact ⟨rfl, HR4.out, HB4.out, HK4.out⟩
theorem key_yes (k : Nat) (t : ByteArray) (m : Nat) (er : Int) (A : Option Addr) (c : Nat) (others : List ByteArray) (hR : Rd W g s p v) (hB : Below w0.heap.size w0 W) (hg : w0.heap.size ≤ g) (hp : p ≤ s.size) (hs : s.size ≤ 4611686018427387904) (hj : JTabs w0) (hn : zd s p = 34)
  (hr : Zj.f k (s.extract (Zb s p) s.size) = some (t, (m : Int), er)) (hm : Zb s p + m ≤ s.size) (ho : Kd.R Kd.string 9 W w0.heap.size (fun j => j ≠ g) (.slice A others.length c) others) (he : er = 0) (hh : hasB t others = false) (ht : (Xi s (Zb s p + m) 58).1 = true) :
  Calls Tryz.prog 61 #[.pointer (some ⟨g, 0, none⟩), .slice A others.length c] W fun e W' => e = .returned (.tuple #[.string t, .int .i64 0]) ∧ Rd W' g s (Xi s (Zb s p + m) 58).2 v ∧ Below w0.heap.size w0 W' ∧ KeepBut W W' g none := by
 have HR := Aside0.mk hR
 have HB := Aside0.mk hB
 have HG := Aside0.mk hg
 have HS := Aside0.mk hs
 have HP := Aside0.mk hp
 have JT := Aside0.mk hj
 have FR := Aside0.mk hr
 have HM := Aside0.mk hm
 have HO := Aside0.mk ho
 have HC := Aside0.mk (Kd.R_reads' ho).2.1
 have HL := Aside0.mk (Kd.R_reads' ho).2.2.2.1
 have n1 : ((zd s p : Int) == 34) = true := Ybf.mpr (by omega)
 have n2 : ((zd s p : Int) != 34) = false := Ybh.mpr (by omega)
 subst he
 have FC : Aside0 (Zh.f (others.length + 1) others t = some false) := ⟨by rw [xU _ _ _ (by omega) HL.out, hh]⟩
 clear hh
 have n5 : (Xi s (Zb s p + m) 58).1 = true := ht
 clear ht
 clear hR hB hg hs hp hn hr hm ho hj
 go_enter Tryz.func61, Tryz.ntmps61
 go_wp2_with (first
  | (go_at_call 23; refine (Zn w0 W g s p v HR.out HB.out HG.out HP.out HS.out).mono ?_; rintro e w1 ⟨rfl, hR1, hB1, hK1⟩; have HR1 := Aside0.mk hR1; have HB1 := Aside0.mk hB1; have HK1 := Aside0.mk hK1; clear hR1 hB1 hK1)
  | (go_at_call 41; refine (ZO k w0 w1 g s (Zb s p) v t m _ HR1.out HB1.out HG.out (Xu s p HP.out) HS.out JT.out FR.out HM.out).mono ?_; rintro e w2 ⟨rfl, hR2, hB2, hK2⟩; have HR2 := Aside0.mk hR2; have HB2 := Aside0.mk hB2; have HK2 := Aside0.mk (HK1.out.trans hK2 (.inl rfl)); clear hR2 hB2 hK2)
  | (go_at_call 53; refine (Zh.calls (others.length + 1) A c others t _ w2 (Kd.R_reads' (Kd.R_keep HO.out HK2.out (fun _ h => h))).2.2 HC.out FC.out).mono ?_; rintro e w3 ⟨rfl, ⟨nd, rfl⟩⟩)
  | (go_at_call 60; refine (Zr w0 (w2.drewN nd) g s (Zb s p + m) v 58 HR2.out (Ya HB2.out _) HG.out HM.out HS.out).mono ?_; rintro e w4 ⟨rfl, hR4, hB4, hK4⟩; have HR4 := Aside0.mk hR4; have HB4 := Aside0.mk hB4; have HK4 := Aside0.mk ((YI HK2.out nd).trans hK4 (.inl rfl)); clear hR4 hB4 hK4))
 go_ret2
 exact ⟨rfl, HR4.out, HB4.out, HK4.out⟩
theorem zY (k : Nat) (others : List ByteArray) (t : ByteArray) (er : Int) (q : Nat) (A : Option Addr) (c : Nat) (h : keyF k s p others = some (t, er, q)) (hR : Rd W g s p v) (hB : Below w0.heap.size w0 W) (hg : w0.heap.size ≤ g) (hp : p ≤ s.size) (hs : s.size ≤ 4611686018427387904) (hj : JTabs w0)
  (ho : Kd.R Kd.string 9 W w0.heap.size (fun j => j ≠ g) (.slice A others.length c) others) :
  Calls Tryz.prog 61 #[.pointer (some ⟨g, 0, none⟩), .slice A others.length c] W fun e W' => e = .returned (.tuple #[.string t, .int .i64 er]) ∧ Rd W' g s q v ∧ Below w0.heap.size w0 W' ∧ KeepBut W W' g none := by
 unfold keyF at h
 by_cases hn : zd s p = 34
 ·rw [if_pos hn] at h
  obtain ⟨⟨t1, m1, e1⟩, hr, h⟩ := Ybe.1 h
  simp only at h
  by_cases hm : 0 ≤ m1 ∧ (Zb s p : Int) + m1 ≤ s.size
  ·rw [if_pos hm] at h
   obtain ⟨m, rfl⟩ : ∃ m : Nat, m1 = m := ⟨m1.toNat, by omega⟩
   rw [Ybd] at h
   by_cases he : e1 = 0
   ·rw [if_pos he] at h
    by_cases hh : hasB t1 others = true
    ·rw [if_pos hh] at h
     cases h
     exact key_twice w0 W g s p v k t1 m e1 A c others hR hB hg hp hs hj hn hr (by omega) ho he hh
    ·rw [if_neg hh] at h
     by_cases ht : (Xi s (Zb s p + m) 58).1 = true
     ·rw [if_pos ht] at h
      cases h
      exact key_yes w0 W g s p v k t m e1 A c others hR hB hg hp hs hj hn hr (by omega) ho he (ybh.2 hh) ht
     ·rw [if_neg ht] at h
      cases h
      exact key_colon w0 W g s p v k t1 m e1 A c others hR hB hg hp hs hj hn hr (by omega) ho he (ybh.2 hh) (ybh.2 ht)
   ·rw [if_neg he] at h
    cases h
    exact key_err w0 W g s p v k t1 m er A c others hR hB hg hp hs hj hn hr (by omega) ho he
  ·rw [if_neg hm] at h; cases h
 ·rw [if_neg hn] at h
  cases h
  exact key_none w0 W g s p v _ hR hB hg hp hs hn
end
end Go.Proofs.NGiv
namespace Go.Proofs.NQ1
open Go.Proofs.NGiv Go.Proofs.NU1 Go.RowKit Go.Proofs.Wa Go.Proofs.Wb Go.Proofs.Wc
attribute [local go_sem] YL XL YR XR yI xI zM yM
mutual
def Yb.j0 : Nat → Int → Bool → Option (Int)
 | 0, _, _ => none
 | k + 1, x0, x8 => if x8 = true then (some (wrap64 ((wrap64 (x0)) - 48))) else (if x0 ≥ 97 then (Yb.j1 k x0 (decide (x0 ≤ 102))) else (Yb.j1 k x0 false))
def Yb.j1 : Nat → Int → Bool → Option (Int)
 | 0, _, _ => none
 | k + 1, x0, x17 => if x17 = true then (some (wrap64 ((wrap64 (x0)) - 87))) else (if x0 ≥ 65 then (if x0 ≤ 70 then (some (wrap64 ((wrap64 (x0)) - 55))) else (some (-1))) else (some (-1)))
end
def Yb.f (k : Nat) (a0 : Int) : Option (Int) := if a0 ≥ 48 then (Yb.j0 k a0 (decide (a0 ≤ 57))) else (Yb.j0 k a0 false)
theorem Yb.mono_l : ∀ k, (∀ y0 y1, LeO (Yb.j0 k y0 y1) (Yb.j0 (k + 1) y0 y1)) ∧ (∀ y0 y1, LeO (Yb.j1 k y0 y1) (Yb.j1 (k + 1) y0 y1))
 | 0 => ⟨fun _ _ r h => by simp [Yb.j0] at h, fun _ _ r h => by simp [Yb.j1] at h⟩
 | k + 1 => by
  obtain ⟨ih0, ih1⟩ := Yb.mono_l k
  refine ⟨?_, ?_⟩
  ·intro y0 y1
   unfold Yb.j0
   repeat' first
   | (with_reducible exact ih0 _ _)
   | (with_reducible exact ih1 _ _)
   | (with_reducible exact LeO.refl _)
   | (with_reducible exact LeO.none _)
   | (with_reducible refine LeO.ite ?_ ?_)
   | (with_reducible refine LeO.bind ?_ (fun _ => ?_))
   | exact ih0 _ _
   | exact ih1 _ _
   | exact LeO.none _
   | refine LeO.ite ?_ ?_
   | refine LeO.bind ?_ (fun _ => ?_)
  ·intro y0 y1
   unfold Yb.j1
   repeat' first
   | (with_reducible exact ih0 _ _)
   | (with_reducible exact ih1 _ _)
   | (with_reducible exact LeO.refl _)
   | (with_reducible exact LeO.none _)
   | (with_reducible refine LeO.ite ?_ ?_)
   | (with_reducible refine LeO.bind ?_ (fun _ => ?_))
   | exact ih0 _ _
   | exact ih1 _ _
   | exact LeO.none _
   | refine LeO.ite ?_ ?_
   | refine LeO.bind ?_ (fun _ => ?_)
theorem Yb.mono : ∀ a0 k, LeO (Yb.f k a0) (Yb.f (k + 1) a0) := by
 intro a0 k
 obtain ⟨ih0, ih1⟩ := Yb.mono_l k
 unfold Yb.f
 repeat' first
   | (with_reducible exact ih0 _ _)
   | (with_reducible exact ih1 _ _)
   | (with_reducible exact LeO.refl _)
   | (with_reducible exact LeO.none _)
   | (with_reducible refine LeO.ite ?_ ?_)
   | (with_reducible refine LeO.bind ?_ (fun _ => ?_))
   | exact ih0 _ _
   | exact ih1 _ _
   | exact LeO.none _
   | refine LeO.ite ?_ ?_
   | refine LeO.bind ?_ (fun _ => ?_)
theorem Yb.calls (k : Nat) (a0 : Int) (r : Int) (w : World) (h : Yb.f k a0 = some r) :
  Calls Tryz.prog 114 #[.int .u8 a0] w fun e w' => e = .returned (.int .i64 r) ∧ Drawn0 w w' := by
 have H : (if a0 ≥ 48 then (Yb.j0 k a0 (decide (a0 ≤ 57))) else (Yb.j0 k a0 false)) = some r := h
 clear h
 have HC2 := Aside0.mk H
 clear H
 go_enter Tryz.func114, Tryz.ntmps114
 go_upto_region 1 with (fail)
 go_cut [8] (fun v8 wc => ∃ (kq : Nat) (x8_1 : Bool), v8 = .bool x8_1 ∧ Aside0 (Yb.j0 kq a0 x8_1 = some r) ∧ Aside0 (kq ≤ k) ∧ Drawn0 w wc)
 case first =>
  have H := HC2.out
  clear HC2
  by_cases c3 : a0 ≥ 48
  ·rw [if_pos c3] at H
   have c3b0 : decide (48 ≤ a0) = true := decide_eq_true c3
   clear c3
   (first | rw [c3b0] | (simp only [i64_w, zn]; rw [c3b0]) | skip)
   have H' := Aside0.mk H
   clear H
   go_wp2
   go_meet
   case rel => exact ⟨_, (decide (a0 ≤ 57)), (by first | rfl | (simp; done) | (simp [*]; done)), H', ⟨by first | omega | exact Xbc _⟩, by repeat (first | exact Drawn0.refl _ | apply Drawn0.step)⟩
  ·rw [if_neg c3] at H
   have c3b0 : decide (48 ≤ a0) = false := zbd c3
   clear c3
   (first | rw [c3b0] | (simp only [i64_w, zn]; rw [c3b0]) | skip)
   have H' := Aside0.mk H
   clear H
   go_wp2
   go_meet
   case rel => exact ⟨_, (false), (by first | rfl | (simp; done) | (simp [*]; done)), H', ⟨by first | omega | exact Xbc _⟩, by repeat (first | exact Drawn0.refl _ | apply Drawn0.step)⟩
 case rest =>
  clear HC2
  try clear c1
  try clear p2
  try clear c3
  try clear c3b0
  obtain ⟨kq, x8_1, rfl, HA, HJ1, ⟨mc1, rfl⟩⟩ := hcut
  cases kq with
  | zero => exact absurd HA.out (by simp [Yb.j0])
  | succ kj1 =>
   have H := HA.out
   clear HA
   simp only [Yb.j0] at H
   by_cases c4 : x8_1 = true
   ·subst c4
    have H1 : (some (wrap64 ((wrap64 (a0)) - 48))) = some r := by rw [if_pos rfl] at H; exact H
    clear H
    have H := H1
    clear H1
    obtain rfl := Option.some.inj H
    go_wp2
    go_ret
    exact ⟨by first | rfl | (simp; done) | (simp [*]; done), by repeat (first | exact Drawn0.refl _ | apply Drawn0.step)⟩
   ·replace c4 := ybh.mpr c4
    subst c4
    have H1 : (if a0 ≥ 97 then (Yb.j1 kj1 a0 (decide (a0 ≤ 102))) else (Yb.j1 kj1 a0 false)) = some r := by rw [if_neg (show ¬ (false = true) by decide)] at H; exact H
    clear H
    have H := H1
    clear H1
    have HC5 := Aside0.mk H
    clear H
    go_upto_region 3 with (fail)
    go_cut [17] (fun v17 wc => ∃ (kq : Nat) (x17_4 : Bool), v17 = .bool x17_4 ∧ Aside0 (Yb.j1 kq a0 x17_4 = some r) ∧ Aside0 (kq ≤ kj1) ∧ Drawn0 w wc)
    case first =>
     have H := HC5.out
     clear HC5
     by_cases c6 : a0 ≥ 97
     ·rw [if_pos c6] at H
      have c6b0 : decide (97 ≤ a0) = true := decide_eq_true c6
      clear c6
      (first | rw [c6b0] | (simp only [i64_w, zn]; rw [c6b0]) | skip)
      have H' := Aside0.mk H
      clear H
      go_wp2
      go_meet
      case rel => exact ⟨_, (decide (a0 ≤ 102)), (by first | rfl | (simp; done) | (simp [*]; done)), H', ⟨by have := HJ1.out; first | omega | exact Xbc _⟩, by repeat (first | exact Drawn0.refl _ | apply Drawn0.step)⟩
     ·rw [if_neg c6] at H
      have c6b0 : decide (97 ≤ a0) = false := zbd c6
      clear c6
      (first | rw [c6b0] | (simp only [i64_w, zn]; rw [c6b0]) | skip)
      have H' := Aside0.mk H
      clear H
      go_wp2
      go_meet
      case rel => exact ⟨_, (false), (by first | rfl | (simp; done) | (simp [*]; done)), H', ⟨by have := HJ1.out; first | omega | exact Xbc _⟩, by repeat (first | exact Drawn0.refl _ | apply Drawn0.step)⟩
    case rest =>
     clear HC5
     try clear c1
     try clear p2
     try clear c3
     try clear c3b0
     try clear c4
     try clear c6
     try clear c6b0
     try clear p6
     try clear p2
     obtain ⟨kq, x17_4, rfl, HA, HJ4, ⟨mc4, rfl⟩⟩ := hcut
     cases kq with
     | zero => exact absurd HA.out (by simp [Yb.j1])
     | succ kj4 =>
      have H := HA.out
      clear HA
      simp only [Yb.j1] at H
      by_cases c7 : x17_4 = true
      ·subst c7
       have H1 : (some (wrap64 ((wrap64 (a0)) - 87))) = some r := by rw [if_pos rfl] at H; exact H
       clear H
       have H := H1
       clear H1
       obtain rfl := Option.some.inj H
       go_wp2
       go_ret
       exact ⟨by first | rfl | (simp; done) | (simp [*]; done), by repeat (first | exact Drawn0.refl _ | apply Drawn0.step)⟩
      ·replace c7 := ybh.mpr c7
       subst c7
       have H1 : (if a0 ≥ 65 then (if a0 ≤ 70 then (some (wrap64 ((wrap64 (a0)) - 55))) else (some (-1))) else (some (-1))) = some r := by rw [if_neg (show ¬ (false = true) by decide)] at H; exact H
       clear H
       have H := H1
       clear H1
       by_cases c8 : a0 ≥ 65
       ·rw [if_pos c8] at H
        have c8b0 : decide (65 ≤ a0) = true := decide_eq_true c8
        clear c8
        by_cases c9 : a0 ≤ 70
        ·rw [if_pos c9] at H
         have c9b0 : decide (a0 ≤ 70) = true := decide_eq_true c9
         clear c9
         obtain rfl := Option.some.inj H
         go_wp2
         go_ret
         exact ⟨by first | rfl | (simp; done) | (simp [*]; done), by repeat (first | exact Drawn0.refl _ | apply Drawn0.step)⟩
        ·rw [if_neg c9] at H
         have c9b0 : decide (a0 ≤ 70) = false := zbd c9
         clear c9
         obtain rfl := Option.some.inj H
         go_wp2
         go_ret
         exact ⟨by first | rfl | (simp; done) | (simp [*]; done), by repeat (first | exact Drawn0.refl _ | apply Drawn0.step)⟩
       ·rw [if_neg c8] at H
        have c8b0 : decide (65 ≤ a0) = false := zbd c8
        clear c8
        obtain rfl := Option.some.inj H
        go_wp2
        go_ret
        exact ⟨by first | rfl | (simp; done) | (simp [*]; done), by repeat (first | exact Drawn0.refl _ | apply Drawn0.step)⟩
mutual
def Xb.j0 : Nat → ByteArray → Int → Bool → Option (Int)
 | 0, _, _, _ => none
 | k + 1, x0, x1, x17 => if x17 = true then (some (-1)) else (Xb.l0 k x0 x1 0 (wrap64 (x1 + 1)))
def Xb.l0 : Nat → ByteArray → Int → Int → Int → Option (Int)
 | 0, _, _, _, _ => none
 | k + 1, x0, x1, x5, x6 => if x6 < (wrap64 (x1 + 5)) then (if 0 ≤ x6 then (if x6 < (x0.size : Int) then ((Yb.f k (bt x0 x6)).bind fun t157 => (if t157 < 0 then (some (-1)) else ((Yb.f k (bt x0 x6)).bind fun t158 => (Xb.l0 k x0 x1 (wrap64 ((wrap64 (16 * x5)) + t158)) (wrap64 (x6 + 1)))))) else (none)) else (none)) else (some x5)
end
def Xb.f (k : Nat) (a0 : ByteArray) (a1 : Int) : Option (Int) := if (wrap64 ((a0.size : Int) - a1)) < 5 then (Xb.j0 k a0 a1 true) else (if 0 ≤ a1 then (if a1 < (a0.size : Int) then (Xb.j0 k a0 a1 ((bt a0 a1) != 117)) else (none)) else (none))
theorem Xb.calls (k : Nat) (a0 : ByteArray) (a1 : Int) (r : Int) (w : World) (h : Xb.f k a0 a1 = some r) :
  Calls Tryz.prog 102 #[.string a0, .int .i64 a1] w fun e w' => e = .returned (.int .i64 r) ∧ Drawn0 w w' := by
 have H : (if (wrap64 ((a0.size : Int) - a1)) < 5 then (Xb.j0 k a0 a1 true) else (if 0 ≤ a1 then (if a1 < (a0.size : Int) then (Xb.j0 k a0 a1 ((bt a0 a1) != 117)) else (none)) else (none))) = some r := h
 clear h
 have HC3 := Aside0.mk H
 clear H
 go_enter Tryz.func102, Tryz.ntmps102
 go_upto_region 1 with (fail)
 go_cut [17] (fun v17 wc => ∃ (kq : Nat) (x17_2 : Bool), v17 = .bool x17_2 ∧ Aside0 (Xb.j0 kq a0 a1 x17_2 = some r) ∧ Aside0 (kq ≤ k) ∧ Drawn0 w wc)
 case first =>
  have H := HC3.out
  clear HC3
  by_cases c4 : (wrap64 ((a0.size : Int) - a1)) < 5
  ·rw [if_pos c4] at H
   have c4b0 : decide ((wrap64 ((a0.size : Int) - a1)) < 5) = true := decide_eq_true c4
   clear c4
   (first | rw [c4b0] | (simp only [i64_w, zn]; rw [c4b0]) | skip)
   have H' := Aside0.mk H
   clear H
   go_wp2
   go_meet
   case rel => exact ⟨_, (true), (by first | rfl | (simp; done) | (simp [*]; done)), H', ⟨by first | omega | exact Xbc _⟩, by repeat (first | exact Drawn0.refl _ | apply Drawn0.step)⟩
  ·rw [if_neg c4] at H
   have c4b0 : decide ((wrap64 ((a0.size : Int) - a1)) < 5) = false := zbd c4
   clear c4
   (first | rw [c4b0] | (simp only [i64_w, zn]; rw [c4b0]) | skip)
   by_cases c5 : 0 ≤ a1
   ·rw [if_pos c5] at H
    have c5b0 : decide (0 ≤ a1) = true := decide_eq_true c5
    clear c5
    by_cases c6 : a1 < (a0.size : Int)
    ·rw [if_pos c6] at H
     have c6b0 : decide (a1 < (a0.size : Int)) = true := decide_eq_true c6
     clear c6
     have H' := Aside0.mk H
     clear H
     have p7 : 0 ≤ (a1 : Int) := xbc (by first | (with_reducible assumption) | assumption)
     have q7 : a1 < (a0.size : Int) := xbc (by first | (with_reducible assumption) | assumption)
     have hx7 := Xo a0 a1
     replace p7 := eq_true p7
     replace q7 := eq_true q7
     go_wp2
     go_meet
     case rel => exact ⟨_, (((bt a0 a1) != 117)), (by first | rfl | (simp; done) | (simp [*]; done)), H', ⟨by first | omega | exact Xbc _⟩, by repeat (first | exact Drawn0.refl _ | apply Drawn0.step)⟩
    ·rw [if_neg c6] at H
     exact absurd H (by simp)
   ·rw [if_neg c5] at H
    exact absurd H (by simp)
 case rest =>
  clear HC3
  try clear p2
  try clear c4
  try clear c4b0
  try clear c5
  try clear c5b0
  try clear c6
  try clear c6b0
  try clear p6
  try clear p7
  try clear q7
  try clear hx7
  try clear p7
  try clear q7
  obtain ⟨kq, x17_2, rfl, HA, HJ2, ⟨mc2, rfl⟩⟩ := hcut
  cases kq with
  | zero => exact absurd HA.out (by simp [Xb.j0])
  | succ kj2 =>
   have H := HA.out
   clear HA
   simp only [Xb.j0] at H
   by_cases c8 : x17_2 = true
   ·subst c8
    have H1 : (some (-1)) = some r := by rw [if_pos rfl] at H; exact H
    clear H
    have H := H1
    clear H1
    obtain rfl := Option.some.inj H
    go_wp2
    go_ret
    exact ⟨by first | rfl | (simp; done) | (simp [*]; done), by repeat (first | exact Drawn0.refl _ | apply Drawn0.step)⟩
   ·replace c8 := ybh.mpr c8
    subst c8
    have H1 : (Xb.l0 kj2 a0 a1 0 (wrap64 (a1 + 1))) = some r := by rw [if_neg (show ¬ (false = true) by decide)] at H; exact H
    clear H
    have H := H1
    clear H1
    have H' := Aside0.mk H
    clear H
    go_wp2
    go_loopg [5, 6] kj2 (fun kq v5 v6 w' => ∃ (x5_2 : Int) (x6_2 : Int), v5 = .int .i64 x5_2 ∧ v6 = .int .i64 x6_2 ∧ Aside0 (Xb.l0 kq a0 a1 x5_2 x6_2 = some r) ∧ Aside0 (kq ≤ kj2) ∧ Drawn0 w w')
    case atStart => exact ⟨(0), (wrap64 (a1 + 1)), (by first | rfl | (simp; done) | (simp [*]; done)), (by first | rfl | (simp; done) | (simp [*]; done)), H', ⟨Xbc _⟩, by repeat (first | exact Drawn0.refl _ | apply Drawn0.step)⟩
    case round =>
     clear H'
     try clear c2
     try clear p2
     try clear c4
     try clear c4b0
     try clear c5
     try clear c5b0
     try clear c6
     try clear c6b0
     try clear p6
     try clear p7
     try clear q7
     try clear hx7
     try clear c8
     try clear p2
     try clear p6
     try clear p7
     try clear q7
     obtain ⟨x5_2, x6_2, rfl, rfl, HA, HK2, ⟨m2, rfl⟩⟩ := hrel
     cases gk with
     | zero => exact absurd HA.out (by simp [Xb.l0])
     | succ k2 =>
      have H := HA.out
      clear HA
      simp only [Xb.l0] at H
      by_cases c9 : x6_2 < (wrap64 (a1 + 5))
      ·rw [if_pos c9] at H
       have c9b0 : decide (x6_2 < (wrap64 (a1 + 5))) = true := decide_eq_true c9
       clear c9
       by_cases c10 : 0 ≤ x6_2
       ·rw [if_pos c10] at H
        have c10b0 : decide (0 ≤ x6_2) = true := decide_eq_true c10
        clear c10
        by_cases c11 : x6_2 < (a0.size : Int)
        ·rw [if_pos c11] at H
         have c11b0 : decide (x6_2 < (a0.size : Int)) = true := decide_eq_true c11
         clear c11
         replace H := Ybe.mp H
         obtain ⟨t157, A130, H⟩ := H
         replace H : (if t157 < 0 then (some (-1)) else ((Yb.f k2 (bt a0 x6_2)).bind fun t158 => (Xb.l0 k2 a0 a1 (wrap64 ((wrap64 (16 * x5_2)) + t158)) (wrap64 (x6_2 + 1))))) = some r := H
         have A13 := Aside0.mk A130
         clear A130
         by_cases c14 : t157 < 0
         ·rw [if_pos c14] at H
          have c14b0 : decide (t157 < 0) = true := decide_eq_true c14
          clear c14
          obtain rfl := Option.some.inj H
          have p12 : 0 ≤ (x6_2 : Int) := xbc (by first | (with_reducible assumption) | assumption)
          have q12 : x6_2 < (a0.size : Int) := xbc (by first | (with_reducible assumption) | assumption)
          have hx12 := Xo a0 x6_2
          replace p12 := eq_true p12
          replace q12 := eq_true q12
          go_wp2_with (first | ((with_reducible refine Xd (f := 114) rfl ?_); refine Xj (some 29) rfl rfl Tryz.func114 (by kernel_rfl) rfl #[.int .u8 (bt a0 x6_2)] rfl (by (try simp only [zbg, Xbf, ybg]); first | done | rfl | (simp only [Zbb, ybc]; rfl)) ?_; (with_reducible refine (Yb.calls k2 (bt a0 x6_2) t157 _ A13.out).mono ?_); rintro e w' ⟨rfl, ⟨nd, rfl⟩⟩; refine ⟨_, rfl, ?_⟩))
          go_ret
          exact ⟨by first | rfl | (simp; done) | (simp [*]; done), by repeat (first | exact Drawn0.refl _ | apply Drawn0.step)⟩
         ·rw [if_neg c14] at H
          have c14b0 : decide (t157 < 0) = false := zbd c14
          clear c14
          replace H := Ybe.mp H
          obtain ⟨t158, A160, H⟩ := H
          replace H : (Xb.l0 k2 a0 a1 (wrap64 ((wrap64 (16 * x5_2)) + t158)) (wrap64 (x6_2 + 1))) = some r := H
          have A16 := Aside0.mk A160
          clear A160
          have H' := Aside0.mk H
          clear H
          have p12 : 0 ≤ (x6_2 : Int) := xbc (by first | (with_reducible assumption) | assumption)
          have q12 : x6_2 < (a0.size : Int) := xbc (by first | (with_reducible assumption) | assumption)
          have hx12 := Xo a0 x6_2
          replace p12 := eq_true p12
          replace q12 := eq_true q12
          go_wp2_with (first | ((with_reducible refine Xd (f := 114) rfl ?_); refine Xj (some 29) rfl rfl Tryz.func114 (by kernel_rfl) rfl #[.int .u8 (bt a0 x6_2)] rfl (by (try simp only [zbg, Xbf, ybg]); first | done | rfl | (simp only [Zbb, ybc]; rfl)) ?_; (with_reducible refine (Yb.calls k2 (bt a0 x6_2) t157 _ A13.out).mono ?_); rintro e w' ⟨rfl, ⟨nd, rfl⟩⟩; refine ⟨_, rfl, ?_⟩; have p15 : 0 ≤ (x6_2 : Int) := xbc (by first | (with_reducible assumption) | assumption); have q15 : x6_2 < (a0.size : Int) := xbc (by first | (with_reducible assumption) | assumption); have hx15 := Xo a0 x6_2; replace p15 := eq_true p15; replace q15 := eq_true q15) | ((with_reducible refine Xd (f := 114) rfl ?_); refine Xj (some 36) rfl rfl Tryz.func114 (by kernel_rfl) rfl #[.int .u8 (bt a0 x6_2)] rfl (by (try simp only [zbg, Xbf, ybg]); first | done | rfl | (simp only [Zbb, ybc]; rfl)) ?_; (with_reducible refine (Yb.calls k2 (bt a0 x6_2) t158 _ A16.out).mono ?_); rintro e w' ⟨rfl, ⟨nd, rfl⟩⟩; refine ⟨_, rfl, ?_⟩))
          go_roundg k2
          case measure => have := HJ2.out; have := HK2.out; omega
          case rel => exact ⟨(wrap64 ((wrap64 (16 * x5_2)) + t158)), (wrap64 (x6_2 + 1)), (by first | rfl | (simp; done) | (simp [*]; done)), (by first | rfl | (simp; done) | (simp [*]; done)), H', ⟨by have := HJ2.out; have := HK2.out; omega⟩, by repeat (first | exact Drawn0.refl _ | apply Drawn0.step)⟩
        ·rw [if_neg c11] at H
         exact absurd H (by simp)
       ·rw [if_neg c10] at H
        exact absurd H (by simp)
      ·rw [if_neg c9] at H
       have c9b0 : decide (x6_2 < (wrap64 (a1 + 5))) = false := zbd c9
       clear c9
       obtain rfl := Option.some.inj H
       go_wp2
       go_ret
       exact ⟨by first | rfl | (simp; done) | (simp [*]; done), by repeat (first | exact Drawn0.refl _ | apply Drawn0.step)⟩
mutual
def za.j0 : Nat → ByteArray → Int → Int → Bool → Option (Int × Int)
 | 0, _, _, _, _ => none
 | k + 1, x0, x1, x6, x28 => if x28 = true then (some (wrap64 (x6), 2)) else (za.l0 k x0 x1 x6 8)
def za.l0 : Nat → ByteArray → Int → Int → Int → Option (Int × Int)
 | 0, _, _, _, _ => none
 | k + 1, x0, x1, x6, x7 => if x7 ≤ 13 then (if x6 > 92 then ((Yi.f k ((x7) % 256)).bind fun t159 => (if t159 = x6 then (some (x7, 2)) else (za.l0 k x0 x1 x6 (wrap64 (x7 + 1))))) else (za.l0 k x0 x1 x6 (wrap64 (x7 + 1)))) else ((Xb.f k x0 (wrap64 (x1 + 1))).bind fun t160 => (if t160 < 0 then (za.j2 k x0 x1 t160 true) else (if t160 ≥ 56320 then (za.j2 k x0 x1 t160 (decide (t160 ≤ 57343))) else (za.j2 k x0 x1 t160 false))))
def za.j2 : Nat → ByteArray → Int → Int → Bool → Option (Int × Int)
 | 0, _, _, _, _ => none
 | k + 1, x0, x1, x8, x58 => if x58 = true then (some (0, 0)) else (if x8 < 55296 then (za.j3 k x0 x1 x8 true) else (za.j3 k x0 x1 x8 (decide (x8 > 57343))))
def za.j3 : Nat → ByteArray → Int → Int → Bool → Option (Int × Int)
 | 0, _, _, _, _ => none
 | k + 1, x0, x1, x8, x64 => if x64 = true then (some (x8, 6)) else (if (wrap64 ((x0.size : Int) - x1)) < 12 then (za.j4 k x0 x1 x8 true) else (if 0 ≤ (wrap64 (x1 + 6)) then (if (wrap64 (x1 + 6)) < (x0.size : Int) then (za.j4 k x0 x1 x8 ((bt x0 (wrap64 (x1 + 6))) != 92)) else (none)) else (none)))
def za.j4 : Nat → ByteArray → Int → Int → Bool → Option (Int × Int)
 | 0, _, _, _, _ => none
 | k + 1, x0, x1, x8, x77 => if x77 = true then (some (0, 0)) else ((Xb.f k x0 (wrap64 (x1 + 7))).bind fun t161 => (if t161 < 56320 then (some (0, 0)) else (if t161 > 57343 then (some (0, 0)) else (some (wrap64 ((wrap64 ((wrap64 (65536 + (wrap64 (1024 * (wrap64 (x8 - 55296)))))) + t161)) - 56320), 12)))))
end
def za.f (k : Nat) (a0 : ByteArray) (a1 : Int) : Option (Int × Int) := if (wrap64 (a1 + 1)) ≥ (a0.size : Int) then (some (0, 0)) else (if 0 ≤ (wrap64 (a1 + 1)) then (if (wrap64 (a1 + 1)) < (a0.size : Int) then (if (bt a0 (wrap64 (a1 + 1))) = 34 then (za.j0 k a0 a1 (bt a0 (wrap64 (a1 + 1))) true) else (if (bt a0 (wrap64 (a1 + 1))) = 92 then (za.j0 k a0 a1 (bt a0 (wrap64 (a1 + 1))) true) else (za.j0 k a0 a1 (bt a0 (wrap64 (a1 + 1))) ((bt a0 (wrap64 (a1 + 1))) == 47)))) else (none)) else (none))
theorem za.calls (k : Nat) (a0 : ByteArray) (a1 : Int) (r1 : Int) (r2 : Int) (w : World) (h : za.f k a0 a1 = some (r1, r2)) :
  Calls Tryz.prog 88 #[.string a0, .int .i64 a1] w fun e w' => e = .returned (.tuple #[.int .i64 r1, .int .i64 r2]) ∧ Drawn0 w w' := by
 have H : (if (wrap64 (a1 + 1)) ≥ (a0.size : Int) then (some (0, 0)) else (if 0 ≤ (wrap64 (a1 + 1)) then (if (wrap64 (a1 + 1)) < (a0.size : Int) then (if (bt a0 (wrap64 (a1 + 1))) = 34 then (za.j0 k a0 a1 (bt a0 (wrap64 (a1 + 1))) true) else (if (bt a0 (wrap64 (a1 + 1))) = 92 then (za.j0 k a0 a1 (bt a0 (wrap64 (a1 + 1))) true) else (za.j0 k a0 a1 (bt a0 (wrap64 (a1 + 1))) ((bt a0 (wrap64 (a1 + 1))) == 47)))) else (none)) else (none))) = some (r1, r2) := h
 clear h
 by_cases c3 : (wrap64 (a1 + 1)) ≥ (a0.size : Int)
 ·rw [if_pos c3] at H
  have c3b0 : decide ((a0.size : Int) ≤ (wrap64 (a1 + 1))) = true := decide_eq_true c3
  clear c3
  simp only [Option.some.injEq, Prod.mk.injEq] at H
  obtain ⟨rfl, rfl⟩ := H
  go_enter Tryz.func88, Tryz.ntmps88
  go_wp2
  go_ret2
  exact ⟨by first | rfl | (simp; done) | (simp [*]; done), by repeat (first | exact Drawn0.refl _ | apply Drawn0.step)⟩
 ·rw [if_neg c3] at H
  have c3b0 : decide ((a0.size : Int) ≤ (wrap64 (a1 + 1))) = false := zbd c3
  clear c3
  obtain ⟨ji4, hji4⟩ : ∃ j_ : Int, (wrap64 (a1 + 1)) = j_ := ⟨_, rfl⟩
  replace H : (if 0 ≤ (ji4) then (if (ji4) < (a0.size : Int) then (if (bt a0 (ji4)) = 34 then (za.j0 k a0 a1 (bt a0 (ji4)) true) else (if (bt a0 (ji4)) = 92 then (za.j0 k a0 a1 (bt a0 (ji4)) true) else (za.j0 k a0 a1 (bt a0 (ji4)) ((bt a0 (ji4)) == 47)))) else (none)) else (none)) = some (r1, r2) := by first | (rw [hji4] at H; exact H) | (simp only [hji4] at H ⊢; exact H)
  (try rw [hji4] at c3b0)
  have hji4w : (IntKind.i64.wrap (a1 + 1)) = ji4 := (i64_w _).trans hji4
  by_cases c5 : 0 ≤ (ji4)
  ·rw [if_pos c5] at H
   have c5b0 : decide (0 ≤ (ji4)) = true := decide_eq_true c5
   clear c5
   by_cases c6 : (ji4) < (a0.size : Int)
   ·rw [if_pos c6] at H
    have c6b0 : decide ((ji4) < (a0.size : Int)) = true := decide_eq_true c6
    clear c6
    have HC8 := Aside0.mk H
    clear H
    have p7 : 0 ≤ ((ji4) : Int) := xbc (by first | (with_reducible assumption) | assumption)
    have q7 : (ji4) < (a0.size : Int) := xbc (by first | (with_reducible assumption) | assumption)
    have hx7 := Xo a0 (ji4)
    replace p7 := eq_true p7
    replace q7 := eq_true q7
    go_enter Tryz.func88, Tryz.ntmps88
    go_upto_region 4 with (fail)
    go_cut [28] (fun v28 wc => ∃ (kq : Nat) (x28_7 : Bool), v28 = .bool x28_7 ∧ Aside0 (za.j0 kq a0 a1 (bt a0 (ji4)) x28_7 = some (r1, r2)) ∧ Aside0 (kq ≤ k) ∧ Drawn0 w wc)
    case first =>
     have H := HC8.out
     clear HC8
     by_cases c9 : (bt a0 (ji4)) = 34
     ·rw [if_pos c9] at H
      have c9b0 : ((bt a0 (ji4)) == 34) = true := Ybf.mpr c9
      have c9b1 : ((bt a0 (ji4)) != 34) = false := Ybh.mpr c9
      clear c9
      (first | rw [c9b0] | (simp only [i64_w, zn]; rw [c9b0]) | skip)
      have H' := Aside0.mk H
      clear H
      go_wp2
      go_meet
      case rel => exact ⟨_, (true), (by first | rfl | (simp; done) | (simp [*]; done)), H', ⟨by first | omega | exact Xbc _⟩, by repeat (first | exact Drawn0.refl _ | apply Drawn0.step)⟩
     ·rw [if_neg c9] at H
      have c9b0 : ((bt a0 (ji4)) == 34) = false := Ybb.mpr c9
      have c9b1 : ((bt a0 (ji4)) != 34) = true := Zbh.mpr c9
      (first | rw [c9b0] | (simp only [i64_w, zn]; rw [c9b0]) | skip)
      by_cases c10 : (bt a0 (ji4)) = 92
      ·rw [if_pos c10] at H
       have c10b0 : ((bt a0 (ji4)) == 92) = true := Ybf.mpr c10
       have c10b1 : ((bt a0 (ji4)) != 92) = false := Ybh.mpr c10
       clear c10
       have H' := Aside0.mk H
       clear H
       go_wp2
       go_meet
       case rel => exact ⟨_, (true), (by first | rfl | (simp; done) | (simp [*]; done)), H', ⟨by first | omega | exact Xbc _⟩, by repeat (first | exact Drawn0.refl _ | apply Drawn0.step)⟩
      ·rw [if_neg c10] at H
       have c10b0 : ((bt a0 (ji4)) == 92) = false := Ybb.mpr c10
       have c10b1 : ((bt a0 (ji4)) != 92) = true := Zbh.mpr c10
       have H' := Aside0.mk H
       clear H
       go_wp2
       go_meet
       case rel => exact ⟨_, (((bt a0 (ji4)) == 47)), (by first | rfl | (simp; done) | (simp only [← hji4] <;> (first | rfl | simp)) | (simp [*]; done)), H', ⟨by first | omega | exact Xbc _⟩, by repeat (first | exact Drawn0.refl _ | apply Drawn0.step)⟩
    case rest =>
     clear HC8
     try clear c1
     try clear p2
     try clear c3
     try clear c3b0
     try clear c5
     try clear c5b0
     try clear c6
     try clear c6b0
     try clear p6
     try clear p7
     try clear q7
     try clear hx7
     try clear c8
     try clear c9
     try clear c9b0
     try clear c9b1
     try clear c10
     try clear c10b0
     try clear c10b1
     try clear p7
     try clear q7
     obtain ⟨kq, x28_7, rfl, HA, HJ7, ⟨mc7, rfl⟩⟩ := hcut
     cases kq with
     | zero => exact absurd HA.out (by simp [za.j0])
     | succ kj7 =>
      have H := HA.out
      clear HA
      simp only [za.j0] at H
      by_cases c11 : x28_7 = true
      ·subst c11
       have H1 : (some (wrap64 ((bt a0 (ji4))), 2)) = some (r1, r2) := by rw [if_pos rfl] at H; exact H
       clear H
       have H := H1
       clear H1
       simp only [Option.some.injEq, Prod.mk.injEq] at H
       obtain ⟨rfl, rfl⟩ := H
       go_wp2
       go_ret2
       exact ⟨by first | rfl | (simp; done) | (simp only [← hji4] <;> (first | rfl | simp)) | (simp [*]; done), by repeat (first | exact Drawn0.refl _ | apply Drawn0.step)⟩
      ·replace c11 := ybh.mpr c11
       subst c11
       have H1 : (za.l0 kj7 a0 a1 (bt a0 (ji4)) 8) = some (r1, r2) := by rw [if_neg (show ¬ (false = true) by decide)] at H; exact H
       clear H
       have H := H1
       clear H1
       have H' := Aside0.mk H
       clear H
       go_wp2
       go_loopg [7] kj7 (fun kq v7 w' => ∃ (x7_2 : Int), v7 = .int .i64 x7_2 ∧ Aside0 (za.l0 kq a0 a1 (bt a0 (ji4)) x7_2 = some (r1, r2)) ∧ Aside0 (kq ≤ kj7) ∧ Drawn0 w w')
       case atStart => exact ⟨(8), (by first | rfl | (simp; done) | (simp [*]; done)), H', ⟨Xbc _⟩, by repeat (first | exact Drawn0.refl _ | apply Drawn0.step)⟩
       case round =>
        clear H'
        try clear c1
        try clear p2
        try clear c3
        try clear c3b0
        try clear c5
        try clear c5b0
        try clear c6
        try clear c6b0
        try clear p6
        try clear c7
        try clear p7
        try clear q7
        try clear hx7
        try clear c8
        try clear c9
        try clear c9b0
        try clear c9b1
        try clear c10
        try clear c10b0
        try clear c10b1
        try clear c11
        try clear p2
        try clear p6
        try clear p7
        try clear q7
        obtain ⟨x7_2, rfl, HA, HK2, ⟨m2, rfl⟩⟩ := hrel
        cases gk with
        | zero => exact absurd HA.out (by simp [za.l0])
        | succ k2 =>
         have H := HA.out
         clear HA
         simp only [za.l0] at H
         by_cases c12 : x7_2 ≤ 13
         ·rw [if_pos c12] at H
          have c12b0 : decide (x7_2 ≤ 13) = true := decide_eq_true c12
          clear c12
          by_cases c13 : (bt a0 (ji4)) > 92
          ·rw [if_pos c13] at H
           have c13b0 : decide (92 < (bt a0 (ji4))) = true := decide_eq_true c13
           clear c13
           replace H := Ybe.mp H
           obtain ⟨t159, A140, H⟩ := H
           replace H : (if t159 = (bt a0 (ji4)) then (some (x7_2, 2)) else (za.l0 k2 a0 a1 (bt a0 (ji4)) (wrap64 (x7_2 + 1)))) = some (r1, r2) := H
           have A14 := Aside0.mk A140
           clear A140
           by_cases c15 : t159 = (bt a0 (ji4))
           ·rw [if_pos c15] at H
            have c15b0 : (t159 == (bt a0 (ji4))) = true := Ybf.mpr c15
            have c15b1 : (t159 != (bt a0 (ji4))) = false := Ybh.mpr c15
            clear c15
            simp only [Option.some.injEq, Prod.mk.injEq] at H
            obtain ⟨rfl, rfl⟩ := H
            go_wp2_with (first | (go_at_call 58; (with_reducible refine (Yi.calls k2 ((x7_2) % 256) t159 _ A14.out).mono ?_); rintro e w' ⟨rfl, ⟨nd, rfl⟩⟩))
            go_ret2
            exact ⟨by first | rfl | (simp; done) | (simp only [← hji4] <;> (first | rfl | simp)) | (simp [*]; done), by repeat (first | exact Drawn0.refl _ | apply Drawn0.step)⟩
           ·rw [if_neg c15] at H
            have c15b0 : (t159 == (bt a0 (ji4))) = false := Ybb.mpr c15
            have c15b1 : (t159 != (bt a0 (ji4))) = true := Zbh.mpr c15
            have H' := Aside0.mk H
            clear H
            go_wp2_with (first | (go_at_call 58; (with_reducible refine (Yi.calls k2 ((x7_2) % 256) t159 _ A14.out).mono ?_); rintro e w' ⟨rfl, ⟨nd, rfl⟩⟩))
            go_roundg k2
            case measure => have := HJ7.out; have := HK2.out; omega
            case rel => exact ⟨(wrap64 (x7_2 + 1)), (by first | rfl | (simp; done) | (simp [*]; done)), H', ⟨by have := HJ7.out; have := HK2.out; omega⟩, by repeat (first | exact Drawn0.refl _ | apply Drawn0.step)⟩
          ·rw [if_neg c13] at H
           have c13b0 : decide (92 < (bt a0 (ji4))) = false := zbd c13
           clear c13
           have H' := Aside0.mk H
           clear H
           go_wp2
           go_roundg k2
           case measure => have := HJ7.out; have := HK2.out; omega
           case rel => exact ⟨(wrap64 (x7_2 + 1)), (by first | rfl | (simp; done) | (simp [*]; done)), H', ⟨by have := HJ7.out; have := HK2.out; omega⟩, by repeat (first | exact Drawn0.refl _ | apply Drawn0.step)⟩
         ·rw [if_neg c12] at H
          have c12b0 : decide (x7_2 ≤ 13) = false := zbd c12
          clear c12
          replace H := Ybe.mp H
          obtain ⟨t160, A160, H⟩ := H
          replace H : (if t160 < 0 then (za.j2 k2 a0 a1 t160 true) else (if t160 ≥ 56320 then (za.j2 k2 a0 a1 t160 (decide (t160 ≤ 57343))) else (za.j2 k2 a0 a1 t160 false))) = some (r1, r2) := H
          rw [hji4] at A160
          have A16 := Aside0.mk A160
          clear A160
          have HC17 := Aside0.mk H
          clear H
          go_upto_region 12 with (first | ((with_reducible refine Xd (f := 102) rfl ?_); refine Xj (some 48) rfl rfl Tryz.func102 (by kernel_rfl) rfl #[.string a0, .int .i64 ji4] rfl (by (try simp only [zbg, Xbf, ybg]); first | done | rfl | (simp only [Zbb, ybc]; rfl)) ?_; (with_reducible refine (Xb.calls k2 a0 ji4 t160 _ A16.out).mono ?_); rintro e w' ⟨rfl, ⟨nd, rfl⟩⟩; refine ⟨_, rfl, ?_⟩))
          (try simp only [Act.put, qA, qB, qC])
          go_cut [58] (fun v58 wc => ∃ (kq : Nat) (x58_16 : Bool), v58 = .bool x58_16 ∧ Aside0 (za.j2 kq a0 a1 t160 x58_16 = some (r1, r2)) ∧ Aside0 (kq ≤ k2) ∧ Drawn0 w wc)
          case first =>
           have H := HC17.out
           clear HC17
           by_cases c18 : t160 < 0
           ·rw [if_pos c18] at H
            have c18b0 : decide (t160 < 0) = true := decide_eq_true c18
            clear c18
            (first | rw [c18b0] | (simp only [i64_w, zn]; rw [c18b0]) | skip)
            have H' := Aside0.mk H
            clear H
            go_wp2
            go_meet
            case rel => exact ⟨_, (true), (by first | rfl | (simp; done) | (simp [*]; done)), H', ⟨by have := HJ7.out; have := HK2.out; first | omega | exact Xbc _⟩, by repeat (first | exact Drawn0.refl _ | apply Drawn0.step)⟩
           ·rw [if_neg c18] at H
            have c18b0 : decide (t160 < 0) = false := zbd c18
            clear c18
            (first | rw [c18b0] | (simp only [i64_w, zn]; rw [c18b0]) | skip)
            by_cases c19 : t160 ≥ 56320
            ·rw [if_pos c19] at H
             have c19b0 : decide (56320 ≤ t160) = true := decide_eq_true c19
             clear c19
             have H' := Aside0.mk H
             clear H
             go_wp2
             go_meet
             case rel => exact ⟨_, (decide (t160 ≤ 57343)), (by first | rfl | (simp; done) | (simp [*]; done)), H', ⟨by have := HJ7.out; have := HK2.out; first | omega | exact Xbc _⟩, by repeat (first | exact Drawn0.refl _ | apply Drawn0.step)⟩
            ·rw [if_neg c19] at H
             have c19b0 : decide (56320 ≤ t160) = false := zbd c19
             clear c19
             have H' := Aside0.mk H
             clear H
             go_wp2
             go_meet
             case rel => exact ⟨_, (false), (by first | rfl | (simp; done) | (simp [*]; done)), H', ⟨by have := HJ7.out; have := HK2.out; first | omega | exact Xbc _⟩, by repeat (first | exact Drawn0.refl _ | apply Drawn0.step)⟩
          case rest =>
           clear HC17
           try clear c1
           try clear p2
           try clear c3
           try clear c3b0
           try clear c5
           try clear c5b0
           try clear c6
           try clear c6b0
           try clear p6
           try clear c7
           try clear p7
           try clear q7
           try clear hx7
           try clear c8
           try clear c9
           try clear c9b0
           try clear c9b1
           try clear c10
           try clear c10b0
           try clear c10b1
           try clear c11
           try clear c12
           try clear c12b0
           try clear c13
           try clear c13b0
           try clear c15
           try clear c15b0
           try clear c15b1
           try clear c18
           try clear c18b0
           try clear c19
           try clear c19b0
           try clear p2
           try clear p6
           try clear p7
           try clear q7
           obtain ⟨kq, x58_16, rfl, HA, HJ16, ⟨mc16, rfl⟩⟩ := hcut
           cases kq with
           | zero => exact absurd HA.out (by simp [za.j2])
           | succ kj16 =>
            have H := HA.out
            clear HA
            simp only [za.j2] at H
            by_cases c20 : x58_16 = true
            ·subst c20
             have H1 : (some (0, 0)) = some (r1, r2) := by rw [if_pos rfl] at H; exact H
             clear H
             have H := H1
             clear H1
             simp only [Option.some.injEq, Prod.mk.injEq] at H
             obtain ⟨rfl, rfl⟩ := H
             go_wp2
             go_ret2
             exact ⟨by first | rfl | (simp; done) | (simp only [← hji4] <;> (first | rfl | simp)) | (simp [*]; done), by repeat (first | exact Drawn0.refl _ | apply Drawn0.step)⟩
            ·replace c20 := ybh.mpr c20
             subst c20
             have H1 : (if t160 < 55296 then (za.j3 kj16 a0 a1 t160 true) else (za.j3 kj16 a0 a1 t160 (decide (t160 > 57343)))) = some (r1, r2) := by rw [if_neg (show ¬ (false = true) by decide)] at H; exact H
             clear H
             have H := H1
             clear H1
             have HC21 := Aside0.mk H
             clear H
             go_upto_region 14 with (fail)
             go_cut [64] (fun v64 wc => ∃ (kq : Nat) (x64_20 : Bool), v64 = .bool x64_20 ∧ Aside0 (za.j3 kq a0 a1 t160 x64_20 = some (r1, r2)) ∧ Aside0 (kq ≤ kj16) ∧ Drawn0 w wc)
             case first =>
              have H := HC21.out
              clear HC21
              by_cases c22 : t160 < 55296
              ·rw [if_pos c22] at H
               have c22b0 : decide (t160 < 55296) = true := decide_eq_true c22
               clear c22
               (first | rw [c22b0] | (simp only [i64_w, zn]; rw [c22b0]) | skip)
               have H' := Aside0.mk H
               clear H
               go_wp2
               go_meet
               case rel => exact ⟨_, (true), (by first | rfl | (simp; done) | (simp [*]; done)), H', ⟨by have := HJ7.out; have := HK2.out; have := HJ16.out; first | omega | exact Xbc _⟩, by repeat (first | exact Drawn0.refl _ | apply Drawn0.step)⟩
              ·rw [if_neg c22] at H
               have c22b0 : decide (t160 < 55296) = false := zbd c22
               clear c22
               (first | rw [c22b0] | (simp only [i64_w, zn]; rw [c22b0]) | skip)
               have H' := Aside0.mk H
               clear H
               go_wp2
               go_meet
               case rel => exact ⟨_, (decide (t160 > 57343)), (by first | rfl | (simp; done) | (simp [*]; done)), H', ⟨by have := HJ7.out; have := HK2.out; have := HJ16.out; first | omega | exact Xbc _⟩, by repeat (first | exact Drawn0.refl _ | apply Drawn0.step)⟩
             case rest =>
              clear HC21
              try clear c1
              try clear c2
              try clear p2
              try clear c3
              try clear c3b0
              try clear c5
              try clear c5b0
              try clear c6
              try clear c6b0
              try clear p6
              try clear c7
              try clear p7
              try clear q7
              try clear hx7
              try clear c8
              try clear c9
              try clear c9b0
              try clear c9b1
              try clear c10
              try clear c10b0
              try clear c10b1
              try clear c11
              try clear c12
              try clear c12b0
              try clear c13
              try clear c13b0
              try clear c15
              try clear c15b0
              try clear c15b1
              try clear c16
              try clear c18
              try clear c18b0
              try clear c19
              try clear c19b0
              try clear c20
              try clear c22
              try clear c22b0
              try clear p2
              try clear p6
              try clear p7
              try clear q7
              obtain ⟨kq, x64_20, rfl, HA, HJ20, ⟨mc20, rfl⟩⟩ := hcut
              cases kq with
              | zero => exact absurd HA.out (by simp [za.j3])
              | succ kj20 =>
               have H := HA.out
               clear HA
               simp only [za.j3] at H
               by_cases c23 : x64_20 = true
               ·subst c23
                have H1 : (some (t160, 6)) = some (r1, r2) := by rw [if_pos rfl] at H; exact H
                clear H
                have H := H1
                clear H1
                simp only [Option.some.injEq, Prod.mk.injEq] at H
                obtain ⟨rfl, rfl⟩ := H
                go_wp2
                go_ret2
                exact ⟨by first | rfl | (simp; done) | (simp only [← hji4] <;> (first | rfl | simp)) | (simp [*]; done), by repeat (first | exact Drawn0.refl _ | apply Drawn0.step)⟩
               ·replace c23 := ybh.mpr c23
                subst c23
                have H1 : (if (wrap64 ((a0.size : Int) - a1)) < 12 then (za.j4 kj20 a0 a1 t160 true) else (if 0 ≤ (wrap64 (a1 + 6)) then (if (wrap64 (a1 + 6)) < (a0.size : Int) then (za.j4 kj20 a0 a1 t160 ((bt a0 (wrap64 (a1 + 6))) != 92)) else (none)) else (none))) = some (r1, r2) := by rw [if_neg (show ¬ (false = true) by decide)] at H; exact H
                clear H
                have H := H1
                clear H1
                have HC24 := Aside0.mk H
                clear H
                go_upto_region 16 with (fail)
                go_cut [77] (fun v77 wc => ∃ (kq : Nat) (x77_23 : Bool), v77 = .bool x77_23 ∧ Aside0 (za.j4 kq a0 a1 t160 x77_23 = some (r1, r2)) ∧ Aside0 (kq ≤ kj20) ∧ Drawn0 w wc)
                case first =>
                 have H := HC24.out
                 clear HC24
                 by_cases c25 : (wrap64 ((a0.size : Int) - a1)) < 12
                 ·rw [if_pos c25] at H
                  have c25b0 : decide ((wrap64 ((a0.size : Int) - a1)) < 12) = true := decide_eq_true c25
                  clear c25
                  (first | rw [c25b0] | (simp only [i64_w, zn]; rw [c25b0]) | skip)
                  have H' := Aside0.mk H
                  clear H
                  go_wp2
                  go_meet
                  case rel => exact ⟨_, (true), (by first | rfl | (simp; done) | (simp [*]; done)), H', ⟨by have := HJ7.out; have := HK2.out; have := HJ16.out; have := HJ20.out; first | omega | exact Xbc _⟩, by repeat (first | exact Drawn0.refl _ | apply Drawn0.step)⟩
                 ·rw [if_neg c25] at H
                  have c25b0 : decide ((wrap64 ((a0.size : Int) - a1)) < 12) = false := zbd c25
                  clear c25
                  (first | rw [c25b0] | (simp only [i64_w, zn]; rw [c25b0]) | skip)
                  obtain ⟨ji26, hji26⟩ : ∃ j_ : Int, (wrap64 (a1 + 6)) = j_ := ⟨_, rfl⟩
                  replace H : (if 0 ≤ (ji26) then (if (ji26) < (a0.size : Int) then (za.j4 kj20 a0 a1 t160 ((bt a0 (ji26)) != 92)) else (none)) else (none)) = some (r1, r2) := by first | (rw [hji26] at H; exact H) | (simp only [hji26] at H ⊢; exact H)
                  have hji26w : (IntKind.i64.wrap (a1 + 6)) = ji26 := (i64_w _).trans hji26
                  by_cases c27 : 0 ≤ (ji26)
                  ·rw [if_pos c27] at H
                   have c27b0 : decide (0 ≤ (ji26)) = true := decide_eq_true c27
                   clear c27
                   by_cases c28 : (ji26) < (a0.size : Int)
                   ·rw [if_pos c28] at H
                    have c28b0 : decide ((ji26) < (a0.size : Int)) = true := decide_eq_true c28
                    clear c28
                    have H' := Aside0.mk H
                    clear H
                    have p29 : 0 ≤ ((ji26) : Int) := xbc (by first | (with_reducible assumption) | assumption)
                    have q29 : (ji26) < (a0.size : Int) := xbc (by first | (with_reducible assumption) | assumption)
                    have hx29 := Xo a0 (ji26)
                    replace p29 := eq_true p29
                    replace q29 := eq_true q29
                    go_wp2
                    go_meet
                    case rel => exact ⟨_, (((bt a0 (ji26)) != 92)), (by first | rfl | (simp; done) | (simp only [← hji26] <;> (first | rfl | simp)) | (simp [*]; done)), H', ⟨by have := HJ7.out; have := HK2.out; have := HJ16.out; have := HJ20.out; first | omega | exact Xbc _⟩, by repeat (first | exact Drawn0.refl _ | apply Drawn0.step)⟩
                   ·rw [if_neg c28] at H
                    exact absurd H (by simp)
                  ·rw [if_neg c27] at H
                   exact absurd H (by simp)
                case rest =>
                 clear HC24
                 try clear c1
                 try clear c2
                 try clear p2
                 try clear q2
                 try clear hx2
                 try clear c3
                 try clear c3b0
                 try clear c5
                 try clear c5b0
                 try clear c6
                 try clear c6b0
                 try clear p6
                 try clear c7
                 try clear p7
                 try clear q7
                 try clear hx7
                 try clear c8
                 try clear c9
                 try clear c9b0
                 try clear c9b1
                 try clear c10
                 try clear c10b0
                 try clear c10b1
                 try clear c11
                 try clear c12
                 try clear c12b0
                 try clear c13
                 try clear c13b0
                 try clear c15
                 try clear c15b0
                 try clear c15b1
                 try clear c16
                 try clear c18
                 try clear c18b0
                 try clear c19
                 try clear c19b0
                 try clear c20
                 try clear c22
                 try clear c22b0
                 try clear c23
                 try clear c25
                 try clear c25b0
                 try clear c27
                 try clear c27b0
                 try clear c28
                 try clear c28b0
                 try clear p29
                 try clear q29
                 try clear hx29
                 try clear p2
                 try clear p29
                 try clear p6
                 try clear p7
                 try clear q29
                 try clear q7
                 obtain ⟨kq, x77_23, rfl, HA, HJ23, ⟨mc23, rfl⟩⟩ := hcut
                 cases kq with
                 | zero => exact absurd HA.out (by simp [za.j4])
                 | succ kj23 =>
                  have H := HA.out
                  clear HA
                  simp only [za.j4] at H
                  by_cases c30 : x77_23 = true
                  ·subst c30
                   have H1 : (some (0, 0)) = some (r1, r2) := by rw [if_pos rfl] at H; exact H
                   clear H
                   have H := H1
                   clear H1
                   simp only [Option.some.injEq, Prod.mk.injEq] at H
                   obtain ⟨rfl, rfl⟩ := H
                   go_wp2
                   go_ret2
                   exact ⟨by first | rfl | (simp; done) | (simp only [← hji4] <;> (first | rfl | simp)) | (simp [*]; done), by repeat (first | exact Drawn0.refl _ | apply Drawn0.step)⟩
                  ·replace c30 := ybh.mpr c30
                   subst c30
                   have H1 : ((Xb.f kj23 a0 (wrap64 (a1 + 7))).bind fun t161 => (if t161 < 56320 then (some (0, 0)) else (if t161 > 57343 then (some (0, 0)) else (some (wrap64 ((wrap64 ((wrap64 (65536 + (wrap64 (1024 * (wrap64 (t160 - 55296)))))) + t161)) - 56320), 12))))) = some (r1, r2) := by rw [if_neg (show ¬ (false = true) by decide)] at H; exact H
                   clear H
                   have H := H1
                   clear H1
                   replace H := Ybe.mp H
                   obtain ⟨t161, A310, H⟩ := H
                   replace H : (if t161 < 56320 then (some (0, 0)) else (if t161 > 57343 then (some (0, 0)) else (some (wrap64 ((wrap64 ((wrap64 (65536 + (wrap64 (1024 * (wrap64 (t160 - 55296)))))) + t161)) - 56320), 12)))) = some (r1, r2) := H
                   have A31 := Aside0.mk A310
                   clear A310
                   by_cases c32 : t161 < 56320
                   ·rw [if_pos c32] at H
                    have c32b0 : decide (t161 < 56320) = true := decide_eq_true c32
                    clear c32
                    simp only [Option.some.injEq, Prod.mk.injEq] at H
                    obtain ⟨rfl, rfl⟩ := H
                    go_wp2_with (first | ((with_reducible refine Xd (f := 102) rfl ?_); refine Xj (some 81) rfl rfl Tryz.func102 (by kernel_rfl) rfl #[.string a0, .int .i64 (wrap64 (a1 + 7))] rfl (by (try simp only [zbg, Xbf, ybg]); first | done | rfl | (simp only [Zbb, ybc]; rfl)) ?_; (with_reducible refine (Xb.calls kj23 a0 (wrap64 (a1 + 7)) t161 _ A31.out).mono ?_); rintro e w' ⟨rfl, ⟨nd, rfl⟩⟩; refine ⟨_, rfl, ?_⟩))
                    go_ret2
                    exact ⟨by first | rfl | (simp; done) | (simp only [← hji4] <;> (first | rfl | simp)) | (simp [*]; done), by repeat (first | exact Drawn0.refl _ | apply Drawn0.step)⟩
                   ·rw [if_neg c32] at H
                    have c32b0 : decide (t161 < 56320) = false := zbd c32
                    clear c32
                    by_cases c33 : t161 > 57343
                    ·rw [if_pos c33] at H
                     have c33b0 : decide (57343 < t161) = true := decide_eq_true c33
                     clear c33
                     simp only [Option.some.injEq, Prod.mk.injEq] at H
                     obtain ⟨rfl, rfl⟩ := H
                     go_wp2_with (first | ((with_reducible refine Xd (f := 102) rfl ?_); refine Xj (some 81) rfl rfl Tryz.func102 (by kernel_rfl) rfl #[.string a0, .int .i64 (wrap64 (a1 + 7))] rfl (by (try simp only [zbg, Xbf, ybg]); first | done | rfl | (simp only [Zbb, ybc]; rfl)) ?_; (with_reducible refine (Xb.calls kj23 a0 (wrap64 (a1 + 7)) t161 _ A31.out).mono ?_); rintro e w' ⟨rfl, ⟨nd, rfl⟩⟩; refine ⟨_, rfl, ?_⟩))
                     go_ret2
                     exact ⟨by first | rfl | (simp; done) | (simp only [← hji4] <;> (first | rfl | simp)) | (simp [*]; done), by repeat (first | exact Drawn0.refl _ | apply Drawn0.step)⟩
                    ·rw [if_neg c33] at H
                     have c33b0 : decide (57343 < t161) = false := zbd c33
                     clear c33
                     simp only [Option.some.injEq, Prod.mk.injEq] at H
                     obtain ⟨rfl, rfl⟩ := H
                     go_wp2_with (first | ((with_reducible refine Xd (f := 102) rfl ?_); refine Xj (some 81) rfl rfl Tryz.func102 (by kernel_rfl) rfl #[.string a0, .int .i64 (wrap64 (a1 + 7))] rfl (by (try simp only [zbg, Xbf, ybg]); first | done | rfl | (simp only [Zbb, ybc]; rfl)) ?_; (with_reducible refine (Xb.calls kj23 a0 (wrap64 (a1 + 7)) t161 _ A31.out).mono ?_); rintro e w' ⟨rfl, ⟨nd, rfl⟩⟩; refine ⟨_, rfl, ?_⟩))
                     go_ret2
                     exact ⟨by first | rfl | (simp; done) | (simp only [← hji4] <;> (first | rfl | simp)) | (simp [*]; done), by repeat (first | exact Drawn0.refl _ | apply Drawn0.step)⟩
   ·rw [if_neg c6] at H
    exact absurd H (by simp)
  ·rw [if_neg c5] at H
   exact absurd H (by simp)
def Xn.f (k : Nat) (a0 : ByteArray) (a1 : Int) : Option (ByteArray × Int × Int) := if a1 ≥ (a0.size : Int) then (some ((⟨#[]⟩ : ByteArray), 0, 71)) else (if 0 ≤ a1 then (if a1 < (a0.size : Int) then (if (bt a0 a1) < 32 then (some ((⟨#[]⟩ : ByteArray), 0, 72)) else (if (bt a0 a1) = 92 then ((za.f k a0 a1).bind fun bt162 => (if bt162.2 = 0 then (some ((⟨#[]⟩ : ByteArray), 0, 73)) else ((Ym.f bt162.1).bind fun bt164 => (some (bt164.1, bt162.2, 0))))) else (if a1 ≤ (a0.size : Int) then ((Zd.f k (a0.extract (a1 : Int).toNat a0.size)).bind fun bt166 => (if bt166.2.2 = true then (if a1 ≤ (wrap64 (a1 + bt166.2.1)) then (if (wrap64 (a1 + bt166.2.1)) ≤ (a0.size : Int) then (some (a0.extract (a1 : Int).toNat ((wrap64 (a1 + bt166.2.1)) : Int).toNat, bt166.2.1, 0)) else (none)) else (none)) else (some ((⟨#[]⟩ : ByteArray), 0, 74)))) else (none)))) else (none)) else (none))
theorem Xn.calls (k : Nat) (a0 : ByteArray) (a1 : Int) (r1 : ByteArray) (r2 : Int) (r3 : Int) (w : World) (h : Xn.f k a0 a1 = some (r1, r2, r3)) :
  Calls Tryz.prog 79 #[.string a0, .int .i64 a1] w fun e w' => e = .returned (.tuple #[.string r1, .int .i64 r2, .int .i64 r3]) ∧ Below w.heap.size w w' := by
 have HB := Aside0.mk (ybd w.heap.size w)
 have H : (if a1 ≥ (a0.size : Int) then (some ((⟨#[]⟩ : ByteArray), 0, 71)) else (if 0 ≤ a1 then (if a1 < (a0.size : Int) then (if (bt a0 a1) < 32 then (some ((⟨#[]⟩ : ByteArray), 0, 72)) else (if (bt a0 a1) = 92 then ((za.f k a0 a1).bind fun bt162 => (if bt162.2 = 0 then (some ((⟨#[]⟩ : ByteArray), 0, 73)) else ((Ym.f bt162.1).bind fun bt164 => (some (bt164.1, bt162.2, 0))))) else (if a1 ≤ (a0.size : Int) then ((Zd.f k (a0.extract (a1 : Int).toNat a0.size)).bind fun bt166 => (if bt166.2.2 = true then (if a1 ≤ (wrap64 (a1 + bt166.2.1)) then (if (wrap64 (a1 + bt166.2.1)) ≤ (a0.size : Int) then (some (a0.extract (a1 : Int).toNat ((wrap64 (a1 + bt166.2.1)) : Int).toNat, bt166.2.1, 0)) else (none)) else (none)) else (some ((⟨#[]⟩ : ByteArray), 0, 74)))) else (none)))) else (none)) else (none))) = some (r1, r2, r3) := h
 clear h
 by_cases c3 : a1 ≥ (a0.size : Int)
 ·rw [if_pos c3] at H
  have c3b0 : decide ((a0.size : Int) ≤ a1) = true := decide_eq_true c3
  clear c3
  simp only [Option.some.injEq, Prod.mk.injEq] at H
  obtain ⟨rfl, rfl, rfl⟩ := H
  go_enter Tryz.func79, Tryz.ntmps79
  go_wp2
  go_ret3
  exact ⟨by first | rfl | (simp [errW_none, Yd] <;> rfl) | (simp [*, errW_none, Yd] <;> rfl), by repeat (first | (with_reducible first | exact HB.out | apply Za | apply Ya | apply Xa) | exact HB.out)⟩
 ·rw [if_neg c3] at H
  have c3b0 : decide ((a0.size : Int) ≤ a1) = false := zbd c3
  clear c3
  by_cases c4 : 0 ≤ a1
  ·rw [if_pos c4] at H
   have c4b0 : decide (0 ≤ a1) = true := decide_eq_true c4
   clear c4
   by_cases c5 : a1 < (a0.size : Int)
   ·rw [if_pos c5] at H
    have c5b0 : decide (a1 < (a0.size : Int)) = true := decide_eq_true c5
    clear c5
    by_cases c7 : (bt a0 a1) < 32
    ·rw [if_pos c7] at H
     have c7b0 : decide ((bt a0 a1) < 32) = true := decide_eq_true c7
     clear c7
     simp only [Option.some.injEq, Prod.mk.injEq] at H
     obtain ⟨rfl, rfl, rfl⟩ := H
     have p6 : 0 ≤ (a1 : Int) := xbc (by first | (with_reducible assumption) | assumption)
     have q6 : a1 < (a0.size : Int) := xbc (by first | (with_reducible assumption) | assumption)
     have hx6 := Xo a0 a1
     replace p6 := eq_true p6
     replace q6 := eq_true q6
     go_enter Tryz.func79, Tryz.ntmps79
     go_wp2
     go_ret3
     exact ⟨by first | rfl | (simp [errW_none, Yd] <;> rfl) | (simp [*, errW_none, Yd] <;> rfl), by repeat (first | (with_reducible first | exact HB.out | apply Za | apply Ya | apply Xa) | exact HB.out)⟩
    ·rw [if_neg c7] at H
     have c7b0 : decide ((bt a0 a1) < 32) = false := zbd c7
     clear c7
     by_cases c9 : (bt a0 a1) = 92
     ·rw [if_pos c9] at H
      have c9b0 : ((bt a0 a1) == 92) = true := Ybf.mpr c9
      have c9b1 : ((bt a0 a1) != 92) = false := Ybh.mpr c9
      clear c9
      replace H := Ybe.mp H
      obtain ⟨⟨t162, t163⟩, A100, H⟩ := H
      replace H : (if t163 = 0 then (some ((⟨#[]⟩ : ByteArray), 0, 73)) else ((Ym.f t162).bind fun bt164 => (some (bt164.1, t163, 0)))) = some (r1, r2, r3) := H
      have A10 := Aside0.mk A100
      clear A100
      by_cases c11 : t163 = 0
      ·rw [if_pos c11] at H
       have c11b0 : (t163 == 0) = true := Ybf.mpr c11
       have c11b1 : (t163 != 0) = false := Ybh.mpr c11
       clear c11
       simp only [Option.some.injEq, Prod.mk.injEq] at H
       obtain ⟨rfl, rfl, rfl⟩ := H
       have p6 : 0 ≤ (a1 : Int) := xbc (by first | (with_reducible assumption) | assumption)
       have q6 : a1 < (a0.size : Int) := xbc (by first | (with_reducible assumption) | assumption)
       have hx6 := Xo a0 a1
       replace p6 := eq_true p6
       replace q6 := eq_true q6
       have p8 : 0 ≤ (a1 : Int) := xbc (by first | (with_reducible assumption) | assumption)
       have q8 : a1 < (a0.size : Int) := xbc (by first | (with_reducible assumption) | assumption)
       have hx8 := Xo a0 a1
       replace p8 := eq_true p8
       replace q8 := eq_true q8
       go_enter Tryz.func79, Tryz.ntmps79
       go_wp2_with (first | ((with_reducible refine Xd (f := 88) rfl ?_); refine Xj (some 29) rfl rfl Tryz.func88 (by kernel_rfl) rfl #[.string a0, .int .i64 a1] rfl (by (try simp only [zbg, Xbf, ybg]); first | done | rfl | (simp only [Zbb, ybc]; rfl)) ?_; (with_reducible refine (za.calls k a0 a1 t162 t163 _ A10.out).mono ?_); rintro e w' ⟨rfl, ⟨nd, rfl⟩⟩; refine ⟨_, rfl, ?_⟩))
       go_ret3
       exact ⟨by first | rfl | (simp [errW_none, Yd] <;> rfl) | (simp [*, errW_none, Yd] <;> rfl), by repeat (first | (with_reducible first | exact HB.out | apply Za | apply Ya | apply Xa) | exact HB.out)⟩
      ·rw [if_neg c11] at H
       have c11b0 : (t163 == 0) = false := Ybb.mpr c11
       have c11b1 : (t163 != 0) = true := Zbh.mpr c11
       replace H := Ybe.mp H
       obtain ⟨⟨t164, t165⟩, A120, H⟩ := H
       replace H : (some (t164, t163, 0)) = some (r1, r2, r3) := H
       have A12 := Aside0.mk A120
       clear A120
       simp only [Option.some.injEq, Prod.mk.injEq] at H
       obtain ⟨rfl, rfl, rfl⟩ := H
       have p6 : 0 ≤ (a1 : Int) := xbc (by first | (with_reducible assumption) | assumption)
       have q6 : a1 < (a0.size : Int) := xbc (by first | (with_reducible assumption) | assumption)
       have hx6 := Xo a0 a1
       replace p6 := eq_true p6
       replace q6 := eq_true q6
       have p8 : 0 ≤ (a1 : Int) := xbc (by first | (with_reducible assumption) | assumption)
       have q8 : a1 < (a0.size : Int) := xbc (by first | (with_reducible assumption) | assumption)
       have hx8 := Xo a0 a1
       replace p8 := eq_true p8
       replace q8 := eq_true q8
       go_enter Tryz.func79, Tryz.ntmps79
       go_wp2_with (first | ((with_reducible refine Xd (f := 88) rfl ?_); refine Xj (some 29) rfl rfl Tryz.func88 (by kernel_rfl) rfl #[.string a0, .int .i64 a1] rfl (by (try simp only [zbg, Xbf, ybg]); first | done | rfl | (simp only [Zbb, ybc]; rfl)) ?_; (with_reducible refine (za.calls k a0 a1 t162 t163 _ A10.out).mono ?_); rintro e w' ⟨rfl, ⟨nd, rfl⟩⟩; refine ⟨_, rfl, ?_⟩) | ((with_reducible refine Xd (f := 87) rfl ?_); refine Xj (some 36) rfl rfl Tryz.func87 (by kernel_rfl) rfl #[.int .i64 t162] rfl (by (try simp only [zbg, Xbf, ybg]); first | done | rfl | (simp only [Zbb, ybc]; rfl)) ?_; (with_reducible refine (Ym.calls t162 t164 t165 _ A12.out).mono ?_); rintro e w13 ⟨rfl, hb⟩; refine ⟨_, rfl, ?_⟩; have n0_ := Aside0.mk (Ze (by repeat (first | (with_reducible first | exact HB.out | apply Za | apply Ya | apply Xa) | exact HB.out)) hb); clear HB; have HB := n0_; clear n0_; (try clear hb); (try clear hb2); (try clear hk); (try clear hi)))
       go_ret3
       exact ⟨by first | rfl | (simp [errW_none, Yd] <;> rfl) | (simp [*, errW_none, Yd] <;> rfl), by repeat (first | (with_reducible first | exact HB.out | apply Za | apply Ya | apply Xa) | exact HB.out)⟩
     ·rw [if_neg c9] at H
      have c9b0 : ((bt a0 a1) == 92) = false := Ybb.mpr c9
      have c9b1 : ((bt a0 a1) != 92) = true := Zbh.mpr c9
      have c14b0 := eq_true (xbc (by first | (with_reducible assumption) | assumption) : 0 ≤ a1)
      by_cases c15 : a1 ≤ (a0.size : Int)
      ·rw [if_pos c15] at H
       have c15b0 := eq_true c15
       have c15b1 : decide (a1 ≤ (a0.size : Int)) = true := decide_eq_true c15
       clear c15
       replace H := Ybe.mp H
       obtain ⟨⟨t166, t167, t168⟩, A160, H⟩ := H
       replace H : (if t168 = true then (if a1 ≤ (wrap64 (a1 + t167)) then (if (wrap64 (a1 + t167)) ≤ (a0.size : Int) then (some (a0.extract (a1 : Int).toNat ((wrap64 (a1 + t167)) : Int).toNat, t167, 0)) else (none)) else (none)) else (some ((⟨#[]⟩ : ByteArray), 0, 74))) = some (r1, r2, r3) := H
       have A16 := Aside0.mk A160
       clear A160
       by_cases c17 : t168 = true
       ·subst c17
        have H1 : (if a1 ≤ (wrap64 (a1 + t167)) then (if (wrap64 (a1 + t167)) ≤ (a0.size : Int) then (some (a0.extract (a1 : Int).toNat ((wrap64 (a1 + t167)) : Int).toNat, t167, 0)) else (none)) else (none)) = some (r1, r2, r3) := by rw [if_pos rfl] at H; exact H
        clear H
        have H := H1
        clear H1
        have c18b0 := eq_true (xbc (by first | (with_reducible assumption) | assumption) : 0 ≤ a1)
        by_cases c19 : a1 ≤ (wrap64 (a1 + t167))
        ·rw [if_pos c19] at H
         have c19b0 := eq_true c19
         have c19b1 : decide (a1 ≤ (wrap64 (a1 + t167))) = true := decide_eq_true c19
         by_cases c20 : (wrap64 (a1 + t167)) ≤ (a0.size : Int)
         ·rw [if_pos c20] at H
          have c20b0 := eq_true c20
          have c20b1 : decide ((wrap64 (a1 + t167)) ≤ (a0.size : Int)) = true := decide_eq_true c20
          simp only [Option.some.injEq, Prod.mk.injEq] at H
          obtain ⟨rfl, rfl, rfl⟩ := H
          have p6 : 0 ≤ (a1 : Int) := xbc (by first | (with_reducible assumption) | assumption)
          have q6 : a1 < (a0.size : Int) := xbc (by first | (with_reducible assumption) | assumption)
          have hx6 := Xo a0 a1
          replace p6 := eq_true p6
          replace q6 := eq_true q6
          have p8 : 0 ≤ (a1 : Int) := xbc (by first | (with_reducible assumption) | assumption)
          have q8 : a1 < (a0.size : Int) := xbc (by first | (with_reducible assumption) | assumption)
          have hx8 := Xo a0 a1
          replace p8 := eq_true p8
          replace q8 := eq_true q8
          go_enter Tryz.func79, Tryz.ntmps79
          go_wp2_with (first | ((with_reducible refine Xd (f := 77) rfl ?_); refine Xj (some 45) rfl rfl Tryz.func77 (by kernel_rfl) rfl #[.string (a0.extract (a1 : Int).toNat a0.size)] rfl (by (try simp only [zbg, Xbf, ybg]); first | done | rfl | (simp only [Zbb, ybc]; rfl)) ?_; (with_reducible refine (Zd.calls k (a0.extract (a1 : Int).toNat a0.size) t166 t167 true _ A16.out).mono ?_); rintro e w21 ⟨rfl, hb⟩; refine ⟨_, rfl, ?_⟩; have n0_ := Aside0.mk (Ze (by repeat (first | (with_reducible first | exact HB.out | apply Za | apply Ya | apply Xa) | exact HB.out)) hb); clear HB; have HB := n0_; clear n0_; (try clear hb); (try clear hb2); (try clear hk); (try clear hi)))
          go_ret3
          exact ⟨by first | rfl | (simp [errW_none, Yd] <;> rfl) | (simp [*, errW_none, Yd] <;> rfl), by repeat (first | (with_reducible first | exact HB.out | apply Za | apply Ya | apply Xa) | exact HB.out)⟩
         ·rw [if_neg c20] at H
          exact absurd H (by simp)
        ·rw [if_neg c19] at H
         exact absurd H (by simp)
       ·replace c17 := ybh.mpr c17
        subst c17
        have H1 : (some ((⟨#[]⟩ : ByteArray), 0, 74)) = some (r1, r2, r3) := by rw [if_neg (show ¬ (false = true) by decide)] at H; exact H
        clear H
        have H := H1
        clear H1
        simp only [Option.some.injEq, Prod.mk.injEq] at H
        obtain ⟨rfl, rfl, rfl⟩ := H
        have p6 : 0 ≤ (a1 : Int) := xbc (by first | (with_reducible assumption) | assumption)
        have q6 : a1 < (a0.size : Int) := xbc (by first | (with_reducible assumption) | assumption)
        have hx6 := Xo a0 a1
        replace p6 := eq_true p6
        replace q6 := eq_true q6
        have p8 : 0 ≤ (a1 : Int) := xbc (by first | (with_reducible assumption) | assumption)
        have q8 : a1 < (a0.size : Int) := xbc (by first | (with_reducible assumption) | assumption)
        have hx8 := Xo a0 a1
        replace p8 := eq_true p8
        replace q8 := eq_true q8
        go_enter Tryz.func79, Tryz.ntmps79
        go_wp2_with (first | ((with_reducible refine Xd (f := 77) rfl ?_); refine Xj (some 45) rfl rfl Tryz.func77 (by kernel_rfl) rfl #[.string (a0.extract (a1 : Int).toNat a0.size)] rfl (by (try simp only [zbg, Xbf, ybg]); first | done | rfl | (simp only [Zbb, ybc]; rfl)) ?_; (with_reducible refine (Zd.calls k (a0.extract (a1 : Int).toNat a0.size) t166 t167 false _ A16.out).mono ?_); rintro e w22 ⟨rfl, hb⟩; refine ⟨_, rfl, ?_⟩; have n0_ := Aside0.mk (Ze (by repeat (first | (with_reducible first | exact HB.out | apply Za | apply Ya | apply Xa) | exact HB.out)) hb); clear HB; have HB := n0_; clear n0_; (try clear hb); (try clear hb2); (try clear hk); (try clear hi)))
        go_ret3
        exact ⟨by first | rfl | (simp [errW_none, Yd] <;> rfl) | (simp [*, errW_none, Yd] <;> rfl), by repeat (first | (with_reducible first | exact HB.out | apply Za | apply Ya | apply Xa) | exact HB.out)⟩
      ·rw [if_neg c15] at H
       exact absurd H (by simp)
   ·rw [if_neg c5] at H
    exact absurd H (by simp)
  ·rw [if_neg c4] at H
   exact absurd H (by simp)
mutual
def Zc.j0 : Nat → ByteArray → Bool → Option (ByteArray × Int × Int)
 | 0, _, _ => none
 | k + 1, x0, x17 => if x17 = true then (some ((⟨#[]⟩ : ByteArray), 0, 70)) else (Zc.l0 k x0 (⟨#[]⟩ : ByteArray) 1)
def Zc.l0 : Nat → ByteArray → ByteArray → Int → Option (ByteArray × Int × Int)
 | 0, _, _, _ => none
 | k + 1, x0, x5, x6 => if x6 ≥ (x0.size : Int) then (Zc.j2 k x0 x5 x6 true) else (if 0 ≤ x6 then (if x6 < (x0.size : Int) then (Zc.j2 k x0 x5 x6 ((bt x0 x6) != 34)) else (none)) else (none))
def Zc.j2 : Nat → ByteArray → ByteArray → Int → Bool → Option (ByteArray × Int × Int)
 | 0, _, _, _, _ => none
 | k + 1, x0, x5, x6, x27 => if x27 = true then ((Xn.f k x0 x6).bind fun bt169 => (if bt169.2.2 = 0 then (if x5.size + bt169.1.size ≤ 9223372036854775807 then (Zc.l0 k x0 (x5 ++ bt169.1) (wrap64 (x6 + bt169.2.1))) else (none)) else (some ((⟨#[]⟩ : ByteArray), 0, bt169.2.2)))) else (some (x5, wrap64 (x6 + 1), 0))
end
def Zc.f (k : Nat) (a0 : ByteArray) : Option (ByteArray × Int × Int) := if (a0.size : Int) = 0 then (Zc.j0 k a0 true) else (if 0 < (a0.size : Int) then (Zc.j0 k a0 ((bt a0 0) != 34)) else (none))
theorem Zc.calls (k : Nat) (a0 : ByteArray) (r1 : ByteArray) (r2 : Int) (r3 : Int) (w : World) (h : Zc.f k a0 = some (r1, r2, r3)) :
  Calls Tryz.prog 68 #[.string a0] w fun e w' => e = .returned (.tuple #[.string r1, .int .i64 r2, .int .i64 r3]) ∧ Below w.heap.size w w' := by
 have HB := Aside0.mk (ybd w.heap.size w)
 have H : (if (a0.size : Int) = 0 then (Zc.j0 k a0 true) else (if 0 < (a0.size : Int) then (Zc.j0 k a0 ((bt a0 0) != 34)) else (none))) = some (r1, r2, r3) := h
 clear h
 have HC2 := Aside0.mk H
 clear H
 go_enter Tryz.func68, Tryz.ntmps68
 go_upto_region 1 with (fail)
 go_cut [17] (fun v17 wc => ∃ (kq : Nat) (x17_1 : Bool), v17 = .bool x17_1 ∧ Aside0 (Zc.j0 kq a0 x17_1 = some (r1, r2, r3)) ∧ Aside0 (kq ≤ k) ∧ Aside0 (Below w.heap.size w wc))
 case first =>
  have H := HC2.out
  clear HC2
  by_cases c3 : (a0.size : Int) = 0
  ·rw [if_pos c3] at H
   have c3b0 : ((a0.size : Int) == 0) = true := Ybf.mpr c3
   have c3b1 : ((a0.size : Int) != 0) = false := Ybh.mpr c3
   clear c3
   (first | rw [c3b0] | (simp only [i64_w, zn]; rw [c3b0]) | skip)
   have H' := Aside0.mk H
   clear H
   go_wp2
   go_meet
   case rel => exact ⟨_, (true), (by first | rfl | (simp; done) | (simp [*]; done)), H', ⟨by first | omega | exact Xbc _⟩, ⟨by repeat (first | (with_reducible first | exact HB.out | apply Za | apply Ya | apply Xa) | exact HB.out)⟩⟩
  ·rw [if_neg c3] at H
   have c3b0 : ((a0.size : Int) == 0) = false := Ybb.mpr c3
   have c3b1 : ((a0.size : Int) != 0) = true := Zbh.mpr c3
   (first | rw [c3b0] | (simp only [i64_w, zn]; rw [c3b0]) | skip)
   by_cases c4 : 0 < (a0.size : Int)
   ·rw [if_pos c4] at H
    have c4b0 : decide (0 < (a0.size : Int)) = true := decide_eq_true c4
    have c4b1 : decide (0 < a0.size) = true := decide_eq_true (by omega)
    clear c4
    have H' := Aside0.mk H
    clear H
    have p5 : 0 ≤ (0 : Int) := (by omega)
    have q5 : 0 < a0.size := (by have : (0 : Int) < (a0.size : Int) := xbc (by first | (with_reducible assumption) | assumption); omega)
    have hx5 : ∀ h : 0 < a0.size, ((a0[0]'h).toNat : Int) = bt a0 0 := Xo a0 0
    clear p5
    have qi5 : (0 < (a0.size : Int)) = True := eq_true (xbc (by first | (with_reducible assumption) | assumption))
    replace q5 := eq_true q5
    go_wp2
    go_meet
    case rel => exact ⟨_, (((bt a0 0) != 34)), (by first | rfl | (simp; done) | (simp [*]; done)), H', ⟨by first | omega | exact Xbc _⟩, ⟨by repeat (first | (with_reducible first | exact HB.out | apply Za | apply Ya | apply Xa) | exact HB.out)⟩⟩
   ·rw [if_neg c4] at H
    exact absurd H (by simp)
 case rest =>
  clear HC2
  try clear p2
  try clear c3
  try clear c3b0
  try clear c3b1
  try clear c4
  try clear c4b0
  try clear c4b1
  try clear p5
  try clear q5
  try clear hx5
  try clear qi5
  try clear p5
  try clear q5
  obtain ⟨kq, x17_1, rfl, HA, HJ1, HB⟩ := hcut
  cases kq with
  | zero => exact absurd HA.out (by simp [Zc.j0])
  | succ kj1 =>
   have H := HA.out
   clear HA
   simp only [Zc.j0] at H
   by_cases c6 : x17_1 = true
   ·subst c6
    have H1 : (some ((⟨#[]⟩ : ByteArray), 0, 70)) = some (r1, r2, r3) := by rw [if_pos rfl] at H; exact H
    clear H
    have H := H1
    clear H1
    simp only [Option.some.injEq, Prod.mk.injEq] at H
    obtain ⟨rfl, rfl, rfl⟩ := H
    go_wp2
    go_ret3
    exact ⟨by first | rfl | (simp [errW_none, Yd] <;> rfl) | (simp [*, errW_none, Yd] <;> rfl), by repeat (first | (with_reducible first | exact HB.out | apply Za | apply Ya | apply Xa) | exact HB.out)⟩
   ·replace c6 := ybh.mpr c6
    subst c6
    have H1 : (Zc.l0 kj1 a0 (⟨#[]⟩ : ByteArray) 1) = some (r1, r2, r3) := by rw [if_neg (show ¬ (false = true) by decide)] at H; exact H
    clear H
    have H := H1
    clear H1
    have H' := Aside0.mk H
    clear H
    go_wp2
    go_loopg [5, 6] kj1 (fun kq v5 v6 w' => ∃ (x5_2 : ByteArray) (x6_2 : Int), v5 = .string x5_2 ∧ v6 = .int .i64 x6_2 ∧ Aside0 (Zc.l0 kq a0 x5_2 x6_2 = some (r1, r2, r3)) ∧ Aside0 (kq ≤ kj1) ∧ Aside0 (Below w.heap.size w w'))
    case atStart => exact ⟨((⟨#[]⟩ : ByteArray)), (1), (by first | rfl | (simp; done) | (simp [*]; done)), (by first | rfl | (simp; done) | (simp [*]; done)), H', ⟨Xbc _⟩, ⟨by repeat (first | (with_reducible first | exact HB.out | apply Za | apply Ya | apply Xa) | exact HB.out)⟩⟩
    case round =>
     clear H'
     try clear p2
     try clear c3
     try clear c3b0
     try clear c3b1
     try clear c4
     try clear c4b0
     try clear c4b1
     try clear p5
     try clear q5
     try clear hx5
     try clear qi5
     try clear c6
     try clear p2
     try clear p5
     try clear q5
     obtain ⟨x5_2, x6_2, rfl, rfl, HA, HK2, HB⟩ := hrel
     cases gk with
     | zero => exact absurd HA.out (by simp [Zc.l0])
     | succ k2 =>
      have H := HA.out
      clear HA
      simp only [Zc.l0] at H
      have HC7 := Aside0.mk H
      clear H
      go_upto_region 5 with (fail)
      go_cut [27] (fun v27 wc => ∃ (kq : Nat) (x27_6 : Bool), v27 = .bool x27_6 ∧ Aside0 (Zc.j2 kq a0 x5_2 x6_2 x27_6 = some (r1, r2, r3)) ∧ Aside0 (kq ≤ k2) ∧ Aside0 (Below w.heap.size w wc))
      case first =>
       have H := HC7.out
       clear HC7
       by_cases c8 : x6_2 ≥ (a0.size : Int)
       ·rw [if_pos c8] at H
        have c8b0 : decide ((a0.size : Int) ≤ x6_2) = true := decide_eq_true c8
        clear c8
        (first | rw [c8b0] | (simp only [i64_w, zn]; rw [c8b0]) | skip)
        have H' := Aside0.mk H
        clear H
        go_wp2
        go_meet
        case rel => exact ⟨_, (true), (by first | rfl | (simp; done) | (simp [*]; done)), H', ⟨by have := HJ1.out; have := HK2.out; first | omega | exact Xbc _⟩, ⟨by repeat (first | (with_reducible first | exact HB.out | apply Za | apply Ya | apply Xa) | exact HB.out)⟩⟩
       ·rw [if_neg c8] at H
        have c8b0 : decide ((a0.size : Int) ≤ x6_2) = false := zbd c8
        clear c8
        (first | rw [c8b0] | (simp only [i64_w, zn]; rw [c8b0]) | skip)
        by_cases c9 : 0 ≤ x6_2
        ·rw [if_pos c9] at H
         have c9b0 : decide (0 ≤ x6_2) = true := decide_eq_true c9
         clear c9
         by_cases c10 : x6_2 < (a0.size : Int)
         ·rw [if_pos c10] at H
          have c10b0 : decide (x6_2 < (a0.size : Int)) = true := decide_eq_true c10
          clear c10
          have H' := Aside0.mk H
          clear H
          have p11 : 0 ≤ (x6_2 : Int) := xbc (by first | (with_reducible assumption) | assumption)
          have q11 : x6_2 < (a0.size : Int) := xbc (by first | (with_reducible assumption) | assumption)
          have hx11 := Xo a0 x6_2
          replace p11 := eq_true p11
          replace q11 := eq_true q11
          go_wp2
          go_meet
          case rel => exact ⟨_, (((bt a0 x6_2) != 34)), (by first | rfl | (simp; done) | (simp [*]; done)), H', ⟨by have := HJ1.out; have := HK2.out; first | omega | exact Xbc _⟩, ⟨by repeat (first | (with_reducible first | exact HB.out | apply Za | apply Ya | apply Xa) | exact HB.out)⟩⟩
         ·rw [if_neg c10] at H
          exact absurd H (by simp)
        ·rw [if_neg c9] at H
         exact absurd H (by simp)
      case rest =>
       clear HC7
       try clear c1
       try clear p1
       try clear q1
       try clear hx1
       try clear p2
       try clear c3
       try clear c3b0
       try clear c3b1
       try clear c4
       try clear c4b0
       try clear c4b1
       try clear p5
       try clear q5
       try clear hx5
       try clear qi5
       try clear c6
       try clear c8
       try clear c8b0
       try clear c9
       try clear c9b0
       try clear c10
       try clear c10b0
       try clear p11
       try clear q11
       try clear hx11
       try clear p11
       try clear p2
       try clear p5
       try clear q11
       try clear q5
       obtain ⟨kq, x27_6, rfl, HA, HJ6, HB⟩ := hcut
       cases kq with
       | zero => exact absurd HA.out (by simp [Zc.j2])
       | succ kj6 =>
        have H := HA.out
        clear HA
        simp only [Zc.j2] at H
        by_cases c12 : x27_6 = true
        ·subst c12
         have H1 : ((Xn.f kj6 a0 x6_2).bind fun bt169 => (if bt169.2.2 = 0 then (if x5_2.size + bt169.1.size ≤ 9223372036854775807 then (Zc.l0 kj6 a0 (x5_2 ++ bt169.1) (wrap64 (x6_2 + bt169.2.1))) else (none)) else (some ((⟨#[]⟩ : ByteArray), 0, bt169.2.2)))) = some (r1, r2, r3) := by rw [if_pos rfl] at H; exact H
         clear H
         have H := H1
         clear H1
         replace H := Ybe.mp H
         obtain ⟨⟨t169, t170, t171⟩, A130, H⟩ := H
         replace H : (if t171 = 0 then (if x5_2.size + t169.size ≤ 9223372036854775807 then (Zc.l0 kj6 a0 (x5_2 ++ t169) (wrap64 (x6_2 + t170))) else (none)) else (some ((⟨#[]⟩ : ByteArray), 0, t171))) = some (r1, r2, r3) := H
         have A13 := Aside0.mk A130
         clear A130
         by_cases c14 : t171 = 0
         ·rw [if_pos c14] at H
          have c14b0 : (t171 == 0) = true := Ybf.mpr c14
          have c14b1 : (t171 != 0) = false := Ybh.mpr c14
          clear c14
          by_cases c15 : x5_2.size + t169.size ≤ 9223372036854775807
          ·rw [if_pos c15] at H
           have c15b0 := eq_true c15
           have c15b1 : decide (x5_2.size + t169.size ≤ 9223372036854775807) = true := decide_eq_true c15
           try have c15b2 : (9223372036854775807 < x5_2.size + t169.size) = False := eq_false (Nat.not_lt.2 c15)
           have H' := Aside0.mk H
           clear H
           go_wp2_with (first | ((with_reducible refine Xd (f := 79) rfl ?_); refine Xj (some 31) rfl rfl Tryz.func79 (by kernel_rfl) rfl #[.string a0, .int .i64 x6_2] rfl (by (try simp only [zbg, Xbf, ybg]); first | done | rfl | (simp only [Zbb, ybc]; rfl)) ?_; (with_reducible refine (Xn.calls kj6 a0 x6_2 t169 t170 t171 _ A13.out).mono ?_); rintro e w16 ⟨rfl, hb⟩; refine ⟨_, rfl, ?_⟩; have n0_ := Aside0.mk (Ze (by repeat (first | (with_reducible first | exact HB.out | apply Za | apply Ya | apply Xa) | exact HB.out)) hb); clear HB; have HB := n0_; clear n0_; (try clear hb); (try clear hb2); (try clear hk); (try clear hi)))
           go_roundg kj6
           case measure => have := HJ1.out; have := HK2.out; have := HJ6.out; omega
           case rel => exact ⟨(x5_2 ++ t169), (wrap64 (x6_2 + t170)), (by first | rfl | (simp; done) | (simp [*]; done)), (by first | rfl | (simp; done) | (simp [*]; done)), H', ⟨by have := HJ1.out; have := HK2.out; have := HJ6.out; omega⟩, ⟨by repeat (first | (with_reducible first | exact HB.out | apply Za | apply Ya | apply Xa) | exact HB.out)⟩⟩
          ·rw [if_neg c15] at H
           exact absurd H (by simp)
         ·rw [if_neg c14] at H
          have c14b0 : (t171 == 0) = false := Ybb.mpr c14
          have c14b1 : (t171 != 0) = true := Zbh.mpr c14
          simp only [Option.some.injEq, Prod.mk.injEq] at H
          obtain ⟨rfl, rfl, rfl⟩ := H
          go_wp2_with (first | ((with_reducible refine Xd (f := 79) rfl ?_); refine Xj (some 31) rfl rfl Tryz.func79 (by kernel_rfl) rfl #[.string a0, .int .i64 x6_2] rfl (by (try simp only [zbg, Xbf, ybg]); first | done | rfl | (simp only [Zbb, ybc]; rfl)) ?_; (with_reducible refine (Xn.calls kj6 a0 x6_2 t169 t170 t171 _ A13.out).mono ?_); rintro e w17 ⟨rfl, hb⟩; refine ⟨_, rfl, ?_⟩; have n0_ := Aside0.mk (Ze (by repeat (first | (with_reducible first | exact HB.out | apply Za | apply Ya | apply Xa) | exact HB.out)) hb); clear HB; have HB := n0_; clear n0_; (try clear hb); (try clear hb2); (try clear hk); (try clear hi)))
          go_ret3
          exact ⟨by first | rfl | (simp [errW_none, Yd] <;> rfl) | (simp [*, errW_none, Yd] <;> rfl), by repeat (first | (with_reducible first | exact HB.out | apply Za | apply Ya | apply Xa) | exact HB.out)⟩
        ·replace c12 := ybh.mpr c12
         subst c12
         have H1 : (some (x5_2, wrap64 (x6_2 + 1), 0)) = some (r1, r2, r3) := by rw [if_neg (show ¬ (false = true) by decide)] at H; exact H
         clear H
         have H := H1
         clear H1
         simp only [Option.some.injEq, Prod.mk.injEq] at H
         obtain ⟨rfl, rfl, rfl⟩ := H
         go_wp2
         go_ret3
         exact ⟨by first | rfl | (simp [errW_none, Yd] <;> rfl) | (simp [*, errW_none, Yd] <;> rfl), by repeat (first | (with_reducible first | exact HB.out | apply Za | apply Ya | apply Xa) | exact HB.out)⟩
end Go.Proofs.NQ1
namespace Go.Proofs.NJ1
open Go.Proofs.NGiv Go.Proofs.NU1 Go.Proofs.NQ1 Go.RowKit Go.Proofs.Wa Go.Proofs.Wb Go.Proofs.Wc
attribute [local go_sem] YL XL YR XR yI xI zM yM
def errW : Option Int → Value
 | none => .nilIface
 | some c => .iface 0 (.int .i64 c)
theorem errW_none : errW none = .nilIface := rfl
theorem Yd (c : Int) : errW (some c) = .iface 0 (.int .i64 c) := rfl
theorem info40 : (Tryz.prog.info? 40).map (fun i => (i.zero, i.size, i.bytes)) = some (some (.agg #[(.int .i64 0), (.int .i64 0), (.string ⟨#[]⟩), (.string ⟨#[]⟩), (.int .i64 0)]), 5, 56) := by kernel_rfl
theorem info39 : (Tryz.prog.info? 39).map (fun i => (i.zero, i.size, i.bytes)) = some (some (.agg #[(.int .i64 0), (.int .i64 0), (.string ⟨#[]⟩), (.string ⟨#[]⟩), (.int .i64 0)]), 5, 56) := by kernel_rfl
structure S39 where
 f0 : Int
 f1 : Int
 f2 : ByteArray
 f3 : ByteArray
 f4 : Int
def z39 : S39 := ⟨(0 : Int), (0 : Int), (⟨#[]⟩ : ByteArray), (⟨#[]⟩ : ByteArray), (0 : Int)⟩
def k39 : Kd S39 := Kd.iso (Kd.pair (Kd.int .i64) (Kd.pair (Kd.int .i64) (Kd.pair Kd.string (Kd.pair Kd.string (Kd.int .i64))))) (fun x : S39 => (x.f0, x.f1, x.f2, x.f3, x.f4))
theorem zaT {w : World} {x : S39} {cs : List Value} (h : k39.K w x cs) : cs = [.int .i64 x.f0, .int .i64 x.f1, .string x.f2, .string x.f3, .int .i64 x.f4] := by
 obtain ⟨_, _, rfl, rfl, ⟨_, _, rfl, rfl, ⟨_, _, rfl, rfl, ⟨_, _, rfl, rfl, rfl⟩⟩⟩⟩ := h
 exact rfl
theorem k39_mk (w : World) (x : S39)  : k39.K w x [.int .i64 x.f0, .int .i64 x.f1, .string x.f2, .string x.f3, .int .i64 x.f4] := ⟨[.int .i64 x.f0], [.int .i64 x.f1, .string x.f2, .string x.f3, .int .i64 x.f4], rfl, rfl, ⟨[.int .i64 x.f1], [.string x.f2, .string x.f3, .int .i64 x.f4], rfl, rfl, ⟨[.string x.f2], [.string x.f3, .int .i64 x.f4], rfl, rfl, ⟨[.string x.f3], [.int .i64 x.f4], rfl, rfl, rfl⟩⟩⟩⟩
theorem k39_mkM (w : World) (base : Nat) (ok : Nat → Prop) (x : S39)  : k39.M w base ok x [.int .i64 x.f0, .int .i64 x.f1, .string x.f2, .string x.f3, .int .i64 x.f4] := ⟨[.int .i64 x.f0], [.int .i64 x.f1, .string x.f2, .string x.f3, .int .i64 x.f4], rfl, rfl, ⟨[.int .i64 x.f1], [.string x.f2, .string x.f3, .int .i64 x.f4], rfl, rfl, ⟨[.string x.f2], [.string x.f3, .int .i64 x.f4], rfl, rfl, ⟨[.string x.f3], [.int .i64 x.f4], rfl, rfl, rfl⟩⟩⟩⟩
def Zg (xs : List S39) (i : Int) : S39 := xs.getD i.toNat z39
theorem ZaB {w : World} {A : Option Addr} {n : Nat} {xs : List S39} (h : Kd.C k39 w A n xs) (i : Int) (h0 : 0 ≤ i) (h1 : i < n) : ∃ ad , A = some ad ∧ w.cell? (ad.add (i.toNat * 5)) = some (.int .i64 (Zg xs i).f0) ∧ w.cell? ⟨(ad.add (i.toNat * 5)).block, (ad.add (i.toNat * 5)).off + 1, none⟩ = some (.int .i64 (Zg xs i).f1) ∧ w.cell? ⟨(ad.add (i.toNat * 5)).block, (ad.add (i.toNat * 5)).off + 2, none⟩ = some (.string (Zg xs i).f2) ∧ w.cell? ⟨(ad.add (i.toNat * 5)).block, (ad.add (i.toNat * 5)).off + 3, none⟩ = some (.string (Zg xs i).f3) ∧ w.cell? ⟨(ad.add (i.toNat * 5)).block, (ad.add (i.toNat * 5)).off + 4, none⟩ = some (.int .i64 (Zg xs i).f4) := by
 obtain ⟨ad, c, e, _, hK, hc0⟩ := Kd.C_get h z39 i h0 h1
 have hc : ∀ j u, c[j]? = some u → w.cell? (ad.add (i.toNat * 5 + j)) = some u := hc0
 obtain rfl := zaT hK
 exact ⟨ad, e, hc 0 _ rfl, by rw [← XH _ _ 1 (by omega)]; exact hc 1 _ rfl, by rw [← XH _ _ 2 (by omega)]; exact hc 2 _ rfl, by rw [← XH _ _ 3 (by omega)]; exact hc 3 _ rfl, by rw [← XH _ _ 4 (by omega)]; exact hc 4 _ rfl⟩
structure S40 where
 f0 : Int
 f1 : Int
 f2 : ByteArray
 f3 : ByteArray
 f4 : Int
def z40 : S40 := ⟨(0 : Int), (0 : Int), (⟨#[]⟩ : ByteArray), (⟨#[]⟩ : ByteArray), (0 : Int)⟩
def k40 : Kd S40 := Kd.iso (Kd.pair (Kd.int .i64) (Kd.pair (Kd.int .i64) (Kd.pair Kd.string (Kd.pair Kd.string (Kd.int .i64))))) (fun x : S40 => (x.f0, x.f1, x.f2, x.f3, x.f4))
theorem yaT {w : World} {x : S40} {cs : List Value} (h : k40.K w x cs) : cs = [.int .i64 x.f0, .int .i64 x.f1, .string x.f2, .string x.f3, .int .i64 x.f4] := by
 obtain ⟨_, _, rfl, rfl, ⟨_, _, rfl, rfl, ⟨_, _, rfl, rfl, ⟨_, _, rfl, rfl, rfl⟩⟩⟩⟩ := h
 exact rfl
theorem k40_mk (w : World) (x : S40)  : k40.K w x [.int .i64 x.f0, .int .i64 x.f1, .string x.f2, .string x.f3, .int .i64 x.f4] := ⟨[.int .i64 x.f0], [.int .i64 x.f1, .string x.f2, .string x.f3, .int .i64 x.f4], rfl, rfl, ⟨[.int .i64 x.f1], [.string x.f2, .string x.f3, .int .i64 x.f4], rfl, rfl, ⟨[.string x.f2], [.string x.f3, .int .i64 x.f4], rfl, rfl, ⟨[.string x.f3], [.int .i64 x.f4], rfl, rfl, rfl⟩⟩⟩⟩
theorem k40_mkM (w : World) (base : Nat) (ok : Nat → Prop) (x : S40)  : k40.M w base ok x [.int .i64 x.f0, .int .i64 x.f1, .string x.f2, .string x.f3, .int .i64 x.f4] := ⟨[.int .i64 x.f0], [.int .i64 x.f1, .string x.f2, .string x.f3, .int .i64 x.f4], rfl, rfl, ⟨[.int .i64 x.f1], [.string x.f2, .string x.f3, .int .i64 x.f4], rfl, rfl, ⟨[.string x.f2], [.string x.f3, .int .i64 x.f4], rfl, rfl, ⟨[.string x.f3], [.int .i64 x.f4], rfl, rfl, rfl⟩⟩⟩⟩
def zE (xs : List S40) (i : Int) : S40 := xs.getD i.toNat z40
theorem Xab {w : World} {A : Option Addr} {n : Nat} {xs : List S40} (h : Kd.C k40 w A n xs) (i : Int) (h0 : 0 ≤ i) (h1 : i < n) : ∃ ad , A = some ad ∧ w.cell? (ad.add (i.toNat * 5)) = some (.int .i64 (zE xs i).f0) ∧ w.cell? ⟨(ad.add (i.toNat * 5)).block, (ad.add (i.toNat * 5)).off + 1, none⟩ = some (.int .i64 (zE xs i).f1) ∧ w.cell? ⟨(ad.add (i.toNat * 5)).block, (ad.add (i.toNat * 5)).off + 2, none⟩ = some (.string (zE xs i).f2) ∧ w.cell? ⟨(ad.add (i.toNat * 5)).block, (ad.add (i.toNat * 5)).off + 3, none⟩ = some (.string (zE xs i).f3) ∧ w.cell? ⟨(ad.add (i.toNat * 5)).block, (ad.add (i.toNat * 5)).off + 4, none⟩ = some (.int .i64 (zE xs i).f4) := by
 obtain ⟨ad, c, e, _, hK, hc0⟩ := Kd.C_get h z40 i h0 h1
 have hc : ∀ j u, c[j]? = some u → w.cell? (ad.add (i.toNat * 5 + j)) = some u := hc0
 obtain rfl := yaT hK
 exact ⟨ad, e, hc 0 _ rfl, by rw [← XH _ _ 1 (by omega)]; exact hc 1 _ rfl, by rw [← XH _ _ 2 (by omega)]; exact hc 2 _ rfl, by rw [← XH _ _ 3 (by omega)]; exact hc 3 _ rfl, by rw [← XH _ _ 4 (by omega)]; exact hc 4 _ rfl⟩
end Go.Proofs.NJ1
namespace Go.Proofs.NGiv
open Go.RowKit Go.Proofs.Wa Go.Proofs.Wb Go.Proofs.Wc
open Go.Proofs.NU1 Go.Proofs.NQ1 Go.Proofs.NJ0 Go.Proofs.NJ1
abbrev Out (w0 W : World) (g : Nat) (v : Value) (out : List S40) : Prop := Kd.R k40 40 W w0.heap.size (fun j => j ≠ g) v out
structure Left (w0 W W' : World) (g : Nat) (s : ByteArray) (p' : Nat) (v : Value) (out' : List S40) : Prop where
 left : ∃ v', Rd W' g s p' v' ∧ Out w0 W' g v' out' ∧ (v'.ownBlock = v.ownBlock ∨ ∃ b, v'.ownBlock = some b ∧ W.heap.size ≤ b)
 below : Below w0.heap.size w0 W'
 keep : KeepBut W W' g v.ownBlock
def Yh (x : S40) : Value := .agg #[.int .i64 x.f0, .int .i64 x.f1, .string x.f2, .string x.f3, .int .i64 x.f4]
abbrev Itm (W : World) (b : Nat) (x : S40) : Prop := W.heap[b]? = some (.cells #[.int .i64 x.f0, .int .i64 x.f1, .string x.f2, .string x.f3, .int .i64 x.f4] 40 (0, 0))
theorem zC {W W' : World} {g : Nat} {row : Option Nat} (h : KeepBut W W' g none) : KeepBut W W' g row := ⟨h.1, fun i hi hg _ => h.2 i hi hg (by simp)⟩
theorem Zay (s : ByteArray) (p : Nat) (t : List UInt8)  : zh.f (s.extract p s.size) ⟨t.toArray⟩ = some (decide (t <+: s.data.toList.drop p)) := by
 have hz : (⟨t.toArray⟩ : ByteArray).size = t.length := by show t.toArray.size = _; rw [Ybo]
 have hd : (s.extract p s.size).data.toList = s.data.toList.drop p := by
  rw [zbo, zbp]
  simp
  rw [Zbj (by rw [Zbb, data_length]; exact Xbc _)]
 have hl : (s.extract p s.size).size = (s.data.toList.drop p).length := by rw [← hd, data_length]
 unfold zh.f Yt.f
 by_cases c : t.length ≤ (s.data.toList.drop p).length
 ·rw [if_pos (by omega), if_pos (by omega), if_pos (by omega), Zbf, hz]
  congr 1
  rw [Lib.toList_data, Lib.toList_data, zbo, zbp, hd]
  rw [Bool.eq_iff_iff, Ybf, decide_eq_true_iff, List.prefix_iff_eq_take]
  simp
  constructor
  ·intro h; exact h.symm
  ·intro h; exact h.symm
 ·rw [if_neg (by omega), Zbf]
  congr 1
  symm
  rw [decide_eq_false_iff_not]
  intro h
  exact c (List.IsPrefix.length_le h)
theorem Left.pre {w0 W w1 W' : World} {g q : Nat} {s : ByteArray} {v : Value} {out : List S40} (hk : KeepBut W w1 g none) (h : Left w0 w1 W' g s q v out) : Left w0 W W' g s q v out :=
 ⟨by obtain ⟨v', a, b, c⟩ := h.left; exact ⟨v', a, b, c.imp id (fun ⟨k, e, hk2⟩ => ⟨k, e, Ybg hk.1 hk2⟩)⟩, h.below, (zC hk).trans h.keep (.inl rfl)⟩
theorem yD {ops : Array Oper} {o : Oper} {a : Act} {Kc : Act → World → Prop} {Q : Exit → Act → World → Prop} (sl xl : Operand) {w0 W : World} {g b : Nat} {s : ByteArray} {p : Nat} {v : Value} {x : S40} {out : List S40}
  (hw : Region.wanted o (yielded ops a.tmps) = true) (ho : o.op = .call { callee := .builtin .append, args := #[sl, xl], argTypes := #[26, 26] }) (hs : a.eval sl = v) (hx : a.eval xl = .slice (some ⟨W.heap.size, 0, none⟩) 1 1)
  (hR : Rd W g s p v) (hI : Itm W b x) (hO : Kd.R k40 40 W w0.heap.size (fun j => j ≠ g ∧ j ≠ b) v out) (hB : Below w0.heap.size w0 W) (hg : w0.heap.size ≤ g) (hl : (out.length + 1) * 56 ≤ 140737488355328)
  (h : ∀ (As : Option Addr) (N2 cc : Nat) (w2 : World), Rd w2 g s p v → Left w0 W (w2.setCell ⟨g, 2, none⟩ (.slice As N2 cc)) g s p v (out ++ [x]) → Kc (a.put o.dst (.slice As N2 cc)) w2) :
  if Region.wanted o (yielded ops a.tmps) = true then Oper.wp Tryz.prog o a (W.drew.alloc (.cells #[.int .i64 x.f0, .int .i64 x.f1, .string x.f2, .string x.f3, .int .i64 x.f4] 40)) Kc Q else Kc (a.put o.dst undef) (W.drew.alloc (.cells #[.int .i64 x.f0, .int .i64 x.f1, .string x.f2, .string x.f3, .int .i64 x.f4] 40)) := by
 have h1 := Yg hR
 have h2 := Yg hI
 have hO' : Kd.R k40 40 W.drew w0.heap.size (fun j => j ≠ g ∧ j ≠ b) v out := Kd.R_move hO (fun _ _ => rfl)
 refine Kd.R_append_step k40 (w0 := w0) (W := W.drew) w0.heap.size hw sl xl 26 40 (.agg #[(.int .i64 0), (.int .i64 0), (.string ⟨#[]⟩), (.string ⟨#[]⟩), (.int .i64 0)]) 56 ho Tryz.underlying26 info40 rfl (by decide) (by decide) v out x [.int .i64 x.f0, .int .i64 x.f1, .string x.f2, .string x.f3, .int .i64 x.f4] (fun j => j ≠ g ∧ j ≠ b) (fun _ => False) hs hx (k40_mkM _ _ _ x) (fun _ h => h.elim) (fun k hk => ?_) hO' (Xa hB) hB.size hl ?_
 ·have hk3 : W.heap.size ≤ k := hk
  omega
 intro v2 w2 hO2 hB2 hG2 hA2
 obtain ⟨As, cc, hv2⟩ := Kd.R_slice hO2
 subst hv2
 have hR2 : Rd w2 g s p v := (hG2.block g h1 (fun e => (hO.1 g e.symm).1 rfl)).trans hR
 refine h _ _ _ _ hR2 ⟨⟨_, rd_set2 hR2 _, Kd.R_far (Kd.R_mono hO2 (fun _ h => h.1)) (fun _ h => h) _, hA2⟩, Yj hB2 hg, KeepBut.set_ (KeepBut.of_grown (w := W) ⟨hG2.os, hG2.tape, hG2.output, hG2.size, hG2.block⟩ g) 2 _⟩
theorem ZI {w1 : World} {g b : Nat} {s : ByteArray} {p : Nat} {v : Value} {x : S40} (hR : Rd w1 g s p v) (hI : Itm w1 b x) (o : Obj) :
  (w1.drew.alloc o).cell? ⟨g, 2, none⟩ = some v ∧ (w1.drew.alloc o).heap[b]? = some (.cells #[.int .i64 x.f0, .int .i64 x.f1, .string x.f2, .string x.f3, .int .i64 x.f4] 40 (0, 0)) := by
 have h1 : g < w1.drew.heap.size := Yg hR
 have h2 : b < w1.drew.heap.size := Yg hI
 exact ⟨(World.cell?_alloc_lt w1.drew o ⟨g, 2, none⟩ h1).trans (Xr hR), (Below.heap_alloc w1.drew o b h2).trans hI⟩
theorem ix136_0 (w : World) : (Instr.index 104 (.agg #[.string ⟨#[110, 117, 108, 108]⟩, .string ⟨#[102, 97, 108, 115, 101]⟩, .string ⟨#[116, 114, 117, 101]⟩]) (.int .i64 0)).run Tryz.prog w = .ok (.string ⟨#[110, 117, 108, 108]⟩) w := by kernel_rfl
theorem ix136_1 (w : World) : (Instr.index 104 (.agg #[.string ⟨#[110, 117, 108, 108]⟩, .string ⟨#[102, 97, 108, 115, 101]⟩, .string ⟨#[116, 114, 117, 101]⟩]) (.int .i64 1)).run Tryz.prog w = .ok (.string ⟨#[102, 97, 108, 115, 101]⟩) w := by kernel_rfl
theorem ix136_2 (w : World) : (Instr.index 104 (.agg #[.string ⟨#[110, 117, 108, 108]⟩, .string ⟨#[102, 97, 108, 115, 101]⟩, .string ⟨#[116, 114, 117, 101]⟩]) (.int .i64 2)).run Tryz.prog w = .ok (.string ⟨#[116, 114, 117, 101]⟩) w := by kernel_rfl
theorem word_walk (w0 W : World) (g : Nat) (s : ByteArray) (p : Nat) (v : Value) (out : List S40) (x : S40) (hR : Rd W g s p v) (hO : Out w0 W g v out) (hB : Below w0.heap.size w0 W) (hg : w0.heap.size ≤ g) (hp : p ≤ s.size) (hs : s.size ≤ 4611686018427387904) (hl : (out.length + 1) * 56 ≤ 140737488355328)
  (b0 b1 b2 : Bool) (h0 : zh.f (s.extract p s.size) ⟨#[110, 117, 108, 108]⟩ = some b0) (h1 : zh.f (s.extract p s.size) ⟨#[102, 97, 108, 115, 101]⟩ = some b1) (h2 : zh.f (s.extract p s.size) ⟨#[116, 114, 117, 101]⟩ = some b2)
  (n0 : b0 = true → p + 4 ≤ s.size) (n1 : b1 = true → p + 5 ≤ s.size) (n2 : b2 = true → p + 4 ≤ s.size) :
  Calls Tryz.prog 43 #[.pointer (some ⟨g, 0, none⟩), Yh x] W fun e W' => e = .returned (.int .i64 (if b0 || b1 || b2 then 0 else 80)) ∧ Left w0 W W' g s (if b0 then p + 4 else if b1 then p + 5 else if b2 then p + 4 else p) v (if b0 then out ++ [⟨x.f0, 1, x.f2, x.f3, x.f4⟩] else if b1 then out ++ [⟨x.f0, 2, x.f2, x.f3, x.f4⟩] else if b2 then out ++ [⟨x.f0, 3, x.f2, x.f3, x.f4⟩] else out) := by
 have HR := Aside0.mk hR
 have HO := Aside0.mk hO
 have HB := Aside0.mk hB
 have HG := Aside0.mk hg
 have HL := Aside0.mk hl
 have HS := Aside0.mk hs
 have F0 := Aside0.mk h0
 have F1 := Aside0.mk h1
 have F2 := Aside0.mk h2
 have HN0 := Aside0.mk n0
 have HN1 := Aside0.mk n1
 have HN2 := Aside0.mk n2
 have q0 : (0 ≤ (p : Int)) = True := eq_true (by omega)
 have q1 : ((p : Int) ≤ (s.size : Int)) = True := eq_true (by omega)
 have q2 : (p ≤ s.size) = True := eq_true (by omega)
 clear hR hB hg hs hO hl h0 h1 h2 n0 n1 n2
 unfold Yh
 go_enter Tryz.func43, Tryz.ntmps43
 go_wp2_with fail
 obtain ⟨b, hb⟩ : ∃ b, W.heap.size = b := ⟨_, rfl⟩
 have hgW := Yg HR.out
 have HA : Aside0 (Below W.heap.size W (W.alloc (.cells #[.int .i64 x.f0, .int .i64 x.f1, .string x.f2, .string x.f3, .int .i64 x.f4] 40))) := ⟨Za (ybd _ _) _⟩
 have HI : Aside0 (Itm (W.alloc (.cells #[.int .i64 x.f0, .int .i64 x.f1, .string x.f2, .string x.f3, .int .i64 x.f4] 40)) b x) := ⟨by rw [← hb]; exact ybi _ _⟩
 have HR := Aside0.mk (Zu HR.out HA.out)
 have HO : Aside0 (Kd.R k40 40 (W.alloc (.cells #[.int .i64 x.f0, .int .i64 x.f1, .string x.f2, .string x.f3, .int .i64 x.f4] 40)) w0.heap.size (fun j => j ≠ g ∧ j ≠ b) v out) := ⟨Kd.R_below (Kd.R_mono (Kd.R_bound HO.out) (fun k hk => ⟨hk.1, by have := hk.2.2.1; omega⟩)) HA.out⟩
 have HK := Aside0.mk (KeepBut.of_below HA.out g none)
 have HBo := HB
 have HB := Aside0.mk (Ze HB.out HA.out)
 have HB0 : Aside0 (w0.heap.size ≤ W.heap.size) := ⟨HBo.out.size⟩
 have HBG : Aside0 (W.heap.size ≤ b) := ⟨by omega⟩
 have hne1 : ¬ b = g := by omega
 have hne2 : ¬ g = b := by omega
 rw [hb]
 generalize W.alloc (.cells #[.int .i64 x.f0, .int .i64 x.f1, .string x.f2, .string x.f3, .int .i64 x.f4] 40) = W1 at HA HI HR HO HK HB ⊢
 clear HA hb
 go_loopg [8] 3 (fun kq v8 wr => (v8 = .int .i64 0 ∧ kq = 3 ∨ v8 = .int .i64 1 ∧ kq = 2 ∧ b0 = false ∨ v8 = .int .i64 2 ∧ kq = 1 ∧ b0 = false ∧ b1 = false ∨ v8 = .int .i64 3 ∧ kq = 0 ∧ b0 = false ∧ b1 = false ∧ b2 = false) ∧ Aside0 (Rd wr g s p v) ∧ Aside0 (Kd.R k40 40 wr w0.heap.size (fun j => j ≠ g ∧ j ≠ b) v out) ∧ Aside0 (Itm wr b x) ∧ Aside0 (KeepBut W wr g none) ∧ Aside0 (Below w0.heap.size w0 wr))
 case atStart => exact ⟨.inl ⟨rfl, rfl⟩, HR, HO, HI, HK, HB⟩
 case round =>
  obtain ⟨hk, HR, HO, HI, HK, HB⟩ := hrel
  have hc0 := Xh HR.out
  have hc1 := Yf HR.out
  rcases hk with ⟨rfl, hgk⟩ | ⟨rfl, hgk, rfl⟩ | ⟨rfl, hgk, rfl, rfl⟩ | ⟨rfl, hgk, rfl, rfl, rfl⟩
  ·-- word 0
   cases b0 with
   | true =>
    have HW : Aside0 (wrap64 ((p : Int) + 4) = ((p + 4 : Nat) : Int)) := ⟨by have := HS.out; have := HN0.out rfl; unfold wrap64; omega⟩
    have hc1 := Yf HR.out
    have hf1 := zg HR.out 1
    have hi1 : wr.cell? ⟨b, 1, none⟩ = some (.int .i64 x.f1) := (zb HI.out 1).trans rfl
    have hif1 := zg HI.out 1
    have hix := ix136_0
    go_wp2_with ((go_at_call 64; (with_reducible refine (zh.calls (s.extract p s.size) (⟨#[110, 117, 108, 108]⟩ : ByteArray) _ _ (F0.out)).mono ?_); rintro e w' ⟨rfl, ⟨nd, rfl⟩⟩; (try first | exact ⟨rfl, _, xbf _ _ _⟩ | exact ⟨rfl, _, Eq.trans (xbf _ _ _) (congrArg (World.drewN _) (Zbi _ _ _))⟩)))
    repeat (go_quiet ((go_at_call 64; (with_reducible refine (zh.calls (s.extract p s.size) (⟨#[110, 117, 108, 108]⟩ : ByteArray) _ _ (F0.out)).mono ?_); rintro e w' ⟨rfl, ⟨nd, rfl⟩⟩; (try first | exact ⟨rfl, _, xbf _ _ _⟩ | exact ⟨rfl, _, Eq.trans (xbf _ _ _) (congrArg (World.drewN _) (Zbi _ _ _))⟩))); try go_wp2_with ((go_at_call 64; (with_reducible refine (zh.calls (s.extract p s.size) (⟨#[110, 117, 108, 108]⟩ : ByteArray) _ _ (F0.out)).mono ?_); rintro e w' ⟨rfl, ⟨nd, rfl⟩⟩; (try first | exact ⟨rfl, _, xbf _ _ _⟩ | exact ⟨rfl, _, Eq.trans (xbf _ _ _) (congrArg (World.drewN _) (Zbi _ _ _))⟩))))
    have HRa := Aside0.mk (zp (xS (W := wr.drewN nq) HR.out HW.out) (p := ⟨b, 1, none⟩) hne2 (.int .i64 1))
    have HIa : Aside0 (Itm (((wr.drewN nq).setCell ⟨g, 1, none⟩ (.int .i64 (wrap64 ((p : Int) + 4)))).setCell ⟨b, 1, none⟩ (.int .i64 1)) b (⟨x.f0, 1, x.f2, x.f3, x.f4⟩ : S40)) := ⟨zq (zp (w := wr.drewN nq) HI.out (p := ⟨g, 1, none⟩) hne1 _) 1 _⟩
    have HOa := Aside0.mk (Kd.R_far (Kd.R_far (w := wr.drewN nq) HO.out (p := ⟨g, 1, none⟩) (fun _ h => h.1) (.int .i64 (wrap64 ((p : Int) + 4)))) (p := ⟨b, 1, none⟩) (fun _ h => h.2) (.int .i64 1))
    have HKa := Aside0.mk (Yp (KeepBut.set_ (YI HK.out nq) 1 (.int .i64 (wrap64 ((p : Int) + 4)))) (p := ⟨b, 1, none⟩) HBG.out (.int .i64 1))
    have HBa := Aside0.mk (Yj (j := 1) (Yj (j := 1) (v := .int .i64 (wrap64 ((p : Int) + 4))) (Ya HB.out nq) HG.out) (v := .int .i64 1) (g := b) (Ybg HB0.out HBG.out))
    generalize ((wr.drewN nq).setCell ⟨g, 1, none⟩ (.int .i64 (wrap64 ((p : Int) + 4)))).setCell ⟨b, 1, none⟩ (.int .i64 1) = w1 at HRa HIa HOa HKa HBa ⊢
    clear hc0 hc1 hf1 hi1 hif1
    refine ZG (n := 11) (S := fun w' => w'.cell? ⟨g, 2, none⟩ = some v ∧ w'.heap[b]? = some (.cells #[.int .i64 ((⟨x.f0, 1, x.f2, x.f3, x.f4⟩ : S40)).f0, .int .i64 ((⟨x.f0, 1, x.f2, x.f3, x.f4⟩ : S40)).f1, .string ((⟨x.f0, 1, x.f2, x.f3, x.f4⟩ : S40)).f2, .string ((⟨x.f0, 1, x.f2, x.f3, x.f4⟩ : S40)).f3, .int .i64 ((⟨x.f0, 1, x.f2, x.f3, x.f4⟩ : S40)).f4] 40 (0, 0))) (ds := [7, 10]) #[false, false, false, false, false, false, false, false, false, false, false] (by kernel_rfl) rfl rfl ⟨Xr HRa.out, HIa.out⟩ (fun hHeld => ?_)
    refine pq 0 35 (v := ?_) (a' := ?_) #[true, false, false, false, false, false, false, false, false, false, false] rfl (by kernel_rfl) (.inl ⟨by rfl, ?_⟩) ?_ ?_
    rotate_left
    ·intro w'
     go_simp
     (try with_reducible rfl)
    rotate_left
    ·simp only [Act.put, qA, qB, qC]
     rfl
    refine pq 1 36 (v := ?_) (a' := ?_) #[true, true, false, false, false, false, false, false, false, false, false] rfl (by kernel_rfl) (.inl ⟨by rfl, ?_⟩) ?_ ?_
    rotate_left
    ·intro w'
     go_simp
     (try with_reducible rfl)
    rotate_left
    ·simp only [Act.put, qA, qB, qC]
     rfl
    refine pq 2 37 (v := ?_) (a' := ?_) #[true, true, true, false, false, false, false, false, false, false, false] rfl (by kernel_rfl) (.inl ⟨by rfl, ?_⟩) ?_ ?_
    rotate_left
    ·intro w'
     go_simp
     (try with_reducible rfl)
    rotate_left
    ·simp only [Act.put, qA, qB, qC]
     rfl
    refine pq 3 38 (v := ?_) (a' := ?_) #[true, true, true, true, false, false, false, false, false, false, false] rfl (by kernel_rfl) (.inl ⟨by rfl, ?_⟩) ?_ ?_
    rotate_left
    ·intro w'
     go_simp
     (try with_reducible rfl)
    rotate_left
    ·simp only [Act.put, qA, qB, qC]
     rfl
    refine tq 4 39 (v := ?_) (a' := ?_) #[true, true, true, true, true, false, false, false, false, false, false] rfl (by kernel_rfl) (.inl ⟨by rfl, ?_⟩) (by assumption) ?_ ?_
    rotate_left
    ·intro w hSw
     obtain ⟨hl0, hl1⟩ := hSw
     go_simp
     (try with_reducible rfl)
    rotate_left
    ·simp only [Act.put, qA, qB, qC]
     rfl
    refine tq 5 40 (v := ?_) (a' := ?_) #[true, true, true, true, true, true, false, false, false, false, false] rfl (by kernel_rfl) (.inl ⟨by rfl, ?_⟩) (by assumption) ?_ ?_
    rotate_left
    ·intro w hSw
     obtain ⟨hl0, hl1⟩ := hSw
     have hm0 : w.cell? ⟨b, 0, none⟩ = some (.int .i64 ((⟨x.f0, 1, x.f2, x.f3, x.f4⟩ : S40)).f0) := (zb hl1 0).trans rfl
     have hm1 : w.cell? ⟨b, 1, none⟩ = some (.int .i64 ((⟨x.f0, 1, x.f2, x.f3, x.f4⟩ : S40)).f1) := (zb hl1 1).trans rfl
     have hm2 : w.cell? ⟨b, 2, none⟩ = some (.string ((⟨x.f0, 1, x.f2, x.f3, x.f4⟩ : S40)).f2) := (zb hl1 2).trans rfl
     have hm3 : w.cell? ⟨b, 3, none⟩ = some (.string ((⟨x.f0, 1, x.f2, x.f3, x.f4⟩ : S40)).f3) := (zb hl1 3).trans rfl
     have hm4 : w.cell? ⟨b, 4, none⟩ = some (.int .i64 ((⟨x.f0, 1, x.f2, x.f3, x.f4⟩ : S40)).f4) := (zb hl1 4).trans rfl
     clear hl1
     go_simp
     (try with_reducible rfl)
    rotate_left
    ·simp only [Act.put, qA, qB, qC]
     rfl
    refine one_ (i := 6) (N := some 41) #[true, true, true, true, true, true, true, false, false, false, false] rfl rfl (by kernel_rfl) (by decide) (fun K hK => ?_)
    refine ZB (W := w1.drew) (v := .slice (some ⟨w1.heap.size, 0, none⟩) 1 1) (w1 := w1.drew.alloc (.cells #[.int .i64 ((⟨x.f0, 1, x.f2, x.f3, x.f4⟩ : S40)).f0, .int .i64 ((⟨x.f0, 1, x.f2, x.f3, x.f4⟩ : S40)).f1, .string ((⟨x.f0, 1, x.f2, x.f3, x.f4⟩ : S40)).f2, .string ((⟨x.f0, 1, x.f2, x.f3, x.f4⟩ : S40)).f3, .int .i64 ((⟨x.f0, 1, x.f2, x.f3, x.f4⟩ : S40)).f4] 40)) (by rfl) (by kernel_rfl) ?_
    refine hK.out _ _ ?_ (fun hHeld => ?_)
    ·exact ZI HRa.out HIa.out _
    clear hK K
    (try simp only [Act.put, qA, qB, qC])
    refine ZA (i := 7) (N := some 42) #[true, true, true, true, true, true, true, true, false, false, false] rfl rfl (by kernel_rfl) (by decide) (fun K hK => ?_)
    refine yD (.tmp 39) (.tmp 41) (by rfl) rfl rfl rfl HRa.out HIa.out HOa.out HBa.out HG.out HL.out ?_
    intro As N2 cc w2 hR2 hP2
    have hc2a := Xr hR2
    have hf2a := zg hR2 2
    have HPa := Aside0.mk hP2
    clear hR2 hP2
    refine hK.out _ _ ?_
    clear hK K
    (try simp only [Act.put, qA, qB, qC])
    refine pq 8 43 (v := ?_) (a' := ?_) #[true, true, true, true, true, true, true, true, true, false, false] rfl (by kernel_rfl) (.inl ⟨by rfl, ?_⟩) ?_ ?_
    rotate_left
    ·intro w'
     go_simp
     (try with_reducible rfl)
    rotate_left
    ·simp only [Act.put, qA, qB, qC]
     rfl
    refine pq 9 44 (v := ?_) (a' := ?_) #[true, true, true, true, true, true, true, true, true, true, false] rfl (by kernel_rfl) (.inl ⟨by rfl, ?_⟩) ?_ ?_
    rotate_left
    ·intro w'
     go_simp
     (try with_reducible rfl)
    rotate_left
    ·simp only [Act.put, qA, qB, qC]
     rfl
    refine ZA (i := 10) (N := none) #[true, true, true, true, true, true, true, true, true, true, true] rfl rfl (by kernel_rfl) (by decide) (fun K hK => ?_)
    go_simp
    refine hK.out _ _ ?_
    clear hK K
    (try simp only [Act.put, qA, qB, qC])
    refine xL (by kernel_rfl) ?_
    go_wp2_with fail
    go_ret
    exact ⟨rfl, Left.pre HKa.out HPa.out⟩
   | false =>
    subst hgk
    have hix := ix136_0
    go_wp2_with ((go_at_call 64; (with_reducible refine (zh.calls (s.extract p s.size) (⟨#[110, 117, 108, 108]⟩ : ByteArray) _ _ (F0.out)).mono ?_); rintro e w' ⟨rfl, ⟨nd, rfl⟩⟩; (try first | exact ⟨rfl, _, xbf _ _ _⟩ | exact ⟨rfl, _, Eq.trans (xbf _ _ _) (congrArg (World.drewN _) (Zbi _ _ _))⟩)))
    repeat (go_quiet ((go_at_call 64; (with_reducible refine (zh.calls (s.extract p s.size) (⟨#[110, 117, 108, 108]⟩ : ByteArray) _ _ (F0.out)).mono ?_); rintro e w' ⟨rfl, ⟨nd, rfl⟩⟩; (try first | exact ⟨rfl, _, xbf _ _ _⟩ | exact ⟨rfl, _, Eq.trans (xbf _ _ _) (congrArg (World.drewN _) (Zbi _ _ _))⟩))); try go_wp2_with ((go_at_call 64; (with_reducible refine (zh.calls (s.extract p s.size) (⟨#[110, 117, 108, 108]⟩ : ByteArray) _ _ (F0.out)).mono ?_); rintro e w' ⟨rfl, ⟨nd, rfl⟩⟩; (try first | exact ⟨rfl, _, xbf _ _ _⟩ | exact ⟨rfl, _, Eq.trans (xbf _ _ _) (congrArg (World.drewN _) (Zbi _ _ _))⟩))))
    go_roundg 2
    case measure => omega
    case rel => exact ⟨by simp, HR, HO, HI, HK, ⟨Ya HB.out _⟩⟩
  ·-- word 1
   cases b1 with
   | true =>
    have HW : Aside0 (wrap64 ((p : Int) + 5) = ((p + 5 : Nat) : Int)) := ⟨by have := HS.out; have := HN1.out rfl; unfold wrap64; omega⟩
    have hc1 := Yf HR.out
    have hf1 := zg HR.out 1
    have hi1 : wr.cell? ⟨b, 1, none⟩ = some (.int .i64 x.f1) := (zb HI.out 1).trans rfl
    have hif1 := zg HI.out 1
    have hix := ix136_1
    go_wp2_with ((go_at_call 64; (with_reducible refine (zh.calls (s.extract p s.size) (⟨#[102, 97, 108, 115, 101]⟩ : ByteArray) _ _ (F1.out)).mono ?_); rintro e w' ⟨rfl, ⟨nd, rfl⟩⟩; (try first | exact ⟨rfl, _, xbf _ _ _⟩ | exact ⟨rfl, _, Eq.trans (xbf _ _ _) (congrArg (World.drewN _) (Zbi _ _ _))⟩)))
    repeat (go_quiet ((go_at_call 64; (with_reducible refine (zh.calls (s.extract p s.size) (⟨#[102, 97, 108, 115, 101]⟩ : ByteArray) _ _ (F1.out)).mono ?_); rintro e w' ⟨rfl, ⟨nd, rfl⟩⟩; (try first | exact ⟨rfl, _, xbf _ _ _⟩ | exact ⟨rfl, _, Eq.trans (xbf _ _ _) (congrArg (World.drewN _) (Zbi _ _ _))⟩))); try go_wp2_with ((go_at_call 64; (with_reducible refine (zh.calls (s.extract p s.size) (⟨#[102, 97, 108, 115, 101]⟩ : ByteArray) _ _ (F1.out)).mono ?_); rintro e w' ⟨rfl, ⟨nd, rfl⟩⟩; (try first | exact ⟨rfl, _, xbf _ _ _⟩ | exact ⟨rfl, _, Eq.trans (xbf _ _ _) (congrArg (World.drewN _) (Zbi _ _ _))⟩))))
    have HRa := Aside0.mk (zp (xS (W := wr.drewN nq) HR.out HW.out) (p := ⟨b, 1, none⟩) hne2 (.int .i64 2))
    have HIa : Aside0 (Itm (((wr.drewN nq).setCell ⟨g, 1, none⟩ (.int .i64 (wrap64 ((p : Int) + 5)))).setCell ⟨b, 1, none⟩ (.int .i64 2)) b (⟨x.f0, 2, x.f2, x.f3, x.f4⟩ : S40)) := ⟨zq (zp (w := wr.drewN nq) HI.out (p := ⟨g, 1, none⟩) hne1 _) 1 _⟩
    have HOa := Aside0.mk (Kd.R_far (Kd.R_far (w := wr.drewN nq) HO.out (p := ⟨g, 1, none⟩) (fun _ h => h.1) (.int .i64 (wrap64 ((p : Int) + 5)))) (p := ⟨b, 1, none⟩) (fun _ h => h.2) (.int .i64 2))
    have HKa := Aside0.mk (Yp (KeepBut.set_ (YI HK.out nq) 1 (.int .i64 (wrap64 ((p : Int) + 5)))) (p := ⟨b, 1, none⟩) HBG.out (.int .i64 2))
    have HBa := Aside0.mk (Yj (j := 1) (Yj (j := 1) (v := .int .i64 (wrap64 ((p : Int) + 5))) (Ya HB.out nq) HG.out) (v := .int .i64 2) (g := b) (Ybg HB0.out HBG.out))
    generalize ((wr.drewN nq).setCell ⟨g, 1, none⟩ (.int .i64 (wrap64 ((p : Int) + 5)))).setCell ⟨b, 1, none⟩ (.int .i64 2) = w1 at HRa HIa HOa HKa HBa ⊢
    clear hc0 hc1 hf1 hi1 hif1
    refine ZG (n := 11) (S := fun w' => w'.cell? ⟨g, 2, none⟩ = some v ∧ w'.heap[b]? = some (.cells #[.int .i64 ((⟨x.f0, 2, x.f2, x.f3, x.f4⟩ : S40)).f0, .int .i64 ((⟨x.f0, 2, x.f2, x.f3, x.f4⟩ : S40)).f1, .string ((⟨x.f0, 2, x.f2, x.f3, x.f4⟩ : S40)).f2, .string ((⟨x.f0, 2, x.f2, x.f3, x.f4⟩ : S40)).f3, .int .i64 ((⟨x.f0, 2, x.f2, x.f3, x.f4⟩ : S40)).f4] 40 (0, 0))) (ds := [7, 10]) #[false, false, false, false, false, false, false, false, false, false, false] (by kernel_rfl) rfl rfl ⟨Xr HRa.out, HIa.out⟩ (fun hHeld => ?_)
    refine pq 0 35 (v := ?_) (a' := ?_) #[true, false, false, false, false, false, false, false, false, false, false] rfl (by kernel_rfl) (.inl ⟨by rfl, ?_⟩) ?_ ?_
    rotate_left
    ·intro w'
     go_simp
     (try with_reducible rfl)
    rotate_left
    ·simp only [Act.put, qA, qB, qC]
     rfl
    refine pq 1 36 (v := ?_) (a' := ?_) #[true, true, false, false, false, false, false, false, false, false, false] rfl (by kernel_rfl) (.inl ⟨by rfl, ?_⟩) ?_ ?_
    rotate_left
    ·intro w'
     go_simp
     (try with_reducible rfl)
    rotate_left
    ·simp only [Act.put, qA, qB, qC]
     rfl
    refine pq 2 37 (v := ?_) (a' := ?_) #[true, true, true, false, false, false, false, false, false, false, false] rfl (by kernel_rfl) (.inl ⟨by rfl, ?_⟩) ?_ ?_
    rotate_left
    ·intro w'
     go_simp
     (try with_reducible rfl)
    rotate_left
    ·simp only [Act.put, qA, qB, qC]
     rfl
    refine pq 3 38 (v := ?_) (a' := ?_) #[true, true, true, true, false, false, false, false, false, false, false] rfl (by kernel_rfl) (.inl ⟨by rfl, ?_⟩) ?_ ?_
    rotate_left
    ·intro w'
     go_simp
     (try with_reducible rfl)
    rotate_left
    ·simp only [Act.put, qA, qB, qC]
     rfl
    refine tq 4 39 (v := ?_) (a' := ?_) #[true, true, true, true, true, false, false, false, false, false, false] rfl (by kernel_rfl) (.inl ⟨by rfl, ?_⟩) (by assumption) ?_ ?_
    rotate_left
    ·intro w hSw
     obtain ⟨hl0, hl1⟩ := hSw
     go_simp
     (try with_reducible rfl)
    rotate_left
    ·simp only [Act.put, qA, qB, qC]
     rfl
    refine tq 5 40 (v := ?_) (a' := ?_) #[true, true, true, true, true, true, false, false, false, false, false] rfl (by kernel_rfl) (.inl ⟨by rfl, ?_⟩) (by assumption) ?_ ?_
    rotate_left
    ·intro w hSw
     obtain ⟨hl0, hl1⟩ := hSw
     have hm0 : w.cell? ⟨b, 0, none⟩ = some (.int .i64 ((⟨x.f0, 2, x.f2, x.f3, x.f4⟩ : S40)).f0) := (zb hl1 0).trans rfl
     have hm1 : w.cell? ⟨b, 1, none⟩ = some (.int .i64 ((⟨x.f0, 2, x.f2, x.f3, x.f4⟩ : S40)).f1) := (zb hl1 1).trans rfl
     have hm2 : w.cell? ⟨b, 2, none⟩ = some (.string ((⟨x.f0, 2, x.f2, x.f3, x.f4⟩ : S40)).f2) := (zb hl1 2).trans rfl
     have hm3 : w.cell? ⟨b, 3, none⟩ = some (.string ((⟨x.f0, 2, x.f2, x.f3, x.f4⟩ : S40)).f3) := (zb hl1 3).trans rfl
     have hm4 : w.cell? ⟨b, 4, none⟩ = some (.int .i64 ((⟨x.f0, 2, x.f2, x.f3, x.f4⟩ : S40)).f4) := (zb hl1 4).trans rfl
     clear hl1
     go_simp
     (try with_reducible rfl)
    rotate_left
    ·simp only [Act.put, qA, qB, qC]
     rfl
    refine one_ (i := 6) (N := some 41) #[true, true, true, true, true, true, true, false, false, false, false] rfl rfl (by kernel_rfl) (by decide) (fun K hK => ?_)
    refine ZB (W := w1.drew) (v := .slice (some ⟨w1.heap.size, 0, none⟩) 1 1) (w1 := w1.drew.alloc (.cells #[.int .i64 ((⟨x.f0, 2, x.f2, x.f3, x.f4⟩ : S40)).f0, .int .i64 ((⟨x.f0, 2, x.f2, x.f3, x.f4⟩ : S40)).f1, .string ((⟨x.f0, 2, x.f2, x.f3, x.f4⟩ : S40)).f2, .string ((⟨x.f0, 2, x.f2, x.f3, x.f4⟩ : S40)).f3, .int .i64 ((⟨x.f0, 2, x.f2, x.f3, x.f4⟩ : S40)).f4] 40)) (by rfl) (by kernel_rfl) ?_
    refine hK.out _ _ ?_ (fun hHeld => ?_)
    ·exact ZI HRa.out HIa.out _
    clear hK K
    (try simp only [Act.put, qA, qB, qC])
    refine ZA (i := 7) (N := some 42) #[true, true, true, true, true, true, true, true, false, false, false] rfl rfl (by kernel_rfl) (by decide) (fun K hK => ?_)
    refine yD (.tmp 39) (.tmp 41) (by rfl) rfl rfl rfl HRa.out HIa.out HOa.out HBa.out HG.out HL.out ?_
    intro As N2 cc w2 hR2 hP2
    have hc2a := Xr hR2
    have hf2a := zg hR2 2
    have HPa := Aside0.mk hP2
    clear hR2 hP2
    refine hK.out _ _ ?_
    clear hK K
    (try simp only [Act.put, qA, qB, qC])
    refine pq 8 43 (v := ?_) (a' := ?_) #[true, true, true, true, true, true, true, true, true, false, false] rfl (by kernel_rfl) (.inl ⟨by rfl, ?_⟩) ?_ ?_
    rotate_left
    ·intro w'
     go_simp
     (try with_reducible rfl)
    rotate_left
    ·simp only [Act.put, qA, qB, qC]
     rfl
    refine pq 9 44 (v := ?_) (a' := ?_) #[true, true, true, true, true, true, true, true, true, true, false] rfl (by kernel_rfl) (.inl ⟨by rfl, ?_⟩) ?_ ?_
    rotate_left
    ·intro w'
     go_simp
     (try with_reducible rfl)
    rotate_left
    ·simp only [Act.put, qA, qB, qC]
     rfl
    refine ZA (i := 10) (N := none) #[true, true, true, true, true, true, true, true, true, true, true] rfl rfl (by kernel_rfl) (by decide) (fun K hK => ?_)
    go_simp
    refine hK.out _ _ ?_
    clear hK K
    (try simp only [Act.put, qA, qB, qC])
    refine xL (by kernel_rfl) ?_
    go_wp2_with fail
    go_ret
    exact ⟨rfl, Left.pre HKa.out HPa.out⟩
   | false =>
    subst hgk
    have hix := ix136_1
    go_wp2_with ((go_at_call 64; (with_reducible refine (zh.calls (s.extract p s.size) (⟨#[102, 97, 108, 115, 101]⟩ : ByteArray) _ _ (F1.out)).mono ?_); rintro e w' ⟨rfl, ⟨nd, rfl⟩⟩; (try first | exact ⟨rfl, _, xbf _ _ _⟩ | exact ⟨rfl, _, Eq.trans (xbf _ _ _) (congrArg (World.drewN _) (Zbi _ _ _))⟩)))
    repeat (go_quiet ((go_at_call 64; (with_reducible refine (zh.calls (s.extract p s.size) (⟨#[102, 97, 108, 115, 101]⟩ : ByteArray) _ _ (F1.out)).mono ?_); rintro e w' ⟨rfl, ⟨nd, rfl⟩⟩; (try first | exact ⟨rfl, _, xbf _ _ _⟩ | exact ⟨rfl, _, Eq.trans (xbf _ _ _) (congrArg (World.drewN _) (Zbi _ _ _))⟩))); try go_wp2_with ((go_at_call 64; (with_reducible refine (zh.calls (s.extract p s.size) (⟨#[102, 97, 108, 115, 101]⟩ : ByteArray) _ _ (F1.out)).mono ?_); rintro e w' ⟨rfl, ⟨nd, rfl⟩⟩; (try first | exact ⟨rfl, _, xbf _ _ _⟩ | exact ⟨rfl, _, Eq.trans (xbf _ _ _) (congrArg (World.drewN _) (Zbi _ _ _))⟩))))
    go_roundg 1
    case measure => omega
    case rel => exact ⟨by simp, HR, HO, HI, HK, ⟨Ya HB.out _⟩⟩
  ·-- word 2
   cases b2 with
   | true =>
    have HW : Aside0 (wrap64 ((p : Int) + 4) = ((p + 4 : Nat) : Int)) := ⟨by have := HS.out; have := HN2.out rfl; unfold wrap64; omega⟩
    have hc1 := Yf HR.out
    have hf1 := zg HR.out 1
    have hi1 : wr.cell? ⟨b, 1, none⟩ = some (.int .i64 x.f1) := (zb HI.out 1).trans rfl
    have hif1 := zg HI.out 1
    have hix := ix136_2
    go_wp2_with ((go_at_call 64; (with_reducible refine (zh.calls (s.extract p s.size) (⟨#[116, 114, 117, 101]⟩ : ByteArray) _ _ (F2.out)).mono ?_); rintro e w' ⟨rfl, ⟨nd, rfl⟩⟩; (try first | exact ⟨rfl, _, xbf _ _ _⟩ | exact ⟨rfl, _, Eq.trans (xbf _ _ _) (congrArg (World.drewN _) (Zbi _ _ _))⟩)))
    repeat (go_quiet ((go_at_call 64; (with_reducible refine (zh.calls (s.extract p s.size) (⟨#[116, 114, 117, 101]⟩ : ByteArray) _ _ (F2.out)).mono ?_); rintro e w' ⟨rfl, ⟨nd, rfl⟩⟩; (try first | exact ⟨rfl, _, xbf _ _ _⟩ | exact ⟨rfl, _, Eq.trans (xbf _ _ _) (congrArg (World.drewN _) (Zbi _ _ _))⟩))); try go_wp2_with ((go_at_call 64; (with_reducible refine (zh.calls (s.extract p s.size) (⟨#[116, 114, 117, 101]⟩ : ByteArray) _ _ (F2.out)).mono ?_); rintro e w' ⟨rfl, ⟨nd, rfl⟩⟩; (try first | exact ⟨rfl, _, xbf _ _ _⟩ | exact ⟨rfl, _, Eq.trans (xbf _ _ _) (congrArg (World.drewN _) (Zbi _ _ _))⟩))))
    have HRa := Aside0.mk (zp (xS (W := wr.drewN nq) HR.out HW.out) (p := ⟨b, 1, none⟩) hne2 (.int .i64 3))
    have HIa : Aside0 (Itm (((wr.drewN nq).setCell ⟨g, 1, none⟩ (.int .i64 (wrap64 ((p : Int) + 4)))).setCell ⟨b, 1, none⟩ (.int .i64 3)) b (⟨x.f0, 3, x.f2, x.f3, x.f4⟩ : S40)) := ⟨zq (zp (w := wr.drewN nq) HI.out (p := ⟨g, 1, none⟩) hne1 _) 1 _⟩
    have HOa := Aside0.mk (Kd.R_far (Kd.R_far (w := wr.drewN nq) HO.out (p := ⟨g, 1, none⟩) (fun _ h => h.1) (.int .i64 (wrap64 ((p : Int) + 4)))) (p := ⟨b, 1, none⟩) (fun _ h => h.2) (.int .i64 3))
    have HKa := Aside0.mk (Yp (KeepBut.set_ (YI HK.out nq) 1 (.int .i64 (wrap64 ((p : Int) + 4)))) (p := ⟨b, 1, none⟩) HBG.out (.int .i64 3))
    have HBa := Aside0.mk (Yj (j := 1) (Yj (j := 1) (v := .int .i64 (wrap64 ((p : Int) + 4))) (Ya HB.out nq) HG.out) (v := .int .i64 3) (g := b) (Ybg HB0.out HBG.out))
    generalize ((wr.drewN nq).setCell ⟨g, 1, none⟩ (.int .i64 (wrap64 ((p : Int) + 4)))).setCell ⟨b, 1, none⟩ (.int .i64 3) = w1 at HRa HIa HOa HKa HBa ⊢
    clear hc0 hc1 hf1 hi1 hif1
    refine ZG (n := 11) (S := fun w' => w'.cell? ⟨g, 2, none⟩ = some v ∧ w'.heap[b]? = some (.cells #[.int .i64 ((⟨x.f0, 3, x.f2, x.f3, x.f4⟩ : S40)).f0, .int .i64 ((⟨x.f0, 3, x.f2, x.f3, x.f4⟩ : S40)).f1, .string ((⟨x.f0, 3, x.f2, x.f3, x.f4⟩ : S40)).f2, .string ((⟨x.f0, 3, x.f2, x.f3, x.f4⟩ : S40)).f3, .int .i64 ((⟨x.f0, 3, x.f2, x.f3, x.f4⟩ : S40)).f4] 40 (0, 0))) (ds := [7, 10]) #[false, false, false, false, false, false, false, false, false, false, false] (by kernel_rfl) rfl rfl ⟨Xr HRa.out, HIa.out⟩ (fun hHeld => ?_)
    refine pq 0 35 (v := ?_) (a' := ?_) #[true, false, false, false, false, false, false, false, false, false, false] rfl (by kernel_rfl) (.inl ⟨by rfl, ?_⟩) ?_ ?_
    rotate_left
    ·intro w'
     go_simp
     (try with_reducible rfl)
    rotate_left
    ·simp only [Act.put, qA, qB, qC]
     rfl
    refine pq 1 36 (v := ?_) (a' := ?_) #[true, true, false, false, false, false, false, false, false, false, false] rfl (by kernel_rfl) (.inl ⟨by rfl, ?_⟩) ?_ ?_
    rotate_left
    ·intro w'
     go_simp
     (try with_reducible rfl)
    rotate_left
    ·simp only [Act.put, qA, qB, qC]
     rfl
    refine pq 2 37 (v := ?_) (a' := ?_) #[true, true, true, false, false, false, false, false, false, false, false] rfl (by kernel_rfl) (.inl ⟨by rfl, ?_⟩) ?_ ?_
    rotate_left
    ·intro w'
     go_simp
     (try with_reducible rfl)
    rotate_left
    ·simp only [Act.put, qA, qB, qC]
     rfl
    refine pq 3 38 (v := ?_) (a' := ?_) #[true, true, true, true, false, false, false, false, false, false, false] rfl (by kernel_rfl) (.inl ⟨by rfl, ?_⟩) ?_ ?_
    rotate_left
    ·intro w'
     go_simp
     (try with_reducible rfl)
    rotate_left
    ·simp only [Act.put, qA, qB, qC]
     rfl
    refine tq 4 39 (v := ?_) (a' := ?_) #[true, true, true, true, true, false, false, false, false, false, false] rfl (by kernel_rfl) (.inl ⟨by rfl, ?_⟩) (by assumption) ?_ ?_
    rotate_left
    ·intro w hSw
     obtain ⟨hl0, hl1⟩ := hSw
     go_simp
     (try with_reducible rfl)
    rotate_left
    ·simp only [Act.put, qA, qB, qC]
     rfl
    refine tq 5 40 (v := ?_) (a' := ?_) #[true, true, true, true, true, true, false, false, false, false, false] rfl (by kernel_rfl) (.inl ⟨by rfl, ?_⟩) (by assumption) ?_ ?_
    rotate_left
    ·intro w hSw
     obtain ⟨hl0, hl1⟩ := hSw
     have hm0 : w.cell? ⟨b, 0, none⟩ = some (.int .i64 ((⟨x.f0, 3, x.f2, x.f3, x.f4⟩ : S40)).f0) := (zb hl1 0).trans rfl
     have hm1 : w.cell? ⟨b, 1, none⟩ = some (.int .i64 ((⟨x.f0, 3, x.f2, x.f3, x.f4⟩ : S40)).f1) := (zb hl1 1).trans rfl
     have hm2 : w.cell? ⟨b, 2, none⟩ = some (.string ((⟨x.f0, 3, x.f2, x.f3, x.f4⟩ : S40)).f2) := (zb hl1 2).trans rfl
     have hm3 : w.cell? ⟨b, 3, none⟩ = some (.string ((⟨x.f0, 3, x.f2, x.f3, x.f4⟩ : S40)).f3) := (zb hl1 3).trans rfl
     have hm4 : w.cell? ⟨b, 4, none⟩ = some (.int .i64 ((⟨x.f0, 3, x.f2, x.f3, x.f4⟩ : S40)).f4) := (zb hl1 4).trans rfl
     clear hl1
     go_simp
     (try with_reducible rfl)
    rotate_left
    ·simp only [Act.put, qA, qB, qC]
     rfl
    refine one_ (i := 6) (N := some 41) #[true, true, true, true, true, true, true, false, false, false, false] rfl rfl (by kernel_rfl) (by decide) (fun K hK => ?_)
    refine ZB (W := w1.drew) (v := .slice (some ⟨w1.heap.size, 0, none⟩) 1 1) (w1 := w1.drew.alloc (.cells #[.int .i64 ((⟨x.f0, 3, x.f2, x.f3, x.f4⟩ : S40)).f0, .int .i64 ((⟨x.f0, 3, x.f2, x.f3, x.f4⟩ : S40)).f1, .string ((⟨x.f0, 3, x.f2, x.f3, x.f4⟩ : S40)).f2, .string ((⟨x.f0, 3, x.f2, x.f3, x.f4⟩ : S40)).f3, .int .i64 ((⟨x.f0, 3, x.f2, x.f3, x.f4⟩ : S40)).f4] 40)) (by rfl) (by kernel_rfl) ?_
    refine hK.out _ _ ?_ (fun hHeld => ?_)
    ·exact ZI HRa.out HIa.out _
    clear hK K
    (try simp only [Act.put, qA, qB, qC])
    refine ZA (i := 7) (N := some 42) #[true, true, true, true, true, true, true, true, false, false, false] rfl rfl (by kernel_rfl) (by decide) (fun K hK => ?_)
    refine yD (.tmp 39) (.tmp 41) (by rfl) rfl rfl rfl HRa.out HIa.out HOa.out HBa.out HG.out HL.out ?_
    intro As N2 cc w2 hR2 hP2
    have hc2a := Xr hR2
    have hf2a := zg hR2 2
    have HPa := Aside0.mk hP2
    clear hR2 hP2
    refine hK.out _ _ ?_
    clear hK K
    (try simp only [Act.put, qA, qB, qC])
    refine pq 8 43 (v := ?_) (a' := ?_) #[true, true, true, true, true, true, true, true, true, false, false] rfl (by kernel_rfl) (.inl ⟨by rfl, ?_⟩) ?_ ?_
    rotate_left
    ·intro w'
     go_simp
     (try with_reducible rfl)
    rotate_left
    ·simp only [Act.put, qA, qB, qC]
     rfl
    refine pq 9 44 (v := ?_) (a' := ?_) #[true, true, true, true, true, true, true, true, true, true, false] rfl (by kernel_rfl) (.inl ⟨by rfl, ?_⟩) ?_ ?_
    rotate_left
    ·intro w'
     go_simp
     (try with_reducible rfl)
    rotate_left
    ·simp only [Act.put, qA, qB, qC]
     rfl
    refine ZA (i := 10) (N := none) #[true, true, true, true, true, true, true, true, true, true, true] rfl rfl (by kernel_rfl) (by decide) (fun K hK => ?_)
    go_simp
    refine hK.out _ _ ?_
    clear hK K
    (try simp only [Act.put, qA, qB, qC])
    refine xL (by kernel_rfl) ?_
    go_wp2_with fail
    go_ret
    exact ⟨rfl, Left.pre HKa.out HPa.out⟩
   | false =>
    subst hgk
    have hix := ix136_2
    go_wp2_with ((go_at_call 64; (with_reducible refine (zh.calls (s.extract p s.size) (⟨#[116, 114, 117, 101]⟩ : ByteArray) _ _ (F2.out)).mono ?_); rintro e w' ⟨rfl, ⟨nd, rfl⟩⟩; (try first | exact ⟨rfl, _, xbf _ _ _⟩ | exact ⟨rfl, _, Eq.trans (xbf _ _ _) (congrArg (World.drewN _) (Zbi _ _ _))⟩)))
    repeat (go_quiet ((go_at_call 64; (with_reducible refine (zh.calls (s.extract p s.size) (⟨#[116, 114, 117, 101]⟩ : ByteArray) _ _ (F2.out)).mono ?_); rintro e w' ⟨rfl, ⟨nd, rfl⟩⟩; (try first | exact ⟨rfl, _, xbf _ _ _⟩ | exact ⟨rfl, _, Eq.trans (xbf _ _ _) (congrArg (World.drewN _) (Zbi _ _ _))⟩))); try go_wp2_with ((go_at_call 64; (with_reducible refine (zh.calls (s.extract p s.size) (⟨#[116, 114, 117, 101]⟩ : ByteArray) _ _ (F2.out)).mono ?_); rintro e w' ⟨rfl, ⟨nd, rfl⟩⟩; (try first | exact ⟨rfl, _, xbf _ _ _⟩ | exact ⟨rfl, _, Eq.trans (xbf _ _ _) (congrArg (World.drewN _) (Zbi _ _ _))⟩))))
    go_roundg 0
    case measure => omega
    case rel => exact ⟨by simp, HR, HO, HI, HK, ⟨Ya HB.out _⟩⟩
  ·subst hgk
   go_wp2_with fail
   go_ret
   exact ⟨rfl, ⟨v, HR.out, Kd.R_mono HO.out (fun _ h => h.1), .inl rfl⟩, HB.out, zC HK.out⟩
end Go.Proofs.NGiv
