/- What the proof of JsonApart stands on, part 5: cut and merged by a program out of this session's texts. -/
import Derived.Test.YthhmmaihbjhhgaaDoorKP4
import Derived.Test.YthhmmaihbjhhgaaDoorProg
import Derived.Below
import Derived.Deep.Draws
import Derived.Deep.AppendLies
import Derived.Maps.AppendAt
import Derived.OwnWalk
import Derived.Laws.BytesArg
import Derived.Laws.MakeOwn
import Derived.Laws.OwnMore
import Derived.Deep.OwnRows
import Derived.Tactics
import Derived.Lib.ConvBytes
import Derived.Laws.Slices
import Derived.WalkKit
import Derived.KernelRfl
import Derived.RowKit3
import Derived.Deep.LoopGhost
import Derived.Deep.QuietTactic
import Derived.BigQuiet
import Derived.WideLaws
import Derived.Deep.DeepCutAuto
import Derived.Deep.CutBlock
import Derived.Deep.RegionHeld3
import Derived.Laws.Rows
import Derived.Lib.AppendStr
import Derived.ArgAppend
import Derived.Laws.IdiomCopy
import Derived.OrdersHeld
import Derived.Laws.BitsLemmas
import Derived.RowKit
set_option linter.unusedVariables false
set_option linter.unusedSimpArgs false
namespace Go.Proofs.YthhmmaihbjhhgaaDoor.Giv
open Go.RowKit Go.Proofs.YthhmmaihbjhhgaaDoorW.PrintWords Go.Proofs.YthhmmaihbjhhgaaDoorW.PrintLast Go.Proofs.YthhmmaihbjhhgaaDoorW.PrintMore
open Go.Proofs.YthhmmaihbjhhgaaDoor.U1 Go.Proofs.YthhmmaihbjhhgaaDoor.Q1 Go.Proofs.YthhmmaihbjhhgaaDoor.J0 Go.Proofs.YthhmmaihbjhhgaaDoor.J1
set_option linter.unusedSimpArgs false
theorem writeS_f (s : ByteArray) (h : 6 * s.size + 2 ≤ 140737488355328) : quote_Write.f s = some ((writeS s).1, (writeS s).2) := by unfold quote_Write.f; rw [if_pos h]
theorem inner6 (s : ByteArray) : (writeS s).1.data.toList.length ≤ 6 * s.size + 2 := by
  unfold writeS; split
  · show (quoted s.data.toList).length ≤ _
    have := inner_len s.data.toList
    rw [data_length] at this
    unfold quoted
    rw [List.length_append, List.length_cons, List.length_singleton]; omega
  · exact Nat.zero_le _
set_option maxHeartbeats 4000000 in
set_option maxRecDepth 100000 in
theorem quoted_calls (B g : Nat) (bs ends : List UInt8) (s : ByteArray) (W : World) (h : WS B g W bs ends) (hlen : bs.length + (6 * s.size + 2) ≤ 140737488355328) (hBw : B ≤ W.heap.size) (ht : Tabs W) :
    Calls Tryd.prog 72 #[.pointer (some ⟨g, 0, none⟩), .string s] W fun e w' => e = .returned (.tuple #[]) ∧ WS B g w' (bs ++ (writeS s).1.data.toList) ends ∧ Below B W w' ∧ WK g W w' := by
  have H := Aside0.mk h
  have HL := Aside0.mk hlen
  have HBw := Aside0.mk hBw
  have HT := Aside0.mk ht
  have H6 := Aside0.mk (inner6 s)
  clear h hlen hBw ht
  have HQ := Aside0.mk (writeS_f s (by have := HL.out; omega))
  obtain ⟨⟨r1, r2⟩, hr⟩ : ∃ r, writeS s = r := ⟨_, rfl⟩
  rw [hr] at HQ H6 ⊢
  clear hr
  simp only at HQ H6 ⊢
  go_enter Tryd.func72, Tryd.ntmps72
  go_wp2_with (first
    | (go_at_call 33; refine (quote_Write.calls s r1 r2 _ HQ.out HT.out).mono ?_; rintro e w1 ⟨rfl, hb1⟩; have HB1 := Aside0.mk hb1; have HS1 := Aside0.mk (H.out.quiet hb1); clear hb1)
    | (go_at_call 54; refine (ws_str B g bs ends r1 _ HS1.out (by have := HL.out; have h6 := H6.out; rw [data_length] at h6; omega) (Nat.le_trans HBw.out HB1.out.size)).mono ?_; rintro e w2 ⟨rfl, hS2, hB2, hK2⟩; have HS2 := Aside0.mk hS2; have HB2 := Aside0.mk hB2; have HK2 := Aside0.mk hK2; clear hS2 hB2 hK2))
  go_end0
  exact ⟨rfl, HS2.out, (HB1.out.mono HBw.out).trans HB2.out, (WK.of_below HB1.out).trans HK2.out⟩
/-- what an item is written as, or its beginning; what closes it -/
def valB (x : S59) : List UInt8 := if x.f1 = 1 then [110, 117, 108, 108] else if x.f1 = 2 then [102, 97, 108, 115, 101] else if x.f1 = 3 then [116, 114, 117, 101] else if x.f1 = 4 then Lib.itoa x.f4 else if x.f1 = 5 then (writeS x.f3).1.data.toList else if x.f1 = 6 then [91] else [123]
def endB (x : S59) : List UInt8 := if x.f1 = 6 then [93] else if x.f1 = 7 then [125] else []
/-- behind an append to what closes -/
theorem ws_push {B g : Nat} {W W1 : World} {p v ev ev1 : Value} {bs ends ends1 : List UInt8} (hp : p = .pointer none ∨ p = .pointer (some ⟨g, 0, none⟩)) (hB : B ≤ g) (hk : W.heap[g]? = some (.cells #[p, v, ev] 99 (0, 0))) (hv : Kd.R (Kd.int .u8) 5 W B (fun k => k ≠ g) v (toI bs)) (he : Kd.R (Kd.int .u8) 5 W B (fun k => k ≠ g ∧ some k ≠ v.ownBlock) ev (toI ends))
    (hO : Kd.R (Kd.int .u8) 5 W1 B (fun k => k ≠ g) ev1 (toI ends1)) (hG : W.grownBy W1 ev.ownBlock) (hA : ev1.ownBlock = ev.ownBlock ∨ ∃ b, ev1.ownBlock = some b ∧ W.heap.size ≤ b) :
    WS B g (W1.setCell ⟨g, 2, none⟩ ev1) bs ends1 ∧ WK g W (W1.setCell ⟨g, 2, none⟩ ev1) := by
  have hng : some g ≠ ev.ownBlock := fun e => (he.1 g e.symm).1 rfl
  have hk1 := blk_grown hk hG hng
  have hvl := Kd.R_lt hv
  have hv1 : Kd.R (Kd.int .u8) 5 W1 B (fun k => k ≠ g) v (toI bs) :=
    Kd.R_reok rfl (Kd.R_grown (Kd.R_tight rfl hv) hG (fun k e e2 => (he.1 k e2.symm).2 e)) hv.1
  have he1 : Kd.R (Kd.int .u8) 5 W1 B (fun k => k ≠ g ∧ some k ≠ v.ownBlock) ev1 (toI ends1) := by
    refine Kd.R_reok rfl hO (fun k e => ⟨hO.1 k e, fun e2 => ?_⟩)
    rcases hA with hA | ⟨b, hA, hb⟩
    · exact (he.1 k (hA ▸ e)).2 e2
    · rw [hA] at e
      injection e with e
      have := hvl k e2.symm
      omega
  exact ⟨⟨⟨p, v, ev1, hp, blk_set hk1 2 _, Kd.R_far hv1 (fun _ h => h) _, Kd.R_far he1 (fun _ h => h.1) _⟩, hB⟩, (WK.of_grown hG (fun k e => Kd.R_typed he k e)).set_ 2 _⟩
set_option maxHeartbeats 8000000 in
set_option maxRecDepth 100000 in
theorem value1 (B g : Nat) (bs ends : List UInt8) (x : S59) (W : World) (hk : x.f1 = 1) (h : WS B g W bs ends) (hlen : bs.length + ends.length + (6 * x.f3.size + 100) ≤ 140737488355328) (hBw : B ≤ W.heap.size) (hj : JTabs W) :
    Calls Tryd.prog 73 #[.pointer (some ⟨g, 0, none⟩), itemV x] W fun e w' => e = .returned (.tuple #[]) ∧ WS B g w' (bs ++ [110, 117, 108, 108]) (ends ++ []) ∧ Below B W w' ∧ WK g W w' := by
  have HB0 : Aside0 (Below W.heap.size W (W.alloc (.cells #[.int .i64 x.f0, .int .i64 x.f1, .string x.f2, .string x.f3, .int .i64 x.f4] 59))) := ⟨below_alloc (Below.refl _ _) _⟩
  have HS := Aside0.mk (h.quiet HB0.out)
  have HI : Aside0 (Itm (W.alloc (.cells #[.int .i64 x.f0, .int .i64 x.f1, .string x.f2, .string x.f3, .int .i64 x.f4] 59)) W.heap.size x) := ⟨heap_alloc_new _ _⟩
  have HL := Aside0.mk hlen
  have HBw := Aside0.mk hBw
  have JT := Aside0.mk (hj.step HB0.out)
  have c1 : (x.f1 == 1) = true := by rw [hk]; rfl
  have hng : W.heap.size ≠ g := by have := h.lt; omega
  clear h hlen hBw hj hk
  unfold itemV
  go_enter Tryd.func73, Tryd.ntmps73
  go_upto_block 0 with (fail)
  obtain ⟨b, hb⟩ : ∃ b, W.heap.size = b := ⟨_, rfl⟩
  have HNG := Aside0.mk hng
  have HBS := Aside0.mk hb
  rw [hb] at HI
  rw [hb]
  clear hb hng
  generalize W.alloc (.cells #[.int .i64 x.f0, .int .i64 x.f1, .string x.f2, .string x.f3, .int .i64 x.f4] 59) = w1 at HB0 HS HI JT ⊢
  obtain ⟨hm0, hm1, hm2, hm3, hm4⟩ := itm_cells HI.out
  go_wp2_with (go_at_call 54; refine (ws_str B g bs ends ⟨#[110, 117, 108, 108]⟩ _ HS.out (by have := HL.out; show _ + 4 ≤ _; omega) (Nat.le_trans HBw.out HB0.out.size)).mono ?_; rintro e w2 ⟨rfl, hS2, hB2, hK2⟩; have HS2 := Aside0.mk hS2; have HB2 := Aside0.mk hB2; have HK2 := Aside0.mk hK2; clear hS2 hB2 hK2)
  go_end0
  exact ⟨rfl, by rw [List.append_nil]; exact HS2.out, (HB0.out.mono HBw.out).trans HB2.out, (WK.of_below HB0.out).trans HK2.out⟩
set_option maxHeartbeats 8000000 in
set_option maxRecDepth 100000 in
theorem value2 (B g : Nat) (bs ends : List UInt8) (x : S59) (W : World) (hk : x.f1 = 2) (h : WS B g W bs ends) (hlen : bs.length + ends.length + (6 * x.f3.size + 100) ≤ 140737488355328) (hBw : B ≤ W.heap.size) (hj : JTabs W) :
    Calls Tryd.prog 73 #[.pointer (some ⟨g, 0, none⟩), itemV x] W fun e w' => e = .returned (.tuple #[]) ∧ WS B g w' (bs ++ [102, 97, 108, 115, 101]) (ends ++ []) ∧ Below B W w' ∧ WK g W w' := by
  have HB0 : Aside0 (Below W.heap.size W (W.alloc (.cells #[.int .i64 x.f0, .int .i64 x.f1, .string x.f2, .string x.f3, .int .i64 x.f4] 59))) := ⟨below_alloc (Below.refl _ _) _⟩
  have HS := Aside0.mk (h.quiet HB0.out)
  have HI : Aside0 (Itm (W.alloc (.cells #[.int .i64 x.f0, .int .i64 x.f1, .string x.f2, .string x.f3, .int .i64 x.f4] 59)) W.heap.size x) := ⟨heap_alloc_new _ _⟩
  have HL := Aside0.mk hlen
  have HBw := Aside0.mk hBw
  have JT := Aside0.mk (hj.step HB0.out)
  have c1 : (x.f1 == 1) = false := by rw [hk]; rfl
  have c2 : (x.f1 == 2) = true := by rw [hk]; rfl
  have hng : W.heap.size ≠ g := by have := h.lt; omega
  clear h hlen hBw hj hk
  unfold itemV
  go_enter Tryd.func73, Tryd.ntmps73
  go_upto_block 0 with (fail)
  obtain ⟨b, hb⟩ : ∃ b, W.heap.size = b := ⟨_, rfl⟩
  have HNG := Aside0.mk hng
  have HBS := Aside0.mk hb
  rw [hb] at HI
  rw [hb]
  clear hb hng
  generalize W.alloc (.cells #[.int .i64 x.f0, .int .i64 x.f1, .string x.f2, .string x.f3, .int .i64 x.f4] 59) = w1 at HB0 HS HI JT ⊢
  obtain ⟨hm0, hm1, hm2, hm3, hm4⟩ := itm_cells HI.out
  go_wp2_with (go_at_call 54; refine (ws_str B g bs ends ⟨#[102, 97, 108, 115, 101]⟩ _ HS.out (by have := HL.out; show _ + 5 ≤ _; omega) (Nat.le_trans HBw.out HB0.out.size)).mono ?_; rintro e w2 ⟨rfl, hS2, hB2, hK2⟩; have HS2 := Aside0.mk hS2; have HB2 := Aside0.mk hB2; have HK2 := Aside0.mk hK2; clear hS2 hB2 hK2)
  go_end0
  exact ⟨rfl, by rw [List.append_nil]; exact HS2.out, (HB0.out.mono HBw.out).trans HB2.out, (WK.of_below HB0.out).trans HK2.out⟩
set_option maxHeartbeats 8000000 in
set_option maxRecDepth 100000 in
theorem value3 (B g : Nat) (bs ends : List UInt8) (x : S59) (W : World) (hk : x.f1 = 3) (h : WS B g W bs ends) (hlen : bs.length + ends.length + (6 * x.f3.size + 100) ≤ 140737488355328) (hBw : B ≤ W.heap.size) (hj : JTabs W) :
    Calls Tryd.prog 73 #[.pointer (some ⟨g, 0, none⟩), itemV x] W fun e w' => e = .returned (.tuple #[]) ∧ WS B g w' (bs ++ [116, 114, 117, 101]) (ends ++ []) ∧ Below B W w' ∧ WK g W w' := by
  have HB0 : Aside0 (Below W.heap.size W (W.alloc (.cells #[.int .i64 x.f0, .int .i64 x.f1, .string x.f2, .string x.f3, .int .i64 x.f4] 59))) := ⟨below_alloc (Below.refl _ _) _⟩
  have HS := Aside0.mk (h.quiet HB0.out)
  have HI : Aside0 (Itm (W.alloc (.cells #[.int .i64 x.f0, .int .i64 x.f1, .string x.f2, .string x.f3, .int .i64 x.f4] 59)) W.heap.size x) := ⟨heap_alloc_new _ _⟩
  have HL := Aside0.mk hlen
  have HBw := Aside0.mk hBw
  have JT := Aside0.mk (hj.step HB0.out)
  have c1 : (x.f1 == 1) = false := by rw [hk]; rfl
  have c2 : (x.f1 == 2) = false := by rw [hk]; rfl
  have c3 : (x.f1 == 3) = true := by rw [hk]; rfl
  have hng : W.heap.size ≠ g := by have := h.lt; omega
  clear h hlen hBw hj hk
  unfold itemV
  go_enter Tryd.func73, Tryd.ntmps73
  go_upto_block 0 with (fail)
  obtain ⟨b, hb⟩ : ∃ b, W.heap.size = b := ⟨_, rfl⟩
  have HNG := Aside0.mk hng
  have HBS := Aside0.mk hb
  rw [hb] at HI
  rw [hb]
  clear hb hng
  generalize W.alloc (.cells #[.int .i64 x.f0, .int .i64 x.f1, .string x.f2, .string x.f3, .int .i64 x.f4] 59) = w1 at HB0 HS HI JT ⊢
  obtain ⟨hm0, hm1, hm2, hm3, hm4⟩ := itm_cells HI.out
  go_wp2_with (go_at_call 54; refine (ws_str B g bs ends ⟨#[116, 114, 117, 101]⟩ _ HS.out (by have := HL.out; show _ + 4 ≤ _; omega) (Nat.le_trans HBw.out HB0.out.size)).mono ?_; rintro e w2 ⟨rfl, hS2, hB2, hK2⟩; have HS2 := Aside0.mk hS2; have HB2 := Aside0.mk hB2; have HK2 := Aside0.mk hK2; clear hS2 hB2 hK2)
  go_end0
  exact ⟨rfl, by rw [List.append_nil]; exact HS2.out, (HB0.out.mono HBw.out).trans HB2.out, (WK.of_below HB0.out).trans HK2.out⟩
set_option maxHeartbeats 8000000 in
set_option maxRecDepth 100000 in
theorem value5 (B g : Nat) (bs ends : List UInt8) (x : S59) (W : World) (hk : x.f1 = 5) (h : WS B g W bs ends) (hlen : bs.length + ends.length + (6 * x.f3.size + 100) ≤ 140737488355328) (hBw : B ≤ W.heap.size) (hj : JTabs W) :
    Calls Tryd.prog 73 #[.pointer (some ⟨g, 0, none⟩), itemV x] W fun e w' => e = .returned (.tuple #[]) ∧ WS B g w' (bs ++ (writeS x.f3).1.data.toList) (ends ++ []) ∧ Below B W w' ∧ WK g W w' := by
  have HB0 : Aside0 (Below W.heap.size W (W.alloc (.cells #[.int .i64 x.f0, .int .i64 x.f1, .string x.f2, .string x.f3, .int .i64 x.f4] 59))) := ⟨below_alloc (Below.refl _ _) _⟩
  have HS := Aside0.mk (h.quiet HB0.out)
  have HI : Aside0 (Itm (W.alloc (.cells #[.int .i64 x.f0, .int .i64 x.f1, .string x.f2, .string x.f3, .int .i64 x.f4] 59)) W.heap.size x) := ⟨heap_alloc_new _ _⟩
  have HL := Aside0.mk hlen
  have HBw := Aside0.mk hBw
  have JT := Aside0.mk (hj.step HB0.out)
  have c1 : (x.f1 == 1) = false := by rw [hk]; rfl
  have c2 : (x.f1 == 2) = false := by rw [hk]; rfl
  have c3 : (x.f1 == 3) = false := by rw [hk]; rfl
  have c4 : (x.f1 == 4) = false := by rw [hk]; rfl
  have c5 : (x.f1 == 5) = true := by rw [hk]; rfl
  have hng : W.heap.size ≠ g := by have := h.lt; omega
  clear h hlen hBw hj hk
  unfold itemV
  go_enter Tryd.func73, Tryd.ntmps73
  go_upto_block 0 with (fail)
  obtain ⟨b, hb⟩ : ∃ b, W.heap.size = b := ⟨_, rfl⟩
  have HNG := Aside0.mk hng
  have HBS := Aside0.mk hb
  rw [hb] at HI
  rw [hb]
  clear hb hng
  generalize W.alloc (.cells #[.int .i64 x.f0, .int .i64 x.f1, .string x.f2, .string x.f3, .int .i64 x.f4] 59) = w1 at HB0 HS HI JT ⊢
  obtain ⟨hm0, hm1, hm2, hm3, hm4⟩ := itm_cells HI.out
  go_wp2_with (go_at_call 72; refine (quoted_calls B g bs ends x.f3 _ HS.out (by have := HL.out; omega) (Nat.le_trans HBw.out HB0.out.size) JT.out.tabs).mono ?_; rintro e w2 ⟨rfl, hS2, hB2, hK2⟩; have HS2 := Aside0.mk hS2; have HB2 := Aside0.mk hB2; have HK2 := Aside0.mk hK2; clear hS2 hB2 hK2)
  go_end0
  exact ⟨rfl, by rw [List.append_nil]; exact HS2.out, (HB0.out.mono HBw.out).trans HB2.out, (WK.of_below HB0.out).trans HK2.out⟩
set_option maxHeartbeats 8000000 in
set_option maxRecDepth 100000 in
theorem value6 (B g : Nat) (bs ends : List UInt8) (x : S59) (W : World) (hk : x.f1 = 6) (h : WS B g W bs ends) (hlen : bs.length + ends.length + (6 * x.f3.size + 100) ≤ 140737488355328) (hBw : B ≤ W.heap.size) (hj : JTabs W) :
    Calls Tryd.prog 73 #[.pointer (some ⟨g, 0, none⟩), itemV x] W fun e w' => e = .returned (.tuple #[]) ∧ WS B g w' (bs ++ [91]) (ends ++ [93]) ∧ Below B W w' ∧ WK g W w' := by
  have HB0 : Aside0 (Below W.heap.size W (W.alloc (.cells #[.int .i64 x.f0, .int .i64 x.f1, .string x.f2, .string x.f3, .int .i64 x.f4] 59))) := ⟨below_alloc (Below.refl _ _) _⟩
  have HS := Aside0.mk (h.quiet HB0.out)
  have HI : Aside0 (Itm (W.alloc (.cells #[.int .i64 x.f0, .int .i64 x.f1, .string x.f2, .string x.f3, .int .i64 x.f4] 59)) W.heap.size x) := ⟨heap_alloc_new _ _⟩
  have HL := Aside0.mk hlen
  have HBw := Aside0.mk hBw
  have JT := Aside0.mk (hj.step HB0.out)
  have c1 : (x.f1 == 1) = false := by rw [hk]; rfl
  have c2 : (x.f1 == 2) = false := by rw [hk]; rfl
  have c3 : (x.f1 == 3) = false := by rw [hk]; rfl
  have c4 : (x.f1 == 4) = false := by rw [hk]; rfl
  have c5 : (x.f1 == 5) = false := by rw [hk]; rfl
  have c6 : (x.f1 == 6) = true := by rw [hk]; rfl
  have hng : W.heap.size ≠ g := by have := h.lt; omega
  clear h hlen hBw hj hk
  unfold itemV
  go_enter Tryd.func73, Tryd.ntmps73
  go_upto_block 0 with (fail)
  obtain ⟨b, hb⟩ : ∃ b, W.heap.size = b := ⟨_, rfl⟩
  have HNG := Aside0.mk hng
  have HBS := Aside0.mk hb
  rw [hb] at HI
  rw [hb]
  clear hb hng
  generalize W.alloc (.cells #[.int .i64 x.f0, .int .i64 x.f1, .string x.f2, .string x.f3, .int .i64 x.f4] 59) = w1 at HB0 HS HI JT ⊢
  obtain ⟨hm0, hm1, hm2, hm3, hm4⟩ := itm_cells HI.out
  go_wp2_with (first
    | (go_at_call 57; refine (ws_byte B g bs ends 91 _ HS.out (by have := HL.out; omega) (Nat.le_trans HBw.out HB0.out.size)).mono ?_; rintro e w2 ⟨rfl, hS2, hB2, hK2⟩; obtain ⟨⟨p, v, ev, hp, hk, hv, he⟩, hBg⟩ := hS2; have c2 : w2.cell? ⟨g, 2, none⟩ = some ev := (blk_cell hk 2).trans rfl; have HP := Aside0.mk hp; have HKG := Aside0.mk hk; have HV := Aside0.mk hv; have HE := Aside0.mk he; have HBG := Aside0.mk hBg; have HB2 := Aside0.mk hB2; have HK2 := Aside0.mk hK2; clear hp hk hv he hBg hB2 hK2)
    | (at_builtin; refine Kd.R_append (Kd.int .u8) (w0 := w1) (W := w2) B rfl (.tmp 49) (.tmp 50) 43 5 (.int .u8 0) 1 rfl Tryd.underlying43 info5 rfl (by decide) (by decide) ev (toI ends) 93 [.int .u8 93] (fun k => k ≠ g) (fun _ => False) rfl rfl rfl (fun _ h => h.elim) (fun k hk => by have := blk_lt HKG.out; omega) (Kd.R_mono HE.out (fun _ h => h.1)) HB2.out (Nat.le_trans HBw.out (Nat.le_trans HB0.out.size HB2.out.size)) (by rw [toI_len]; have := HL.out; omega) ?_; intro v3 w3 hO3 hB3 hG3 hA3; have HW := Aside0.mk (ws_push (ends1 := ends ++ [93]) HP.out HBG.out HKG.out HV.out HE.out (by rw [toI_app]; exact hO3) hG3 hA3); have HB3 := Aside0.mk hB3; have hk3 := blk_grown HKG.out hG3 (fun e => (HE.out.1 g e.symm).1 rfl); have d2 : w3.cell? ⟨g, 2, none⟩ = some ev := (blk_cell hk3 2).trans rfl; have f2 : w3.frozen? ⟨g, 2, none⟩ = false := blk_frozen hk3 2; obtain ⟨As, n2, cc, hv3⟩ := own_slice (Kd.own_of_R hO3); subst hv3; clear hO3 hB3 hG3 hA3 hk3))
  go_end0
  exact ⟨rfl, HW.out.1, ((HB0.out.mono HBw.out).trans HB3.out).setCell (p := ⟨g, 2, none⟩) HBG.out _, ((WK.of_below HB0.out).trans HK2.out).trans HW.out.2⟩
set_option maxHeartbeats 8000000 in
set_option maxRecDepth 100000 in
theorem value7 (B g : Nat) (bs ends : List UInt8) (x : S59) (W : World) (hk : x.f1 = 7) (h : WS B g W bs ends) (hlen : bs.length + ends.length + (6 * x.f3.size + 100) ≤ 140737488355328) (hBw : B ≤ W.heap.size) (hj : JTabs W) :
    Calls Tryd.prog 73 #[.pointer (some ⟨g, 0, none⟩), itemV x] W fun e w' => e = .returned (.tuple #[]) ∧ WS B g w' (bs ++ [123]) (ends ++ [125]) ∧ Below B W w' ∧ WK g W w' := by
  have HB0 : Aside0 (Below W.heap.size W (W.alloc (.cells #[.int .i64 x.f0, .int .i64 x.f1, .string x.f2, .string x.f3, .int .i64 x.f4] 59))) := ⟨below_alloc (Below.refl _ _) _⟩
  have HS := Aside0.mk (h.quiet HB0.out)
  have HI : Aside0 (Itm (W.alloc (.cells #[.int .i64 x.f0, .int .i64 x.f1, .string x.f2, .string x.f3, .int .i64 x.f4] 59)) W.heap.size x) := ⟨heap_alloc_new _ _⟩
  have HL := Aside0.mk hlen
  have HBw := Aside0.mk hBw
  have JT := Aside0.mk (hj.step HB0.out)
  have c1 : (x.f1 == 1) = false := by rw [hk]; rfl
  have c2 : (x.f1 == 2) = false := by rw [hk]; rfl
  have c3 : (x.f1 == 3) = false := by rw [hk]; rfl
  have c4 : (x.f1 == 4) = false := by rw [hk]; rfl
  have c5 : (x.f1 == 5) = false := by rw [hk]; rfl
  have c6 : (x.f1 == 6) = false := by rw [hk]; rfl
  have c7 : (x.f1 == 7) = true := by rw [hk]; rfl
  have hng : W.heap.size ≠ g := by have := h.lt; omega
  clear h hlen hBw hj hk
  unfold itemV
  go_enter Tryd.func73, Tryd.ntmps73
  go_upto_block 0 with (fail)
  obtain ⟨b, hb⟩ : ∃ b, W.heap.size = b := ⟨_, rfl⟩
  have HNG := Aside0.mk hng
  have HBS := Aside0.mk hb
  rw [hb] at HI
  rw [hb]
  clear hb hng
  generalize W.alloc (.cells #[.int .i64 x.f0, .int .i64 x.f1, .string x.f2, .string x.f3, .int .i64 x.f4] 59) = w1 at HB0 HS HI JT ⊢
  obtain ⟨hm0, hm1, hm2, hm3, hm4⟩ := itm_cells HI.out
  go_wp2_with (first
    | (go_at_call 57; refine (ws_byte B g bs ends 123 _ HS.out (by have := HL.out; omega) (Nat.le_trans HBw.out HB0.out.size)).mono ?_; rintro e w2 ⟨rfl, hS2, hB2, hK2⟩; obtain ⟨⟨p, v, ev, hp, hk, hv, he⟩, hBg⟩ := hS2; have c2 : w2.cell? ⟨g, 2, none⟩ = some ev := (blk_cell hk 2).trans rfl; have HP := Aside0.mk hp; have HKG := Aside0.mk hk; have HV := Aside0.mk hv; have HE := Aside0.mk he; have HBG := Aside0.mk hBg; have HB2 := Aside0.mk hB2; have HK2 := Aside0.mk hK2; clear hp hk hv he hBg hB2 hK2)
    | (at_builtin; refine Kd.R_append (Kd.int .u8) (w0 := w1) (W := w2) B rfl (.tmp 64) (.tmp 65) 43 5 (.int .u8 0) 1 rfl Tryd.underlying43 info5 rfl (by decide) (by decide) ev (toI ends) 125 [.int .u8 125] (fun k => k ≠ g) (fun _ => False) rfl rfl rfl (fun _ h => h.elim) (fun k hk => by have := blk_lt HKG.out; omega) (Kd.R_mono HE.out (fun _ h => h.1)) HB2.out (Nat.le_trans HBw.out (Nat.le_trans HB0.out.size HB2.out.size)) (by rw [toI_len]; have := HL.out; omega) ?_; intro v3 w3 hO3 hB3 hG3 hA3; have HW := Aside0.mk (ws_push (ends1 := ends ++ [125]) HP.out HBG.out HKG.out HV.out HE.out (by rw [toI_app]; exact hO3) hG3 hA3); have HB3 := Aside0.mk hB3; have hk3 := blk_grown HKG.out hG3 (fun e => (HE.out.1 g e.symm).1 rfl); have d2 : w3.cell? ⟨g, 2, none⟩ = some ev := (blk_cell hk3 2).trans rfl; have f2 : w3.frozen? ⟨g, 2, none⟩ = false := blk_frozen hk3 2; obtain ⟨As, n2, cc, hv3⟩ := own_slice (Kd.own_of_R hO3); subst hv3; clear hO3 hB3 hG3 hA3 hk3))
  go_end0
  exact ⟨rfl, HW.out.1, ((HB0.out.mono HBw.out).trans HB3.out).setCell (p := ⟨g, 2, none⟩) HBG.out _, ((WK.of_below HB0.out).trans HK2.out).trans HW.out.2⟩
set_option maxHeartbeats 8000000 in
set_option maxRecDepth 100000 in
theorem value4 (B g : Nat) (bs ends : List UInt8) (x : S59) (W : World) (hk : x.f1 = 4) (h : WS B g W bs ends) (hlen : bs.length + ends.length + (6 * x.f3.size + 100) ≤ 140737488355328) (hBw : B ≤ W.heap.size) (hj : JTabs W) (hn : -9223372036854775808 ≤ x.f4 ∧ x.f4 ≤ 9223372036854775807) :
    Calls Tryd.prog 73 #[.pointer (some ⟨g, 0, none⟩), itemV x] W fun e w' => e = .returned (.tuple #[]) ∧ WS B g w' (bs ++ Lib.itoa x.f4) (ends ++ []) ∧ Below B W w' ∧ WK g W w' := by
  have HB0 : Aside0 (Below W.heap.size W (W.alloc (.cells #[.int .i64 x.f0, .int .i64 x.f1, .string x.f2, .string x.f3, .int .i64 x.f4] 59))) := ⟨below_alloc (Below.refl _ _) _⟩
  have HS := Aside0.mk (h.quiet HB0.out)
  have HI : Aside0 (Itm (W.alloc (.cells #[.int .i64 x.f0, .int .i64 x.f1, .string x.f2, .string x.f3, .int .i64 x.f4] 59)) W.heap.size x) := ⟨heap_alloc_new _ _⟩
  have HL := Aside0.mk hlen
  have HBw := Aside0.mk hBw
  have JT := Aside0.mk (hj.step HB0.out)
  have c1 : (x.f1 == 1) = false := by rw [hk]; rfl
  have c2 : (x.f1 == 2) = false := by rw [hk]; rfl
  have c3 : (x.f1 == 3) = false := by rw [hk]; rfl
  have c4 : (x.f1 == 4) = true := by rw [hk]; rfl
  have hng : W.heap.size ≠ g := by have := h.lt; omega
  have HN := Aside0.mk hn
  clear h hlen hBw hj hk hn
  unfold itemV
  go_enter Tryd.func73, Tryd.ntmps73
  go_upto_block 0 with (fail)
  obtain ⟨b, hb⟩ : ∃ b, W.heap.size = b := ⟨_, rfl⟩
  have HNG := Aside0.mk hng
  have HBS := Aside0.mk hb
  rw [hb] at HI
  rw [hb]
  clear hb hng
  generalize W.alloc (.cells #[.int .i64 x.f0, .int .i64 x.f1, .string x.f2, .string x.f3, .int .i64 x.f4] 59) = w1 at HB0 HS HI JT ⊢
  obtain ⟨hm0, hm1, hm2, hm3, hm4⟩ := itm_cells HI.out
  go_wp2_with fail
  refine start_ (n := 7) (S := fun w' => Itm w' b x ∧ WS B g w' bs ends) (ds := [6]) #[false, false, false, false, false, false, false] (by kernel_rfl) rfl rfl ⟨HI.out, HS.out.drew1⟩ (fun hHeld => ?_)
  refine pure_ (i := 0) (N := some 26) (v := ?_) (a' := ?_) #[true, false, false, false, false, false, false] rfl rfl (by kernel_rfl) (fun _ _ _ h => h) (Or.inl ⟨by rfl, ?_⟩) ?_ ?_
  rotate_left
  · intro w'
    go_simp
    (try with_reducible rfl)
  rotate_left
  · simp only [Act.put, List.setIfInBounds_toArray, List.set_cons_zero, List.set_cons_succ]
    rfl
  refine pure_ (i := 1) (N := some 27) (v := ?_) (a' := ?_) #[true, true, false, false, false, false, false] rfl rfl (by kernel_rfl) (fun _ _ _ h => h) (Or.inl ⟨by rfl, ?_⟩) ?_ ?_
  rotate_left
  · intro w'
    go_simp
    (try with_reducible rfl)
  rotate_left
  · simp only [Act.put, List.setIfInBounds_toArray, List.set_cons_zero, List.set_cons_succ]
    rfl
  refine pure_ (i := 2) (N := some 28) (v := ?_) (a' := ?_) #[true, true, true, false, false, false, false] rfl rfl (by kernel_rfl) (fun _ _ _ h => h) (Or.inl ⟨by rfl, ?_⟩) ?_ ?_
  rotate_left
  · intro w'
    go_simp
    (try with_reducible rfl)
  rotate_left
  · simp only [Act.put, List.setIfInBounds_toArray, List.set_cons_zero, List.set_cons_succ]
    rfl
  refine pure_ (i := 3) (N := some 29) (v := ?_) (a' := ?_) #[true, true, true, true, false, false, false] rfl rfl (by kernel_rfl) (fun _ _ _ h => h) (Or.inl ⟨by rfl, ?_⟩) ?_ ?_
  rotate_left
  · intro w'
    go_simp
    (try with_reducible rfl)
  rotate_left
  · simp only [Act.put, List.setIfInBounds_toArray, List.set_cons_zero, List.set_cons_succ]
    rfl
  refine take_ (i := 4) (N := some 30) (v := ?_) (a' := ?_) #[true, true, true, true, true, false, false] rfl rfl (by kernel_rfl) (fun _ _ _ h => h) (Or.inl ⟨by rfl, ?_⟩) (by assumption) ?_ ?_
  rotate_left
  · intro w hSw
    obtain ⟨hl0, hl1⟩ := hSw
    have hm4 := (itm_cells hl0).2.2.2.2
    clear hl0 hl1
    go_simp
    (try with_reducible rfl)
  rotate_left
  · simp only [Act.put, List.setIfInBounds_toArray, List.set_cons_zero, List.set_cons_succ]
    rfl
  refine one_ (i := 5) (N := some 31) #[true, true, true, true, true, true, false] rfl rfl (by kernel_rfl) (by decide) (fun K hK => ?_)
  go_simp
  (go_at_call 91; refine (print_calls x.f4 HN.out.1 HN.out.2 _ (JT.out.step (below_drew1 (Below.refl _ _)))).mono ?_; rintro e w3 ⟨rfl, hb3⟩; have HB3 := Aside0.mk hb3); go_wp2_with fail
  refine hK.out _ _ ?_ (fun hHeld => ?_)
  · exact ⟨itm_below hHeld.1 HB3.out, hHeld.2.quiet HB3.out⟩
  clear hK K
  (try simp only [Act.put, List.setIfInBounds_toArray, List.set_cons_zero, List.set_cons_succ])
  refine last_ (i := 6) (N := some 32) #[true, true, true, true, true, true, true] rfl rfl (by kernel_rfl) (by decide) (fun K hK => ?_)
  go_simp
  have HE := Aside0.mk hHeld
  (go_at_call 54; refine (ws_str B g bs ends (itoaS x.f4) _ HE.out.2 (by have := HL.out; have h1 := itoa_len x.f4 HN.out; show _ + (Lib.itoa x.f4).toArray.size ≤ _; rw [List.size_toArray]; omega) (Nat.le_trans HBw.out (Nat.le_trans HB0.out.size (show w1.heap.size ≤ _ from HB3.out.size)))).mono ?_; rintro e w2 ⟨rfl, hS2, hB2, hK2⟩); go_wp2_with fail
  have HS2 := Aside0.mk hS2
  have HB2 := Aside0.mk hB2
  have HK2 := Aside0.mk hK2
  clear hS2 hB2 hK2 hHeld
  refine hK.out _ _ ?_
  clear hK K
  (try simp only [Act.put, List.setIfInBounds_toArray, List.set_cons_zero, List.set_cons_succ])
  refine done_ (by kernel_rfl) ?_
  go_wp2_with fail
  go_end0
  have hd : Below w1.heap.size w1 w3 := (below_drew1 (Below.refl _ _)).trans HB3.out
  exact ⟨rfl, by rw [List.append_nil]; exact HS2.out, ((HB0.out.mono HBw.out).trans (hd.mono (Nat.le_trans HBw.out HB0.out.size))).trans HB2.out, ((WK.of_below HB0.out).trans (WK.of_below hd)).trans HK2.out⟩
theorem value_calls_w (B g : Nat) (bs ends : List UInt8) (x : S59) (W : World) (hk : 1 ≤ x.f1 ∧ x.f1 ≤ 7) (h : WS B g W bs ends) (hlen : bs.length + ends.length + (6 * x.f3.size + 100) ≤ 140737488355328) (hBw : B ≤ W.heap.size) (hj : JTabs W) (hn : -9223372036854775808 ≤ x.f4 ∧ x.f4 ≤ 9223372036854775807) :
    Calls Tryd.prog 73 #[.pointer (some ⟨g, 0, none⟩), itemV x] W fun e w' => e = .returned (.tuple #[]) ∧ WS B g w' (bs ++ valB x) (ends ++ endB x) ∧ Below B W w' ∧ WK g W w' := by
  unfold valB endB
  have : x.f1 = 1 ∨ x.f1 = 2 ∨ x.f1 = 3 ∨ x.f1 = 4 ∨ x.f1 = 5 ∨ x.f1 = 6 ∨ x.f1 = 7 := by omega
  rcases this with k | k | k | k | k | k | k
  · simp only [k, if_true]; exact value1 B g bs ends x W k h hlen hBw hj
  · simp only [k]; exact value2 B g bs ends x W k h hlen hBw hj
  · simp only [k]; exact value3 B g bs ends x W k h hlen hBw hj
  · simp only [k]; exact value4 B g bs ends x W k h hlen hBw hj hn
  · simp only [k]; exact value5 B g bs ends x W k h hlen hBw hj
  · simp only [k]; exact value6 B g bs ends x W k h hlen hBw hj
  · simp only [k]; exact value7 B g bs ends x W k h hlen hBw hj
end Go.Proofs.YthhmmaihbjhhgaaDoor.Giv
namespace Go.Proofs.YthhmmaihbjhhgaaDoor.Giv
open Go.RowKit Go.Proofs.YthhmmaihbjhhgaaDoorW.PrintWords Go.Proofs.YthhmmaihbjhhgaaDoorW.PrintLast Go.Proofs.YthhmmaihbjhhgaaDoorW.PrintMore
open Go.Proofs.YthhmmaihbjhhgaaDoor.U1 Go.Proofs.YthhmmaihbjhhgaaDoor.Q1 Go.Proofs.YthhmmaihbjhhgaaDoor.J0 Go.Proofs.YthhmmaihbjhhgaaDoor.J1
set_option linter.unusedSimpArgs false
def json_Right.f (l : List S59) : Option Bool := if l.length * 56 ≤ 140737488355328 then (rightF true [(6, [])] l).map (fun r => r && decide (0 < l.length)) else none
theorem json_Right.calls (A : Option Addr) (c : Nat) (l : List S59) (r : Bool) (w : World) (hC : Kd.C k59 w A l.length l) (hc : l.length ≤ c) (h : json_Right.f l = some r) (ht : Tabs w := by first | assumption | (refine Tabs.step (by assumption) ?_; repeat (first | exact Aside0.out (by assumption) | apply below_alloc | apply pw_below_drewN | apply below_drew1 | exact Below.refl _ _))) :
    Calls Tryd.prog 42 #[.slice A l.length c] w fun e w' => e = .returned (.bool r) ∧ Below w.heap.size w w' := by
  unfold json_Right.f at h
  by_cases hl : l.length * 56 ≤ 140737488355328
  · rw [if_pos hl] at h
    obtain ⟨q, hq, rfl⟩ := Option.map_eq_some_iff.1 h
    exact right_walk w A c l q hC hc hl ht hq
  · rw [if_neg hl] at h; cases h
/-- a comma? what the item ahead has as its depth (none: there is none) -/
def commaB (prev : Option Int) (d : Int) : List UInt8 := match prev with | none => [] | some p => if d ≤ p then [44] else []
/-- an object's member's key -/
def keyB (ends : List UInt8) (key : ByteArray) : List UInt8 := if ends.getLast? = some 125 then (writeS key).1.data.toList ++ [58] else []
def sizeI (x : S59) : Nat := 6 * x.f2.size + 6 * x.f3.size + 200
/-- Print, as it goes -/
def printF : Option Int → List UInt8 → List UInt8 → List S59 → Option (List UInt8)
  | _, bs, ends, [] => some (bs ++ ends.reverse)
  | prev, bs, ends, x :: l => if 0 ≤ x.f0 ∧ x.f0 ≤ ends.length ∧ 1 ≤ x.f1 ∧ x.f1 ≤ 7 ∧ (-9223372036854775808 ≤ x.f4 ∧ x.f4 ≤ 9223372036854775807) ∧ bs.length + ends.length + sizeI x ≤ 140737488355328 then
      printF (some x.f0) (bs ++ (ends.drop x.f0.toNat).reverse ++ commaB prev x.f0 ++ keyB (ends.take x.f0.toNat) x.f2 ++ valB x) (ends.take x.f0.toNat ++ endB x) l else none
def prevD (l : List S59) (j : Nat) : Option Int := if j = 0 then none else some (rd_T59 l ((j - 1 : Nat) : Int)).f0
theorem prevD_succ (l : List S59) (j : Nat) (x : S59) (h : rd_T59 l (j : Int) = x) : prevD l (j + 1) = some x.f0 := by
  unfold prevD
  rw [if_neg (Nat.succ_ne_zero j), Nat.add_sub_cancel, h]
theorem u8_ne (c : UInt8) (h : c ≠ 125) : ((c.toNat : Int) == 125) = false := by
  refine beq_eq_false_iff_ne.mpr (fun e => h (UInt8.toNat_inj.mp ?_))
  show c.toNat = 125
  omega
theorem last_take (ends : List UInt8) (q : Nat) (h : ends.length = q + 1) : ends.getLast? = some (ends.getD q 0) := by
  rw [List.getLast?_eq_getElem?, h]
  simp [List.getD, h]
set_option maxHeartbeats 8000000 in
set_option maxRecDepth 100000 in
theorem print_walk (w : World) (A : Option Addr) (c : Nat) (l : List S59) (r : List UInt8) (hC : Kd.C k59 w A l.length l) (hc : l.length ≤ c) (ht : JTabs w) (hr : json_Right.f l = some true) (h : printF none [] [] l = some r) (hr0 : r ≠ []) (hr1 : r.length ≤ 140737488355328) :
    Calls Tryd.prog 47 #[.slice A l.length c] w fun e w' => e = .returned (.string ⟨r.toArray⟩) ∧ Below w.heap.size w w' := by
  have HC := Aside0.mk hC
  have HT := Aside0.mk ht
  have HF := Aside0.mk h
  have HRF := Aside0.mk hr
  have HCC := Aside0.mk hc
  have HR0 := Aside0.mk hr0
  have HR1 := Aside0.mk hr1
  have hl : l.length * 56 ≤ 140737488355328 := by
    unfold json_Right.f at hr
    by_cases hl : l.length * 56 ≤ 140737488355328
    · exact hl
    · rw [if_neg hl] at hr; cases hr
  have HL := Aside0.mk hl
  clear hC ht h hl hc hr hr0 hr1
  go_enter Tryd.func47, Tryd.ntmps47
  go_wp2_with (go_at_call 42; refine (json_Right.calls A c l true _ HC.out HCC.out HRF.out HT.out.tabs).mono ?_; rintro e w1 ⟨rfl, hb1⟩; have HB1 := Aside0.mk hb1; clear hb1)
  have HS0 : Aside0 (WS w.heap.size w1.heap.size (w1.alloc (.cells #[.pointer none, .slice none 0 0, .slice none 0 0] 99)) [] []) := ⟨⟨⟨_, _, _, .inl rfl, heap_alloc_new _ _, Kd.R_nil _ _ _ _ _, Kd.R_nil _ _ _ _ _⟩, HB1.out.size⟩⟩
  have HB2 : Aside0 (Below w.heap.size w (w1.alloc (.cells #[.pointer none, .slice none 0 0, .slice none 0 0] 99))) := ⟨HB1.out.alloc HB1.out.size _⟩
  obtain ⟨g, hg⟩ : ∃ g, w1.heap.size = g := ⟨_, rfl⟩
  rw [hg] at HS0
  rw [hg]
  clear hg
  generalize w1.alloc (.cells #[.pointer none, .slice none 0 0, .slice none 0 0] 99) = w2 at HS0 HB2 ⊢
  clear HB1
  go_loopg [14] l.length (fun kq v14 wr => ∃ (j : Nat) (bs ends : List UInt8), kq = l.length - j ∧ j ≤ l.length ∧ v14 = .int .i64 (j : Int) ∧ Aside0 (WS w.heap.size g wr bs ends) ∧ Aside0 (printF (prevD l j) bs ends (l.drop j) = some r) ∧ Aside0 (Below w.heap.size w wr))
  case atStart => exact ⟨0, [], [], rfl, Nat.zero_le _, rfl, HS0, HF, HB2⟩
  case round =>
    clear HF HS0 HB2
    obtain ⟨j, bs, ends, hkq, hjl, rfl, HS, HF, HB⟩ := hrel
    have hgl : j < 9223372036854775807 := by have := HL.out; omega
    by_cases hlt : j < l.length
    · obtain ⟨ad, hA, a0, a1, a2, a3, a4⟩ := at_T59 (Kd.C_below HC.out HB.out) (j : Int) (by omega) (by omega)
      subst hA
      have HX := Aside0.mk (drop_T59 l j hlt)
      obtain ⟨⟨f0, f1, f2, f3, f4⟩, hx⟩ : ∃ x, rd_T59 l (j : Int) = x := ⟨_, rfl⟩
      have HPD := Aside0.mk (prevD_succ l j _ hx)
      rw [hx] at a0 a1 a2 a3 a4 HX
      simp only [Int.toNat_natCast] at a0 a1 a2 a3 a4
      clear hx
      have hF := HF.out
      rw [HX.out, printF] at hF
      simp only at hF
      clear HF
      by_cases hgd : 0 ≤ f0 ∧ f0 ≤ (ends.length : Int) ∧ 1 ≤ f1 ∧ f1 ≤ 7 ∧ (-9223372036854775808 ≤ f4 ∧ f4 ≤ 9223372036854775807) ∧ bs.length + ends.length + sizeI ⟨f0, f1, f2, f3, f4⟩ ≤ 140737488355328
      · rw [if_pos hgd] at hF
        obtain ⟨g0, g1, g2, g3, g4, g5⟩ := hgd
        obtain ⟨d, rfl⟩ : ∃ d : Nat, f0 = d := ⟨f0.toNat, by omega⟩
        rw [Int.toNat_natCast] at hF
        have hde : d ≤ ends.length := by omega
        have G23 := Aside0.mk (And.intro g2 g3)
        have G4 := Aside0.mk g4
        have G5 : Aside0 (bs.length + ends.length + (6 * f2.size + 6 * f3.size + 200) ≤ 140737488355328) := ⟨g5⟩
        have HDE := Aside0.mk hde
        have hd63 : d ≤ 140737488355328 := by omega
        clear g0 g1 g2 g3 g4 g5 hde
        have HF := Aside0.mk hF
        clear hF
        have HI : Aside0 (Itm (wr.alloc (.cells #[.int .i64 (d : Int), .int .i64 f1, .string f2, .string f3, .int .i64 f4] 59)) wr.heap.size ⟨(d : Int), f1, f2, f3, f4⟩) := ⟨heap_alloc_new _ _⟩
        have HS3 : Aside0 (WS w.heap.size g (wr.alloc (.cells #[.int .i64 (d : Int), .int .i64 f1, .string f2, .string f3, .int .i64 f4] 59)) bs ends) := ⟨HS.out.quiet (below_alloc (Below.refl _ _) _)⟩
        have HB3 : Aside0 (Below w.heap.size w (wr.alloc (.cells #[.int .i64 (d : Int), .int .i64 f1, .string f2, .string f3, .int .i64 f4] 59))) := ⟨HB.out.alloc HB.out.size _⟩
        have HNG : Aside0 (wr.heap.size ≠ g) := ⟨by have := HS.out.lt; omega⟩
        go_upto_region 8 with ((go_at_call 71; refine (shut_calls w.heap.size g bs ends d _ HS3.out HDE.out (by have := G5.out; omega) HB3.out.size).mono ?_; rintro e w4 ⟨rfl, hS4, hB4, hK4⟩; have HI4 : Aside0 (Itm w4 wr.heap.size ⟨(d : Int), f1, f2, f3, f4⟩) := ⟨WK.blk hK4 HI.out HNG.out (by decide)⟩; have HS4 := Aside0.mk hS4; have HB4 := Aside0.mk (HB3.out.trans hB4); clear hS4 hB4 hK4))
        obtain ⟨b, hb⟩ : ∃ b, wr.heap.size = b := ⟨_, rfl⟩
        rw [hb] at HI4 HNG
        rw [hb]
        clear hb HI HS3 HB3
        rcases Nat.eq_zero_or_pos j with hj0 | hj0
        · have hnj : ¬ 0 < j := by omega
          have HCM : Aside0 (commaB (prevD l j) (d : Int) = []) := ⟨by rw [hj0]; rfl⟩
          clear hj0
          refine wp_region_held_drew (S := fun w' => Itm w' b ⟨(d : Int), f1, f2, f3, f4⟩ ∧ True) (by kernel_rfl) ⟨HI4.out, trivial⟩ (fun hHeld => ?_)
          refine wpAnyH_take (i := 0) (oi := { dst := some 23, op := _, type := _, pos := _, after := _, guard := _ }) (v := ?_) rfl (by kernel_rfl) (by kernel_rfl) (by kernel_rfl) (fun _ _ _ h => h) (Or.inl ⟨by rfl, ?_⟩) (by assumption) ?_
          rotate_left
          · intro w hSw
            (try dsimp only at hSw)
            clear hSw
            go_simp
            (try with_reducible rfl)
          (try simp only [Act.put, List.setIfInBounds_toArray, List.set_cons_zero, List.set_cons_succ])
          refine wpAnyH_take (i := 1) (oi := { dst := some 24, op := _, type := _, pos := _, after := _, guard := _ }) (v := ?_) rfl (by kernel_rfl) (by kernel_rfl) (by kernel_rfl) (fun _ _ _ h => h) (Or.inl ⟨by rfl, ?_⟩) (by assumption) ?_
          rotate_left
          · intro w hSw
            (try dsimp only at hSw)
            clear hSw
            go_simp
            (try with_reducible rfl)
          (try simp only [Act.put, List.setIfInBounds_toArray, List.set_cons_zero, List.set_cons_succ])
          refine wpAnyH_take (i := 2) (oi := { dst := some 25, op := _, type := _, pos := _, after := _, guard := _ }) (v := ?_) rfl (by kernel_rfl) (by kernel_rfl) (by kernel_rfl) (fun _ _ _ h => h) (Or.inl ⟨by rfl, ?_⟩) (by assumption) ?_
          rotate_left
          · intro w hSw
            (try dsimp only at hSw)
            clear hSw
            go_simp
            (try with_reducible rfl)
          (try simp only [Act.put, List.setIfInBounds_toArray, List.set_cons_zero, List.set_cons_succ])
          refine wpAnyH_take (i := 3) (oi := { dst := some 26, op := _, type := _, pos := _, after := _, guard := _ }) (v := undef) rfl (by kernel_rfl) (by kernel_rfl) (by kernel_rfl) (fun _ _ _ h => h) (Or.inr ⟨by rfl, rfl⟩) (by assumption) ?_
          (try simp only [Act.put, List.setIfInBounds_toArray, List.set_cons_zero, List.set_cons_succ])
          refine wpAnyH_take (i := 4) (oi := { dst := some 27, op := _, type := _, pos := _, after := _, guard := _ }) (v := undef) rfl (by kernel_rfl) (by kernel_rfl) (by kernel_rfl) (fun _ _ _ h => h) (Or.inr ⟨by rfl, rfl⟩) (by assumption) ?_
          (try simp only [Act.put, List.setIfInBounds_toArray, List.set_cons_zero, List.set_cons_succ])
          refine wpAnyH_take (i := 5) (oi := { dst := some 28, op := _, type := _, pos := _, after := _, guard := _ }) (v := undef) rfl (by kernel_rfl) (by kernel_rfl) (by kernel_rfl) (fun _ _ _ h => h) (Or.inr ⟨by rfl, rfl⟩) (by assumption) ?_
          (try simp only [Act.put, List.setIfInBounds_toArray, List.set_cons_zero, List.set_cons_succ])
          refine wpAnyH_take (i := 6) (oi := { dst := some 29, op := _, type := _, pos := _, after := _, guard := _ }) (v := undef) rfl (by kernel_rfl) (by kernel_rfl) (by kernel_rfl) (fun _ _ _ h => h) (Or.inr ⟨by rfl, rfl⟩) (by assumption) ?_
          (try simp only [Act.put, List.setIfInBounds_toArray, List.set_cons_zero, List.set_cons_succ])
          refine wpAnyH_take (i := 7) (oi := { dst := some 30, op := _, type := _, pos := _, after := _, guard := _ }) (v := undef) rfl (by kernel_rfl) (by kernel_rfl) (by kernel_rfl) (fun _ _ _ h => h) (Or.inr ⟨by rfl, rfl⟩) (by assumption) ?_
          (try simp only [Act.put, List.setIfInBounds_toArray, List.set_cons_zero, List.set_cons_succ])
          refine wpAnyH_take (i := 8) (oi := { dst := some 31, op := _, type := _, pos := _, after := _, guard := _ }) (v := undef) rfl (by kernel_rfl) (by kernel_rfl) (by kernel_rfl) (fun _ _ _ h => h) (Or.inr ⟨by rfl, rfl⟩) (by assumption) ?_
          (try simp only [Act.put, List.setIfInBounds_toArray, List.set_cons_zero, List.set_cons_succ])
          refine wpAnyH_take (i := 9) (oi := { dst := some 32, op := _, type := _, pos := _, after := _, guard := _ }) (v := undef) rfl (by kernel_rfl) (by kernel_rfl) (by kernel_rfl) (fun _ _ _ h => h) (Or.inr ⟨by rfl, rfl⟩) (by assumption) ?_
          (try simp only [Act.put, List.setIfInBounds_toArray, List.set_cons_zero, List.set_cons_succ])
          refine wpAnyH_take (i := 10) (oi := { dst := some 33, op := _, type := _, pos := _, after := _, guard := _ }) (v := undef) rfl (by kernel_rfl) (by kernel_rfl) (by kernel_rfl) (fun _ _ _ h => h) (Or.inr ⟨by rfl, rfl⟩) (by assumption) ?_
          (try simp only [Act.put, List.setIfInBounds_toArray, List.set_cons_zero, List.set_cons_succ])
          refine wpAnyH_take (i := 11) (oi := { dst := some 34, op := _, type := _, pos := _, after := _, guard := _ }) (v := undef) rfl (by kernel_rfl) (by kernel_rfl) (by kernel_rfl) (fun _ _ _ h => h) (Or.inr ⟨by rfl, rfl⟩) (by assumption) ?_
          (try simp only [Act.put, List.setIfInBounds_toArray, List.set_cons_zero, List.set_cons_succ])
          refine wpAnyH_take (i := 12) (oi := { dst := some 35, op := _, type := _, pos := _, after := _, guard := _ }) (v := ?_) rfl (by kernel_rfl) (by kernel_rfl) (by kernel_rfl) (fun _ _ _ h => h) (Or.inl ⟨by rfl, ?_⟩) (by assumption) ?_
          rotate_left
          · intro w hSw
            (try dsimp only at hSw)
            clear hSw
            go_simp
            (try with_reducible rfl)
          (try simp only [Act.put, List.setIfInBounds_toArray, List.set_cons_zero, List.set_cons_succ])
          refine wpAnyH_done (by kernel_rfl) ?_ _
          clear hHeld
          go_upto_region 10 with fail
          have hlen1 : (ends.take d).length = d := by rw [List.length_take]; have := HDE.out; omega
          obtain ⟨w5, hw5⟩ : ∃ w5, w4.drew = w5 := ⟨_, rfl⟩
          have HS4 := Aside0.mk HS4.out.drew1
          have HI4 : Aside0 (Itm w4.drew b ⟨(d : Int), f1, f2, f3, f4⟩) := HI4
          have HB4 := Aside0.mk (below_drew1 HB4.out)
          rw [hw5] at HS4 HI4 HB4
          rw [hw5]
          clear hw5
          have HS5 := HS4
          have HI5 := HI4
          have HB5 := HB4
          rcases Nat.eq_zero_or_pos d with hd0 | hd0
          · have hnd : ¬ 0 < d := by omega
            have HKB : Aside0 (keyB (ends.take d) f2 = []) := ⟨by rw [hd0, List.take_zero]; rfl⟩
            clear hd0
            obtain ⟨A2, cc2, c2⟩ := HS5.out.len
            rw [hlen1] at c2
            clear hlen1
            first
            | skip
            obtain ⟨hm0, hm1, hm2, hm3, hm4⟩ := itm_cells HI5.out
            go_wp2_with (go_at_call 73; refine (value_calls_w w.heap.size g (bs ++ (ends.drop d).reverse) (ends.take d) ⟨(d : Int), f1, f2, f3, f4⟩ w5 G23.out HS5.out (by have h5 := G5.out; have hd := HDE.out; skip; simp only [List.length_append, List.length_reverse, List.length_drop, List.length_take, List.length_cons, List.length_nil]; omega) HB5.out.size (HT.out.step HB5.out) G4.out).mono ?_; rintro e w8 ⟨rfl, hS8, hB8, hK8⟩; have HS8 := Aside0.mk hS8; have HB8 := Aside0.mk (HB5.out.trans hB8); clear hS8 hB8 hK8)
            go_roundg (l.length - (j + 1))
            case measure => omega
            case rel => exact ⟨j + 1, _, _, rfl, hlt, by go_num, HS8, ⟨by rw [HPD.out]; have hF := HF.out; rw [HCM.out, HKB.out] at hF; simpa only [List.append_nil, List.append_assoc] using hF⟩, HB8⟩
          · obtain ⟨q, rfl⟩ : ∃ q, d = q + 1 := ⟨d - 1, by omega⟩
            clear hd0
            have hlast := last_take _ q hlen1
            obtain ⟨gg, cc, c2, c3, _, _, _⟩ := HS5.out.top hlen1
            clear hlen1
            obtain ⟨lc, hlc⟩ : ∃ lc : UInt8, (ends.take (q + 1)).getD q 0 = lc := ⟨_, rfl⟩
            rw [hlc] at c3 hlast
            clear hlc
            have hwq : IntKind.i64.wrap (q : Int) = (q : Int) := IntWalk.i64_in (q : Int) ⟨by omega, by omega⟩
            have hq0 : (0 : Int) ≤ (q : Int) := by omega
            have hq1 : (q : Int) < (q : Int) + 1 := by omega
            by_cases hl125 : lc = 125
            · subst hl125
              have HKB : Aside0 (keyB (ends.take (q + 1)) f2 = (writeS f2).1.data.toList ++ [58]) := ⟨by unfold keyB; rw [if_pos hlast]⟩
              clear hlast
              obtain ⟨hm0, hm1, hm2, hm3, hm4⟩ := itm_cells HI5.out
              go_upto_region 14 with (first | (go_at_call 72; refine (quoted_calls w.heap.size g (bs ++ (ends.drop (q + 1)).reverse) (ends.take (q + 1)) f2 w5 HS5.out (by have h5 := G5.out; have hd := HDE.out; simp only [List.length_append, List.length_reverse, List.length_drop, List.length_take, List.length_cons, List.length_nil]; omega) HB5.out.size (HT.out.step HB5.out).tabs).mono ?_; rintro e w6 ⟨rfl, hS6, hB6, hK6⟩; have HI6 : Aside0 (Itm w6 b ⟨((q + 1 : Nat) : Int), f1, f2, f3, f4⟩) := ⟨WK.blk hK6 HI5.out HNG.out (by decide)⟩; have HS6 := Aside0.mk hS6; have HB6 := Aside0.mk (HB5.out.trans hB6); clear hS6 hB6 hK6) | (go_at_call 57; refine (ws_byte w.heap.size g ((bs ++ (ends.drop (q + 1)).reverse) ++ (writeS f2).1.data.toList) (ends.take (q + 1)) 58 w6 HS6.out (by have h5 := G5.out; have hd := HDE.out; have h6 := inner6 f2; simp only [List.length_append, List.length_reverse, List.length_drop, List.length_take, List.length_cons, List.length_nil]; omega) HB6.out.size).mono ?_; rintro e w7 ⟨rfl, hS7, hB7, hK7⟩; have HI7 : Aside0 (Itm w7 b ⟨((q + 1 : Nat) : Int), f1, f2, f3, f4⟩) := ⟨WK.blk hK7 HI6.out HNG.out (by decide)⟩; have HS7 := Aside0.mk hS7; have HB7 := Aside0.mk (HB6.out.trans hB7); clear hS7 hB7 hK7))
              clear hm0 hm1 hm2 hm3 hm4
              obtain ⟨hm0, hm1, hm2, hm3, hm4⟩ := itm_cells HI7.out
              go_wp2_with (go_at_call 73; refine (value_calls_w w.heap.size g ((bs ++ (ends.drop (q + 1)).reverse) ++ (writeS f2).1.data.toList ++ [58]) (ends.take (q + 1)) ⟨((q + 1 : Nat) : Int), f1, f2, f3, f4⟩ w7 G23.out HS7.out (by have h5 := G5.out; have hd := HDE.out; have h6 := inner6 f2; simp only [List.length_append, List.length_reverse, List.length_drop, List.length_take, List.length_cons, List.length_nil]; omega) HB7.out.size (HT.out.step HB7.out) G4.out).mono ?_; rintro e w8 ⟨rfl, hS8, hB8, hK8⟩; have HS8 := Aside0.mk hS8; have HB8 := Aside0.mk (HB7.out.trans hB8); clear hS8 hB8 hK8)
              go_roundg (l.length - (j + 1))
              case measure => omega
              case rel => exact ⟨j + 1, _, _, rfl, hlt, by go_num, HS8, ⟨by rw [HPD.out]; have hF := HF.out; rw [HCM.out, HKB.out] at hF; simpa only [List.append_nil, List.append_assoc] using hF⟩, HB8⟩
            · have hne : (lc == 125) = false := beq_eq_false_iff_ne.mpr hl125
              have hne2 : ((lc.toNat : Int) == 125) = false := u8_ne lc hl125
              have HKB : Aside0 (keyB (ends.take (q + 1)) f2 = []) := ⟨by unfold keyB; rw [if_neg (by rw [hlast]; intro e; exact hl125 (Option.some.inj e))]⟩
              clear hlast hl125
              obtain ⟨hm0, hm1, hm2, hm3, hm4⟩ := itm_cells HI5.out
              go_wp2_with (go_at_call 73; refine (value_calls_w w.heap.size g (bs ++ (ends.drop (q + 1)).reverse) (ends.take (q + 1)) ⟨((q + 1 : Nat) : Int), f1, f2, f3, f4⟩ w5 G23.out HS5.out (by have h5 := G5.out; have hd := HDE.out; skip; simp only [List.length_append, List.length_reverse, List.length_drop, List.length_take, List.length_cons, List.length_nil]; omega) HB5.out.size (HT.out.step HB5.out) G4.out).mono ?_; rintro e w8 ⟨rfl, hS8, hB8, hK8⟩; have HS8 := Aside0.mk hS8; have HB8 := Aside0.mk (HB5.out.trans hB8); clear hS8 hB8 hK8)
              go_roundg (l.length - (j + 1))
              case measure => omega
              case rel => exact ⟨j + 1, _, _, rfl, hlt, by go_num, HS8, ⟨by rw [HPD.out]; have hF := HF.out; rw [HCM.out, HKB.out] at hF; simpa only [List.append_nil, List.append_assoc] using hF⟩, HB8⟩
        · obtain ⟨i, rfl⟩ : ∃ i, j = i + 1 := ⟨j - 1, by omega⟩
          clear hj0
          obtain ⟨ad2, hA2, p0, _, _, _, _⟩ := at_T59 (Kd.C_below HC.out HB4.out) (i : Int) (by omega) (by omega)
          injection hA2 with hA2
          subst hA2
          simp only [Int.toNat_natCast] at p0
          obtain ⟨pf, hpf⟩ : ∃ pf, (rd_T59 l (i : Int)).f0 = pf := ⟨_, rfl⟩
          rw [hpf] at p0
          have hcb : commaB (prevD l (i + 1)) (d : Int) = if (d : Int) ≤ pf then [44] else [] := by unfold prevD; rw [if_neg (Nat.succ_ne_zero i), Nat.add_sub_cancel, hpf]; rfl
          clear hpf
          have hwi : IntKind.i64.wrap (i : Int) = (i : Int) := IntWalk.i64_in (i : Int) ⟨by omega, by omega⟩
          have hi0 : (0 : Int) ≤ (i : Int) := by omega
          have hi1 : (i : Int) < (l.length : Int) := by omega
          have hi2 : i < l.length := by omega
          by_cases hcm : (d : Int) ≤ pf
          · have HCM := Aside0.mk (hcb.trans (if_pos hcm))
            clear hcb
            refine wp_region_held_drew (S := fun w' => Itm w' b ⟨(d : Int), f1, f2, f3, f4⟩ ∧ w'.cell? (ad.add (i * 5)) = some (.int .i64 pf)) (by kernel_rfl) ⟨HI4.out, p0⟩ (fun hHeld => ?_)
            refine wpAnyH_take (i := 0) (oi := { dst := some 23, op := _, type := _, pos := _, after := _, guard := _ }) (v := ?_) rfl (by kernel_rfl) (by kernel_rfl) (by kernel_rfl) (fun _ _ _ h => h) (Or.inl ⟨by rfl, ?_⟩) (by assumption) ?_
            rotate_left
            · intro w hSw
              (try dsimp only at hSw)
              have hm0 := (itm_cells hSw.1).1
              have hm9 := hSw.2
              clear hSw
              go_simp
              (try with_reducible rfl)
            (try simp only [Act.put, List.setIfInBounds_toArray, List.set_cons_zero, List.set_cons_succ])
            refine wpAnyH_take (i := 1) (oi := { dst := some 24, op := _, type := _, pos := _, after := _, guard := _ }) (v := ?_) rfl (by kernel_rfl) (by kernel_rfl) (by kernel_rfl) (fun _ _ _ h => h) (Or.inl ⟨by rfl, ?_⟩) (by assumption) ?_
            rotate_left
            · intro w hSw
              (try dsimp only at hSw)
              have hm0 := (itm_cells hSw.1).1
              have hm9 := hSw.2
              clear hSw
              go_simp
              (try with_reducible rfl)
            (try simp only [Act.put, List.setIfInBounds_toArray, List.set_cons_zero, List.set_cons_succ])
            refine wpAnyH_take (i := 2) (oi := { dst := some 25, op := _, type := _, pos := _, after := _, guard := _ }) (v := ?_) rfl (by kernel_rfl) (by kernel_rfl) (by kernel_rfl) (fun _ _ _ h => h) (Or.inl ⟨by rfl, ?_⟩) (by assumption) ?_
            rotate_left
            · intro w hSw
              (try dsimp only at hSw)
              have hm0 := (itm_cells hSw.1).1
              have hm9 := hSw.2
              clear hSw
              go_simp
              (try with_reducible rfl)
            (try simp only [Act.put, List.setIfInBounds_toArray, List.set_cons_zero, List.set_cons_succ])
            refine wpAnyH_take (i := 3) (oi := { dst := some 26, op := _, type := _, pos := _, after := _, guard := _ }) (v := ?_) rfl (by kernel_rfl) (by kernel_rfl) (by kernel_rfl) (fun _ _ _ h => h) (Or.inl ⟨by rfl, ?_⟩) (by assumption) ?_
            rotate_left
            · intro w hSw
              (try dsimp only at hSw)
              have hm0 := (itm_cells hSw.1).1
              have hm9 := hSw.2
              clear hSw
              go_simp
              (try with_reducible rfl)
            (try simp only [Act.put, List.setIfInBounds_toArray, List.set_cons_zero, List.set_cons_succ])
            refine wpAnyH_take (i := 4) (oi := { dst := some 27, op := _, type := _, pos := _, after := _, guard := _ }) (v := ?_) rfl (by kernel_rfl) (by kernel_rfl) (by kernel_rfl) (fun _ _ _ h => h) (Or.inl ⟨by rfl, ?_⟩) (by assumption) ?_
            rotate_left
            · intro w hSw
              (try dsimp only at hSw)
              have hm0 := (itm_cells hSw.1).1
              have hm9 := hSw.2
              clear hSw
              go_simp
              (try with_reducible rfl)
            (try simp only [Act.put, List.setIfInBounds_toArray, List.set_cons_zero, List.set_cons_succ])
            refine wpAnyH_take (i := 5) (oi := { dst := some 28, op := _, type := _, pos := _, after := _, guard := _ }) (v := ?_) rfl (by kernel_rfl) (by kernel_rfl) (by kernel_rfl) (fun _ _ _ h => h) (Or.inl ⟨by rfl, ?_⟩) (by assumption) ?_
            rotate_left
            · intro w hSw
              (try dsimp only at hSw)
              have hm0 := (itm_cells hSw.1).1
              have hm9 := hSw.2
              clear hSw
              go_simp
              (try with_reducible rfl)
            (try simp only [Act.put, List.setIfInBounds_toArray, List.set_cons_zero, List.set_cons_succ])
            refine wpAnyH_take (i := 6) (oi := { dst := some 29, op := _, type := _, pos := _, after := _, guard := _ }) (v := ?_) rfl (by kernel_rfl) (by kernel_rfl) (by kernel_rfl) (fun _ _ _ h => h) (Or.inl ⟨by rfl, ?_⟩) (by assumption) ?_
            rotate_left
            · intro w hSw
              (try dsimp only at hSw)
              have hm0 := (itm_cells hSw.1).1
              have hm9 := hSw.2
              clear hSw
              go_simp
              (try with_reducible rfl)
            (try simp only [Act.put, List.setIfInBounds_toArray, List.set_cons_zero, List.set_cons_succ])
            refine wpAnyH_take (i := 7) (oi := { dst := some 30, op := _, type := _, pos := _, after := _, guard := _ }) (v := ?_) rfl (by kernel_rfl) (by kernel_rfl) (by kernel_rfl) (fun _ _ _ h => h) (Or.inl ⟨by rfl, ?_⟩) (by assumption) ?_
            rotate_left
            · intro w hSw
              (try dsimp only at hSw)
              have hm0 := (itm_cells hSw.1).1
              have hm9 := hSw.2
              clear hSw
              go_simp
              (try with_reducible rfl)
            (try simp only [Act.put, List.setIfInBounds_toArray, List.set_cons_zero, List.set_cons_succ])
            refine wpAnyH_take (i := 8) (oi := { dst := some 31, op := _, type := _, pos := _, after := _, guard := _ }) (v := ?_) rfl (by kernel_rfl) (by kernel_rfl) (by kernel_rfl) (fun _ _ _ h => h) (Or.inl ⟨by rfl, ?_⟩) (by assumption) ?_
            rotate_left
            · intro w hSw
              (try dsimp only at hSw)
              have hm0 := (itm_cells hSw.1).1
              have hm9 := hSw.2
              clear hSw
              go_simp
              (try with_reducible rfl)
            (try simp only [Act.put, List.setIfInBounds_toArray, List.set_cons_zero, List.set_cons_succ])
            refine wpAnyH_take (i := 9) (oi := { dst := some 32, op := _, type := _, pos := _, after := _, guard := _ }) (v := ?_) rfl (by kernel_rfl) (by kernel_rfl) (by kernel_rfl) (fun _ _ _ h => h) (Or.inl ⟨by rfl, ?_⟩) (by assumption) ?_
            rotate_left
            · intro w hSw
              (try dsimp only at hSw)
              have hm0 := (itm_cells hSw.1).1
              have hm9 := hSw.2
              clear hSw
              go_simp
              (try with_reducible rfl)
            (try simp only [Act.put, List.setIfInBounds_toArray, List.set_cons_zero, List.set_cons_succ])
            refine wpAnyH_take (i := 10) (oi := { dst := some 33, op := _, type := _, pos := _, after := _, guard := _ }) (v := ?_) rfl (by kernel_rfl) (by kernel_rfl) (by kernel_rfl) (fun _ _ _ h => h) (Or.inl ⟨by rfl, ?_⟩) (by assumption) ?_
            rotate_left
            · intro w hSw
              (try dsimp only at hSw)
              have hm0 := (itm_cells hSw.1).1
              have hm9 := hSw.2
              clear hSw
              go_simp
              (try with_reducible rfl)
            (try simp only [Act.put, List.setIfInBounds_toArray, List.set_cons_zero, List.set_cons_succ])
            refine wpAnyH_take (i := 11) (oi := { dst := some 34, op := _, type := _, pos := _, after := _, guard := _ }) (v := ?_) rfl (by kernel_rfl) (by kernel_rfl) (by kernel_rfl) (fun _ _ _ h => h) (Or.inl ⟨by rfl, ?_⟩) (by assumption) ?_
            rotate_left
            · intro w hSw
              (try dsimp only at hSw)
              have hm0 := (itm_cells hSw.1).1
              have hm9 := hSw.2
              clear hSw
              go_simp
              (try with_reducible rfl)
            (try simp only [Act.put, List.setIfInBounds_toArray, List.set_cons_zero, List.set_cons_succ])
            refine wpAnyH_take (i := 12) (oi := { dst := some 35, op := _, type := _, pos := _, after := _, guard := _ }) (v := ?_) rfl (by kernel_rfl) (by kernel_rfl) (by kernel_rfl) (fun _ _ _ h => h) (Or.inl ⟨by rfl, ?_⟩) (by assumption) ?_
            rotate_left
            · intro w hSw
              (try dsimp only at hSw)
              have hm0 := (itm_cells hSw.1).1
              have hm9 := hSw.2
              clear hSw
              go_simp
              (try with_reducible rfl)
            (try simp only [Act.put, List.setIfInBounds_toArray, List.set_cons_zero, List.set_cons_succ])
            refine wpAnyH_done (by kernel_rfl) ?_ _
            clear hHeld p0
            go_upto_region 10 with ((go_at_call 57; refine (ws_byte w.heap.size g (bs ++ (ends.drop d).reverse) (ends.take d) 44 w4.drew HS4.out.drew1 (by have h5 := G5.out; have hd := HDE.out; simp only [List.length_append, List.length_reverse, List.length_drop]; omega) (below_drew1 HB4.out).size).mono ?_; rintro e w9 ⟨rfl, hS9, hB9, hK9⟩; have HI9 : Aside0 (Itm w9 b ⟨(d : Int), f1, f2, f3, f4⟩) := ⟨WK.blk hK9 HI4.out HNG.out (by decide)⟩; have HS9 := Aside0.mk hS9; have HB9 := Aside0.mk ((below_drew1 HB4.out).trans hB9); clear hS9 hB9 hK9))
            have hlen1 : (ends.take d).length = d := by rw [List.length_take]; have := HDE.out; omega
            obtain ⟨w5, hw5⟩ : ∃ w5, w9 = w5 := ⟨_, rfl⟩
            rw [hw5] at HS9 HI9 HB9
            rw [hw5]
            clear hw5
            have HS5 := HS9
            have HI5 := HI9
            have HB5 := HB9
            rcases Nat.eq_zero_or_pos d with hd0 | hd0
            · have hnd : ¬ 0 < d := by omega
              have HKB : Aside0 (keyB (ends.take d) f2 = []) := ⟨by rw [hd0, List.take_zero]; rfl⟩
              clear hd0
              obtain ⟨A2, cc2, c2⟩ := HS5.out.len
              rw [hlen1] at c2
              clear hlen1
              first
              | skip
              obtain ⟨hm0, hm1, hm2, hm3, hm4⟩ := itm_cells HI5.out
              go_wp2_with (go_at_call 73; refine (value_calls_w w.heap.size g (bs ++ (ends.drop d).reverse ++ [44]) (ends.take d) ⟨(d : Int), f1, f2, f3, f4⟩ w5 G23.out HS5.out (by have h5 := G5.out; have hd := HDE.out; skip; simp only [List.length_append, List.length_reverse, List.length_drop, List.length_take, List.length_cons, List.length_nil]; omega) HB5.out.size (HT.out.step HB5.out) G4.out).mono ?_; rintro e w8 ⟨rfl, hS8, hB8, hK8⟩; have HS8 := Aside0.mk hS8; have HB8 := Aside0.mk (HB5.out.trans hB8); clear hS8 hB8 hK8)
              go_roundg (l.length - ((i + 1) + 1))
              case measure => omega
              case rel => exact ⟨(i + 1) + 1, _, _, rfl, hlt, by go_num, HS8, ⟨by rw [HPD.out]; have hF := HF.out; rw [HCM.out, HKB.out] at hF; simpa only [List.append_nil, List.append_assoc] using hF⟩, HB8⟩
            · obtain ⟨q, rfl⟩ : ∃ q, d = q + 1 := ⟨d - 1, by omega⟩
              clear hd0
              have hlast := last_take _ q hlen1
              obtain ⟨gg, cc, c2, c3, _, _, _⟩ := HS5.out.top hlen1
              clear hlen1
              obtain ⟨lc, hlc⟩ : ∃ lc : UInt8, (ends.take (q + 1)).getD q 0 = lc := ⟨_, rfl⟩
              rw [hlc] at c3 hlast
              clear hlc
              have hwq : IntKind.i64.wrap (q : Int) = (q : Int) := IntWalk.i64_in (q : Int) ⟨by omega, by omega⟩
              have hq0 : (0 : Int) ≤ (q : Int) := by omega
              have hq1 : (q : Int) < (q : Int) + 1 := by omega
              by_cases hl125 : lc = 125
              · subst hl125
                have HKB : Aside0 (keyB (ends.take (q + 1)) f2 = (writeS f2).1.data.toList ++ [58]) := ⟨by unfold keyB; rw [if_pos hlast]⟩
                clear hlast
                obtain ⟨hm0, hm1, hm2, hm3, hm4⟩ := itm_cells HI5.out
                go_upto_region 14 with (first | (go_at_call 72; refine (quoted_calls w.heap.size g (bs ++ (ends.drop (q + 1)).reverse ++ [44]) (ends.take (q + 1)) f2 w5 HS5.out (by have h5 := G5.out; have hd := HDE.out; simp only [List.length_append, List.length_reverse, List.length_drop, List.length_take, List.length_cons, List.length_nil]; omega) HB5.out.size (HT.out.step HB5.out).tabs).mono ?_; rintro e w6 ⟨rfl, hS6, hB6, hK6⟩; have HI6 : Aside0 (Itm w6 b ⟨((q + 1 : Nat) : Int), f1, f2, f3, f4⟩) := ⟨WK.blk hK6 HI5.out HNG.out (by decide)⟩; have HS6 := Aside0.mk hS6; have HB6 := Aside0.mk (HB5.out.trans hB6); clear hS6 hB6 hK6) | (go_at_call 57; refine (ws_byte w.heap.size g ((bs ++ (ends.drop (q + 1)).reverse ++ [44]) ++ (writeS f2).1.data.toList) (ends.take (q + 1)) 58 w6 HS6.out (by have h5 := G5.out; have hd := HDE.out; have h6 := inner6 f2; simp only [List.length_append, List.length_reverse, List.length_drop, List.length_take, List.length_cons, List.length_nil]; omega) HB6.out.size).mono ?_; rintro e w7 ⟨rfl, hS7, hB7, hK7⟩; have HI7 : Aside0 (Itm w7 b ⟨((q + 1 : Nat) : Int), f1, f2, f3, f4⟩) := ⟨WK.blk hK7 HI6.out HNG.out (by decide)⟩; have HS7 := Aside0.mk hS7; have HB7 := Aside0.mk (HB6.out.trans hB7); clear hS7 hB7 hK7))
                clear hm0 hm1 hm2 hm3 hm4
                obtain ⟨hm0, hm1, hm2, hm3, hm4⟩ := itm_cells HI7.out
                go_wp2_with (go_at_call 73; refine (value_calls_w w.heap.size g ((bs ++ (ends.drop (q + 1)).reverse ++ [44]) ++ (writeS f2).1.data.toList ++ [58]) (ends.take (q + 1)) ⟨((q + 1 : Nat) : Int), f1, f2, f3, f4⟩ w7 G23.out HS7.out (by have h5 := G5.out; have hd := HDE.out; have h6 := inner6 f2; simp only [List.length_append, List.length_reverse, List.length_drop, List.length_take, List.length_cons, List.length_nil]; omega) HB7.out.size (HT.out.step HB7.out) G4.out).mono ?_; rintro e w8 ⟨rfl, hS8, hB8, hK8⟩; have HS8 := Aside0.mk hS8; have HB8 := Aside0.mk (HB7.out.trans hB8); clear hS8 hB8 hK8)
                go_roundg (l.length - ((i + 1) + 1))
                case measure => omega
                case rel => exact ⟨(i + 1) + 1, _, _, rfl, hlt, by go_num, HS8, ⟨by rw [HPD.out]; have hF := HF.out; rw [HCM.out, HKB.out] at hF; simpa only [List.append_nil, List.append_assoc] using hF⟩, HB8⟩
              · have hne : (lc == 125) = false := beq_eq_false_iff_ne.mpr hl125
                have hne2 : ((lc.toNat : Int) == 125) = false := u8_ne lc hl125
                have HKB : Aside0 (keyB (ends.take (q + 1)) f2 = []) := ⟨by unfold keyB; rw [if_neg (by rw [hlast]; intro e; exact hl125 (Option.some.inj e))]⟩
                clear hlast hl125
                obtain ⟨hm0, hm1, hm2, hm3, hm4⟩ := itm_cells HI5.out
                go_wp2_with (go_at_call 73; refine (value_calls_w w.heap.size g (bs ++ (ends.drop (q + 1)).reverse ++ [44]) (ends.take (q + 1)) ⟨((q + 1 : Nat) : Int), f1, f2, f3, f4⟩ w5 G23.out HS5.out (by have h5 := G5.out; have hd := HDE.out; skip; simp only [List.length_append, List.length_reverse, List.length_drop, List.length_take, List.length_cons, List.length_nil]; omega) HB5.out.size (HT.out.step HB5.out) G4.out).mono ?_; rintro e w8 ⟨rfl, hS8, hB8, hK8⟩; have HS8 := Aside0.mk hS8; have HB8 := Aside0.mk (HB5.out.trans hB8); clear hS8 hB8 hK8)
                go_roundg (l.length - ((i + 1) + 1))
                case measure => omega
                case rel => exact ⟨(i + 1) + 1, _, _, rfl, hlt, by go_num, HS8, ⟨by rw [HPD.out]; have hF := HF.out; rw [HCM.out, HKB.out] at hF; simpa only [List.append_nil, List.append_assoc] using hF⟩, HB8⟩
          · have HCM := Aside0.mk (hcb.trans (if_neg hcm))
            clear hcb
            refine wp_region_held_drew (S := fun w' => Itm w' b ⟨(d : Int), f1, f2, f3, f4⟩ ∧ w'.cell? (ad.add (i * 5)) = some (.int .i64 pf)) (by kernel_rfl) ⟨HI4.out, p0⟩ (fun hHeld => ?_)
            refine wpAnyH_take (i := 0) (oi := { dst := some 23, op := _, type := _, pos := _, after := _, guard := _ }) (v := ?_) rfl (by kernel_rfl) (by kernel_rfl) (by kernel_rfl) (fun _ _ _ h => h) (Or.inl ⟨by rfl, ?_⟩) (by assumption) ?_
            rotate_left
            · intro w hSw
              (try dsimp only at hSw)
              have hm0 := (itm_cells hSw.1).1
              have hm9 := hSw.2
              clear hSw
              go_simp
              (try with_reducible rfl)
            (try simp only [Act.put, List.setIfInBounds_toArray, List.set_cons_zero, List.set_cons_succ])
            refine wpAnyH_take (i := 1) (oi := { dst := some 24, op := _, type := _, pos := _, after := _, guard := _ }) (v := ?_) rfl (by kernel_rfl) (by kernel_rfl) (by kernel_rfl) (fun _ _ _ h => h) (Or.inl ⟨by rfl, ?_⟩) (by assumption) ?_
            rotate_left
            · intro w hSw
              (try dsimp only at hSw)
              have hm0 := (itm_cells hSw.1).1
              have hm9 := hSw.2
              clear hSw
              go_simp
              (try with_reducible rfl)
            (try simp only [Act.put, List.setIfInBounds_toArray, List.set_cons_zero, List.set_cons_succ])
            refine wpAnyH_take (i := 2) (oi := { dst := some 25, op := _, type := _, pos := _, after := _, guard := _ }) (v := ?_) rfl (by kernel_rfl) (by kernel_rfl) (by kernel_rfl) (fun _ _ _ h => h) (Or.inl ⟨by rfl, ?_⟩) (by assumption) ?_
            rotate_left
            · intro w hSw
              (try dsimp only at hSw)
              have hm0 := (itm_cells hSw.1).1
              have hm9 := hSw.2
              clear hSw
              go_simp
              (try with_reducible rfl)
            (try simp only [Act.put, List.setIfInBounds_toArray, List.set_cons_zero, List.set_cons_succ])
            refine wpAnyH_take (i := 3) (oi := { dst := some 26, op := _, type := _, pos := _, after := _, guard := _ }) (v := ?_) rfl (by kernel_rfl) (by kernel_rfl) (by kernel_rfl) (fun _ _ _ h => h) (Or.inl ⟨by rfl, ?_⟩) (by assumption) ?_
            rotate_left
            · intro w hSw
              (try dsimp only at hSw)
              have hm0 := (itm_cells hSw.1).1
              have hm9 := hSw.2
              clear hSw
              go_simp
              (try with_reducible rfl)
            (try simp only [Act.put, List.setIfInBounds_toArray, List.set_cons_zero, List.set_cons_succ])
            refine wpAnyH_take (i := 4) (oi := { dst := some 27, op := _, type := _, pos := _, after := _, guard := _ }) (v := ?_) rfl (by kernel_rfl) (by kernel_rfl) (by kernel_rfl) (fun _ _ _ h => h) (Or.inl ⟨by rfl, ?_⟩) (by assumption) ?_
            rotate_left
            · intro w hSw
              (try dsimp only at hSw)
              have hm0 := (itm_cells hSw.1).1
              have hm9 := hSw.2
              clear hSw
              go_simp
              (try with_reducible rfl)
            (try simp only [Act.put, List.setIfInBounds_toArray, List.set_cons_zero, List.set_cons_succ])
            refine wpAnyH_take (i := 5) (oi := { dst := some 28, op := _, type := _, pos := _, after := _, guard := _ }) (v := ?_) rfl (by kernel_rfl) (by kernel_rfl) (by kernel_rfl) (fun _ _ _ h => h) (Or.inl ⟨by rfl, ?_⟩) (by assumption) ?_
            rotate_left
            · intro w hSw
              (try dsimp only at hSw)
              have hm0 := (itm_cells hSw.1).1
              have hm9 := hSw.2
              clear hSw
              go_simp
              (try with_reducible rfl)
            (try simp only [Act.put, List.setIfInBounds_toArray, List.set_cons_zero, List.set_cons_succ])
            refine wpAnyH_take (i := 6) (oi := { dst := some 29, op := _, type := _, pos := _, after := _, guard := _ }) (v := ?_) rfl (by kernel_rfl) (by kernel_rfl) (by kernel_rfl) (fun _ _ _ h => h) (Or.inl ⟨by rfl, ?_⟩) (by assumption) ?_
            rotate_left
            · intro w hSw
              (try dsimp only at hSw)
              have hm0 := (itm_cells hSw.1).1
              have hm9 := hSw.2
              clear hSw
              go_simp
              (try with_reducible rfl)
            (try simp only [Act.put, List.setIfInBounds_toArray, List.set_cons_zero, List.set_cons_succ])
            refine wpAnyH_take (i := 7) (oi := { dst := some 30, op := _, type := _, pos := _, after := _, guard := _ }) (v := ?_) rfl (by kernel_rfl) (by kernel_rfl) (by kernel_rfl) (fun _ _ _ h => h) (Or.inl ⟨by rfl, ?_⟩) (by assumption) ?_
            rotate_left
            · intro w hSw
              (try dsimp only at hSw)
              have hm0 := (itm_cells hSw.1).1
              have hm9 := hSw.2
              clear hSw
              go_simp
              (try with_reducible rfl)
            (try simp only [Act.put, List.setIfInBounds_toArray, List.set_cons_zero, List.set_cons_succ])
            refine wpAnyH_take (i := 8) (oi := { dst := some 31, op := _, type := _, pos := _, after := _, guard := _ }) (v := ?_) rfl (by kernel_rfl) (by kernel_rfl) (by kernel_rfl) (fun _ _ _ h => h) (Or.inl ⟨by rfl, ?_⟩) (by assumption) ?_
            rotate_left
            · intro w hSw
              (try dsimp only at hSw)
              have hm0 := (itm_cells hSw.1).1
              have hm9 := hSw.2
              clear hSw
              go_simp
              (try with_reducible rfl)
            (try simp only [Act.put, List.setIfInBounds_toArray, List.set_cons_zero, List.set_cons_succ])
            refine wpAnyH_take (i := 9) (oi := { dst := some 32, op := _, type := _, pos := _, after := _, guard := _ }) (v := ?_) rfl (by kernel_rfl) (by kernel_rfl) (by kernel_rfl) (fun _ _ _ h => h) (Or.inl ⟨by rfl, ?_⟩) (by assumption) ?_
            rotate_left
            · intro w hSw
              (try dsimp only at hSw)
              have hm0 := (itm_cells hSw.1).1
              have hm9 := hSw.2
              clear hSw
              go_simp
              (try with_reducible rfl)
            (try simp only [Act.put, List.setIfInBounds_toArray, List.set_cons_zero, List.set_cons_succ])
            refine wpAnyH_take (i := 10) (oi := { dst := some 33, op := _, type := _, pos := _, after := _, guard := _ }) (v := ?_) rfl (by kernel_rfl) (by kernel_rfl) (by kernel_rfl) (fun _ _ _ h => h) (Or.inl ⟨by rfl, ?_⟩) (by assumption) ?_
            rotate_left
            · intro w hSw
              (try dsimp only at hSw)
              have hm0 := (itm_cells hSw.1).1
              have hm9 := hSw.2
              clear hSw
              go_simp
              (try with_reducible rfl)
            (try simp only [Act.put, List.setIfInBounds_toArray, List.set_cons_zero, List.set_cons_succ])
            refine wpAnyH_take (i := 11) (oi := { dst := some 34, op := _, type := _, pos := _, after := _, guard := _ }) (v := ?_) rfl (by kernel_rfl) (by kernel_rfl) (by kernel_rfl) (fun _ _ _ h => h) (Or.inl ⟨by rfl, ?_⟩) (by assumption) ?_
            rotate_left
            · intro w hSw
              (try dsimp only at hSw)
              have hm0 := (itm_cells hSw.1).1
              have hm9 := hSw.2
              clear hSw
              go_simp
              (try with_reducible rfl)
            (try simp only [Act.put, List.setIfInBounds_toArray, List.set_cons_zero, List.set_cons_succ])
            refine wpAnyH_take (i := 12) (oi := { dst := some 35, op := _, type := _, pos := _, after := _, guard := _ }) (v := ?_) rfl (by kernel_rfl) (by kernel_rfl) (by kernel_rfl) (fun _ _ _ h => h) (Or.inl ⟨by rfl, ?_⟩) (by assumption) ?_
            rotate_left
            · intro w hSw
              (try dsimp only at hSw)
              have hm0 := (itm_cells hSw.1).1
              have hm9 := hSw.2
              clear hSw
              go_simp
              (try with_reducible rfl)
            (try simp only [Act.put, List.setIfInBounds_toArray, List.set_cons_zero, List.set_cons_succ])
            refine wpAnyH_done (by kernel_rfl) ?_ _
            clear hHeld p0
            go_upto_region 10 with fail
            have hlen1 : (ends.take d).length = d := by rw [List.length_take]; have := HDE.out; omega
            obtain ⟨w5, hw5⟩ : ∃ w5, w4.drew = w5 := ⟨_, rfl⟩
            have HS4 := Aside0.mk HS4.out.drew1
            have HI4 : Aside0 (Itm w4.drew b ⟨(d : Int), f1, f2, f3, f4⟩) := HI4
            have HB4 := Aside0.mk (below_drew1 HB4.out)
            rw [hw5] at HS4 HI4 HB4
            rw [hw5]
            clear hw5
            have HS5 := HS4
            have HI5 := HI4
            have HB5 := HB4
            rcases Nat.eq_zero_or_pos d with hd0 | hd0
            · have hnd : ¬ 0 < d := by omega
              have HKB : Aside0 (keyB (ends.take d) f2 = []) := ⟨by rw [hd0, List.take_zero]; rfl⟩
              clear hd0
              obtain ⟨A2, cc2, c2⟩ := HS5.out.len
              rw [hlen1] at c2
              clear hlen1
              first
              | skip
              obtain ⟨hm0, hm1, hm2, hm3, hm4⟩ := itm_cells HI5.out
              go_wp2_with (go_at_call 73; refine (value_calls_w w.heap.size g (bs ++ (ends.drop d).reverse) (ends.take d) ⟨(d : Int), f1, f2, f3, f4⟩ w5 G23.out HS5.out (by have h5 := G5.out; have hd := HDE.out; skip; simp only [List.length_append, List.length_reverse, List.length_drop, List.length_take, List.length_cons, List.length_nil]; omega) HB5.out.size (HT.out.step HB5.out) G4.out).mono ?_; rintro e w8 ⟨rfl, hS8, hB8, hK8⟩; have HS8 := Aside0.mk hS8; have HB8 := Aside0.mk (HB5.out.trans hB8); clear hS8 hB8 hK8)
              go_roundg (l.length - ((i + 1) + 1))
              case measure => omega
              case rel => exact ⟨(i + 1) + 1, _, _, rfl, hlt, by go_num, HS8, ⟨by rw [HPD.out]; have hF := HF.out; rw [HCM.out, HKB.out] at hF; simpa only [List.append_nil, List.append_assoc] using hF⟩, HB8⟩
            · obtain ⟨q, rfl⟩ : ∃ q, d = q + 1 := ⟨d - 1, by omega⟩
              clear hd0
              have hlast := last_take _ q hlen1
              obtain ⟨gg, cc, c2, c3, _, _, _⟩ := HS5.out.top hlen1
              clear hlen1
              obtain ⟨lc, hlc⟩ : ∃ lc : UInt8, (ends.take (q + 1)).getD q 0 = lc := ⟨_, rfl⟩
              rw [hlc] at c3 hlast
              clear hlc
              have hwq : IntKind.i64.wrap (q : Int) = (q : Int) := IntWalk.i64_in (q : Int) ⟨by omega, by omega⟩
              have hq0 : (0 : Int) ≤ (q : Int) := by omega
              have hq1 : (q : Int) < (q : Int) + 1 := by omega
              by_cases hl125 : lc = 125
              · subst hl125
                have HKB : Aside0 (keyB (ends.take (q + 1)) f2 = (writeS f2).1.data.toList ++ [58]) := ⟨by unfold keyB; rw [if_pos hlast]⟩
                clear hlast
                obtain ⟨hm0, hm1, hm2, hm3, hm4⟩ := itm_cells HI5.out
                go_upto_region 14 with (first | (go_at_call 72; refine (quoted_calls w.heap.size g (bs ++ (ends.drop (q + 1)).reverse) (ends.take (q + 1)) f2 w5 HS5.out (by have h5 := G5.out; have hd := HDE.out; simp only [List.length_append, List.length_reverse, List.length_drop, List.length_take, List.length_cons, List.length_nil]; omega) HB5.out.size (HT.out.step HB5.out).tabs).mono ?_; rintro e w6 ⟨rfl, hS6, hB6, hK6⟩; have HI6 : Aside0 (Itm w6 b ⟨((q + 1 : Nat) : Int), f1, f2, f3, f4⟩) := ⟨WK.blk hK6 HI5.out HNG.out (by decide)⟩; have HS6 := Aside0.mk hS6; have HB6 := Aside0.mk (HB5.out.trans hB6); clear hS6 hB6 hK6) | (go_at_call 57; refine (ws_byte w.heap.size g ((bs ++ (ends.drop (q + 1)).reverse) ++ (writeS f2).1.data.toList) (ends.take (q + 1)) 58 w6 HS6.out (by have h5 := G5.out; have hd := HDE.out; have h6 := inner6 f2; simp only [List.length_append, List.length_reverse, List.length_drop, List.length_take, List.length_cons, List.length_nil]; omega) HB6.out.size).mono ?_; rintro e w7 ⟨rfl, hS7, hB7, hK7⟩; have HI7 : Aside0 (Itm w7 b ⟨((q + 1 : Nat) : Int), f1, f2, f3, f4⟩) := ⟨WK.blk hK7 HI6.out HNG.out (by decide)⟩; have HS7 := Aside0.mk hS7; have HB7 := Aside0.mk (HB6.out.trans hB7); clear hS7 hB7 hK7))
                clear hm0 hm1 hm2 hm3 hm4
                obtain ⟨hm0, hm1, hm2, hm3, hm4⟩ := itm_cells HI7.out
                go_wp2_with (go_at_call 73; refine (value_calls_w w.heap.size g ((bs ++ (ends.drop (q + 1)).reverse) ++ (writeS f2).1.data.toList ++ [58]) (ends.take (q + 1)) ⟨((q + 1 : Nat) : Int), f1, f2, f3, f4⟩ w7 G23.out HS7.out (by have h5 := G5.out; have hd := HDE.out; have h6 := inner6 f2; simp only [List.length_append, List.length_reverse, List.length_drop, List.length_take, List.length_cons, List.length_nil]; omega) HB7.out.size (HT.out.step HB7.out) G4.out).mono ?_; rintro e w8 ⟨rfl, hS8, hB8, hK8⟩; have HS8 := Aside0.mk hS8; have HB8 := Aside0.mk (HB7.out.trans hB8); clear hS8 hB8 hK8)
                go_roundg (l.length - ((i + 1) + 1))
                case measure => omega
                case rel => exact ⟨(i + 1) + 1, _, _, rfl, hlt, by go_num, HS8, ⟨by rw [HPD.out]; have hF := HF.out; rw [HCM.out, HKB.out] at hF; simpa only [List.append_nil, List.append_assoc] using hF⟩, HB8⟩
              · have hne : (lc == 125) = false := beq_eq_false_iff_ne.mpr hl125
                have hne2 : ((lc.toNat : Int) == 125) = false := u8_ne lc hl125
                have HKB : Aside0 (keyB (ends.take (q + 1)) f2 = []) := ⟨by unfold keyB; rw [if_neg (by rw [hlast]; intro e; exact hl125 (Option.some.inj e))]⟩
                clear hlast hl125
                obtain ⟨hm0, hm1, hm2, hm3, hm4⟩ := itm_cells HI5.out
                go_wp2_with (go_at_call 73; refine (value_calls_w w.heap.size g (bs ++ (ends.drop (q + 1)).reverse) (ends.take (q + 1)) ⟨((q + 1 : Nat) : Int), f1, f2, f3, f4⟩ w5 G23.out HS5.out (by have h5 := G5.out; have hd := HDE.out; skip; simp only [List.length_append, List.length_reverse, List.length_drop, List.length_take, List.length_cons, List.length_nil]; omega) HB5.out.size (HT.out.step HB5.out) G4.out).mono ?_; rintro e w8 ⟨rfl, hS8, hB8, hK8⟩; have HS8 := Aside0.mk hS8; have HB8 := Aside0.mk (HB5.out.trans hB8); clear hS8 hB8 hK8)
                go_roundg (l.length - ((i + 1) + 1))
                case measure => omega
                case rel => exact ⟨(i + 1) + 1, _, _, rfl, hlt, by go_num, HS8, ⟨by rw [HPD.out]; have hF := HF.out; rw [HCM.out, HKB.out] at hF; simpa only [List.append_nil, List.append_assoc] using hF⟩, HB8⟩
      · rw [if_neg hgd] at hF; cases hF
    · have hjl2 : l.drop j = [] := List.drop_eq_nil_of_le (by omega)
      have hF := HF.out
      rw [hjl2, printF] at hF
      have HR := Aside0.mk (Option.some.inj hF)
      clear HF hF hjl2
      have hjl3 : ¬ (j : Int) < (l.length : Int) := by omega
      have HLE : Aside0 (bs.length + ends.length ≤ 140737488355328) := ⟨by have := HR1.out; rw [← HR.out, List.length_append, List.length_reverse] at this; exact this⟩
      go_wp2_with (first
        | (go_at_call 71; refine (shut_calls w.heap.size g bs ends 0 wr HS.out (Nat.zero_le _) HLE.out HB.out.size).mono ?_; rintro e w4 ⟨rfl, hS4, hB4, hK4⟩; rw [List.drop_zero, HR.out] at hS4; have HS4 := Aside0.mk hS4; have HB4 := Aside0.mk (HB.out.trans hB4); clear hS4 hB4 hK4)
        | (go_at_call 55; refine (ws_text w.heap.size g r _ w4 HS4.out HR0.out HR1.out).mono ?_; rintro e w5 ⟨rfl, hB5⟩; have HB5 := Aside0.mk (HB4.out.trans hB5); clear hB5))
      go_ret
      exact ⟨rfl, HB5.out⟩
set_option maxHeartbeats 8000000 in
set_option maxRecDepth 100000 in
theorem print_no (w : World) (A : Option Addr) (c : Nat) (l : List S59) (hC : Kd.C k59 w A l.length l) (hc : l.length ≤ c) (ht : JTabs w) (hr : json_Right.f l = some false) :
    Calls Tryd.prog 47 #[.slice A l.length c] w fun e w' => e = .returned (.string ⟨#[]⟩) ∧ Below w.heap.size w w' := by
  have HC := Aside0.mk hC
  have HT := Aside0.mk ht
  have HRF := Aside0.mk hr
  have HCC := Aside0.mk hc
  clear hC ht hc hr
  go_enter Tryd.func47, Tryd.ntmps47
  go_wp2_with (go_at_call 42; refine (json_Right.calls A c l false _ HC.out HCC.out HRF.out HT.out.tabs).mono ?_; rintro e w1 ⟨rfl, hb1⟩; have HB1 := Aside0.mk hb1; clear hb1)
  go_ret
  exact ⟨rfl, HB1.out⟩
def json_Print.f (l : List S59) : Option ByteArray := (json_Right.f l).bind fun ok => if ok = true then (printF none [] [] l).bind fun r => if r ≠ [] ∧ r.length ≤ 140737488355328 then some ⟨r.toArray⟩ else none else some ⟨#[]⟩
theorem json_Print.calls (A : Option Addr) (c : Nat) (l : List S59) (r : ByteArray) (w : World) (hC : Kd.C k59 w A l.length l) (hc : l.length ≤ c) (h : json_Print.f l = some r) (ht : JTabs w := by first | assumption | (refine JTabs.step (by assumption) ?_; repeat (first | exact Aside0.out (by assumption) | apply below_alloc | apply pw_below_drewN | apply below_drew1 | exact Below.refl _ _))) :
    Calls Tryd.prog 47 #[.slice A l.length c] w fun e w' => e = .returned (.string r) ∧ Below w.heap.size w w' := by
  unfold json_Print.f at h
  obtain ⟨ok, hr, h⟩ := Option.bind_eq_some_iff.1 h
  cases ok with
  | true =>
    rw [if_pos rfl] at h
    obtain ⟨q, hq, h⟩ := Option.bind_eq_some_iff.1 h
    by_cases h0 : q ≠ [] ∧ q.length ≤ 140737488355328
    · rw [if_pos h0] at h
      cases h
      exact print_walk w A c l q hC hc ht hr hq h0.1 h0.2
    · rw [if_neg h0] at h; cases h
  | false =>
    rw [if_neg (by decide)] at h
    cases h
    exact print_no w A c l hC hc ht hr
end Go.Proofs.YthhmmaihbjhhgaaDoor.Giv
namespace Go.Proofs.YthhmmaihbjhhgaaDoor.Giv
open Go.RowKit Go.Proofs.YthhmmaihbjhhgaaDoorW.PrintWords Go.Proofs.YthhmmaihbjhhgaaDoorW.PrintLast Go.Proofs.YthhmmaihbjhhgaaDoorW.PrintMore
open Go.Proofs.YthhmmaihbjhhgaaDoor.U1 Go.Proofs.YthhmmaihbjhhgaaDoor.Q1 Go.Proofs.YthhmmaihbjhhgaaDoor.J0 Go.Proofs.YthhmmaihbjhhgaaDoor.J1
set_option linter.unusedSimpArgs false
set_option linter.unusedVariables false
theorem valid_fs (s : ByteArray) (h : s.size ≤ 9223372036854775807) : utf_Valid.f s = some (Lib.validD s.data.toList) := by
  unfold utf_Valid.f utf8_ValidString.f
  rw [if_pos h]; rfl
theorem valid_e0 : Lib.validD e0.data.toList = true := by decide +kernel
/-- what is behind begins no deeper than that -/
def shallow (l : List S59) (d : Nat) : Prop := ∀ x, l.head? = some x → x.f0 ≤ (d : Int)
theorem right_take (b : Bool) (st : List LvS) (l : List S59) (d : Nat) (h : shallow l d) (hd : d + 1 ≤ st.length) : rightF b st l = rightF b (st.take (d + 1)) l := by
  cases l with
  | nil => rw [rightF, rightF]
  | cons x l =>
    have hx : x.f0 ≤ (d : Int) := h x rfl
    have hlt : (st.take (d + 1)).length = d + 1 := by rw [List.length_take]; omega
    rw [rightF, rightF, hlt]
    by_cases c : x.f0 < 0
    · rw [if_pos (.inl c), if_pos (.inl c)]
    · obtain ⟨n, hn⟩ : ∃ n : Nat, x.f0 = n := ⟨x.f0.toNat, by omega⟩
      have hnd : n ≤ d := by omega
      have e1 : ¬ (st.length : Int) ≤ x.f0 := by omega
      have e2 : ¬ ((d + 1 : Nat) : Int) ≤ x.f0 := by omega
      have e3 : (st.take (d + 1)).getD x.f0.toNat (0, []) = st.getD x.f0.toNat (0, []) := by
        rw [hn, Int.toNat_natCast, List.getD_eq_getElem?_getD, List.getD_eq_getElem?_getD, List.getElem?_take, if_pos (by omega)]
      have e4 : (st.take (d + 1)).take x.f0.toNat = st.take x.f0.toNat := by
        rw [List.take_take, hn, Int.toNat_natCast, Nat.min_eq_left (by omega)]
      rw [e3, e4]
      simp only [c, e1, e2, false_or]
theorem same_refl (x : S59) : sameI x x = true := by
  unfold sameI
  simp
def memOK (k : Int) (keys : List ByteArray) (key : ByteArray) (keys2 : List ByteArray) : Prop := ∀ x : S59, x.f2 = key → memberF k keys x = some (true, keys2)
theorem mem_arr (keys : List ByteArray) : memOK 6 keys e0 keys := by
  intro x hx
  unfold memberF
  rw [if_neg (by decide), hx, Lib.toList_data]; rfl
theorem mem_obj (keys : List ByteArray) (key : ByteArray) (hk : Lib.validD key.data.toList = true) (hn : key ∉ keys) (hs : key.size ≤ 9223372036854775807) (hl : keys.length ≤ 1099511627776) : memOK 7 keys key (keys ++ [key]) := by
  intro x hx
  unfold memberF
  rw [if_pos rfl, hx, valid_fs key hs, hk, Option.bind_some, if_pos rfl, if_neg (fun e => hn ((hasB_iff key keys).1 e)), if_pos (by omega)]
/-- one item: not an opening one -/
theorem right_leaf (st : List LvS) (k : Int) (keys keys2 : List ByteArray) (x : S59) (d : Nat) (l : List S59) (hx0 : x.f0 = d) (hst : st.length = d) (hk1 : 1 ≤ x.f1) (hk5 : x.f1 ≤ 5) (hb : sameI x (bareI x) = true) (hv : utf_Valid.f x.f3 = some true) (hm : memberF k keys x = some (true, keys2)) :
    rightF (d == 0) (st ++ [(k, keys)]) (x :: l) = rightF false (st ++ [(k, keys2)]) l := by
  have hg : (st ++ [(k, keys)]).getD x.f0.toNat (0, []) = (k, keys) := by
    rw [hx0, Int.toNat_natCast, ← hst, List.getD_eq_getElem?_getD, List.getElem?_append_right (Nat.le_refl _), Nat.sub_self]; rfl
  have ht : (st ++ [(k, keys)]).take x.f0.toNat = st := by rw [hx0, Int.toNat_natCast, ← hst, List.take_left]
  have h0 : ((x.f0 == 0) != (d == 0)) = false := by rw [hx0]; cases d with
    | zero => rfl
    | succ d => rfl
  rw [rightF, hg, ht, if_neg (by rw [h0, List.length_append, hst, List.length_singleton]; rintro (a | a | a) <;> first | omega | cases a), if_neg (by rw [hb]; rintro (a | a | a) <;> first | omega | cases a), hv, Option.bind_some, if_neg (by decide), hm, Option.bind_some, if_neg (show ¬ true = false from Bool.noConfusion), if_neg (by unfold holdsI; simp; omega)]
/-- one item that opens -/
theorem right_open (st : List LvS) (k : Int) (keys keys2 : List ByteArray) (ob : Bool) (key : ByteArray) (d : Nat) (l : List S59) (hst : st.length = d) (hd : d < 64) (hm : memOK k keys key keys2) :
    rightF (d == 0) (st ++ [(k, keys)]) (row d (kindOf ob) key e0 0 :: l) = rightF false (st ++ [(k, keys2)] ++ [(kindOf ob, [])]) l := by
  have hg : (st ++ [(k, keys)]).getD ((d : Int)).toNat (0, []) = (k, keys) := by
    rw [Int.toNat_natCast, ← hst, List.getD_eq_getElem?_getD, List.getElem?_append_right (Nat.le_refl _), Nat.sub_self]; rfl
  have ht : (st ++ [(k, keys)]).take ((d : Int)).toNat = st := by rw [Int.toNat_natCast, ← hst, List.take_left]
  have h0 : (((d : Int) == 0) != (d == 0)) = false := by cases d with
    | zero => rfl
    | succ d => rfl
  have hm2 := hm (row d (kindOf ob) key e0 0) rfl
  unfold row at hm2 ⊢
  have hv : utf_Valid.f e0 = some true := by rw [valid_fs e0 (by decide), valid_e0]
  have hbare : sameI ⟨(d : Int), kindOf ob, key, e0, 0⟩ (bareI ⟨(d : Int), kindOf ob, key, e0, 0⟩) = true := by cases ob <;> exact same_refl _
  have hho : holdsI ⟨(d : Int), kindOf ob, key, e0, 0⟩ = true := by cases ob <;> rfl
  have hk : ¬ (kindOf ob < 1) ∧ ¬ (7 < kindOf ob) := by cases ob <;> decide
  rw [rightF]
  simp only
  rw [hg, ht, if_neg (by rw [h0, List.length_append, hst, List.length_singleton]; rintro (a | a | a) <;> first | omega | cases a), if_neg (by rw [hbare]; rintro (a | a | a) <;> first | exact hk.1 a | exact hk.2 a | cases a), hv, Option.bind_some, if_neg (by decide), hm2, Option.bind_some, if_neg (show ¬ true = false from Bool.noConfusion), if_pos hho, if_neg (by omega), List.append_assoc]
  rfl
/-- what Right makes of rows that are a value's, or members' -/
def RP : Node → List S59 → B → Prop
  | .v d key, rows, t => d ≤ 64 → ∀ (st : List LvS) (k : Int) (keys keys2 : List ByteArray) (l : List S59), st.length = d → memOK k keys key keys2 → shallow l d → rightF (d == 0) (st ++ [(k, keys)]) (rows ++ l) = rightF false (st ++ [(k, keys2)]) l
  | .m d ob keys _, rows, t => d ≤ 64 → 1 ≤ d → ∀ (st : List LvS) (l : List S59), st.length = d → keys.length + rows.length ≤ 1099511627776 → shallow l d → ∃ keys', rightF false (st ++ [(kindOf ob, keys)]) (rows ++ l) = rightF false (st ++ [(kindOf ob, keys')]) l
theorem JV.deep {K : Node} {rows : List S59} {t : B} (h : JV K rows t) : match K with
    | .v d _ => ∃ x l, rows = x :: l ∧ x.f0 = d
    | .m d _ _ _ => shallow rows d := by
  induction h with
  | null => exact ⟨_, _, rfl, rfl⟩
  | fls => exact ⟨_, _, rfl, rfl⟩
  | tru => exact ⟨_, _, rfl, rfl⟩
  | num => exact ⟨_, _, rfl, rfl⟩
  | str => exact ⟨_, _, rfl, rfl⟩
  | arr => exact ⟨_, _, rfl, rfl⟩
  | obj => exact ⟨_, _, rfl, rfl⟩
  | none => intro x hx; cases hx
  | elem d keys fst rows t rows' t' hv hm iv im =>
    obtain ⟨x, l, rfl, hx⟩ := iv
    intro y hy
    cases hy
    omega
  | memb d keys fst key hk hn rows t rows' t' hv hm iv im =>
    obtain ⟨x, l, rfl, hx⟩ := iv
    intro y hy
    cases hy
    omega
theorem shallow_app {a l : List S59} {d : Nat} (ha : shallow a d) (hl : shallow l d) : shallow (a ++ l) d := by
  cases a with
  | nil => exact hl
  | cons x a => exact fun y hy => ha y hy
theorem shallow_up {l : List S59} {d : Nat} (h : shallow l d) : shallow l (d + 1) := fun x hx => by have := h x hx; omega
theorem keyOf {d : Nat} {key : ByteArray} {rows : List S59} {t : B} (h : JV (.v d key) rows t) : ∃ x l, rows = x :: l ∧ x.f2 = key := by
  cases h with
  | null => exact ⟨_, _, rfl, rfl⟩
  | fls => exact ⟨_, _, rfl, rfl⟩
  | tru => exact ⟨_, _, rfl, rfl⟩
  | num => exact ⟨_, _, rfl, rfl⟩
  | str => exact ⟨_, _, rfl, rfl⟩
  | arr => exact ⟨_, _, rfl, rfl⟩
  | obj => exact ⟨_, _, rfl, rfl⟩
theorem JV.right {K : Node} {rows : List S59} {t : B} (h : JV K rows t) (hz : ∀ x ∈ rows, x.f2.size ≤ 1099511627776 ∧ x.f3.size ≤ 1099511627776) (hl : rows.length ≤ 1099511627776) : RP K rows t := by
  induction h with
  | null d key =>
    intro _ st k keys keys2 l hst hm _
    exact right_leaf st k keys keys2 _ d l rfl hst (show (1 : Int) ≤ 1 by decide) (show (1 : Int) ≤ 5 by decide) (same_refl _) (by rw [show (row d 1 key e0 0).f3 = e0 from rfl, valid_fs e0 (by decide), valid_e0]) (hm _ rfl)
  | fls d key =>
    intro _ st k keys keys2 l hst hm _
    exact right_leaf st k keys keys2 _ d l rfl hst (show (1 : Int) ≤ 2 by decide) (show (2 : Int) ≤ 5 by decide) (same_refl _) (by rw [show (row d 2 key e0 0).f3 = e0 from rfl, valid_fs e0 (by decide), valid_e0]) (hm _ rfl)
  | tru d key =>
    intro _ st k keys keys2 l hst hm _
    exact right_leaf st k keys keys2 _ d l rfl hst (show (1 : Int) ≤ 3 by decide) (show (3 : Int) ≤ 5 by decide) (same_refl _) (by rw [show (row d 3 key e0 0).f3 = e0 from rfl, valid_fs e0 (by decide), valid_e0]) (hm _ rfl)
  | num d key v hv =>
    intro _ st k keys keys2 l hst hm _
    exact right_leaf st k keys keys2 _ d l rfl hst (show (1 : Int) ≤ 4 by decide) (show (4 : Int) ≤ 5 by decide) (same_refl _) (by rw [show (row d 4 key e0 v).f3 = e0 from rfl, valid_fs e0 (by decide), valid_e0]) (hm _ rfl)
  | str d key s hs =>
    intro _ st k keys keys2 l hst hm _
    have := (hz _ List.mem_cons_self).2
    exact right_leaf st k keys keys2 _ d l rfl hst (show (1 : Int) ≤ 5 by decide) (show (5 : Int) ≤ 5 by decide) (same_refl _) (by rw [show (row d 5 key s 0).f3 = s from rfl, valid_fs s (by have h2 : s.size ≤ 1099511627776 := this; omega), hs]) (hm _ rfl)
  | arr d key rows t h hm im =>
    intro hd st k keys keys2 l hst hmk hsh
    have ihm := im (fun x hx => hz x (List.mem_cons_of_mem _ hx)) (by rw [List.length_cons] at hl; omega)
    rw [List.cons_append]
    refine (right_open st k keys keys2 false key d (rows ++ l) hst h hmk).trans ?_
    obtain ⟨keys', he⟩ := ihm (by omega) (by omega) (st ++ [(k, keys2)]) l (by rw [List.length_append, hst]; rfl) (by rw [List.length_cons] at hl; simp only [List.length_nil]; omega) (shallow_up hsh)
    refine he.trans ?_
    rw [right_take false _ l d hsh (by simp only [List.length_append, hst, List.length_singleton]; omega)]
    congr 1
    rw [List.take_append_of_le_length (by rw [List.length_append, hst, List.length_singleton]; omega), List.take_of_length_le (by rw [List.length_append, hst, List.length_singleton]; omega)]
  | obj d key rows t h hm im =>
    intro hd st k keys keys2 l hst hmk hsh
    have ihm := im (fun x hx => hz x (List.mem_cons_of_mem _ hx)) (by rw [List.length_cons] at hl; omega)
    rw [List.cons_append]
    refine (right_open st k keys keys2 true key d (rows ++ l) hst h hmk).trans ?_
    obtain ⟨keys', he⟩ := ihm (by omega) (by omega) (st ++ [(k, keys2)]) l (by rw [List.length_append, hst]; rfl) (by rw [List.length_cons] at hl; simp only [List.length_nil]; omega) (shallow_up hsh)
    refine he.trans ?_
    rw [right_take false _ l d hsh (by simp only [List.length_append, hst, List.length_singleton]; omega)]
    congr 1
    rw [List.take_append_of_le_length (by rw [List.length_append, hst, List.length_singleton]; omega), List.take_of_length_le (by rw [List.length_append, hst, List.length_singleton]; omega)]
  | none d ob keys fst =>
    intro _ _ st l _ _ _
    exact ⟨keys, rfl⟩
  | elem d keys fst rows t rows' t' hv hm iv im =>
    intro hd hd1 st l hst hkl hsh
    simp only [List.length_append] at hl hkl
    have ihv := iv (fun x hx => hz x (List.mem_append_left _ hx)) (by omega) hd st 6 keys keys (rows' ++ l) hst (mem_arr keys) (shallow_app hm.deep hsh)
    obtain ⟨keys', he⟩ := im (fun x hx => hz x (List.mem_append_right _ hx)) (by omega) hd hd1 st l hst (by omega) hsh
    refine ⟨keys', ?_⟩
    rw [List.append_assoc]
    rw [show (d == 0) = false by cases d with | zero => omega | succ d => rfl] at ihv
    exact ihv.trans he
  | memb d keys fst key hk hn rows t rows' t' hv hm iv im =>
    intro hd hd1 st l hst hkl hsh
    simp only [List.length_append] at hl hkl
    obtain ⟨x, xl, hx, _⟩ := hv.deep
    have hr1 : 1 ≤ rows.length := by rw [hx]; simp
    have hks : key.size ≤ 9223372036854775807 := by
      have := keyOf hv
      obtain ⟨y, yl, hy, hy2⟩ := this
      have h3 := (hz y (List.mem_append_left _ (by rw [hy]; exact List.mem_cons_self))).1
      rw [hy2] at h3; omega
    have ihv := iv (fun x hx => hz x (List.mem_append_left _ hx)) (by omega) hd st 7 keys (keys ++ [key]) (rows' ++ l) hst (mem_obj keys key hk hn hks (by omega)) (shallow_app hm.deep hsh)
    obtain ⟨keys', he⟩ := im (fun x hx => hz x (List.mem_append_right _ hx)) (by omega) hd hd1 st l hst (by rw [List.length_append, List.length_singleton]; omega) hsh
    refine ⟨keys', ?_⟩
    rw [List.append_assoc]
    rw [show (d == 0) = false by cases d with | zero => omega | succ d => rfl] at ihv
    exact ihv.trans he
end Go.Proofs.YthhmmaihbjhhgaaDoor.Giv
namespace Go.Proofs.YthhmmaihbjhhgaaDoor.Giv
open Go.RowKit Go.Proofs.YthhmmaihbjhhgaaDoorW.PrintWords Go.Proofs.YthhmmaihbjhhgaaDoorW.PrintLast Go.Proofs.YthhmmaihbjhhgaaDoorW.PrintMore
open Go.Proofs.YthhmmaihbjhhgaaDoor.U1 Go.Proofs.YthhmmaihbjhhgaaDoor.Q1 Go.Proofs.YthhmmaihbjhhgaaDoor.J0 Go.Proofs.YthhmmaihbjhhgaaDoor.J1
set_option linter.unusedSimpArgs false
set_option linter.unusedVariables false
theorem itoa_pos (n : Int) : 1 ≤ (Lib.itoa n).length := by
  obtain ⟨c, r, h, _⟩ := itoa_first n
  rw [h]; simp
theorem quoted_ge (s : ByteArray) : s.size + 2 ≤ (quoted s.data.toList).length := by
  rw [quoted_len]
  have := inner_ge s.data.toList
  rw [data_length] at this
  omega
/-- a text has at least a byte for each row; keys and texts are no longer than it -/
theorem JV.small {K : Node} {rows : List S59} {t : B} (h : JV K rows t) : rows.length ≤ t.length ∧ ∀ x ∈ rows, x.f3.size ≤ t.length ∧ x.f2.size ≤ t.length + (match K with | .v _ key => key.size | .m _ _ _ _ => 0) := by
  induction h with
  | null d key => exact ⟨(show (1 : Nat) ≤ 4 by decide), fun x hx => by obtain rfl := List.mem_singleton.1 hx; exact ⟨Nat.zero_le _, by show key.size ≤ _ + key.size; omega⟩⟩
  | fls d key => exact ⟨(show (1 : Nat) ≤ 5 by decide), fun x hx => by obtain rfl := List.mem_singleton.1 hx; exact ⟨Nat.zero_le _, by show key.size ≤ _ + key.size; omega⟩⟩
  | tru d key => exact ⟨(show (1 : Nat) ≤ 4 by decide), fun x hx => by obtain rfl := List.mem_singleton.1 hx; exact ⟨Nat.zero_le _, by show key.size ≤ _ + key.size; omega⟩⟩
  | num d key n h => exact ⟨itoa_pos n, fun x hx => by obtain rfl := List.mem_singleton.1 hx; exact ⟨Nat.zero_le _, by show key.size ≤ _ + key.size; omega⟩⟩
  | str d key s h => exact ⟨by have := quoted_ge s; rw [List.length_singleton]; omega, fun x hx => by obtain rfl := List.mem_singleton.1 hx; exact ⟨by have := quoted_ge s; show s.size ≤ _; omega, by show key.size ≤ _ + key.size; omega⟩⟩
  | arr d key rows t h hm im =>
    refine ⟨by have := im.1; simp only [List.length_cons, List.length_append, List.length_nil]; omega, fun x hx => ?_⟩
    rcases List.mem_cons.1 hx with rfl | hx
    · exact ⟨Nat.zero_le _, by show key.size ≤ _ + key.size; omega⟩
    · have := im.2 x hx
      simp only [List.length_cons, List.length_append, List.length_nil] at this ⊢; omega
  | obj d key rows t h hm im =>
    refine ⟨by have := im.1; simp only [List.length_cons, List.length_append, List.length_nil]; omega, fun x hx => ?_⟩
    rcases List.mem_cons.1 hx with rfl | hx
    · exact ⟨Nat.zero_le _, by show key.size ≤ _ + key.size; omega⟩
    · have := im.2 x hx
      simp only [List.length_cons, List.length_append, List.length_nil] at this ⊢; omega
  | none => exact ⟨Nat.le_refl _, fun x hx => by cases hx⟩
  | elem d keys fst rows t rows' t' hv hm iv im =>
    refine ⟨by have := iv.1; have := im.1; simp only [List.length_append]; omega, fun x hx => ?_⟩
    rcases List.mem_append.1 hx with hx | hx
    · have := iv.2 x hx
      have he : e0.size = 0 := rfl
      simp only [List.length_append, he] at this ⊢; omega
    · have := im.2 x hx
      simp only [List.length_append] at this ⊢; omega
  | memb d keys fst key hk hn rows t rows' t' hv hm iv im =>
    refine ⟨by have := iv.1; have := im.1; simp only [List.length_append, List.length_cons]; omega, fun x hx => ?_⟩
    have hq := quoted_ge key
    rcases List.mem_append.1 hx with hx | hx
    · have := iv.2 x hx
      simp only [List.length_append, List.length_cons] at this ⊢; omega
    · have := im.2 x hx
      simp only [List.length_append, List.length_cons] at this ⊢; omega
/-- what Print makes of rows that are a value's, or members' -/
def PP : Node → List S59 → B → Prop
  | .v d key, rows, t => ∀ (prev : Option Int) (bs ends : B) (l : List S59), d ≤ ends.length → key.size ≤ 1099511627776 → bs.length + ends.length + (commaB prev d).length + (keyB (ends.take d) key).length + t.length ≤ 1099511627776 → ∃ (p : Int) (bs' ends' : B), (d : Int) ≤ p ∧ printF prev bs ends (rows ++ l) = printF (some p) bs' ends' l ∧ d ≤ ends'.length ∧ ends'.take d = ends.take d ∧ bs' ++ (ends'.drop d).reverse = bs ++ (ends.drop d).reverse ++ commaB prev d ++ keyB (ends.take d) key ++ t
  | .m d ob keys fst, rows, t => ∀ (p : Int) (bs ends : B) (l : List S59), d ≤ ends.length → (ends.take d).getLast? = some (enB ob) → (if fst then p = d - 1 else d ≤ p) → bs.length + ends.length + t.length ≤ 1099511627776 → ∃ (p' : Int) (bs' ends' : B), (d : Int) - 1 ≤ p' ∧ printF (some p) bs ends (rows ++ l) = printF (some p') bs' ends' l ∧ d ≤ ends'.length ∧ ends'.take d = ends.take d ∧ bs' ++ (ends'.drop d).reverse = bs ++ (ends.drop d).reverse ++ t
/-- one item -/
theorem print_one (prev : Option Int) (bs ends : B) (x : S59) (l : List S59) (d : Nat) (hx : x.f0 = d) (hd : d ≤ ends.length) (hk : 1 ≤ x.f1 ∧ x.f1 ≤ 7) (h4 : I64 x.f4) (hl : bs.length + ends.length + sizeI x ≤ 140737488355328) :
    printF prev bs ends (x :: l) = printF (some (d : Int)) (bs ++ (ends.drop d).reverse ++ commaB prev d ++ keyB (ends.take d) x.f2 ++ valB x) (ends.take d ++ endB x) l := by
  rw [printF, if_pos ⟨by omega, by omega, hk.1, hk.2, h4, hl⟩, hx, Int.toNat_natCast]
theorem take_len (l : B) (d : Nat) (h : d ≤ l.length) : (l.take d).length = d := by rw [List.length_take]; omega
theorem pp_leaf (d : Nat) (key : ByteArray) (x : S59) (t : B) (hx : x.f0 = d) (hk : 1 ≤ x.f1 ∧ x.f1 ≤ 5) (h2 : x.f2 = key) (h4 : I64 x.f4) (h3 : x.f3.size ≤ t.length) (hv : valB x = t) : PP (.v d key) [x] t := by
  intro prev bs ends l hd hks hl
  have he : endB x = [] := by unfold endB; rw [if_neg (by omega), if_neg (by omega)]
  have ht := take_len ends d hd
  have hdr : (ends.take d).drop d = [] := List.drop_eq_nil_of_le (by omega)
  refine ⟨d, _, _, Int.le_refl _, print_one prev bs ends x l d hx hd ⟨hk.1, by omega⟩ h4 (by unfold sizeI; rw [h2]; omega), ?_, ?_, ?_⟩
  · rw [he, List.append_nil]; omega
  · rw [he, List.append_nil, List.take_take, Nat.min_self]
  · rw [he, List.append_nil, hv, h2, hdr, List.reverse_nil, List.append_nil]
theorem pp_open (d : Nat) (key : ByteArray) (ob : Bool) (rows : List S59) (t : B) (im : PP (.m (d + 1) ob [] true) rows t) : PP (.v d key) (row d (kindOf ob) key e0 0 :: rows) ((if ob then 123 else 91) :: (t ++ [enB ob])) := by
  intro prev bs ends l hd hks hl
  simp only [List.length_cons, List.length_append, List.length_nil] at hl
  have hkk : 1 ≤ (row d (kindOf ob) key e0 0).f1 ∧ (row d (kindOf ob) key e0 0).f1 ≤ 7 := by
    show 1 ≤ kindOf ob ∧ kindOf ob ≤ 7
    cases ob <;> decide
  have h1 := print_one prev bs ends (row d (kindOf ob) key e0 0) (rows ++ l) d rfl hd hkk (show I64 0 from ⟨by decide, by decide⟩) (by show _ + (6 * key.size + 6 * 0 + 200) ≤ _; omega)
  have hv : valB (row d (kindOf ob) key e0 0) = [if ob then 123 else 91] := by cases ob <;> rfl
  have he : endB (row d (kindOf ob) key e0 0) = [enB ob] := by cases ob <;> rfl
  rw [hv, he, show (row d (kindOf ob) key e0 0).f2 = key from rfl] at h1
  have hlt := take_len ends d hd
  have hlt2 : (ends.take d ++ [enB ob]).length = d + 1 := by rw [List.length_append, hlt, List.length_singleton]
  have htt : (ends.take d ++ [enB ob]).take (d + 1) = ends.take d ++ [enB ob] := List.take_of_length_le (by omega)
  have hdd0 : (ends.take d ++ [enB ob]).drop (d + 1) = [] := List.drop_eq_nil_of_le (by omega)
  obtain ⟨p', bs', ends', f0, f1, f2, f3, f4⟩ := im d (bs ++ (ends.drop d).reverse ++ commaB prev d ++ keyB (ends.take d) key ++ [if ob then 123 else 91]) (ends.take d ++ [enB ob]) l (by omega)
    (by rw [htt]; simp) (by rw [if_pos rfl]; omega) (by simp only [List.length_append, List.length_reverse, List.length_drop, hlt, List.length_singleton]; omega)
  rw [htt] at f3
  rw [hdd0, List.reverse_nil, List.append_nil] at f4
  have hsp : ends' = ends.take d ++ ([enB ob] ++ ends'.drop (d + 1)) := by
    have e1 := List.take_append_drop (d + 1) ends'
    rw [f3, List.append_assoc] at e1
    exact e1.symm
  have hdd : ends'.drop d = [enB ob] ++ ends'.drop (d + 1) := by
    have e2 := List.drop_left (l₁ := ends.take d) (l₂ := [enB ob] ++ ends'.drop (d + 1))
    rw [← hsp, hlt] at e2
    exact e2
  have htd : ends'.take d = ends.take d := by
    have e2 := List.take_left (l₁ := ends.take d) (l₂ := [enB ob] ++ ends'.drop (d + 1))
    rw [← hsp, hlt] at e2
    exact e2
  refine ⟨p', bs', ends', by omega, by rw [List.cons_append]; exact h1.trans f1, by omega, htd, ?_⟩
  rw [hdd, List.reverse_append, ← List.append_assoc, f4]
  simp
theorem JV.print {K : Node} {rows : List S59} {t : B} (h : JV K rows t) : PP K rows t := by
  induction h with
  | null d key => exact pp_leaf d key _ _ rfl ⟨show (1 : Int) ≤ 1 by decide, show (1 : Int) ≤ 5 by decide⟩ rfl (show I64 0 from ⟨by decide, by decide⟩) (Nat.zero_le _) rfl
  | fls d key => exact pp_leaf d key _ _ rfl ⟨show (1 : Int) ≤ 2 by decide, show (2 : Int) ≤ 5 by decide⟩ rfl (show I64 0 from ⟨by decide, by decide⟩) (Nat.zero_le _) rfl
  | tru d key => exact pp_leaf d key _ _ rfl ⟨show (1 : Int) ≤ 3 by decide, show (3 : Int) ≤ 5 by decide⟩ rfl (show I64 0 from ⟨by decide, by decide⟩) (Nat.zero_le _) rfl
  | num d key n h => exact pp_leaf d key _ _ rfl ⟨show (1 : Int) ≤ 4 by decide, show (4 : Int) ≤ 5 by decide⟩ rfl h (Nat.zero_le _) rfl
  | str d key s h =>
    refine pp_leaf d key _ _ rfl ⟨show (1 : Int) ≤ 5 by decide, show (5 : Int) ≤ 5 by decide⟩ rfl (show I64 0 from ⟨by decide, by decide⟩) (by have := quoted_ge s; show s.size ≤ _; omega) ?_
    show (writeS s).1.data.toList = _
    rw [writeS_yes s h]
  | arr d key rows t h hm im => exact pp_open d key false rows t im
  | obj d key rows t h hm im => exact pp_open d key true rows t im
  | none d ob keys fst =>
    intro p bs ends l hd _ hp _
    exact ⟨p, bs, ends, by cases fst <;> simp at hp <;> omega, rfl, hd, rfl, by rw [List.append_nil]⟩
  | elem d keys fst rows t rows' t' hv hm iv im =>
    intro p bs ends l hd hla hp hl
    have hc : commaB (some p) (d : Int) = sepa fst := by
      unfold commaB sepa
      cases fst with
      | true => rw [if_pos rfl] at hp; simp only; rw [if_neg (by omega)]; rfl
      | false => rw [if_neg (by decide)] at hp; simp only; rw [if_pos hp]; rfl
    have hk : keyB (ends.take d) e0 = [] := by unfold keyB; rw [hla, if_neg (by decide)]
    simp only [List.length_append] at hl
    obtain ⟨p1, b1, en1, f0, f1, f2, f3, f4⟩ := iv (some p) bs ends (rows' ++ l) hd (Nat.zero_le _) (by rw [hc, hk, List.length_nil]; omega)
    rw [hc, hk, List.append_nil] at f4
    have fl := congrArg List.length f4
    simp only [List.length_append, List.length_reverse, List.length_drop] at fl
    obtain ⟨p2, b2, en2, g0, g1, g2, g3, g4⟩ := im p1 b1 en1 l f2 (by rw [f3]; exact hla) (by rw [if_neg (by decide)]; exact f0) (by omega)
    refine ⟨p2, b2, en2, g0, by rw [List.append_assoc]; exact f1.trans g1, g2, g3.trans f3, ?_⟩
    rw [g4, f4]
    simp
  | memb d keys fst key hk0 hn rows t rows' t' hv hm iv im =>
    intro p bs ends l hd hla hp hl
    have hc : commaB (some p) (d : Int) = sepa fst := by
      unfold commaB sepa
      cases fst with
      | true => rw [if_pos rfl] at hp; simp only; rw [if_neg (by omega)]; rfl
      | false => rw [if_neg (by decide)] at hp; simp only; rw [if_pos hp]; rfl
    have hk : keyB (ends.take d) key = quoted key.data.toList ++ [58] := by unfold keyB; rw [hla, if_pos (show some (enB true) = some 125 from rfl), writeS_yes key hk0]
    have hq := quoted_ge key
    simp only [List.length_append, List.length_cons] at hl
    obtain ⟨p1, b1, en1, f0, f1, f2, f3, f4⟩ := iv (some p) bs ends (rows' ++ l) hd (by omega) (by rw [hc, hk, List.length_append, List.length_singleton]; omega)
    rw [hc, hk] at f4
    have fl := congrArg List.length f4
    simp only [List.length_append, List.length_reverse, List.length_drop, List.length_singleton] at fl
    obtain ⟨p2, b2, en2, g0, g1, g2, g3, g4⟩ := im p1 b1 en1 l f2 (by rw [f3]; exact hla) (by rw [if_neg (by decide)]; exact f0) (by omega)
    refine ⟨p2, b2, en2, g0, by rw [List.append_assoc]; exact f1.trans g1, g2, g3.trans f3, ?_⟩
    rw [g4, f4]
    simp
theorem JV.right_f {rows : List S59} {t : B} (h : JV (.v 0 e0) rows t) (hl : t.length ≤ 1099511627776) : json_Right.f rows = some true := by
  obtain ⟨h1, h2⟩ := h.small
  have hr := h.right (fun x hx => by have := h2 x hx; have he : e0.size = 0 := rfl; simp only [he] at this; omega) (by omega) (by omega) [] 6 [] [] [] rfl (mem_arr []) (fun x hx => by cases hx)
  rw [List.append_nil, List.nil_append] at hr
  obtain ⟨x, xl, hx, _⟩ := h.deep
  unfold json_Right.f
  rw [if_pos (by omega), show rightF true [(6, [])] rows = some true from hr.trans (by rw [rightF])]
  show some (true && decide (0 < rows.length)) = _
  rw [Bool.true_and, decide_eq_true (by rw [hx]; simp)]
theorem JV.ne {rows : List S59} {t : B} {d : Nat} {key : ByteArray} (h : JV (.v d key) rows t) : t ≠ [] := by
  obtain ⟨c, r, hc, _⟩ := h.first
  rw [hc]; simp
theorem JV.print_f {rows : List S59} {t : B} (h : JV (.v 0 e0) rows t) (hl : t.length ≤ 1099511627776) : json_Print.f rows = some ⟨t.toArray⟩ := by
  obtain ⟨p, bs', ends', _, h1, _, _, h2⟩ := h.print Option.none [] [] [] (Nat.le_refl _) (Nat.zero_le _) (by show 0 + 0 + 0 + 0 + _ ≤ _; omega)
  rw [List.append_nil] at h1
  have h3 : bs' ++ ends'.reverse = t := h2
  have h4 : printF Option.none [] [] rows = some t := by rw [h1, printF, h3]
  unfold json_Print.f
  rw [h.right_f hl, Option.bind_some, if_pos rfl, h4, Option.bind_some, if_pos ⟨h.ne, by omega⟩]
end Go.Proofs.YthhmmaihbjhhgaaDoor.Giv
namespace Go.Proofs.YthhmmaihbjhhgaaDoor.Giv
open Go.RowKit Go.Proofs.YthhmmaihbjhhgaaDoorW.PrintWords Go.Proofs.YthhmmaihbjhhgaaDoorW.PrintLast Go.Proofs.YthhmmaihbjhhgaaDoorW.PrintMore
open Go.Proofs.YthhmmaihbjhhgaaDoor.U1 Go.Proofs.YthhmmaihbjhhgaaDoor.Q1 Go.Proofs.YthhmmaihbjhhgaaDoor.J0 Go.Proofs.YthhmmaihbjhhgaaDoor.J1
set_option linter.unusedSimpArgs false
set_option linter.unusedVariables false
def wt : List S59 → Nat
  | [] => 0
  | x :: l => x.f2.size + x.f3.size + 1 + wt l
theorem wt_app : ∀ a b : List S59, wt (a ++ b) = wt a + wt b
  | [], b => by simp [wt]
  | x :: a, b => by rw [List.cons_append, wt, wt, wt_app a b]; omega
theorem JV.len {K : Node} {rows : List S59} {t : B} (h : JV K rows t) : match K with
    | .v _ key => t.length + 6 * key.size + 4 ≤ 30 * wt rows
    | .m _ _ _ _ => t.length ≤ 30 * wt rows := by
  induction h with
  | null d key => show 4 + 6 * key.size + 4 ≤ 30 * (key.size + 0 + 1 + 0); omega
  | fls d key => show 5 + 6 * key.size + 4 ≤ 30 * (key.size + 0 + 1 + 0); omega
  | tru d key => show 4 + 6 * key.size + 4 ≤ 30 * (key.size + 0 + 1 + 0); omega
  | num d key n h => have := itoa_len n h; show _ + 6 * key.size + 4 ≤ 30 * (key.size + 0 + 1 + 0); omega
  | str d key s h =>
    have := inner_size s
    show (quoted s.data.toList).length + 6 * key.size + 4 ≤ 30 * (key.size + s.size + 1 + 0)
    rw [quoted_len]; omega
  | arr d key rows t h hm im =>
    show (91 :: (t ++ [93])).length + 6 * key.size + 4 ≤ 30 * (key.size + 0 + 1 + wt rows)
    have : t.length ≤ 30 * wt rows := im
    simp only [List.length_cons, List.length_append, List.length_nil]; omega
  | obj d key rows t h hm im =>
    show (123 :: (t ++ [125])).length + 6 * key.size + 4 ≤ 30 * (key.size + 0 + 1 + wt rows)
    have : t.length ≤ 30 * wt rows := im
    simp only [List.length_cons, List.length_append, List.length_nil]; omega
  | none => exact Nat.zero_le _
  | elem d keys fst rows t rows' t' hv hm iv im =>
    have h1 : t.length + 6 * e0.size + 4 ≤ 30 * wt rows := iv
    have h2 : t'.length ≤ 30 * wt rows' := im
    have h3 : (sepa fst).length ≤ 1 := by cases fst <;> decide
    show (sepa fst ++ (t ++ t')).length ≤ 30 * wt (rows ++ rows')
    rw [wt_app]
    simp only [List.length_append]; omega
  | memb d keys fst key hk hn rows t rows' t' hv hm iv im =>
    have h1 : t.length + 6 * key.size + 4 ≤ 30 * wt rows := iv
    have h2 : t'.length ≤ 30 * wt rows' := im
    have h3 : (sepa fst).length ≤ 1 := by cases fst <;> decide
    have h4 := inner_size key
    have h5 := quoted_len key.data.toList
    show (sepa fst ++ (quoted key.data.toList ++ (58 :: (t ++ t')))).length ≤ 30 * wt (rows ++ rows')
    rw [wt_app]
    simp only [List.length_append, List.length_cons]; omega
/-- the whole parser -/
def topS (l : B) : List S59 × Int := if (pv (3 * l.length + 1) l 0 e0).1 = 0 then (if sk (pv (3 * l.length + 1) l 0 e0).2.1 ≠ [] then ([], 80) else ((pv (3 * l.length + 1) l 0 e0).2.2, 0)) else ([], (pv (3 * l.length + 1) l 0 e0).1)
/-- a value's text is read as it -/
theorem top_text {rows : List S59} {t : B} (h : JV (.v 0 e0) rows t) : topS t = (rows, 0) := by
  have h1 : pv (3 * t.length + 1) (t ++ []) 0 e0 = (0, [], rows) := h.parse (by omega) [] (3 * t.length + 1) rfl (by simp)
  rw [List.append_nil] at h1
  unfold topS
  rw [h1, if_pos rfl, if_neg (by simp [sk])]
end Go.Proofs.YthhmmaihbjhhgaaDoor.Giv
namespace Go.Proofs.YthhmmaihbjhhgaaDoor.Giv
open Go.RowKit Go.Proofs.YthhmmaihbjhhgaaDoorW.PrintWords Go.Proofs.YthhmmaihbjhhgaaDoorW.PrintLast Go.Proofs.YthhmmaihbjhhgaaDoorW.PrintMore
open Go.Proofs.YthhmmaihbjhhgaaDoor.U1 Go.Proofs.YthhmmaihbjhhgaaDoor.Q1 Go.Proofs.YthhmmaihbjhhgaaDoor.J0 Go.Proofs.YthhmmaihbjhhgaaDoor.J1
set_option linter.unusedSimpArgs false
def cracknelref08_may.f (k : Nat) (a0 : Int) (a1 : Int) (a2 : ByteArray) (a3 : ByteArray) (a4 : Int) : Option Bool :=
  if a1 < 1 ∨ 7 < a1 ∨ (a1 ≠ 4 ∧ a4 ≠ 0) ∨ (a1 ≠ 5 ∧ a3.toList ≠ []) then some false
  else if 64 < a0 ∨ (a0 = 64 ∧ 6 ≤ a1) then some false
  else (cracknelref05_Valid.f k a2).bind fun b => if b = true then cracknelref05_Valid.f k a3 else some false
set_option maxHeartbeats 8000000 in
set_option maxRecDepth 100000 in
theorem may_a (k : Nat) (a0 a1 : Int) (a2 a3 : ByteArray) (a4 : Int) (w : World) (h1 : a1 < 1) :
    Calls Tryd.prog 66 #[.agg #[.int .i64 a0, .int .i64 a1, .string a2, .string a3, .int .i64 a4]] w fun e w' => e = .returned (.bool false) ∧ Below w.heap.size w w' := by
  have hu81 := Tryd.underlying81
  go_enter Tryd.func66, Tryd.ntmps66
  go_wp2_with fail
  go_ret
  exact ⟨rfl, below_alloc (Below.refl _ _) _⟩
set_option maxHeartbeats 8000000 in
set_option maxRecDepth 100000 in
theorem may_b (k : Nat) (a0 a1 : Int) (a2 a3 : ByteArray) (a4 : Int) (w : World) (h1 : 7 < a1) :
    Calls Tryd.prog 66 #[.agg #[.int .i64 a0, .int .i64 a1, .string a2, .string a3, .int .i64 a4]] w fun e w' => e = .returned (.bool false) ∧ Below w.heap.size w w' := by
  have hu81 := Tryd.underlying81
  have h1b : ¬ a1 < 1 := by omega
  go_enter Tryd.func66, Tryd.ntmps66
  go_wp2_with fail
  go_ret
  exact ⟨rfl, below_alloc (Below.refl _ _) _⟩
set_option maxHeartbeats 8000000 in
set_option maxRecDepth 100000 in
theorem may_c (k : Nat) (a0 a1 : Int) (a2 a3 : ByteArray) (a4 : Int) (w : World) (h1 : ¬ a1 < 1) (h2 : ¬ 7 < a1) (h4 : a1 ≠ 4) (h6 : a4 ≠ 0) :
    Calls Tryd.prog 66 #[.agg #[.int .i64 a0, .int .i64 a1, .string a2, .string a3, .int .i64 a4]] w fun e w' => e = .returned (.bool false) ∧ Below w.heap.size w w' := by
  have hu81 := Tryd.underlying81
  have h4a : (a1 == 4) = false := beq_eq_false_iff_ne.mpr h4
  have h4b : (a1 != 4) = true := by rw [bne, h4a]; rfl
  have h6a : (a4 == 0) = false := beq_eq_false_iff_ne.mpr h6
  have h6b : (a4 != 0) = true := by rw [bne, h6a]; rfl
  clear h4 h6
  go_enter Tryd.func66, Tryd.ntmps66
  go_wp2_with fail
  go_ret
  exact ⟨rfl, below_alloc (Below.refl _ _) _⟩
set_option maxHeartbeats 8000000 in
set_option maxRecDepth 100000 in
theorem may_d1 (k : Nat) (a0 a1 : Int) (a2 a3 : ByteArray) (a4 : Int) (w : World) (h1 : ¬ a1 < 1) (h2 : ¬ 7 < a1) (h4 : a1 = 4) (h7 : a3.toList ≠ []) :
    Calls Tryd.prog 66 #[.agg #[.int .i64 a0, .int .i64 a1, .string a2, .string a3, .int .i64 a4]] w fun e w' => e = .returned (.bool false) ∧ Below w.heap.size w w' := by
  have hu81 := Tryd.underlying81
  have h4a : (a1 == 4) = true := beq_iff_eq.mpr h4
  have h4b : (a1 != 4) = false := by rw [bne, h4a]; rfl
  have h5a : (a1 == 5) = false := beq_eq_false_iff_ne.mpr (by omega)
  have h5b : (a1 != 5) = true := by rw [bne, h5a]; rfl
  have h7a : a3.toList.isEmpty = false := by cases hq : a3.toList with | nil => exact absurd hq h7 | cons _ _ => rfl
  have h7b : (a3.toList == []) = false := by cases hq : a3.toList with | nil => exact absurd hq h7 | cons _ _ => rfl
  clear h4 h7
  go_enter Tryd.func66, Tryd.ntmps66
  go_wp2_with fail
  go_ret
  exact ⟨rfl, below_alloc (Below.refl _ _) _⟩
set_option maxHeartbeats 8000000 in
set_option maxRecDepth 100000 in
theorem may_d2 (k : Nat) (a0 a1 : Int) (a2 a3 : ByteArray) (a4 : Int) (w : World) (h1 : ¬ a1 < 1) (h2 : ¬ 7 < a1) (h4 : a1 ≠ 4) (h5 : a1 ≠ 5) (h6 : a4 = 0) (h7 : a3.toList ≠ []) :
    Calls Tryd.prog 66 #[.agg #[.int .i64 a0, .int .i64 a1, .string a2, .string a3, .int .i64 a4]] w fun e w' => e = .returned (.bool false) ∧ Below w.heap.size w w' := by
  have hu81 := Tryd.underlying81
  have h4a : (a1 == 4) = false := beq_eq_false_iff_ne.mpr h4
  have h4b : (a1 != 4) = true := by rw [bne, h4a]; rfl
  have h5a : (a1 == 5) = false := beq_eq_false_iff_ne.mpr h5
  have h5b : (a1 != 5) = true := by rw [bne, h5a]; rfl
  have h6a : (a4 == 0) = true := beq_iff_eq.mpr h6
  have h6b : (a4 != 0) = false := by rw [bne, h6a]; rfl
  have h7a : a3.toList.isEmpty = false := by cases hq : a3.toList with | nil => exact absurd hq h7 | cons _ _ => rfl
  have h7b : (a3.toList == []) = false := by cases hq : a3.toList with | nil => exact absurd hq h7 | cons _ _ => rfl
  clear h4 h5 h6 h7
  go_enter Tryd.func66, Tryd.ntmps66
  go_wp2_with fail
  go_ret
  exact ⟨rfl, below_alloc (Below.refl _ _) _⟩
set_option maxHeartbeats 8000000 in
set_option maxRecDepth 100000 in
theorem may_e1 (k : Nat) (a0 a1 : Int) (a2 a3 : ByteArray) (a4 : Int) (w : World) (h1 : ¬ a1 < 1) (h2 : ¬ 7 < a1) (h4 : a1 = 4) (h7 : a3.toList = []) (h8 : 64 < a0) :
    Calls Tryd.prog 66 #[.agg #[.int .i64 a0, .int .i64 a1, .string a2, .string a3, .int .i64 a4]] w fun e w' => e = .returned (.bool false) ∧ Below w.heap.size w w' := by
  have hu81 := Tryd.underlying81
  have h4a : (a1 == 4) = true := beq_iff_eq.mpr h4
  have h4b : (a1 != 4) = false := by rw [bne, h4a]; rfl
  have h5a : (a1 == 5) = false := beq_eq_false_iff_ne.mpr (by omega)
  have h5b : (a1 != 5) = true := by rw [bne, h5a]; rfl
  have h7a : a3.toList.isEmpty = true := by rw [h7]; rfl
  have h7b : (a3.toList == []) = true := by rw [h7]; rfl
  clear h4 h7
  go_enter Tryd.func66, Tryd.ntmps66
  go_wp2_with fail
  go_ret
  exact ⟨rfl, below_alloc (Below.refl _ _) _⟩
set_option maxHeartbeats 8000000 in
set_option maxRecDepth 100000 in
theorem may_f1 (k : Nat) (a0 a1 : Int) (a2 a3 : ByteArray) (a4 : Int) (w : World) (h1 : ¬ a1 < 1) (h2 : ¬ 7 < a1) (h4 : a1 = 4) (h7 : a3.toList = []) (h8 : a0 = 64) (h9 : 6 ≤ a1) :
    Calls Tryd.prog 66 #[.agg #[.int .i64 a0, .int .i64 a1, .string a2, .string a3, .int .i64 a4]] w fun e w' => e = .returned (.bool false) ∧ Below w.heap.size w w' := by
  have hu81 := Tryd.underlying81
  have h4a : (a1 == 4) = true := beq_iff_eq.mpr h4
  have h4b : (a1 != 4) = false := by rw [bne, h4a]; rfl
  have h5a : (a1 == 5) = false := beq_eq_false_iff_ne.mpr (by omega)
  have h5b : (a1 != 5) = true := by rw [bne, h5a]; rfl
  have h7a : a3.toList.isEmpty = true := by rw [h7]; rfl
  have h7b : (a3.toList == []) = true := by rw [h7]; rfl
  clear h4 h7
  have h8a : (a0 == 64) = true := beq_iff_eq.mpr h8
  have h8b : ¬ 64 < a0 := by omega
  clear h8
  go_enter Tryd.func66, Tryd.ntmps66
  go_wp2_with fail
  go_ret
  exact ⟨rfl, below_alloc (Below.refl _ _) _⟩
set_option maxHeartbeats 8000000 in
set_option maxRecDepth 100000 in
theorem may_g10 (k : Nat) (a0 a1 : Int) (a2 a3 : ByteArray) (a4 : Int) (w : World) (h1 : ¬ a1 < 1) (h2 : ¬ 7 < a1) (h4 : a1 = 4) (h7 : a3.toList = []) (h8 : a0 = 64) (h9 : ¬ 6 ≤ a1) (hv : cracknelref05_Valid.f k a2 = some false) :
    Calls Tryd.prog 66 #[.agg #[.int .i64 a0, .int .i64 a1, .string a2, .string a3, .int .i64 a4]] w fun e w' => e = .returned (.bool false) ∧ Below w.heap.size w w' := by
  have hu81 := Tryd.underlying81
  have h4a : (a1 == 4) = true := beq_iff_eq.mpr h4
  have h4b : (a1 != 4) = false := by rw [bne, h4a]; rfl
  have h5a : (a1 == 5) = false := beq_eq_false_iff_ne.mpr (by omega)
  have h5b : (a1 != 5) = true := by rw [bne, h5a]; rfl
  have h7a : a3.toList.isEmpty = true := by rw [h7]; rfl
  have h7b : (a3.toList == []) = true := by rw [h7]; rfl
  clear h4 h7
  have h8a : (a0 == 64) = true := beq_iff_eq.mpr h8
  have h8b : ¬ 64 < a0 := by omega
  clear h8
  have FA := Aside0.mk hv
  clear hv
  go_enter Tryd.func66, Tryd.ntmps66
  go_wp2_with (go_at_call 37; (with_reducible refine (cracknelref05_Valid.calls k a2 _ _ FA.out).mono ?_); rintro e w1 ⟨rfl, hb1⟩; have HB1 := Aside0.mk hb1; have hcz : w1.cell? ⟨w.heap.size, 3, none⟩ = some (.string a3) := (blk_cell ((hb1.block _ (by simp)).trans (heap_alloc_new _ _)) 3).trans rfl; clear hb1)
  go_ret
  exact ⟨rfl, below_step (below_alloc (Below.refl _ _) _) HB1.out⟩
set_option maxHeartbeats 8000000 in
set_option maxRecDepth 100000 in
theorem may_g11 (k : Nat) (a0 a1 : Int) (a2 a3 : ByteArray) (a4 : Int) (w : World) (h1 : ¬ a1 < 1) (h2 : ¬ 7 < a1) (h4 : a1 = 4) (h7 : a3.toList = []) (h8 : a0 = 64) (h9 : ¬ 6 ≤ a1) (r : Bool) (hv : cracknelref05_Valid.f k a2 = some true) (hv2 : cracknelref05_Valid.f k a3 = some r) :
    Calls Tryd.prog 66 #[.agg #[.int .i64 a0, .int .i64 a1, .string a2, .string a3, .int .i64 a4]] w fun e w' => e = .returned (.bool r) ∧ Below w.heap.size w w' := by
  have hu81 := Tryd.underlying81
  have h4a : (a1 == 4) = true := beq_iff_eq.mpr h4
  have h4b : (a1 != 4) = false := by rw [bne, h4a]; rfl
  have h5a : (a1 == 5) = false := beq_eq_false_iff_ne.mpr (by omega)
  have h5b : (a1 != 5) = true := by rw [bne, h5a]; rfl
  have h7a : a3.toList.isEmpty = true := by rw [h7]; rfl
  have h7b : (a3.toList == []) = true := by rw [h7]; rfl
  clear h4 h7
  have h8a : (a0 == 64) = true := beq_iff_eq.mpr h8
  have h8b : ¬ 64 < a0 := by omega
  clear h8
  have FA := Aside0.mk hv
  have FB := Aside0.mk hv2
  clear hv hv2
  go_enter Tryd.func66, Tryd.ntmps66
  go_wp2_with (first | (go_at_call 37; (with_reducible refine (cracknelref05_Valid.calls k a2 _ _ FA.out).mono ?_); rintro e w1 ⟨rfl, hb1⟩; have HB1 := Aside0.mk hb1; have hcz : w1.cell? ⟨w.heap.size, 3, none⟩ = some (.string a3) := (blk_cell ((hb1.block _ (by simp)).trans (heap_alloc_new _ _)) 3).trans rfl; clear hb1) | (go_at_call 37; (with_reducible refine (cracknelref05_Valid.calls k a3 _ _ FB.out).mono ?_); rintro e w2 ⟨rfl, hb2⟩; have HB2 := Aside0.mk hb2; clear hb2))
  go_ret
  exact ⟨rfl, below_step (below_step (below_alloc (Below.refl _ _) _) HB1.out) HB2.out⟩
set_option maxHeartbeats 8000000 in
set_option maxRecDepth 100000 in
theorem may_h10 (k : Nat) (a0 a1 : Int) (a2 a3 : ByteArray) (a4 : Int) (w : World) (h1 : ¬ a1 < 1) (h2 : ¬ 7 < a1) (h4 : a1 = 4) (h7 : a3.toList = []) (h8 : a0 < 64) (hv : cracknelref05_Valid.f k a2 = some false) :
    Calls Tryd.prog 66 #[.agg #[.int .i64 a0, .int .i64 a1, .string a2, .string a3, .int .i64 a4]] w fun e w' => e = .returned (.bool false) ∧ Below w.heap.size w w' := by
  have hu81 := Tryd.underlying81
  have h4a : (a1 == 4) = true := beq_iff_eq.mpr h4
  have h4b : (a1 != 4) = false := by rw [bne, h4a]; rfl
  have h5a : (a1 == 5) = false := beq_eq_false_iff_ne.mpr (by omega)
  have h5b : (a1 != 5) = true := by rw [bne, h5a]; rfl
  have h7a : a3.toList.isEmpty = true := by rw [h7]; rfl
  have h7b : (a3.toList == []) = true := by rw [h7]; rfl
  clear h4 h7
  have h8a : (a0 == 64) = false := beq_eq_false_iff_ne.mpr (by omega)
  have h8b : ¬ 64 < a0 := by omega
  have FA := Aside0.mk hv
  clear hv
  go_enter Tryd.func66, Tryd.ntmps66
  go_wp2_with (go_at_call 37; (with_reducible refine (cracknelref05_Valid.calls k a2 _ _ FA.out).mono ?_); rintro e w1 ⟨rfl, hb1⟩; have HB1 := Aside0.mk hb1; have hcz : w1.cell? ⟨w.heap.size, 3, none⟩ = some (.string a3) := (blk_cell ((hb1.block _ (by simp)).trans (heap_alloc_new _ _)) 3).trans rfl; clear hb1)
  go_ret
  exact ⟨rfl, below_step (below_alloc (Below.refl _ _) _) HB1.out⟩
set_option maxHeartbeats 8000000 in
set_option maxRecDepth 100000 in
theorem may_h11 (k : Nat) (a0 a1 : Int) (a2 a3 : ByteArray) (a4 : Int) (w : World) (h1 : ¬ a1 < 1) (h2 : ¬ 7 < a1) (h4 : a1 = 4) (h7 : a3.toList = []) (h8 : a0 < 64) (r : Bool) (hv : cracknelref05_Valid.f k a2 = some true) (hv2 : cracknelref05_Valid.f k a3 = some r) :
    Calls Tryd.prog 66 #[.agg #[.int .i64 a0, .int .i64 a1, .string a2, .string a3, .int .i64 a4]] w fun e w' => e = .returned (.bool r) ∧ Below w.heap.size w w' := by
  have hu81 := Tryd.underlying81
  have h4a : (a1 == 4) = true := beq_iff_eq.mpr h4
  have h4b : (a1 != 4) = false := by rw [bne, h4a]; rfl
  have h5a : (a1 == 5) = false := beq_eq_false_iff_ne.mpr (by omega)
  have h5b : (a1 != 5) = true := by rw [bne, h5a]; rfl
  have h7a : a3.toList.isEmpty = true := by rw [h7]; rfl
  have h7b : (a3.toList == []) = true := by rw [h7]; rfl
  clear h4 h7
  have h8a : (a0 == 64) = false := beq_eq_false_iff_ne.mpr (by omega)
  have h8b : ¬ 64 < a0 := by omega
  have FA := Aside0.mk hv
  have FB := Aside0.mk hv2
  clear hv hv2
  go_enter Tryd.func66, Tryd.ntmps66
  go_wp2_with (first | (go_at_call 37; (with_reducible refine (cracknelref05_Valid.calls k a2 _ _ FA.out).mono ?_); rintro e w1 ⟨rfl, hb1⟩; have HB1 := Aside0.mk hb1; have hcz : w1.cell? ⟨w.heap.size, 3, none⟩ = some (.string a3) := (blk_cell ((hb1.block _ (by simp)).trans (heap_alloc_new _ _)) 3).trans rfl; clear hb1) | (go_at_call 37; (with_reducible refine (cracknelref05_Valid.calls k a3 _ _ FB.out).mono ?_); rintro e w2 ⟨rfl, hb2⟩; have HB2 := Aside0.mk hb2; clear hb2))
  go_ret
  exact ⟨rfl, below_step (below_step (below_alloc (Below.refl _ _) _) HB1.out) HB2.out⟩
set_option maxHeartbeats 8000000 in
set_option maxRecDepth 100000 in
theorem may_e2 (k : Nat) (a0 a1 : Int) (a2 a3 : ByteArray) (a4 : Int) (w : World) (h1 : ¬ a1 < 1) (h2 : ¬ 7 < a1) (h4 : a1 ≠ 4) (h6 : a4 = 0) (h5 : a1 = 5) (h8 : 64 < a0) :
    Calls Tryd.prog 66 #[.agg #[.int .i64 a0, .int .i64 a1, .string a2, .string a3, .int .i64 a4]] w fun e w' => e = .returned (.bool false) ∧ Below w.heap.size w w' := by
  have hu81 := Tryd.underlying81
  have h4a : (a1 == 4) = false := beq_eq_false_iff_ne.mpr h4
  have h4b : (a1 != 4) = true := by rw [bne, h4a]; rfl
  have h5a : (a1 == 5) = true := beq_iff_eq.mpr h5
  have h5b : (a1 != 5) = false := by rw [bne, h5a]; rfl
  have h6a : (a4 == 0) = true := beq_iff_eq.mpr h6
  have h6b : (a4 != 0) = false := by rw [bne, h6a]; rfl
  clear h4 h6 h5
  go_enter Tryd.func66, Tryd.ntmps66
  go_wp2_with fail
  go_ret
  exact ⟨rfl, below_alloc (Below.refl _ _) _⟩
set_option maxHeartbeats 8000000 in
set_option maxRecDepth 100000 in
theorem may_f2 (k : Nat) (a0 a1 : Int) (a2 a3 : ByteArray) (a4 : Int) (w : World) (h1 : ¬ a1 < 1) (h2 : ¬ 7 < a1) (h4 : a1 ≠ 4) (h6 : a4 = 0) (h5 : a1 = 5) (h8 : a0 = 64) (h9 : 6 ≤ a1) :
    Calls Tryd.prog 66 #[.agg #[.int .i64 a0, .int .i64 a1, .string a2, .string a3, .int .i64 a4]] w fun e w' => e = .returned (.bool false) ∧ Below w.heap.size w w' := by
  have hu81 := Tryd.underlying81
  have h4a : (a1 == 4) = false := beq_eq_false_iff_ne.mpr h4
  have h4b : (a1 != 4) = true := by rw [bne, h4a]; rfl
  have h5a : (a1 == 5) = true := beq_iff_eq.mpr h5
  have h5b : (a1 != 5) = false := by rw [bne, h5a]; rfl
  have h6a : (a4 == 0) = true := beq_iff_eq.mpr h6
  have h6b : (a4 != 0) = false := by rw [bne, h6a]; rfl
  clear h4 h6 h5
  have h8a : (a0 == 64) = true := beq_iff_eq.mpr h8
  have h8b : ¬ 64 < a0 := by omega
  clear h8
  go_enter Tryd.func66, Tryd.ntmps66
  go_wp2_with fail
  go_ret
  exact ⟨rfl, below_alloc (Below.refl _ _) _⟩
set_option maxHeartbeats 8000000 in
set_option maxRecDepth 100000 in
theorem may_g20 (k : Nat) (a0 a1 : Int) (a2 a3 : ByteArray) (a4 : Int) (w : World) (h1 : ¬ a1 < 1) (h2 : ¬ 7 < a1) (h4 : a1 ≠ 4) (h6 : a4 = 0) (h5 : a1 = 5) (h8 : a0 = 64) (h9 : ¬ 6 ≤ a1) (hv : cracknelref05_Valid.f k a2 = some false) :
    Calls Tryd.prog 66 #[.agg #[.int .i64 a0, .int .i64 a1, .string a2, .string a3, .int .i64 a4]] w fun e w' => e = .returned (.bool false) ∧ Below w.heap.size w w' := by
  have hu81 := Tryd.underlying81
  have h4a : (a1 == 4) = false := beq_eq_false_iff_ne.mpr h4
  have h4b : (a1 != 4) = true := by rw [bne, h4a]; rfl
  have h5a : (a1 == 5) = true := beq_iff_eq.mpr h5
  have h5b : (a1 != 5) = false := by rw [bne, h5a]; rfl
  have h6a : (a4 == 0) = true := beq_iff_eq.mpr h6
  have h6b : (a4 != 0) = false := by rw [bne, h6a]; rfl
  clear h4 h6 h5
  have h8a : (a0 == 64) = true := beq_iff_eq.mpr h8
  have h8b : ¬ 64 < a0 := by omega
  clear h8
  have FA := Aside0.mk hv
  clear hv
  go_enter Tryd.func66, Tryd.ntmps66
  go_wp2_with (go_at_call 37; (with_reducible refine (cracknelref05_Valid.calls k a2 _ _ FA.out).mono ?_); rintro e w1 ⟨rfl, hb1⟩; have HB1 := Aside0.mk hb1; have hcz : w1.cell? ⟨w.heap.size, 3, none⟩ = some (.string a3) := (blk_cell ((hb1.block _ (by simp)).trans (heap_alloc_new _ _)) 3).trans rfl; clear hb1)
  go_ret
  exact ⟨rfl, below_step (below_alloc (Below.refl _ _) _) HB1.out⟩
set_option maxHeartbeats 8000000 in
set_option maxRecDepth 100000 in
theorem may_g21 (k : Nat) (a0 a1 : Int) (a2 a3 : ByteArray) (a4 : Int) (w : World) (h1 : ¬ a1 < 1) (h2 : ¬ 7 < a1) (h4 : a1 ≠ 4) (h6 : a4 = 0) (h5 : a1 = 5) (h8 : a0 = 64) (h9 : ¬ 6 ≤ a1) (r : Bool) (hv : cracknelref05_Valid.f k a2 = some true) (hv2 : cracknelref05_Valid.f k a3 = some r) :
    Calls Tryd.prog 66 #[.agg #[.int .i64 a0, .int .i64 a1, .string a2, .string a3, .int .i64 a4]] w fun e w' => e = .returned (.bool r) ∧ Below w.heap.size w w' := by
  have hu81 := Tryd.underlying81
  have h4a : (a1 == 4) = false := beq_eq_false_iff_ne.mpr h4
  have h4b : (a1 != 4) = true := by rw [bne, h4a]; rfl
  have h5a : (a1 == 5) = true := beq_iff_eq.mpr h5
  have h5b : (a1 != 5) = false := by rw [bne, h5a]; rfl
  have h6a : (a4 == 0) = true := beq_iff_eq.mpr h6
  have h6b : (a4 != 0) = false := by rw [bne, h6a]; rfl
  clear h4 h6 h5
  have h8a : (a0 == 64) = true := beq_iff_eq.mpr h8
  have h8b : ¬ 64 < a0 := by omega
  clear h8
  have FA := Aside0.mk hv
  have FB := Aside0.mk hv2
  clear hv hv2
  go_enter Tryd.func66, Tryd.ntmps66
  go_wp2_with (first | (go_at_call 37; (with_reducible refine (cracknelref05_Valid.calls k a2 _ _ FA.out).mono ?_); rintro e w1 ⟨rfl, hb1⟩; have HB1 := Aside0.mk hb1; have hcz : w1.cell? ⟨w.heap.size, 3, none⟩ = some (.string a3) := (blk_cell ((hb1.block _ (by simp)).trans (heap_alloc_new _ _)) 3).trans rfl; clear hb1) | (go_at_call 37; (with_reducible refine (cracknelref05_Valid.calls k a3 _ _ FB.out).mono ?_); rintro e w2 ⟨rfl, hb2⟩; have HB2 := Aside0.mk hb2; clear hb2))
  go_ret
  exact ⟨rfl, below_step (below_step (below_alloc (Below.refl _ _) _) HB1.out) HB2.out⟩
set_option maxHeartbeats 8000000 in
set_option maxRecDepth 100000 in
theorem may_h20 (k : Nat) (a0 a1 : Int) (a2 a3 : ByteArray) (a4 : Int) (w : World) (h1 : ¬ a1 < 1) (h2 : ¬ 7 < a1) (h4 : a1 ≠ 4) (h6 : a4 = 0) (h5 : a1 = 5) (h8 : a0 < 64) (hv : cracknelref05_Valid.f k a2 = some false) :
    Calls Tryd.prog 66 #[.agg #[.int .i64 a0, .int .i64 a1, .string a2, .string a3, .int .i64 a4]] w fun e w' => e = .returned (.bool false) ∧ Below w.heap.size w w' := by
  have hu81 := Tryd.underlying81
  have h4a : (a1 == 4) = false := beq_eq_false_iff_ne.mpr h4
  have h4b : (a1 != 4) = true := by rw [bne, h4a]; rfl
  have h5a : (a1 == 5) = true := beq_iff_eq.mpr h5
  have h5b : (a1 != 5) = false := by rw [bne, h5a]; rfl
  have h6a : (a4 == 0) = true := beq_iff_eq.mpr h6
  have h6b : (a4 != 0) = false := by rw [bne, h6a]; rfl
  clear h4 h6 h5
  have h8a : (a0 == 64) = false := beq_eq_false_iff_ne.mpr (by omega)
  have h8b : ¬ 64 < a0 := by omega
  have FA := Aside0.mk hv
  clear hv
  go_enter Tryd.func66, Tryd.ntmps66
  go_wp2_with (go_at_call 37; (with_reducible refine (cracknelref05_Valid.calls k a2 _ _ FA.out).mono ?_); rintro e w1 ⟨rfl, hb1⟩; have HB1 := Aside0.mk hb1; have hcz : w1.cell? ⟨w.heap.size, 3, none⟩ = some (.string a3) := (blk_cell ((hb1.block _ (by simp)).trans (heap_alloc_new _ _)) 3).trans rfl; clear hb1)
  go_ret
  exact ⟨rfl, below_step (below_alloc (Below.refl _ _) _) HB1.out⟩
set_option maxHeartbeats 8000000 in
set_option maxRecDepth 100000 in
theorem may_h21 (k : Nat) (a0 a1 : Int) (a2 a3 : ByteArray) (a4 : Int) (w : World) (h1 : ¬ a1 < 1) (h2 : ¬ 7 < a1) (h4 : a1 ≠ 4) (h6 : a4 = 0) (h5 : a1 = 5) (h8 : a0 < 64) (r : Bool) (hv : cracknelref05_Valid.f k a2 = some true) (hv2 : cracknelref05_Valid.f k a3 = some r) :
    Calls Tryd.prog 66 #[.agg #[.int .i64 a0, .int .i64 a1, .string a2, .string a3, .int .i64 a4]] w fun e w' => e = .returned (.bool r) ∧ Below w.heap.size w w' := by
  have hu81 := Tryd.underlying81
  have h4a : (a1 == 4) = false := beq_eq_false_iff_ne.mpr h4
  have h4b : (a1 != 4) = true := by rw [bne, h4a]; rfl
  have h5a : (a1 == 5) = true := beq_iff_eq.mpr h5
  have h5b : (a1 != 5) = false := by rw [bne, h5a]; rfl
  have h6a : (a4 == 0) = true := beq_iff_eq.mpr h6
  have h6b : (a4 != 0) = false := by rw [bne, h6a]; rfl
  clear h4 h6 h5
  have h8a : (a0 == 64) = false := beq_eq_false_iff_ne.mpr (by omega)
  have h8b : ¬ 64 < a0 := by omega
  have FA := Aside0.mk hv
  have FB := Aside0.mk hv2
  clear hv hv2
  go_enter Tryd.func66, Tryd.ntmps66
  go_wp2_with (first | (go_at_call 37; (with_reducible refine (cracknelref05_Valid.calls k a2 _ _ FA.out).mono ?_); rintro e w1 ⟨rfl, hb1⟩; have HB1 := Aside0.mk hb1; have hcz : w1.cell? ⟨w.heap.size, 3, none⟩ = some (.string a3) := (blk_cell ((hb1.block _ (by simp)).trans (heap_alloc_new _ _)) 3).trans rfl; clear hb1) | (go_at_call 37; (with_reducible refine (cracknelref05_Valid.calls k a3 _ _ FB.out).mono ?_); rintro e w2 ⟨rfl, hb2⟩; have HB2 := Aside0.mk hb2; clear hb2))
  go_ret
  exact ⟨rfl, below_step (below_step (below_alloc (Below.refl _ _) _) HB1.out) HB2.out⟩
set_option maxHeartbeats 8000000 in
set_option maxRecDepth 100000 in
theorem may_e3 (k : Nat) (a0 a1 : Int) (a2 a3 : ByteArray) (a4 : Int) (w : World) (h1 : ¬ a1 < 1) (h2 : ¬ 7 < a1) (h4 : a1 ≠ 4) (h6 : a4 = 0) (h5 : a1 ≠ 5) (h7 : a3.toList = []) (h8 : 64 < a0) :
    Calls Tryd.prog 66 #[.agg #[.int .i64 a0, .int .i64 a1, .string a2, .string a3, .int .i64 a4]] w fun e w' => e = .returned (.bool false) ∧ Below w.heap.size w w' := by
  have hu81 := Tryd.underlying81
  have h4a : (a1 == 4) = false := beq_eq_false_iff_ne.mpr h4
  have h4b : (a1 != 4) = true := by rw [bne, h4a]; rfl
  have h5a : (a1 == 5) = false := beq_eq_false_iff_ne.mpr h5
  have h5b : (a1 != 5) = true := by rw [bne, h5a]; rfl
  have h6a : (a4 == 0) = true := beq_iff_eq.mpr h6
  have h6b : (a4 != 0) = false := by rw [bne, h6a]; rfl
  have h7a : a3.toList.isEmpty = true := by rw [h7]; rfl
  have h7b : (a3.toList == []) = true := by rw [h7]; rfl
  clear h4 h6 h5 h7
  go_enter Tryd.func66, Tryd.ntmps66
  go_wp2_with fail
  go_ret
  exact ⟨rfl, below_alloc (Below.refl _ _) _⟩
set_option maxHeartbeats 8000000 in
set_option maxRecDepth 100000 in
theorem may_f3 (k : Nat) (a0 a1 : Int) (a2 a3 : ByteArray) (a4 : Int) (w : World) (h1 : ¬ a1 < 1) (h2 : ¬ 7 < a1) (h4 : a1 ≠ 4) (h6 : a4 = 0) (h5 : a1 ≠ 5) (h7 : a3.toList = []) (h8 : a0 = 64) (h9 : 6 ≤ a1) :
    Calls Tryd.prog 66 #[.agg #[.int .i64 a0, .int .i64 a1, .string a2, .string a3, .int .i64 a4]] w fun e w' => e = .returned (.bool false) ∧ Below w.heap.size w w' := by
  have hu81 := Tryd.underlying81
  have h4a : (a1 == 4) = false := beq_eq_false_iff_ne.mpr h4
  have h4b : (a1 != 4) = true := by rw [bne, h4a]; rfl
  have h5a : (a1 == 5) = false := beq_eq_false_iff_ne.mpr h5
  have h5b : (a1 != 5) = true := by rw [bne, h5a]; rfl
  have h6a : (a4 == 0) = true := beq_iff_eq.mpr h6
  have h6b : (a4 != 0) = false := by rw [bne, h6a]; rfl
  have h7a : a3.toList.isEmpty = true := by rw [h7]; rfl
  have h7b : (a3.toList == []) = true := by rw [h7]; rfl
  clear h4 h6 h5 h7
  have h8a : (a0 == 64) = true := beq_iff_eq.mpr h8
  have h8b : ¬ 64 < a0 := by omega
  clear h8
  go_enter Tryd.func66, Tryd.ntmps66
  go_wp2_with fail
  go_ret
  exact ⟨rfl, below_alloc (Below.refl _ _) _⟩
set_option maxHeartbeats 8000000 in
set_option maxRecDepth 100000 in
theorem may_g30 (k : Nat) (a0 a1 : Int) (a2 a3 : ByteArray) (a4 : Int) (w : World) (h1 : ¬ a1 < 1) (h2 : ¬ 7 < a1) (h4 : a1 ≠ 4) (h6 : a4 = 0) (h5 : a1 ≠ 5) (h7 : a3.toList = []) (h8 : a0 = 64) (h9 : ¬ 6 ≤ a1) (hv : cracknelref05_Valid.f k a2 = some false) :
    Calls Tryd.prog 66 #[.agg #[.int .i64 a0, .int .i64 a1, .string a2, .string a3, .int .i64 a4]] w fun e w' => e = .returned (.bool false) ∧ Below w.heap.size w w' := by
  have hu81 := Tryd.underlying81
  have h4a : (a1 == 4) = false := beq_eq_false_iff_ne.mpr h4
  have h4b : (a1 != 4) = true := by rw [bne, h4a]; rfl
  have h5a : (a1 == 5) = false := beq_eq_false_iff_ne.mpr h5
  have h5b : (a1 != 5) = true := by rw [bne, h5a]; rfl
  have h6a : (a4 == 0) = true := beq_iff_eq.mpr h6
  have h6b : (a4 != 0) = false := by rw [bne, h6a]; rfl
  have h7a : a3.toList.isEmpty = true := by rw [h7]; rfl
  have h7b : (a3.toList == []) = true := by rw [h7]; rfl
  clear h4 h6 h5 h7
  have h8a : (a0 == 64) = true := beq_iff_eq.mpr h8
  have h8b : ¬ 64 < a0 := by omega
  clear h8
  have FA := Aside0.mk hv
  clear hv
  go_enter Tryd.func66, Tryd.ntmps66
  go_wp2_with (go_at_call 37; (with_reducible refine (cracknelref05_Valid.calls k a2 _ _ FA.out).mono ?_); rintro e w1 ⟨rfl, hb1⟩; have HB1 := Aside0.mk hb1; have hcz : w1.cell? ⟨w.heap.size, 3, none⟩ = some (.string a3) := (blk_cell ((hb1.block _ (by simp)).trans (heap_alloc_new _ _)) 3).trans rfl; clear hb1)
  go_ret
  exact ⟨rfl, below_step (below_alloc (Below.refl _ _) _) HB1.out⟩
set_option maxHeartbeats 8000000 in
set_option maxRecDepth 100000 in
theorem may_g31 (k : Nat) (a0 a1 : Int) (a2 a3 : ByteArray) (a4 : Int) (w : World) (h1 : ¬ a1 < 1) (h2 : ¬ 7 < a1) (h4 : a1 ≠ 4) (h6 : a4 = 0) (h5 : a1 ≠ 5) (h7 : a3.toList = []) (h8 : a0 = 64) (h9 : ¬ 6 ≤ a1) (r : Bool) (hv : cracknelref05_Valid.f k a2 = some true) (hv2 : cracknelref05_Valid.f k a3 = some r) :
    Calls Tryd.prog 66 #[.agg #[.int .i64 a0, .int .i64 a1, .string a2, .string a3, .int .i64 a4]] w fun e w' => e = .returned (.bool r) ∧ Below w.heap.size w w' := by
  have hu81 := Tryd.underlying81
  have h4a : (a1 == 4) = false := beq_eq_false_iff_ne.mpr h4
  have h4b : (a1 != 4) = true := by rw [bne, h4a]; rfl
  have h5a : (a1 == 5) = false := beq_eq_false_iff_ne.mpr h5
  have h5b : (a1 != 5) = true := by rw [bne, h5a]; rfl
  have h6a : (a4 == 0) = true := beq_iff_eq.mpr h6
  have h6b : (a4 != 0) = false := by rw [bne, h6a]; rfl
  have h7a : a3.toList.isEmpty = true := by rw [h7]; rfl
  have h7b : (a3.toList == []) = true := by rw [h7]; rfl
  clear h4 h6 h5 h7
  have h8a : (a0 == 64) = true := beq_iff_eq.mpr h8
  have h8b : ¬ 64 < a0 := by omega
  clear h8
  have FA := Aside0.mk hv
  have FB := Aside0.mk hv2
  clear hv hv2
  go_enter Tryd.func66, Tryd.ntmps66
  go_wp2_with (first | (go_at_call 37; (with_reducible refine (cracknelref05_Valid.calls k a2 _ _ FA.out).mono ?_); rintro e w1 ⟨rfl, hb1⟩; have HB1 := Aside0.mk hb1; have hcz : w1.cell? ⟨w.heap.size, 3, none⟩ = some (.string a3) := (blk_cell ((hb1.block _ (by simp)).trans (heap_alloc_new _ _)) 3).trans rfl; clear hb1) | (go_at_call 37; (with_reducible refine (cracknelref05_Valid.calls k a3 _ _ FB.out).mono ?_); rintro e w2 ⟨rfl, hb2⟩; have HB2 := Aside0.mk hb2; clear hb2))
  go_ret
  exact ⟨rfl, below_step (below_step (below_alloc (Below.refl _ _) _) HB1.out) HB2.out⟩
set_option maxHeartbeats 8000000 in
set_option maxRecDepth 100000 in
theorem may_h30 (k : Nat) (a0 a1 : Int) (a2 a3 : ByteArray) (a4 : Int) (w : World) (h1 : ¬ a1 < 1) (h2 : ¬ 7 < a1) (h4 : a1 ≠ 4) (h6 : a4 = 0) (h5 : a1 ≠ 5) (h7 : a3.toList = []) (h8 : a0 < 64) (hv : cracknelref05_Valid.f k a2 = some false) :
    Calls Tryd.prog 66 #[.agg #[.int .i64 a0, .int .i64 a1, .string a2, .string a3, .int .i64 a4]] w fun e w' => e = .returned (.bool false) ∧ Below w.heap.size w w' := by
  have hu81 := Tryd.underlying81
  have h4a : (a1 == 4) = false := beq_eq_false_iff_ne.mpr h4
  have h4b : (a1 != 4) = true := by rw [bne, h4a]; rfl
  have h5a : (a1 == 5) = false := beq_eq_false_iff_ne.mpr h5
  have h5b : (a1 != 5) = true := by rw [bne, h5a]; rfl
  have h6a : (a4 == 0) = true := beq_iff_eq.mpr h6
  have h6b : (a4 != 0) = false := by rw [bne, h6a]; rfl
  have h7a : a3.toList.isEmpty = true := by rw [h7]; rfl
  have h7b : (a3.toList == []) = true := by rw [h7]; rfl
  clear h4 h6 h5 h7
  have h8a : (a0 == 64) = false := beq_eq_false_iff_ne.mpr (by omega)
  have h8b : ¬ 64 < a0 := by omega
  have FA := Aside0.mk hv
  clear hv
  go_enter Tryd.func66, Tryd.ntmps66
  go_wp2_with (go_at_call 37; (with_reducible refine (cracknelref05_Valid.calls k a2 _ _ FA.out).mono ?_); rintro e w1 ⟨rfl, hb1⟩; have HB1 := Aside0.mk hb1; have hcz : w1.cell? ⟨w.heap.size, 3, none⟩ = some (.string a3) := (blk_cell ((hb1.block _ (by simp)).trans (heap_alloc_new _ _)) 3).trans rfl; clear hb1)
  go_ret
  exact ⟨rfl, below_step (below_alloc (Below.refl _ _) _) HB1.out⟩
set_option maxHeartbeats 8000000 in
set_option maxRecDepth 100000 in
theorem may_h31 (k : Nat) (a0 a1 : Int) (a2 a3 : ByteArray) (a4 : Int) (w : World) (h1 : ¬ a1 < 1) (h2 : ¬ 7 < a1) (h4 : a1 ≠ 4) (h6 : a4 = 0) (h5 : a1 ≠ 5) (h7 : a3.toList = []) (h8 : a0 < 64) (r : Bool) (hv : cracknelref05_Valid.f k a2 = some true) (hv2 : cracknelref05_Valid.f k a3 = some r) :
    Calls Tryd.prog 66 #[.agg #[.int .i64 a0, .int .i64 a1, .string a2, .string a3, .int .i64 a4]] w fun e w' => e = .returned (.bool r) ∧ Below w.heap.size w w' := by
  have hu81 := Tryd.underlying81
  have h4a : (a1 == 4) = false := beq_eq_false_iff_ne.mpr h4
  have h4b : (a1 != 4) = true := by rw [bne, h4a]; rfl
  have h5a : (a1 == 5) = false := beq_eq_false_iff_ne.mpr h5
  have h5b : (a1 != 5) = true := by rw [bne, h5a]; rfl
  have h6a : (a4 == 0) = true := beq_iff_eq.mpr h6
  have h6b : (a4 != 0) = false := by rw [bne, h6a]; rfl
  have h7a : a3.toList.isEmpty = true := by rw [h7]; rfl
  have h7b : (a3.toList == []) = true := by rw [h7]; rfl
  clear h4 h6 h5 h7
  have h8a : (a0 == 64) = false := beq_eq_false_iff_ne.mpr (by omega)
  have h8b : ¬ 64 < a0 := by omega
  have FA := Aside0.mk hv
  have FB := Aside0.mk hv2
  clear hv hv2
  go_enter Tryd.func66, Tryd.ntmps66
  go_wp2_with (first | (go_at_call 37; (with_reducible refine (cracknelref05_Valid.calls k a2 _ _ FA.out).mono ?_); rintro e w1 ⟨rfl, hb1⟩; have HB1 := Aside0.mk hb1; have hcz : w1.cell? ⟨w.heap.size, 3, none⟩ = some (.string a3) := (blk_cell ((hb1.block _ (by simp)).trans (heap_alloc_new _ _)) 3).trans rfl; clear hb1) | (go_at_call 37; (with_reducible refine (cracknelref05_Valid.calls k a3 _ _ FB.out).mono ?_); rintro e w2 ⟨rfl, hb2⟩; have HB2 := Aside0.mk hb2; clear hb2))
  go_ret
  exact ⟨rfl, below_step (below_step (below_alloc (Below.refl _ _) _) HB1.out) HB2.out⟩
theorem cracknelref08_may.calls (k : Nat) (a0_0 : Int) (a0_1 : Int) (a0_2 : ByteArray) (a0_3 : ByteArray) (a0_4 : Int) (r : Bool) (w : World) (h : cracknelref08_may.f k a0_0 a0_1 a0_2 a0_3 a0_4 = some r) :
    Calls Tryd.prog 66 #[.agg #[.int .i64 a0_0, .int .i64 a0_1, .string a0_2, .string a0_3, .int .i64 a0_4]] w fun e w' => e = .returned (.bool r) ∧ Below w.heap.size w w' := by
  unfold cracknelref08_may.f at h
  by_cases h1 : a0_1 < 1
  · rw [if_pos (.inl h1)] at h; cases h; exact may_a k _ _ _ _ _ w h1
  by_cases h2 : 7 < a0_1
  · rw [if_pos (.inr (.inl h2))] at h; cases h; exact may_b k _ _ _ _ _ w h2
  by_cases h4 : a0_1 = 4
  · by_cases h7 : a0_3.toList = []
    · rw [if_neg (by rintro (x | x | ⟨x, _⟩ | ⟨_, x⟩) <;> first | exact h1 x | exact h2 x | exact x h4 | exact x h7)] at h
      by_cases h8 : 64 < a0_0
      · rw [if_pos (.inl h8)] at h; cases h; exact may_e1 k _ _ _ _ _ w h1 h2 h4 h7 h8
      · by_cases h9 : a0_0 = 64
        · by_cases h10 : 6 ≤ a0_1
          · rw [if_pos (.inr ⟨h9, h10⟩)] at h; cases h; exact may_f1 k _ _ _ _ _ w h1 h2 h4 h7 h9 h10
          · rw [if_neg (by rintro (x | ⟨_, x⟩) <;> first | exact h8 x | exact h10 x)] at h
            obtain ⟨b, hv, h⟩ := Option.bind_eq_some_iff.1 h
            cases b with
            | true => rw [if_pos rfl] at h; exact may_g11 k _ _ _ _ _ w h1 h2 h4 h7 h9 h10 r hv h
            | false => rw [if_neg (by decide)] at h; cases h; exact may_g10 k _ _ _ _ _ w h1 h2 h4 h7 h9 h10 hv
        · rw [if_neg (by rintro (x | ⟨x, _⟩) <;> first | exact h8 x | exact h9 x)] at h
          obtain ⟨b, hv, h⟩ := Option.bind_eq_some_iff.1 h
          cases b with
          | true => rw [if_pos rfl] at h; exact may_h11 k _ _ _ _ _ w h1 h2 h4 h7 (by omega) r hv h
          | false => rw [if_neg (by decide)] at h; cases h; exact may_h10 k _ _ _ _ _ w h1 h2 h4 h7 (by omega) hv
    · rw [if_pos (.inr (.inr (.inr ⟨by omega, h7⟩)))] at h; cases h; exact may_d1 k _ _ _ _ _ w h1 h2 h4 h7
  · by_cases h6 : a0_4 = 0
    · by_cases h5 : a0_1 = 5
      · rw [if_neg (by rintro (x | x | ⟨_, x⟩ | ⟨x, _⟩) <;> first | exact h1 x | exact h2 x | exact x h6 | exact x h5)] at h
        by_cases h8 : 64 < a0_0
        · rw [if_pos (.inl h8)] at h; cases h; exact may_e2 k _ _ _ _ _ w h1 h2 h4 h6 h5 h8
        · by_cases h9 : a0_0 = 64
          · by_cases h10 : 6 ≤ a0_1
            · rw [if_pos (.inr ⟨h9, h10⟩)] at h; cases h; exact may_f2 k _ _ _ _ _ w h1 h2 h4 h6 h5 h9 h10
            · rw [if_neg (by rintro (x | ⟨_, x⟩) <;> first | exact h8 x | exact h10 x)] at h
              obtain ⟨b, hv, h⟩ := Option.bind_eq_some_iff.1 h
              cases b with
              | true => rw [if_pos rfl] at h; exact may_g21 k _ _ _ _ _ w h1 h2 h4 h6 h5 h9 h10 r hv h
              | false => rw [if_neg (by decide)] at h; cases h; exact may_g20 k _ _ _ _ _ w h1 h2 h4 h6 h5 h9 h10 hv
          · rw [if_neg (by rintro (x | ⟨x, _⟩) <;> first | exact h8 x | exact h9 x)] at h
            obtain ⟨b, hv, h⟩ := Option.bind_eq_some_iff.1 h
            cases b with
            | true => rw [if_pos rfl] at h; exact may_h21 k _ _ _ _ _ w h1 h2 h4 h6 h5 (by omega) r hv h
            | false => rw [if_neg (by decide)] at h; cases h; exact may_h20 k _ _ _ _ _ w h1 h2 h4 h6 h5 (by omega) hv
      · by_cases h7 : a0_3.toList = []
        · rw [if_neg (by rintro (x | x | ⟨_, x⟩ | ⟨_, x⟩) <;> first | exact h1 x | exact h2 x | exact x h6 | exact x h7)] at h
          by_cases h8 : 64 < a0_0
          · rw [if_pos (.inl h8)] at h; cases h; exact may_e3 k _ _ _ _ _ w h1 h2 h4 h6 h5 h7 h8
          · by_cases h9 : a0_0 = 64
            · by_cases h10 : 6 ≤ a0_1
              · rw [if_pos (.inr ⟨h9, h10⟩)] at h; cases h; exact may_f3 k _ _ _ _ _ w h1 h2 h4 h6 h5 h7 h9 h10
              · rw [if_neg (by rintro (x | ⟨_, x⟩) <;> first | exact h8 x | exact h10 x)] at h
                obtain ⟨b, hv, h⟩ := Option.bind_eq_some_iff.1 h
                cases b with
                | true => rw [if_pos rfl] at h; exact may_g31 k _ _ _ _ _ w h1 h2 h4 h6 h5 h7 h9 h10 r hv h
                | false => rw [if_neg (by decide)] at h; cases h; exact may_g30 k _ _ _ _ _ w h1 h2 h4 h6 h5 h7 h9 h10 hv
            · rw [if_neg (by rintro (x | ⟨x, _⟩) <;> first | exact h8 x | exact h9 x)] at h
              obtain ⟨b, hv, h⟩ := Option.bind_eq_some_iff.1 h
              cases b with
              | true => rw [if_pos rfl] at h; exact may_h31 k _ _ _ _ _ w h1 h2 h4 h6 h5 h7 (by omega) r hv h
              | false => rw [if_neg (by decide)] at h; cases h; exact may_h30 k _ _ _ _ _ w h1 h2 h4 h6 h5 h7 (by omega) hv
        · rw [if_pos (.inr (.inr (.inr ⟨h5, h7⟩)))] at h; cases h; exact may_d2 k _ _ _ _ _ w h1 h2 h4 h5 h6 h7
    · rw [if_pos (.inr (.inr (.inl ⟨h4, h6⟩)))] at h; cases h; exact may_c k _ _ _ _ _ w h1 h2 h4 h6
end Go.Proofs.YthhmmaihbjhhgaaDoor.Giv
namespace Go.Proofs.YthhmmaihbjhhgaaDoor.Giv
open Go.RowKit Go.Proofs.YthhmmaihbjhhgaaDoorW.PrintWords Go.Proofs.YthhmmaihbjhhgaaDoorW.PrintLast Go.Proofs.YthhmmaihbjhhgaaDoorW.PrintMore
open Go.Proofs.YthhmmaihbjhhgaaDoor.U1 Go.Proofs.YthhmmaihbjhhgaaDoor.Q1 Go.Proofs.YthhmmaihbjhhgaaDoor.J0 Go.Proofs.YthhmmaihbjhhgaaDoor.J1
set_option linter.unusedSimpArgs false
set_option linter.unusedVariables false
abbrev al1 : ByteArray := ⟨#[32, 123, 34, 97, 34, 32, 58, 32, 91, 49, 44, 32, 34, 98, 34, 93, 125, 32]⟩
abbrev al2 : ByteArray := ⟨#[91, 49, 46, 53, 93]⟩
abbrev al3 : ByteArray := ⟨#[123, 34, 97, 34, 58, 49, 44, 34, 97, 34, 58, 50, 125]⟩
def l4 : List S59 := [⟨0, 7, ⟨#[]⟩, ⟨#[]⟩, 0⟩, ⟨1, 6, ⟨#[97]⟩, ⟨#[]⟩, 0⟩, ⟨2, 4, ⟨#[]⟩, ⟨#[]⟩, 1⟩, ⟨2, 5, ⟨#[]⟩, ⟨#[98]⟩, 0⟩]
set_option maxRecDepth 100000 in
theorem al_p1 : json_Parse.f 60 al1 = some (l4, 0) := by kernel_rfl
set_option maxRecDepth 100000 in
theorem al_p2 : json_Parse.f 60 al2 = some ([], 83) := by kernel_rfl
set_option maxRecDepth 100000 in
theorem al_p3 : json_Parse.f 60 al3 = some ([], 82) := by kernel_rfl
set_option maxRecDepth 100000 in
theorem al_p4 : json_Parse.f 60 ⟨#[]⟩ = some ([], 80) := by kernel_rfl
set_option maxRecDepth 100000 in
theorem al_r1 : json_Right.f l4 = some true := by kernel_rfl
set_option maxRecDepth 100000 in
theorem al_r2 : json_Right.f (l4.drop 1) = some false := by kernel_rfl
abbrev al5 : ByteArray := ⟨#[123, 34, 97, 34, 58, 91, 49, 44, 34, 98, 34, 93, 125]⟩
set_option maxRecDepth 100000 in
theorem al_w : json_Print.f l4 = some al5 := by kernel_rfl
set_option maxHeartbeats 8000000 in
set_option maxRecDepth 100000 in
theorem alive08_walk (w : World) (ht : JTabs w) : Calls Tryd.prog 40 #[] w fun e w' => e = .returned (.bool true) ∧ Below w.heap.size w w' := by
  have HT := Aside0.mk ht
  have hu59 := Tryd.underlying59
  clear ht
  go_enter Tryd.func40, Tryd.ntmps40
  go_upto_region 5 with (first
    | (go_at_call 46; (with_reducible refine (json_Parse.calls 60 al1 l4 0 _ al_p1 HT.out).mono ?_); rintro e w1 ⟨v1, rfl, ho1, hb1⟩; have HO1 := Aside0.mk ho1; have HB1 := Aside0.mk hb1; clear ho1 hb1)
    | (go_at_call 46; (with_reducible refine (json_Parse.calls 60 al2 [] 83 _ al_p2 (HT.out.step HB1.out)).mono ?_); rintro e w2 ⟨v2, rfl, ho2, hb2⟩; have HO2 := Aside0.mk ho2; have HB2 := Aside0.mk (below_step HB1.out hb2); have HO1 := Aside0.mk (Kd.R_below HO1.out hb2); clear ho2 hb2)
    | (go_at_call 46; (with_reducible refine (json_Parse.calls 60 al3 [] 82 _ al_p3 (HT.out.step HB2.out)).mono ?_); rintro e w3 ⟨v3, rfl, ho3, hb3⟩; have HO3 := Aside0.mk ho3; have HB3 := Aside0.mk (below_step HB2.out hb3); have HO1 := Aside0.mk (Kd.R_below HO1.out hb3); clear ho3 hb3)
    | (go_at_call 46; (with_reducible refine (json_Parse.calls 60 ⟨#[]⟩ [] 80 _ al_p4 (HT.out.step HB3.out)).mono ?_); rintro e w4 ⟨v4, rfl, ho4, hb4⟩; have HO4 := Aside0.mk ho4; have HB4 := Aside0.mk (below_step HB3.out hb4); have HO1 := Aside0.mk (Kd.R_below HO1.out hb4); clear ho4 hb4))
  obtain ⟨G, cc, rfl, _, _, _⟩ := Kd.R_form HO1.out (by decide)
  have hC := (Kd.R_reads' HO1.out).2.2
  have hcc : 4 ≤ cc := (Kd.R_reads' HO1.out).2.1
  have hc1 : ¬ cc = 1 := by omega
  have hc0 : 1 ≤ cc := by omega
  obtain ⟨ad, hA, a0, a1, a2, a3, a4⟩ := at_T59 hC 1 (by decide) (by decide)
  injection hA with hA
  subst hA
  obtain ⟨ad, hA, b0, b1, b2, b3, b4⟩ := at_T59 hC 3 (by decide) (by decide)
  injection hA with hA
  subst hA
  have a0 : w4.cell? ⟨G, 5, none⟩ = some (.int .i64 1) := a0
  have a1 : w4.cell? ⟨G, 6, none⟩ = some (.int .i64 6) := a1
  have a2 : w4.cell? ⟨G, 7, none⟩ = some (.string ⟨#[97]⟩) := a2
  have a3 : w4.cell? ⟨G, 8, none⟩ = some (.string ⟨#[]⟩) := a3
  have a4 : w4.cell? ⟨G, 9, none⟩ = some (.int .i64 0) := a4
  have b0 : w4.cell? ⟨G, 15, none⟩ = some (.int .i64 2) := b0
  have b1 : w4.cell? ⟨G, 16, none⟩ = some (.int .i64 5) := b1
  have b2 : w4.cell? ⟨G, 17, none⟩ = some (.string ⟨#[]⟩) := b2
  have b3 : w4.cell? ⟨G, 18, none⟩ = some (.string ⟨#[98]⟩) := b3
  have b4 : w4.cell? ⟨G, 19, none⟩ = some (.int .i64 0) := b4
  have HD : Aside0 (Kd.C k59 w4 (some ⟨G, 5, none⟩) 3 (l4.drop 1)) := ⟨by have := Kd.C_drop (m := 1) (c := cc) hC (by decide) hcc; rw [if_neg hc1] at this; exact this⟩
  have HC := Aside0.mk hC
  have CR1 : Aside0 (∀ W, Below w4.heap.size w4 W → JTabs W → Calls Tryd.prog 42 #[.slice (some ⟨G, 0, none⟩) 4 cc] W fun e w' => e = .returned (.bool true) ∧ Below W.heap.size W w') := ⟨fun W hb hj => json_Right.calls (some ⟨G, 0, none⟩) cc l4 true W (Kd.C_below HC.out hb) hcc al_r1 hj.tabs⟩
  have CR2 : Aside0 (∀ W, Below w4.heap.size w4 W → JTabs W → Calls Tryd.prog 42 #[.slice (some ⟨G, 5, none⟩) 3 (cc - 1)] W fun e w' => e = .returned (.bool false) ∧ Below W.heap.size W w') := ⟨fun W hb hj => json_Right.calls (some ⟨G, 5, none⟩) (cc - 1) (l4.drop 1) false W (Kd.C_below HD.out hb) (by show 3 ≤ cc - 1; omega) al_r2 hj.tabs⟩
  have CW : Aside0 (∀ W, Below w4.heap.size w4 W → JTabs W → Calls Tryd.prog 47 #[.slice (some ⟨G, 0, none⟩) 4 cc] W fun e w' => e = .returned (.string al5) ∧ Below W.heap.size W w') := ⟨fun W hb hj => json_Print.calls (some ⟨G, 0, none⟩) cc l4 al5 W (Kd.C_below HC.out hb) hcc al_w hj⟩
  have hl4 : l4.length = 4 := rfl
  clear hC hcc
  go_wp2_with (first
    | (go_at_call 42; (with_reducible refine (CR1.out w4 (Below.refl _ _) (HT.out.step HB4.out)).mono ?_); rintro e w5 ⟨rfl, hb5⟩; have HB5 := Aside0.mk hb5; clear hb5)
    | (go_at_call 42; (with_reducible refine (CR2.out w5 HB5.out (HT.out.step (below_step HB4.out HB5.out))).mono ?_); rintro e w6 ⟨rfl, hb6⟩; have HB6 := Aside0.mk (below_step HB5.out hb6); clear hb6)
    | (go_at_call 47; (with_reducible refine (CW.out w6 HB6.out (HT.out.step (below_step HB4.out HB6.out))).mono ?_); rintro e w7 ⟨rfl, hb7⟩; have HB7 := Aside0.mk (below_step HB6.out hb7); clear hb7))
  go_ret
  exact ⟨rfl, below_step HB4.out HB7.out⟩
def cracknellaw08_alive.f : Option Bool := some true
theorem cracknellaw08_alive.calls (r : Bool) (w : World) (h : cracknellaw08_alive.f = some r) (ht : JTabs w := by first | assumption | (refine JTabs.step (by assumption) ?_; repeat (first | exact Aside0.out (by assumption) | apply below_alloc | apply pw_below_drewN | apply below_drew1 | exact Below.refl _ _))) : Calls Tryd.prog 40 #[] w fun e w' => e = .returned (.bool r) ∧ Below w.heap.size w w' := by
  cases h
  exact alive08_walk w ht
end Go.Proofs.YthhmmaihbjhhgaaDoor.Giv
namespace Go.Proofs.YthhmmaihbjhhgaaDoor.Giv
open Go.RowKit Go.Proofs.YthhmmaihbjhhgaaDoorW.PrintWords Go.Proofs.YthhmmaihbjhhgaaDoorW.PrintLast Go.Proofs.YthhmmaihbjhhgaaDoorW.PrintMore
open Go.Proofs.YthhmmaihbjhhgaaDoor.U1 Go.Proofs.YthhmmaihbjhhgaaDoor.Q1 Go.Proofs.YthhmmaihbjhhgaaDoor.J0 Go.Proofs.YthhmmaihbjhhgaaDoor.J1
set_option linter.unusedSimpArgs false
set_option linter.unusedVariables false
def toN (x : S81) : S59 := ⟨x.f0, x.f1, x.f2, x.f3, x.f4⟩
def toO (x : S59) : S81 := ⟨x.f0, x.f1, x.f2, x.f3, x.f4⟩
theorem drop_T81 (l : List S81) (j : Nat) (h : j < l.length) : l.drop j = rd_T81 l (j : Int) :: l.drop (j + 1) := by
  rw [List.drop_eq_getElem_cons h]
  congr 1
  simp [rd_T81, List.getD, h]
theorem take_T81 (l : List S81) (j : Nat) (h : j < l.length) : l.take (j + 1) = l.take j ++ [rd_T81 l (j : Int)] := by
  rw [List.take_add_one]
  congr 1
  simp [rd_T81, List.getD, h]
def cracknellaw08_News.f (l : List S81) : Option (List S59) := if l.length * 56 ≤ 140737488355328 then some (l.map toN) else none
set_option maxHeartbeats 4000000 in
set_option maxRecDepth 100000 in
theorem cracknellaw08_News.calls (A0 : Option Addr) (c0 : Nat) (l0 : List S81) (r : List S59) (w : World) (hr0 : Kd.C k81 w A0 l0.length l0) (hc0 : l0.length ≤ c0) (h : cracknellaw08_News.f l0 = some r) :
    Calls Tryd.prog 41 #[.slice A0 l0.length c0] w fun e w' => ∃ v0_ : Value, e = .returned v0_ ∧ Kd.R k59 59 w' w.heap.size (fun _ => True) v0_ r ∧ Below w.heap.size w w' := by
  unfold cracknellaw08_News.f at h
  by_cases hl : l0.length * 56 ≤ 140737488355328
  · rw [if_pos hl] at h
    cases h
    have HC := Aside0.mk hr0
    have HL := Aside0.mk hl
    have HN0 : Aside0 (Kd.R k59 59 w w.heap.size (fun _ => True) (.slice none 0 0) ((l0.take 0).map toN)) := ⟨Kd.R_nil _ _ _ _ _⟩
    clear hr0 hc0 hl
    go_enter Tryd.func41, Tryd.ntmps41
    go_wp2_with fail
    go_loopg [3, 8] l0.length (fun kq v3 v8 wr => ∃ j : Nat, kq = l0.length - j ∧ j ≤ l0.length ∧ v8 = .int .i64 (j : Int) ∧ Aside0 (Kd.R k59 59 wr w.heap.size (fun _ => True) v3 ((l0.take j).map toN)) ∧ Aside0 (Below w.heap.size w wr))
    case atStart => exact ⟨0, rfl, Nat.zero_le _, rfl, HN0, ⟨Below.refl _ _⟩⟩
    case round =>
      clear HN0
      obtain ⟨j, hkq, hjl, rfl, HR, HB⟩ := hrel
      have hgl : j < 9223372036854775807 := by have := HL.out; omega
      by_cases hlt : j < l0.length
      · obtain ⟨ad, hA, a0, a1, a2, a3, a4⟩ := at_T81 (Kd.C_below HC.out HB.out) (j : Int) (by omega) (by omega)
        subst hA
        have HX := Aside0.mk (take_T81 l0 j hlt)
        obtain ⟨⟨f0, f1, f2, f3, f4⟩, hx⟩ : ∃ x, rd_T81 l0 (j : Int) = x := ⟨_, rfl⟩
        rw [hx] at a0 a1 a2 a3 a4 HX
        simp only [Int.toNat_natCast] at a0 a1 a2 a3 a4
        clear hx
        have HW1 : Aside0 (Below wr.heap.size wr (wr.alloc (.cells #[.int .i64 f0, .int .i64 f1, .string f2, .string f3, .int .i64 f4] 81))) := ⟨below_alloc (Below.refl _ _) _⟩
        have HR1 := Aside0.mk (Kd.R_below HR.out HW1.out)
        have HB1 := Aside0.mk (below_step HB.out HW1.out)
        have HLn : Aside0 ((((l0.take j).map toN).length + 1) * 56 ≤ 140737488355328) := ⟨by rw [List.length_map, List.length_take]; have := HL.out; omega⟩
        obtain ⟨A3, c3, rfl⟩ := Kd.R_slice HR.out
        go_wp2_with ((at_builtin; refine Kd.R_append k59 (w0 := w) (W := wr.alloc (.cells #[.int .i64 f0, .int .i64 f1, .string f2, .string f3, .int .i64 f4] 81)) w.heap.size rfl (.tmp 12) (.tmp 14) 49 59 (.agg #[.int .i64 0, .int .i64 0, .string ⟨#[]⟩, .string ⟨#[]⟩, .int .i64 0]) 56 rfl Tryd.underlying49 info59 rfl (by decide) (by decide) _ ((l0.take j).map toN) ⟨f0, f1, f2, f3, f4⟩ [.int .i64 f0, .int .i64 f1, .string f2, .string f3, .int .i64 f4] (fun _ => True) (fun _ => False) rfl (congrArg (fun q => Value.slice (some ⟨q, 0, none⟩) 1 1) (alloc_size wr _).symm) (k59_mkM _ _ _ ⟨f0, f1, f2, f3, f4⟩) (fun _ h => h.elim) (fun _ _ => trivial) HR1.out HB1.out HB1.out.size HLn.out ?_; intro v9 w9 hO9 hB9 hg9 hA9; have HO9 := Aside0.mk hO9; have HB9 := Aside0.mk hB9; clear hO9 hB9 hg9 hA9))
        go_roundg (l0.length - (j + 1))
        case measure => omega
        case rel => exact ⟨j + 1, rfl, hlt, by go_num, ⟨by rw [HX.out, List.map_append]; exact HO9.out⟩, HB9⟩
      · obtain rfl : j = l0.length := by omega
        have HR2 := Aside0.mk HR.out
        have hjl3 : ¬ (l0.length : Int) < (l0.length : Int) := by omega
        go_wp2_with fail
        go_ret
        exact ⟨_, rfl, by have := HR.out; rw [List.take_length] at this; exact this, HB.out⟩
  · rw [if_neg hl] at h; cases h
end Go.Proofs.YthhmmaihbjhhgaaDoor.Giv
namespace Go.Proofs.YthhmmaihbjhhgaaDoor.J2
open Go.Proofs.YthhmmaihbjhhgaaDoor.Giv Go.Proofs.YthhmmaihbjhhgaaDoor.U1 Go.Proofs.YthhmmaihbjhhgaaDoor.Q1 Go.Proofs.YthhmmaihbjhhgaaDoor.J0 Go.Proofs.YthhmmaihbjhhgaaDoor.J1 Go.RowKit Go.Proofs.YthhmmaihbjhhgaaDoorW.PrintWords Go.Proofs.YthhmmaihbjhhgaaDoorW.PrintLast Go.Proofs.YthhmmaihbjhhgaaDoorW.PrintMore
attribute [local go_sem] max2_int min2_int max_two min_two max_three min_three max_four min_four   -- for this text's walks alone
set_option linter.unusedVariables false
set_option linter.unusedSimpArgs false
def errW : Option Int → Value
  | none => .nilIface
  | some c => .iface 0 (.int .i64 c)
theorem errW_none : errW none = .nilIface := rfl
theorem errW_some (c : Int) : errW (some c) = .iface 0 (.int .i64 c) := rfl
end Go.Proofs.YthhmmaihbjhhgaaDoor.J2
namespace Go.Proofs.YthhmmaihbjhhgaaDoor.J2
open Go.Proofs.YthhmmaihbjhhgaaDoor.Giv Go.Proofs.YthhmmaihbjhhgaaDoor.U1 Go.Proofs.YthhmmaihbjhhgaaDoor.Q1 Go.Proofs.YthhmmaihbjhhgaaDoor.J0 Go.Proofs.YthhmmaihbjhhgaaDoor.J1 Go.RowKit Go.Proofs.YthhmmaihbjhhgaaDoorW.PrintWords Go.Proofs.YthhmmaihbjhhgaaDoorW.PrintLast Go.Proofs.YthhmmaihbjhhgaaDoorW.PrintMore
attribute [local go_sem] max2_int min2_int max_two min_two max_three min_three max_four min_four   -- for this text's walks alone
set_option linter.unusedVariables false
set_option linter.unusedSimpArgs false
theorem eqA81 (d : Nat) (w : World) (x0 y0 : Int) (x1 y1 : Int) (x2 y2 : ByteArray) (x3 y3 : ByteArray) (x4 y4 : Int) :
    (Op.equalIn (d + 2) 81 (.agg #[.int .i64 x0, .int .i64 x1, .string x2, .string x3, .int .i64 x4]) (.agg #[.int .i64 y0, .int .i64 y1, .string y2, .string y3, .int .i64 y4])).run Tryd.prog w = .ok (x0 == y0 && (x1 == y1 && (x2.toList == y2.toList && (x3.toList == y3.toList && (x4 == y4))))) w := by
  refine eqA_of Tryd.underlying81 (by kernel_rfl) ?_
  refine eqf_cons (by rfl) (by go_simp; rfl) (by go_simp; rfl) (by go_simp) ?_
  refine eqf_cons (by rfl) (by go_simp; rfl) (by go_simp; rfl) (by go_simp) ?_
  refine eqf_cons (by rfl) (by go_simp; rfl) (by go_simp; rfl) (by go_simp) ?_
  refine eqf_cons (by rfl) (by go_simp; rfl) (by go_simp; rfl) (by go_simp) ?_
  exact eqf_last (by rfl) (by go_simp; rfl) (by go_simp; rfl) (by go_simp)
end Go.Proofs.YthhmmaihbjhhgaaDoor.J2
namespace Go.Proofs.YthhmmaihbjhhgaaDoor.J2
open Go.Proofs.YthhmmaihbjhhgaaDoor.Giv Go.Proofs.YthhmmaihbjhhgaaDoor.U1 Go.Proofs.YthhmmaihbjhhgaaDoor.Q1 Go.Proofs.YthhmmaihbjhhgaaDoor.J0 Go.Proofs.YthhmmaihbjhhgaaDoor.J1 Go.RowKit Go.Proofs.YthhmmaihbjhhgaaDoorW.PrintWords Go.Proofs.YthhmmaihbjhhgaaDoorW.PrintLast Go.Proofs.YthhmmaihbjhhgaaDoorW.PrintMore
attribute [local go_sem] max2_int min2_int max_two min_two max_three min_three max_four min_four   -- for this text's walks alone
set_option linter.unusedVariables false
set_option linter.unusedSimpArgs false
def cracknellaw08_small.l0 : Nat → List (S81) → Int → List (S81) → Int → Int → Option (Bool)
  | 0, _, _, _, _, _ => none
  | k + 1, x0, x3, x6, x7, x8 => if x8 < x7 then (if 0 ≤ x8 then (if x8 < (x6.length : Int) then (if (wrap64 (x3 + ((mn (((rd_T81 x6 x8).f2).size : Int) 3000) + (mn (((rd_T81 x6 x8).f3).size : Int) 3000)))) > 1000 then (some false) else (if (x0.length : Int) > 100 then (some false) else (cracknellaw08_small.l0 k x0 (wrap64 (x3 + ((mn (((rd_T81 x6 x8).f2).size : Int) 3000) + (mn (((rd_T81 x6 x8).f3).size : Int) 3000)))) x6 x7 (wrap64 (x8 + 1))))) else (none)) else (none)) else (some true)
def cracknellaw08_small.f (k : Nat) (l0 : List (S81)) : Option (Bool) := cracknellaw08_small.l0 k l0 0 l0 (l0.length : Int) 0
set_option maxHeartbeats 8000000 in
set_option maxRecDepth 100000 in
theorem cracknellaw08_small.calls (k : Nat) (A0 : Option Addr) (c0 : Nat) (l0 : List (S81)) (r : Bool) (w : World) (hr0 : Kd.C k81 w A0 l0.length l0) (hc0 : l0.length ≤ c0) (h : cracknellaw08_small.f k l0 = some r) :
    Calls Tryd.prog 39 #[.slice A0 l0.length c0] w fun e w' => e = .returned (.bool r) ∧ Below w.heap.size w w' := by
  have hu81 := Tryd.underlying81
  have HR0 := Aside0.mk hr0
  have HC0 := Aside0.mk hc0
  clear hr0 hc0
  have HB := Aside0.mk (Below.refl w.heap.size w)
  have H : (cracknellaw08_small.l0 k l0 0 l0 (l0.length : Int) 0) = some r := h
  clear h
  have H' := Aside0.mk H
  clear H
  go_enter Tryd.func39, Tryd.ntmps39
  go_wp2
  go_loopg [3, 8] k (fun kq v3 v8 w' => ∃ (x3_1 : Int) (x8_1 : Int), v3 = .int .i64 x3_1 ∧ v8 = .int .i64 x8_1 ∧ Aside0 (cracknellaw08_small.l0 kq l0 x3_1 l0 (l0.length : Int) x8_1 = some r) ∧ Aside0 (kq ≤ k) ∧ Aside0 (Below w.heap.size w w'))
  case atStart => exact ⟨(0), (0), (by first | rfl | (simp; done) | (simp [*]; done)), (by first | rfl | (simp; done) | (simp [*]; done)), H', ⟨Nat.le_refl _⟩, ⟨by repeat (first | (with_reducible first | exact HB.out | apply below_alloc | apply pw_below_drewN | apply below_drew1) | exact HB.out)⟩⟩
  case round =>
    clear H'
    obtain ⟨x3_1, x8_1, rfl, rfl, HA, HK1, HB⟩ := hrel
    cases gk with
    | zero => exact absurd HA.out (by simp [cracknellaw08_small.l0])
    | succ k1 =>
      have H := HA.out
      clear HA
      simp only [cracknellaw08_small.l0] at H
      by_cases c2 : x8_1 < (l0.length : Int)
      · rw [if_pos c2] at H
        have c2b0 : decide (x8_1 < (l0.length : Int)) = true := decide_eq_true c2
        clear c2
        by_cases c3 : 0 ≤ x8_1
        · rw [if_pos c3] at H
          have c3b0 : decide (0 ≤ x8_1) = true := decide_eq_true c3
          clear c3
          by_cases c4 : x8_1 < (l0.length : Int)
          · rw [if_pos c4] at H
            have c4b0 : decide (x8_1 < (l0.length : Int)) = true := decide_eq_true c4
            clear c4
            obtain ⟨ji5, hji5⟩ : ∃ j_ : Int, (mn (((rd_T81 l0 x8_1).f2).size : Int) 3000) = j_ := ⟨_, rfl⟩
            replace H : (if (wrap64 (x3_1 + ((ji5) + (mn (((rd_T81 l0 x8_1).f3).size : Int) 3000)))) > 1000 then (some false) else (if (l0.length : Int) > 100 then (some false) else (cracknellaw08_small.l0 k1 l0 (wrap64 (x3_1 + ((ji5) + (mn (((rd_T81 l0 x8_1).f3).size : Int) 3000)))) l0 (l0.length : Int) (wrap64 (x8_1 + 1))))) = some r := by first | (rw [hji5] at H; exact H) | (simp only [hji5] at H ⊢; exact H)
            have hji5_ : (if 3000 < (((rd_T81 l0 x8_1).f2).size : Int) then 3000 else (((rd_T81 l0 x8_1).f2).size : Int)) = ji5 := hji5
            obtain ⟨ji6, hji6⟩ : ∃ j_ : Int, (mn (((rd_T81 l0 x8_1).f3).size : Int) 3000) = j_ := ⟨_, rfl⟩
            replace H : (if (wrap64 (x3_1 + ((ji5) + (ji6)))) > 1000 then (some false) else (if (l0.length : Int) > 100 then (some false) else (cracknellaw08_small.l0 k1 l0 (wrap64 (x3_1 + ((ji5) + (ji6)))) l0 (l0.length : Int) (wrap64 (x8_1 + 1))))) = some r := by first | (rw [hji6] at H; exact H) | (simp only [hji6] at H ⊢; exact H)
            have hji6_ : (if 3000 < (((rd_T81 l0 x8_1).f3).size : Int) then 3000 else (((rd_T81 l0 x8_1).f3).size : Int)) = ji6 := hji6
            by_cases c7 : (wrap64 (x3_1 + ((ji5) + (ji6)))) > 1000
            · rw [if_pos c7] at H
              have c7b0 : decide (1000 < (wrap64 (x3_1 + ((ji5) + (ji6))))) = true := decide_eq_true c7
              clear c7
              obtain rfl := Option.some.inj H
              have p101 : 0 ≤ (x8_1 : Int) := of_decide_eq_true (by first | (with_reducible assumption) | assumption)
              have q101 : x8_1 < (l0.length : Int) := of_decide_eq_true (by first | (with_reducible assumption) | assumption)
              obtain ⟨ad101, e101, hx101_0, hx101_1, hx101_2, hx101_3, hx101_4⟩ := at_T81 HR0.out x8_1 p101 q101
              cases e101
              replace hx101_0 := (HB.out.cell (World.block_lt_of_cell? w _ hx101_0)).trans hx101_0
              replace hx101_1 := (HB.out.cell (World.block_lt_of_cell? w _ hx101_1)).trans hx101_1
              replace hx101_2 := (HB.out.cell (World.block_lt_of_cell? w _ hx101_2)).trans hx101_2
              replace hx101_3 := (HB.out.cell (World.block_lt_of_cell? w _ hx101_3)).trans hx101_3
              replace hx101_4 := (HB.out.cell (World.block_lt_of_cell? w _ hx101_4)).trans hx101_4
              replace p101 := eq_true p101
              replace q101 := eq_true q101
              go_wp2_with (first | ((with_reducible refine gate_dst (N := 5) rfl ?_); (try (refine gate_guard (by rfl) ?_; dsimp only)); refine box_event ?hg (N := 5) ?hd (cs := #[.int .i64 0, .int .i64 0, .string (⟨#[]⟩ : ByteArray), .string (⟨#[]⟩ : ByteArray), .int .i64 0]) (t := 81) ?hr ?_; (case hd => rfl); (case hg => rfl); (case hr => first | (go_simp; done) | (go_simp; rfl)); intro gb102 hg w8 hbox hb; have n0_ := Aside0.mk (below_step (by repeat (first | (with_reducible first | exact HB.out | apply below_alloc | apply pw_below_drewN | apply below_drew1) | exact HB.out)) hb); have n1_ := Aside0.mk (hbox); have n2_ := Aside0.mk ((by rw [hg]; exact (below_size (by repeat (first | (with_reducible first | exact HB.out | apply below_alloc | apply pw_below_drewN | apply below_drew1) | exact HB.out))) : w.heap.size ≤ gb102)); have n3_ := Aside0.mk ((by rw [hg]; exact (below_size (by repeat (first | (with_reducible first | exact HB.out | apply below_alloc | apply pw_below_drewN | apply below_drew1) | exact HB.out))) : w.heap.size ≤ gb102)); clear HB; have HB := n0_; have BK102 := n1_; have GW102 := n2_; have GE102 := n3_; clear n0_ n1_ n2_ n3_; clear hb hbox hg; have hcz9_0 : w8.cell? ⟨gb102, 0, none⟩ = some (.int .i64 0) := (blk_cell BK102.out 0).trans rfl; have hcz9_1 : w8.cell? ⟨gb102, 1, none⟩ = some (.int .i64 0) := (blk_cell BK102.out 1).trans rfl; have hcz9_2 : w8.cell? ⟨gb102, 2, none⟩ = some (.string (⟨#[]⟩ : ByteArray)) := (blk_cell BK102.out 2).trans rfl; have hcz9_3 : w8.cell? ⟨gb102, 3, none⟩ = some (.string (⟨#[]⟩ : ByteArray)) := (blk_cell BK102.out 3).trans rfl; have hcz9_4 : w8.cell? ⟨gb102, 4, none⟩ = some (.int .i64 0) := (blk_cell BK102.out 4).trans rfl; have hfz9_0 := blk_frozen BK102.out 0; have hfz9_1 := blk_frozen BK102.out 1; have hfz9_2 := blk_frozen BK102.out 2; have hfz9_3 := blk_frozen BK102.out 3; have hfz9_4 := blk_frozen BK102.out 4))
              go_ret
              exact ⟨by first | rfl | (simp [errW_none, errW_some] <;> rfl) | (simp only [← hji5, ← hji6]; first | rfl | (simp [errW_none, errW_some] <;> rfl)) | (simp [*, errW_none, errW_some] <;> rfl), by repeat (first | (with_reducible first | exact HB.out | apply below_alloc | apply pw_below_drewN | apply below_drew1 | refine below_set ?_ GE102.out) | exact HB.out)⟩
            · rw [if_neg c7] at H
              have c7b0 : decide (1000 < (wrap64 (x3_1 + ((ji5) + (ji6))))) = false := decide_eq_false c7
              clear c7
              by_cases c10 : (l0.length : Int) > 100
              · rw [if_pos c10] at H
                have c10b0 : decide (100 < (l0.length : Int)) = true := decide_eq_true c10
                have c10b1 : decide (100 < l0.length) = true := decide_eq_true (by omega)
                clear c10
                obtain rfl := Option.some.inj H
                have p101 : 0 ≤ (x8_1 : Int) := of_decide_eq_true (by first | (with_reducible assumption) | assumption)
                have q101 : x8_1 < (l0.length : Int) := of_decide_eq_true (by first | (with_reducible assumption) | assumption)
                obtain ⟨ad101, e101, hx101_0, hx101_1, hx101_2, hx101_3, hx101_4⟩ := at_T81 HR0.out x8_1 p101 q101
                cases e101
                replace hx101_0 := (HB.out.cell (World.block_lt_of_cell? w _ hx101_0)).trans hx101_0
                replace hx101_1 := (HB.out.cell (World.block_lt_of_cell? w _ hx101_1)).trans hx101_1
                replace hx101_2 := (HB.out.cell (World.block_lt_of_cell? w _ hx101_2)).trans hx101_2
                replace hx101_3 := (HB.out.cell (World.block_lt_of_cell? w _ hx101_3)).trans hx101_3
                replace hx101_4 := (HB.out.cell (World.block_lt_of_cell? w _ hx101_4)).trans hx101_4
                replace p101 := eq_true p101
                replace q101 := eq_true q101
                go_wp2_with (first | ((with_reducible refine gate_dst (N := 5) rfl ?_); (try (refine gate_guard (by rfl) ?_; dsimp only)); refine box_event ?hg (N := 5) ?hd (cs := #[.int .i64 0, .int .i64 0, .string (⟨#[]⟩ : ByteArray), .string (⟨#[]⟩ : ByteArray), .int .i64 0]) (t := 81) ?hr ?_; (case hd => rfl); (case hg => rfl); (case hr => first | (go_simp; done) | (go_simp; rfl)); intro gb102 hg w11 hbox hb; have n0_ := Aside0.mk (below_step (by repeat (first | (with_reducible first | exact HB.out | apply below_alloc | apply pw_below_drewN | apply below_drew1) | exact HB.out)) hb); have n1_ := Aside0.mk (hbox); have n2_ := Aside0.mk ((by rw [hg]; exact (below_size (by repeat (first | (with_reducible first | exact HB.out | apply below_alloc | apply pw_below_drewN | apply below_drew1) | exact HB.out))) : w.heap.size ≤ gb102)); have n3_ := Aside0.mk ((by rw [hg]; exact (below_size (by repeat (first | (with_reducible first | exact HB.out | apply below_alloc | apply pw_below_drewN | apply below_drew1) | exact HB.out))) : w.heap.size ≤ gb102)); clear HB; have HB := n0_; have BK102 := n1_; have GW102 := n2_; have GE102 := n3_; clear n0_ n1_ n2_ n3_; clear hb hbox hg; have hcz12_0 : w11.cell? ⟨gb102, 0, none⟩ = some (.int .i64 0) := (blk_cell BK102.out 0).trans rfl; have hcz12_1 : w11.cell? ⟨gb102, 1, none⟩ = some (.int .i64 0) := (blk_cell BK102.out 1).trans rfl; have hcz12_2 : w11.cell? ⟨gb102, 2, none⟩ = some (.string (⟨#[]⟩ : ByteArray)) := (blk_cell BK102.out 2).trans rfl; have hcz12_3 : w11.cell? ⟨gb102, 3, none⟩ = some (.string (⟨#[]⟩ : ByteArray)) := (blk_cell BK102.out 3).trans rfl; have hcz12_4 : w11.cell? ⟨gb102, 4, none⟩ = some (.int .i64 0) := (blk_cell BK102.out 4).trans rfl; have hfz12_0 := blk_frozen BK102.out 0; have hfz12_1 := blk_frozen BK102.out 1; have hfz12_2 := blk_frozen BK102.out 2; have hfz12_3 := blk_frozen BK102.out 3; have hfz12_4 := blk_frozen BK102.out 4))
                go_ret
                exact ⟨by first | rfl | (simp [errW_none, errW_some] <;> rfl) | (simp only [← hji5, ← hji6]; first | rfl | (simp [errW_none, errW_some] <;> rfl)) | (simp [*, errW_none, errW_some] <;> rfl), by repeat (first | (with_reducible first | exact HB.out | apply below_alloc | apply pw_below_drewN | apply below_drew1 | refine below_set ?_ GE102.out) | exact HB.out)⟩
              · rw [if_neg c10] at H
                have c10b0 : decide (100 < (l0.length : Int)) = false := decide_eq_false c10
                have c10b1 : decide (100 < l0.length) = false := decide_eq_false (by omega)
                clear c10
                have H' := Aside0.mk H
                clear H
                have p101 : 0 ≤ (x8_1 : Int) := of_decide_eq_true (by first | (with_reducible assumption) | assumption)
                have q101 : x8_1 < (l0.length : Int) := of_decide_eq_true (by first | (with_reducible assumption) | assumption)
                obtain ⟨ad101, e101, hx101_0, hx101_1, hx101_2, hx101_3, hx101_4⟩ := at_T81 HR0.out x8_1 p101 q101
                cases e101
                replace hx101_0 := (HB.out.cell (World.block_lt_of_cell? w _ hx101_0)).trans hx101_0
                replace hx101_1 := (HB.out.cell (World.block_lt_of_cell? w _ hx101_1)).trans hx101_1
                replace hx101_2 := (HB.out.cell (World.block_lt_of_cell? w _ hx101_2)).trans hx101_2
                replace hx101_3 := (HB.out.cell (World.block_lt_of_cell? w _ hx101_3)).trans hx101_3
                replace hx101_4 := (HB.out.cell (World.block_lt_of_cell? w _ hx101_4)).trans hx101_4
                replace p101 := eq_true p101
                replace q101 := eq_true q101
                go_wp2_with (first | ((with_reducible refine gate_dst (N := 5) rfl ?_); (try (refine gate_guard (by rfl) ?_; dsimp only)); refine box_event ?hg (N := 5) ?hd (cs := #[.int .i64 0, .int .i64 0, .string (⟨#[]⟩ : ByteArray), .string (⟨#[]⟩ : ByteArray), .int .i64 0]) (t := 81) ?hr ?_; (case hd => rfl); (case hg => rfl); (case hr => first | (go_simp; done) | (go_simp; rfl)); intro gb102 hg w13 hbox hb; have n0_ := Aside0.mk (below_step (by repeat (first | (with_reducible first | exact HB.out | apply below_alloc | apply pw_below_drewN | apply below_drew1) | exact HB.out)) hb); have n1_ := Aside0.mk (hbox); have n2_ := Aside0.mk ((by rw [hg]; exact (below_size (by repeat (first | (with_reducible first | exact HB.out | apply below_alloc | apply pw_below_drewN | apply below_drew1) | exact HB.out))) : w.heap.size ≤ gb102)); have n3_ := Aside0.mk ((by rw [hg]; exact (below_size (by repeat (first | (with_reducible first | exact HB.out | apply below_alloc | apply pw_below_drewN | apply below_drew1) | exact HB.out))) : w.heap.size ≤ gb102)); clear HB; have HB := n0_; have BK102 := n1_; have GW102 := n2_; have GE102 := n3_; clear n0_ n1_ n2_ n3_; clear hb hbox hg; have hcz14_0 : w13.cell? ⟨gb102, 0, none⟩ = some (.int .i64 0) := (blk_cell BK102.out 0).trans rfl; have hcz14_1 : w13.cell? ⟨gb102, 1, none⟩ = some (.int .i64 0) := (blk_cell BK102.out 1).trans rfl; have hcz14_2 : w13.cell? ⟨gb102, 2, none⟩ = some (.string (⟨#[]⟩ : ByteArray)) := (blk_cell BK102.out 2).trans rfl; have hcz14_3 : w13.cell? ⟨gb102, 3, none⟩ = some (.string (⟨#[]⟩ : ByteArray)) := (blk_cell BK102.out 3).trans rfl; have hcz14_4 : w13.cell? ⟨gb102, 4, none⟩ = some (.int .i64 0) := (blk_cell BK102.out 4).trans rfl; have hfz14_0 := blk_frozen BK102.out 0; have hfz14_1 := blk_frozen BK102.out 1; have hfz14_2 := blk_frozen BK102.out 2; have hfz14_3 := blk_frozen BK102.out 3; have hfz14_4 := blk_frozen BK102.out 4))
                go_roundg k1
                case measure => have := HK1.out; omega
                case rel => exact ⟨(wrap64 (x3_1 + ((ji5) + (ji6)))), (wrap64 (x8_1 + 1)), (by first | rfl | (simp; done) | (simp only [← hji5, ← hji6] <;> (first | rfl | simp)) | (simp [*]; done)), (by first | rfl | (simp; done) | (simp [*]; done)), H', ⟨by have := HK1.out; omega⟩, ⟨by repeat (first | (with_reducible first | exact HB.out | apply below_alloc | apply pw_below_drewN | apply below_drew1 | refine below_set ?_ GE102.out) | exact HB.out)⟩⟩
          · rw [if_neg c4] at H
            exact absurd H (by simp)
        · rw [if_neg c3] at H
          exact absurd H (by simp)
      · rw [if_neg c2] at H
        have c2b0 : decide (x8_1 < (l0.length : Int)) = false := decide_eq_false c2
        clear c2
        obtain rfl := Option.some.inj H
        go_wp2
        go_ret
        exact ⟨by first | rfl | (simp [errW_none, errW_some] <;> rfl) | (simp [*, errW_none, errW_some] <;> rfl), by repeat (first | (with_reducible first | exact HB.out | apply below_alloc | apply pw_below_drewN | apply below_drew1) | exact HB.out)⟩
def cracknelref08_holder.l0 : Nat → List (S81) → Int → Int → Option (Int)
  | 0, _, _, _ => none
  | k + 1, x0, x1, x5 => if x5 ≥ 0 then (if 0 ≤ x5 then (if x5 < (x0.length : Int) then (if 0 ≤ x1 then (if x1 < (x0.length : Int) then (if ((rd_T81 x0 x5).f0) = (wrap64 (((rd_T81 x0 x1).f0) - 1)) then (some x5) else (cracknelref08_holder.l0 k x0 x1 (wrap64 (x5 - 1)))) else (none)) else (none)) else (none)) else (none)) else (some (-1))
def cracknelref08_holder.f (k : Nat) (l0 : List (S81)) (a1 : Int) : Option (Int) := cracknelref08_holder.l0 k l0 a1 (wrap64 (a1 - 1))
set_option maxHeartbeats 8000000 in
set_option maxRecDepth 100000 in
theorem cracknelref08_holder.calls (k : Nat) (A0 : Option Addr) (c0 : Nat) (l0 : List (S81)) (a1 : Int) (r : Int) (w : World) (hr0 : Kd.C k81 w A0 l0.length l0) (hc0 : l0.length ≤ c0) (h : cracknelref08_holder.f k l0 a1 = some r) :
    Calls Tryd.prog 67 #[.slice A0 l0.length c0, .int .i64 a1] w fun e w' => e = .returned (.int .i64 r) ∧ Drawn0 w w' := by
  have HR0 := Aside0.mk hr0
  have HC0 := Aside0.mk hc0
  clear hr0 hc0
  have H : (cracknelref08_holder.l0 k l0 a1 (wrap64 (a1 - 1))) = some r := h
  clear h
  have H' := Aside0.mk H
  clear H
  go_enter Tryd.func67, Tryd.ntmps67
  go_wp2
  repeat (go_quiet (fail); try go_wp2)
  go_loopg [5] k (fun kq v5 w' => ∃ (x5_1 : Int), v5 = .int .i64 x5_1 ∧ Aside0 (cracknelref08_holder.l0 kq l0 a1 x5_1 = some r) ∧ Aside0 (kq ≤ k) ∧ Drawn0 w w')
  case atStart => exact ⟨(wrap64 (a1 - 1)), (by first | rfl | (simp; done) | (simp [*]; done)), H', ⟨Nat.le_refl _⟩, by repeat (first | exact Drawn0.refl _ | apply Drawn0.step)⟩
  case round =>
    clear H'
    try clear p2
    obtain ⟨x5_1, rfl, HA, HK1, ⟨m1, rfl⟩⟩ := hrel
    cases gk with
    | zero => exact absurd HA.out (by simp [cracknelref08_holder.l0])
    | succ k1 =>
      have H := HA.out
      clear HA
      simp only [cracknelref08_holder.l0] at H
      by_cases c3 : x5_1 ≥ 0
      · rw [if_pos c3] at H
        have c3b0 : decide (0 ≤ x5_1) = true := decide_eq_true c3
        clear c3
        by_cases c4 : 0 ≤ x5_1
        · rw [if_pos c4] at H
          have c4b0 : decide (0 ≤ x5_1) = true := decide_eq_true c4
          clear c4
          by_cases c5 : x5_1 < (l0.length : Int)
          · rw [if_pos c5] at H
            have c5b0 : decide (x5_1 < (l0.length : Int)) = true := decide_eq_true c5
            clear c5
            by_cases c6 : 0 ≤ a1
            · rw [if_pos c6] at H
              have c6b0 : decide (0 ≤ a1) = true := decide_eq_true c6
              clear c6
              by_cases c7 : a1 < (l0.length : Int)
              · rw [if_pos c7] at H
                have c7b0 : decide (a1 < (l0.length : Int)) = true := decide_eq_true c7
                clear c7
                by_cases c8 : ((rd_T81 l0 x5_1).f0) = (wrap64 (((rd_T81 l0 a1).f0) - 1))
                · rw [if_pos c8] at H
                  have c8b0 : (((rd_T81 l0 x5_1).f0) == (wrap64 (((rd_T81 l0 a1).f0) - 1))) = true := beq_iff_eq.mpr c8
                  have c8b1 : (((rd_T81 l0 x5_1).f0) != (wrap64 (((rd_T81 l0 a1).f0) - 1))) = false := bne_eq_false_iff_eq.mpr c8
                  clear c8
                  obtain rfl := Option.some.inj H
                  have p103 : 0 ≤ (x5_1 : Int) := of_decide_eq_true (by first | (with_reducible assumption) | assumption)
                  have q103 : x5_1 < (l0.length : Int) := of_decide_eq_true (by first | (with_reducible assumption) | assumption)
                  obtain ⟨ad103, e103, hx103_0, hx103_1, hx103_2, hx103_3, hx103_4⟩ := at_T81 HR0.out x5_1 p103 q103
                  cases e103
                  replace p103 := eq_true p103
                  replace q103 := eq_true q103
                  have p104 : 0 ≤ (a1 : Int) := of_decide_eq_true (by first | (with_reducible assumption) | assumption)
                  have q104 : a1 < (l0.length : Int) := of_decide_eq_true (by first | (with_reducible assumption) | assumption)
                  obtain ⟨ad104, e104, hx104_0, hx104_1, hx104_2, hx104_3, hx104_4⟩ := at_T81 HR0.out a1 p104 q104
                  obtain rfl : ad103 = ad104 := (by injection e104)
                  replace p104 := eq_true p104
                  replace q104 := eq_true q104
                  go_wp2
                  repeat (go_quiet (fail); try go_wp2)
                  go_ret
                  exact ⟨by first | rfl | (simp; done) | (simp [*]; done), by repeat (first | exact Drawn0.refl _ | apply Drawn0.step)⟩
                · rw [if_neg c8] at H
                  have c8b0 : (((rd_T81 l0 x5_1).f0) == (wrap64 (((rd_T81 l0 a1).f0) - 1))) = false := beq_eq_false_iff_ne.mpr c8
                  have c8b1 : (((rd_T81 l0 x5_1).f0) != (wrap64 (((rd_T81 l0 a1).f0) - 1))) = true := bne_iff_ne.mpr c8
                  have H' := Aside0.mk H
                  clear H
                  have p103 : 0 ≤ (x5_1 : Int) := of_decide_eq_true (by first | (with_reducible assumption) | assumption)
                  have q103 : x5_1 < (l0.length : Int) := of_decide_eq_true (by first | (with_reducible assumption) | assumption)
                  obtain ⟨ad103, e103, hx103_0, hx103_1, hx103_2, hx103_3, hx103_4⟩ := at_T81 HR0.out x5_1 p103 q103
                  cases e103
                  replace p103 := eq_true p103
                  replace q103 := eq_true q103
                  have p104 : 0 ≤ (a1 : Int) := of_decide_eq_true (by first | (with_reducible assumption) | assumption)
                  have q104 : a1 < (l0.length : Int) := of_decide_eq_true (by first | (with_reducible assumption) | assumption)
                  obtain ⟨ad104, e104, hx104_0, hx104_1, hx104_2, hx104_3, hx104_4⟩ := at_T81 HR0.out a1 p104 q104
                  obtain rfl : ad103 = ad104 := (by injection e104)
                  replace p104 := eq_true p104
                  replace q104 := eq_true q104
                  go_wp2
                  repeat (go_quiet (fail); try go_wp2)
                  go_roundg k1
                  case measure => have := HK1.out; omega
                  case rel => exact ⟨(wrap64 (x5_1 - 1)), (by first | rfl | (simp; done) | (simp [*]; done)), H', ⟨by have := HK1.out; omega⟩, by repeat (first | exact Drawn0.refl _ | apply Drawn0.step)⟩
              · rw [if_neg c7] at H
                exact absurd H (by simp)
            · rw [if_neg c6] at H
              exact absurd H (by simp)
          · rw [if_neg c5] at H
            exact absurd H (by simp)
        · rw [if_neg c4] at H
          exact absurd H (by simp)
      · rw [if_neg c3] at H
        have c3b0 : decide (0 ≤ x5_1) = false := decide_eq_false c3
        clear c3
        obtain rfl := Option.some.inj H
        go_wp2
        repeat (go_quiet (fail); try go_wp2)
        go_ret
        exact ⟨by first | rfl | (simp; done) | (simp [*]; done), by repeat (first | exact Drawn0.refl _ | apply Drawn0.step)⟩
def cracknelref08_alone.l0 : Nat → List (S81) → Int → Int → Option (Bool)
  | 0, _, _, _ => none
  | k + 1, x0, x1, x7 => if x7 < x1 then (if 0 ≤ x7 then (if x7 < (x0.length : Int) then (if 0 ≤ x1 then (if x1 < (x0.length : Int) then (if ((rd_T81 x0 x7).f0) = ((rd_T81 x0 x1).f0) then (if ((rd_T81 x0 x7).f2).toList = ((rd_T81 x0 x1).f2).toList then (some false) else (cracknelref08_alone.l0 k x0 x1 (wrap64 (x7 + 1)))) else (cracknelref08_alone.l0 k x0 x1 (wrap64 (x7 + 1)))) else (none)) else (none)) else (none)) else (none)) else (some true)
def cracknelref08_alone.f (k : Nat) (l0 : List (S81)) (a1 : Int) (a2 : Int) : Option (Bool) := cracknelref08_alone.l0 k l0 a1 (wrap64 (a2 + 1))
set_option maxHeartbeats 8000000 in
set_option maxRecDepth 100000 in
theorem cracknelref08_alone.calls (k : Nat) (A0 : Option Addr) (c0 : Nat) (l0 : List (S81)) (a1 : Int) (a2 : Int) (r : Bool) (w : World) (hr0 : Kd.C k81 w A0 l0.length l0) (hc0 : l0.length ≤ c0) (h : cracknelref08_alone.f k l0 a1 a2 = some r) :
    Calls Tryd.prog 68 #[.slice A0 l0.length c0, .int .i64 a1, .int .i64 a2] w fun e w' => e = .returned (.bool r) ∧ Drawn0 w w' := by
  have HR0 := Aside0.mk hr0
  have HC0 := Aside0.mk hc0
  clear hr0 hc0
  have H : (cracknelref08_alone.l0 k l0 a1 (wrap64 (a2 + 1))) = some r := h
  clear h
  have H' := Aside0.mk H
  clear H
  go_enter Tryd.func68, Tryd.ntmps68
  go_wp2
  repeat (go_quiet (fail); try go_wp2)
  go_loopg [7] k (fun kq v7 w' => ∃ (x7_1 : Int), v7 = .int .i64 x7_1 ∧ Aside0 (cracknelref08_alone.l0 kq l0 a1 x7_1 = some r) ∧ Aside0 (kq ≤ k) ∧ Drawn0 w w')
  case atStart => exact ⟨(wrap64 (a2 + 1)), (by first | rfl | (simp; done) | (simp [*]; done)), H', ⟨Nat.le_refl _⟩, by repeat (first | exact Drawn0.refl _ | apply Drawn0.step)⟩
  case round =>
    clear H'
    try clear p2
    obtain ⟨x7_1, rfl, HA, HK1, ⟨m1, rfl⟩⟩ := hrel
    cases gk with
    | zero => exact absurd HA.out (by simp [cracknelref08_alone.l0])
    | succ k1 =>
      have H := HA.out
      clear HA
      simp only [cracknelref08_alone.l0] at H
      by_cases c4 : x7_1 < a1
      · rw [if_pos c4] at H
        have c4b0 : decide (x7_1 < a1) = true := decide_eq_true c4
        clear c4
        by_cases c5 : 0 ≤ x7_1
        · rw [if_pos c5] at H
          have c5b0 : decide (0 ≤ x7_1) = true := decide_eq_true c5
          clear c5
          by_cases c6 : x7_1 < (l0.length : Int)
          · rw [if_pos c6] at H
            have c6b0 : decide (x7_1 < (l0.length : Int)) = true := decide_eq_true c6
            clear c6
            by_cases c7 : 0 ≤ a1
            · rw [if_pos c7] at H
              have c7b0 : decide (0 ≤ a1) = true := decide_eq_true c7
              clear c7
              by_cases c8 : a1 < (l0.length : Int)
              · rw [if_pos c8] at H
                have c8b0 : decide (a1 < (l0.length : Int)) = true := decide_eq_true c8
                clear c8
                by_cases c9 : ((rd_T81 l0 x7_1).f0) = ((rd_T81 l0 a1).f0)
                · rw [if_pos c9] at H
                  have c9b0 : (((rd_T81 l0 x7_1).f0) == ((rd_T81 l0 a1).f0)) = true := beq_iff_eq.mpr c9
                  have c9b1 : (((rd_T81 l0 x7_1).f0) != ((rd_T81 l0 a1).f0)) = false := bne_eq_false_iff_eq.mpr c9
                  clear c9
                  by_cases c10 : ((rd_T81 l0 x7_1).f2).toList = ((rd_T81 l0 a1).f2).toList
                  · rw [if_pos c10] at H
                    have c10b0 : (((rd_T81 l0 x7_1).f2).toList == ((rd_T81 l0 a1).f2).toList) = true := beq_iff_eq.mpr c10
                    have c10b1 : (((rd_T81 l0 x7_1).f2).toList != ((rd_T81 l0 a1).f2).toList) = false := bne_eq_false_iff_eq.mpr c10
                    clear c10
                    obtain rfl := Option.some.inj H
                    have p105 : 0 ≤ (x7_1 : Int) := of_decide_eq_true (by first | (with_reducible assumption) | assumption)
                    have q105 : x7_1 < (l0.length : Int) := of_decide_eq_true (by first | (with_reducible assumption) | assumption)
                    obtain ⟨ad105, e105, hx105_0, hx105_1, hx105_2, hx105_3, hx105_4⟩ := at_T81 HR0.out x7_1 p105 q105
                    cases e105
                    replace p105 := eq_true p105
                    replace q105 := eq_true q105
                    have p106 : 0 ≤ (a1 : Int) := of_decide_eq_true (by first | (with_reducible assumption) | assumption)
                    have q106 : a1 < (l0.length : Int) := of_decide_eq_true (by first | (with_reducible assumption) | assumption)
                    obtain ⟨ad106, e106, hx106_0, hx106_1, hx106_2, hx106_3, hx106_4⟩ := at_T81 HR0.out a1 p106 q106
                    obtain rfl : ad105 = ad106 := (by injection e106)
                    replace p106 := eq_true p106
                    replace q106 := eq_true q106
                    have p107 : 0 ≤ (x7_1 : Int) := of_decide_eq_true (by first | (with_reducible assumption) | assumption)
                    have q107 : x7_1 < (l0.length : Int) := of_decide_eq_true (by first | (with_reducible assumption) | assumption)
                    obtain ⟨ad107, e107, hx107_0, hx107_1, hx107_2, hx107_3, hx107_4⟩ := at_T81 HR0.out x7_1 p107 q107
                    obtain rfl : ad105 = ad107 := (by injection e107)
                    replace p107 := eq_true p107
                    replace q107 := eq_true q107
                    have p108 : 0 ≤ (a1 : Int) := of_decide_eq_true (by first | (with_reducible assumption) | assumption)
                    have q108 : a1 < (l0.length : Int) := of_decide_eq_true (by first | (with_reducible assumption) | assumption)
                    obtain ⟨ad108, e108, hx108_0, hx108_1, hx108_2, hx108_3, hx108_4⟩ := at_T81 HR0.out a1 p108 q108
                    obtain rfl : ad105 = ad108 := (by injection e108)
                    replace p108 := eq_true p108
                    replace q108 := eq_true q108
                    go_wp2
                    repeat (go_quiet (fail); try go_wp2)
                    go_ret
                    exact ⟨by first | rfl | (simp; done) | (simp [*]; done), by repeat (first | exact Drawn0.refl _ | apply Drawn0.step)⟩
                  · rw [if_neg c10] at H
                    have c10b0 : (((rd_T81 l0 x7_1).f2).toList == ((rd_T81 l0 a1).f2).toList) = false := beq_eq_false_iff_ne.mpr c10
                    have c10b1 : (((rd_T81 l0 x7_1).f2).toList != ((rd_T81 l0 a1).f2).toList) = true := bne_iff_ne.mpr c10
                    have H' := Aside0.mk H
                    clear H
                    have p105 : 0 ≤ (x7_1 : Int) := of_decide_eq_true (by first | (with_reducible assumption) | assumption)
                    have q105 : x7_1 < (l0.length : Int) := of_decide_eq_true (by first | (with_reducible assumption) | assumption)
                    obtain ⟨ad105, e105, hx105_0, hx105_1, hx105_2, hx105_3, hx105_4⟩ := at_T81 HR0.out x7_1 p105 q105
                    cases e105
                    replace p105 := eq_true p105
                    replace q105 := eq_true q105
                    have p106 : 0 ≤ (a1 : Int) := of_decide_eq_true (by first | (with_reducible assumption) | assumption)
                    have q106 : a1 < (l0.length : Int) := of_decide_eq_true (by first | (with_reducible assumption) | assumption)
                    obtain ⟨ad106, e106, hx106_0, hx106_1, hx106_2, hx106_3, hx106_4⟩ := at_T81 HR0.out a1 p106 q106
                    obtain rfl : ad105 = ad106 := (by injection e106)
                    replace p106 := eq_true p106
                    replace q106 := eq_true q106
                    have p107 : 0 ≤ (x7_1 : Int) := of_decide_eq_true (by first | (with_reducible assumption) | assumption)
                    have q107 : x7_1 < (l0.length : Int) := of_decide_eq_true (by first | (with_reducible assumption) | assumption)
                    obtain ⟨ad107, e107, hx107_0, hx107_1, hx107_2, hx107_3, hx107_4⟩ := at_T81 HR0.out x7_1 p107 q107
                    obtain rfl : ad105 = ad107 := (by injection e107)
                    replace p107 := eq_true p107
                    replace q107 := eq_true q107
                    have p108 : 0 ≤ (a1 : Int) := of_decide_eq_true (by first | (with_reducible assumption) | assumption)
                    have q108 : a1 < (l0.length : Int) := of_decide_eq_true (by first | (with_reducible assumption) | assumption)
                    obtain ⟨ad108, e108, hx108_0, hx108_1, hx108_2, hx108_3, hx108_4⟩ := at_T81 HR0.out a1 p108 q108
                    obtain rfl : ad105 = ad108 := (by injection e108)
                    replace p108 := eq_true p108
                    replace q108 := eq_true q108
                    go_wp2
                    repeat (go_quiet (fail); try go_wp2)
                    go_roundg k1
                    case measure => have := HK1.out; omega
                    case rel => exact ⟨(wrap64 (x7_1 + 1)), (by first | rfl | (simp; done) | (simp [*]; done)), H', ⟨by have := HK1.out; omega⟩, by repeat (first | exact Drawn0.refl _ | apply Drawn0.step)⟩
                · rw [if_neg c9] at H
                  have c9b0 : (((rd_T81 l0 x7_1).f0) == ((rd_T81 l0 a1).f0)) = false := beq_eq_false_iff_ne.mpr c9
                  have c9b1 : (((rd_T81 l0 x7_1).f0) != ((rd_T81 l0 a1).f0)) = true := bne_iff_ne.mpr c9
                  have H' := Aside0.mk H
                  clear H
                  have p105 : 0 ≤ (x7_1 : Int) := of_decide_eq_true (by first | (with_reducible assumption) | assumption)
                  have q105 : x7_1 < (l0.length : Int) := of_decide_eq_true (by first | (with_reducible assumption) | assumption)
                  obtain ⟨ad105, e105, hx105_0, hx105_1, hx105_2, hx105_3, hx105_4⟩ := at_T81 HR0.out x7_1 p105 q105
                  cases e105
                  replace p105 := eq_true p105
                  replace q105 := eq_true q105
                  have p106 : 0 ≤ (a1 : Int) := of_decide_eq_true (by first | (with_reducible assumption) | assumption)
                  have q106 : a1 < (l0.length : Int) := of_decide_eq_true (by first | (with_reducible assumption) | assumption)
                  obtain ⟨ad106, e106, hx106_0, hx106_1, hx106_2, hx106_3, hx106_4⟩ := at_T81 HR0.out a1 p106 q106
                  obtain rfl : ad105 = ad106 := (by injection e106)
                  replace p106 := eq_true p106
                  replace q106 := eq_true q106
                  go_wp2
                  repeat (go_quiet (fail); try go_wp2)
                  go_roundg k1
                  case measure => have := HK1.out; omega
                  case rel => exact ⟨(wrap64 (x7_1 + 1)), (by first | rfl | (simp; done) | (simp [*]; done)), H', ⟨by have := HK1.out; omega⟩, by repeat (first | exact Drawn0.refl _ | apply Drawn0.step)⟩
              · rw [if_neg c8] at H
                exact absurd H (by simp)
            · rw [if_neg c7] at H
              exact absurd H (by simp)
          · rw [if_neg c6] at H
            exact absurd H (by simp)
        · rw [if_neg c5] at H
          exact absurd H (by simp)
      · rw [if_neg c4] at H
        have c4b0 : decide (x7_1 < a1) = false := decide_eq_false c4
        clear c4
        obtain rfl := Option.some.inj H
        go_wp2
        repeat (go_quiet (fail); try go_wp2)
        go_ret
        exact ⟨by first | rfl | (simp; done) | (simp [*]; done), by repeat (first | exact Drawn0.refl _ | apply Drawn0.step)⟩
end Go.Proofs.YthhmmaihbjhhgaaDoor.J2
namespace Go.Proofs.YthhmmaihbjhhgaaDoor.J2
open Go.Proofs.YthhmmaihbjhhgaaDoor.Giv Go.Proofs.YthhmmaihbjhhgaaDoor.U1 Go.Proofs.YthhmmaihbjhhgaaDoor.Q1 Go.Proofs.YthhmmaihbjhhgaaDoor.J0 Go.Proofs.YthhmmaihbjhhgaaDoor.J1 Go.RowKit Go.Proofs.YthhmmaihbjhhgaaDoorW.PrintWords Go.Proofs.YthhmmaihbjhhgaaDoorW.PrintLast Go.Proofs.YthhmmaihbjhhgaaDoorW.PrintMore
attribute [local go_sem] max2_int min2_int max_two min_two max_three min_three max_four min_four   -- for this text's walks alone
set_option linter.unusedVariables false
set_option linter.unusedSimpArgs false
theorem isE2 (l : List UInt8) : (!l.isEmpty) = (l != []) := by cases l <;> rfl
mutual
def cracknelref08_Right.j0 : Nat → List (S81) → Bool → Option (Bool)
  | 0, _, _ => none
  | k + 1, x0, x29 => if x29 = true then (some false) else (cracknelref08_Right.l0 k x0 1)
def cracknelref08_Right.l0 : Nat → List (S81) → Int → Option (Bool)
  | 0, _, _ => none
  | k + 1, x0, x3 => if x3 < (x0.length : Int) then (if 0 ≤ (wrap64 (x3 - 1)) then (if (wrap64 (x3 - 1)) < (x0.length : Int) then (if ((rd_T81 x0 (wrap64 (x3 - 1))).f1) ≥ 6 then (cracknelref08_Right.j2 k x0 x3 (wrap64 (((rd_T81 x0 (wrap64 (x3 - 1))).f0) + 1))) else (cracknelref08_Right.j2 k x0 x3 ((rd_T81 x0 (wrap64 (x3 - 1))).f0))) else (none)) else (none)) else (some true)
def cracknelref08_Right.j2 : Nat → List (S81) → Int → Int → Option (Bool)
  | 0, _, _, _ => none
  | k + 1, x0, x3, x4 => if 0 ≤ x3 then (if x3 < (x0.length : Int) then ((cracknelref08_may.f k ((rd_T81 x0 x3).f0) ((rd_T81 x0 x3).f1) ((rd_T81 x0 x3).f2) ((rd_T81 x0 x3).f3) ((rd_T81 x0 x3).f4)).bind fun t116 => (if t116 = true then (if ((rd_T81 x0 x3).f0) < 1 then (cracknelref08_Right.j3 k x0 x3 true) else (cracknelref08_Right.j3 k x0 x3 (decide (((rd_T81 x0 x3).f0) > x4)))) else (cracknelref08_Right.j3 k x0 x3 true))) else (none)) else (none)
def cracknelref08_Right.j3 : Nat → List (S81) → Int → Bool → Option (Bool)
  | 0, _, _, _ => none
  | k + 1, x0, x3, x73 => if x73 = true then (some false) else ((cracknelref08_holder.f k x0 x3).bind fun t119 => (if 0 ≤ t119 then (if t119 < (x0.length : Int) then (if ((rd_T81 x0 t119).f1) = 6 then (if 0 ≤ x3 then (if x3 < (x0.length : Int) then (cracknelref08_Right.j4 k x0 x3 t119 (((rd_T81 x0 x3).f2).toList != ([] : List UInt8))) else (none)) else (none)) else (cracknelref08_Right.j4 k x0 x3 t119 false)) else (none)) else (none)))
def cracknelref08_Right.j4 : Nat → List (S81) → Int → Int → Bool → Option (Bool)
  | 0, _, _, _, _ => none
  | k + 1, x0, x3, x5, x90 => if x90 = true then (some false) else (if 0 ≤ x5 then (if x5 < (x0.length : Int) then (if ((rd_T81 x0 x5).f1) = 7 then ((cracknelref08_alone.f k x0 x3 x5).bind fun t123 => (if t123 = true then (cracknelref08_Right.l0 k x0 (wrap64 (x3 + 1))) else (some false))) else (cracknelref08_Right.l0 k x0 (wrap64 (x3 + 1)))) else (none)) else (none))
end
def cracknelref08_Right.f (k : Nat) (l0 : List (S81)) : Option (Bool) := if (l0.length : Int) = 0 then (cracknelref08_Right.j0 k l0 true) else (if 0 < (l0.length : Int) then (if ((rd_T81 l0 0).f0) = 0 then (if ((rd_T81 l0 0).f2).toList = ([] : List UInt8) then ((cracknelref08_may.f k ((rd_T81 l0 0).f0) ((rd_T81 l0 0).f1) ((rd_T81 l0 0).f2) ((rd_T81 l0 0).f3) ((rd_T81 l0 0).f4)).bind fun t112 => (cracknelref08_Right.j0 k l0 (!t112))) else (cracknelref08_Right.j0 k l0 true)) else (cracknelref08_Right.j0 k l0 true)) else (none))
set_option maxHeartbeats 8000000 in
set_option maxRecDepth 100000 in
theorem cracknelref08_Right.calls (k : Nat) (A0 : Option Addr) (c0 : Nat) (l0 : List (S81)) (r : Bool) (w : World) (hr0 : Kd.C k81 w A0 l0.length l0) (hc0 : l0.length ≤ c0) (h : cracknelref08_Right.f k l0 = some r) :
    Calls Tryd.prog 43 #[.slice A0 l0.length c0] w fun e w' => e = .returned (.bool r) ∧ Below w.heap.size w w' := by
  have hu81 := Tryd.underlying81
  have HR0 := Aside0.mk hr0
  have HC0 := Aside0.mk hc0
  clear hr0 hc0
  have HB := Aside0.mk (Below.refl w.heap.size w)
  have H : (if (l0.length : Int) = 0 then (cracknelref08_Right.j0 k l0 true) else (if 0 < (l0.length : Int) then (if ((rd_T81 l0 0).f0) = 0 then (if ((rd_T81 l0 0).f2).toList = ([] : List UInt8) then ((cracknelref08_may.f k ((rd_T81 l0 0).f0) ((rd_T81 l0 0).f1) ((rd_T81 l0 0).f2) ((rd_T81 l0 0).f3) ((rd_T81 l0 0).f4)).bind fun t112 => (cracknelref08_Right.j0 k l0 (!t112))) else (cracknelref08_Right.j0 k l0 true)) else (cracknelref08_Right.j0 k l0 true)) else (none))) = some r := h
  clear h
  have HC2 := Aside0.mk H
  clear H
  go_enter Tryd.func43, Tryd.ntmps43
  go_upto_region 1 with (fail)
  go_cut [29] (fun v29 wc => ∃ (kq : Nat) (x29_1 : Bool), v29 = .bool x29_1 ∧ Aside0 (cracknelref08_Right.j0 kq l0 x29_1 = some r) ∧ Aside0 (kq ≤ k) ∧ Aside0 (Below w.heap.size w wc))
  case first =>
    have H := HC2.out
    clear HC2
    by_cases c3 : (l0.length : Int) = 0
    · rw [if_pos c3] at H
      have c3b0 : ((l0.length : Int) == 0) = true := beq_iff_eq.mpr c3
      have c3b1 : ((l0.length : Int) != 0) = false := bne_eq_false_iff_eq.mpr c3
      clear c3
      (first | rw [c3b0] | (simp only [i64_w, i32_w]; rw [c3b0]) | skip)
      have H' := Aside0.mk H
      clear H
      go_wp2
      go_meet
      case rel => exact ⟨_, (true), (by first | rfl | (simp; done) | (simp [*]; done)), H', ⟨by first | omega | exact Nat.le_refl _⟩, ⟨by repeat (first | (with_reducible first | exact HB.out | apply below_alloc | apply pw_below_drewN | apply below_drew1) | exact HB.out)⟩⟩
    · rw [if_neg c3] at H
      have c3b0 : ((l0.length : Int) == 0) = false := beq_eq_false_iff_ne.mpr c3
      have c3b1 : ((l0.length : Int) != 0) = true := bne_iff_ne.mpr c3
      have c3b2 : ¬ (l0 = []) := fun h_ => c3 (by rw [h_]; rfl)
      (first | rw [c3b0] | (simp only [i64_w, i32_w]; rw [c3b0]) | skip)
      by_cases c4 : 0 < (l0.length : Int)
      · rw [if_pos c4] at H
        have c4b0 : decide (0 < (l0.length : Int)) = true := decide_eq_true c4
        have c4b1 : decide (0 < l0.length) = true := decide_eq_true (by omega)
        clear c4
        by_cases c5 : ((rd_T81 l0 0).f0) = 0
        · rw [if_pos c5] at H
          have c5b0 : (((rd_T81 l0 0).f0) == 0) = true := beq_iff_eq.mpr c5
          have c5b1 : (((rd_T81 l0 0).f0) != 0) = false := bne_eq_false_iff_eq.mpr c5
          clear c5
          by_cases c6 : ((rd_T81 l0 0).f2).toList = ([] : List UInt8)
          · rw [if_pos c6] at H
            have c6b0 : (((rd_T81 l0 0).f2).toList == ([] : List UInt8)) = true := beq_iff_eq.mpr c6
            have c6b1 : (((rd_T81 l0 0).f2).toList != ([] : List UInt8)) = false := bne_eq_false_iff_eq.mpr c6
            clear c6
            replace H := Option.bind_eq_some_iff.mp H
            obtain ⟨t112, A70, H⟩ := H
            replace H : (cracknelref08_Right.j0 k l0 (!t112)) = some r := H
            have A7 := Aside0.mk A70
            clear A70
            have H' := Aside0.mk H
            clear H
            have p109 : 0 ≤ (0 : Int) := (by omega)
            have q109 : 0 < (l0.length : Int) := of_decide_eq_true (by first | (with_reducible assumption) | assumption)
            obtain ⟨ad109, e109, hx109_0, hx109_1, hx109_2, hx109_3, hx109_4⟩ := at_T81 HR0.out 0 p109 q109
            cases e109
            have qi109 : (0 < l0.length) = True := eq_true (by omega)
            (try rw [show ((0 : Int)).toNat = 0 from rfl] at hx109_0)
            (try rw [show 0 * 5 = 0 from rfl] at hx109_0)
            (try rw [Addr.add_zero'] at hx109_0)
            (try rw [show ((0 : Int)).toNat = 0 from rfl] at hx109_1)
            (try rw [show 0 * 5 = 0 from rfl] at hx109_1)
            (try rw [Addr.add_zero'] at hx109_1)
            (try rw [show ((0 : Int)).toNat = 0 from rfl] at hx109_2)
            (try rw [show 0 * 5 = 0 from rfl] at hx109_2)
            (try rw [Addr.add_zero'] at hx109_2)
            (try rw [show ((0 : Int)).toNat = 0 from rfl] at hx109_3)
            (try rw [show 0 * 5 = 0 from rfl] at hx109_3)
            (try rw [Addr.add_zero'] at hx109_3)
            (try rw [show ((0 : Int)).toNat = 0 from rfl] at hx109_4)
            (try rw [show 0 * 5 = 0 from rfl] at hx109_4)
            (try rw [Addr.add_zero'] at hx109_4)
            replace hx109_0 := (HB.out.cell (World.block_lt_of_cell? w _ hx109_0)).trans hx109_0
            replace hx109_1 := (HB.out.cell (World.block_lt_of_cell? w _ hx109_1)).trans hx109_1
            replace hx109_2 := (HB.out.cell (World.block_lt_of_cell? w _ hx109_2)).trans hx109_2
            replace hx109_3 := (HB.out.cell (World.block_lt_of_cell? w _ hx109_3)).trans hx109_3
            replace hx109_4 := (HB.out.cell (World.block_lt_of_cell? w _ hx109_4)).trans hx109_4
            replace p109 := eq_true p109
            replace q109 := eq_true q109
            have p110 : 0 ≤ (0 : Int) := (by omega)
            have q110 : 0 < (l0.length : Int) := of_decide_eq_true (by first | (with_reducible assumption) | assumption)
            obtain ⟨ad110, e110, hx110_0, hx110_1, hx110_2, hx110_3, hx110_4⟩ := at_T81 HR0.out 0 p110 q110
            obtain rfl : ad109 = ad110 := (by injection e110)
            have qi110 : (0 < l0.length) = True := eq_true (by omega)
            (try rw [show ((0 : Int)).toNat = 0 from rfl] at hx110_0)
            (try rw [show 0 * 5 = 0 from rfl] at hx110_0)
            (try rw [Addr.add_zero'] at hx110_0)
            (try rw [show ((0 : Int)).toNat = 0 from rfl] at hx110_1)
            (try rw [show 0 * 5 = 0 from rfl] at hx110_1)
            (try rw [Addr.add_zero'] at hx110_1)
            (try rw [show ((0 : Int)).toNat = 0 from rfl] at hx110_2)
            (try rw [show 0 * 5 = 0 from rfl] at hx110_2)
            (try rw [Addr.add_zero'] at hx110_2)
            (try rw [show ((0 : Int)).toNat = 0 from rfl] at hx110_3)
            (try rw [show 0 * 5 = 0 from rfl] at hx110_3)
            (try rw [Addr.add_zero'] at hx110_3)
            (try rw [show ((0 : Int)).toNat = 0 from rfl] at hx110_4)
            (try rw [show 0 * 5 = 0 from rfl] at hx110_4)
            (try rw [Addr.add_zero'] at hx110_4)
            replace hx110_0 := (HB.out.cell (World.block_lt_of_cell? w _ hx110_0)).trans hx110_0
            replace hx110_1 := (HB.out.cell (World.block_lt_of_cell? w _ hx110_1)).trans hx110_1
            replace hx110_2 := (HB.out.cell (World.block_lt_of_cell? w _ hx110_2)).trans hx110_2
            replace hx110_3 := (HB.out.cell (World.block_lt_of_cell? w _ hx110_3)).trans hx110_3
            replace hx110_4 := (HB.out.cell (World.block_lt_of_cell? w _ hx110_4)).trans hx110_4
            replace p110 := eq_true p110
            replace q110 := eq_true q110
            have p111 : 0 ≤ (0 : Int) := (by omega)
            have q111 : 0 < (l0.length : Int) := of_decide_eq_true (by first | (with_reducible assumption) | assumption)
            obtain ⟨ad111, e111, hx111_0, hx111_1, hx111_2, hx111_3, hx111_4⟩ := at_T81 HR0.out 0 p111 q111
            obtain rfl : ad109 = ad111 := (by injection e111)
            have qi111 : (0 < l0.length) = True := eq_true (by omega)
            (try rw [show ((0 : Int)).toNat = 0 from rfl] at hx111_0)
            (try rw [show 0 * 5 = 0 from rfl] at hx111_0)
            (try rw [Addr.add_zero'] at hx111_0)
            (try rw [show ((0 : Int)).toNat = 0 from rfl] at hx111_1)
            (try rw [show 0 * 5 = 0 from rfl] at hx111_1)
            (try rw [Addr.add_zero'] at hx111_1)
            (try rw [show ((0 : Int)).toNat = 0 from rfl] at hx111_2)
            (try rw [show 0 * 5 = 0 from rfl] at hx111_2)
            (try rw [Addr.add_zero'] at hx111_2)
            (try rw [show ((0 : Int)).toNat = 0 from rfl] at hx111_3)
            (try rw [show 0 * 5 = 0 from rfl] at hx111_3)
            (try rw [Addr.add_zero'] at hx111_3)
            (try rw [show ((0 : Int)).toNat = 0 from rfl] at hx111_4)
            (try rw [show 0 * 5 = 0 from rfl] at hx111_4)
            (try rw [Addr.add_zero'] at hx111_4)
            replace hx111_0 := (HB.out.cell (World.block_lt_of_cell? w _ hx111_0)).trans hx111_0
            replace hx111_1 := (HB.out.cell (World.block_lt_of_cell? w _ hx111_1)).trans hx111_1
            replace hx111_2 := (HB.out.cell (World.block_lt_of_cell? w _ hx111_2)).trans hx111_2
            replace hx111_3 := (HB.out.cell (World.block_lt_of_cell? w _ hx111_3)).trans hx111_3
            replace hx111_4 := (HB.out.cell (World.block_lt_of_cell? w _ hx111_4)).trans hx111_4
            replace p111 := eq_true p111
            replace q111 := eq_true q111
            go_wp2_with (first | (go_at_call 66; (with_reducible refine (cracknelref08_may.calls k ((rd_T81 l0 0).f0) ((rd_T81 l0 0).f1) ((rd_T81 l0 0).f2) ((rd_T81 l0 0).f3) ((rd_T81 l0 0).f4) t112 _ A7.out).mono ?_); rintro e w8 ⟨rfl, hb⟩; have n0_ := Aside0.mk (below_step (by repeat (first | (with_reducible first | exact HB.out | apply below_alloc | apply pw_below_drewN | apply below_drew1) | exact HB.out)) hb); clear HB; have HB := n0_; clear n0_; (try clear hb); (try clear hb2); (try clear hk); (try clear hi)))
            go_meet
            case rel => exact ⟨_, (!t112), (by first | rfl | (simp; done) | (simp [*]; done)), H', ⟨by first | omega | exact Nat.le_refl _⟩, ⟨by repeat (first | (with_reducible first | exact HB.out | apply below_alloc | apply pw_below_drewN | apply below_drew1) | exact HB.out)⟩⟩
          · rw [if_neg c6] at H
            have c6b0 : (((rd_T81 l0 0).f2).toList == ([] : List UInt8)) = false := beq_eq_false_iff_ne.mpr c6
            have c6b1 : (((rd_T81 l0 0).f2).toList != ([] : List UInt8)) = true := bne_iff_ne.mpr c6
            have H' := Aside0.mk H
            clear H
            have p109 : 0 ≤ (0 : Int) := (by omega)
            have q109 : 0 < (l0.length : Int) := of_decide_eq_true (by first | (with_reducible assumption) | assumption)
            obtain ⟨ad109, e109, hx109_0, hx109_1, hx109_2, hx109_3, hx109_4⟩ := at_T81 HR0.out 0 p109 q109
            cases e109
            have qi109 : (0 < l0.length) = True := eq_true (by omega)
            (try rw [show ((0 : Int)).toNat = 0 from rfl] at hx109_0)
            (try rw [show 0 * 5 = 0 from rfl] at hx109_0)
            (try rw [Addr.add_zero'] at hx109_0)
            (try rw [show ((0 : Int)).toNat = 0 from rfl] at hx109_1)
            (try rw [show 0 * 5 = 0 from rfl] at hx109_1)
            (try rw [Addr.add_zero'] at hx109_1)
            (try rw [show ((0 : Int)).toNat = 0 from rfl] at hx109_2)
            (try rw [show 0 * 5 = 0 from rfl] at hx109_2)
            (try rw [Addr.add_zero'] at hx109_2)
            (try rw [show ((0 : Int)).toNat = 0 from rfl] at hx109_3)
            (try rw [show 0 * 5 = 0 from rfl] at hx109_3)
            (try rw [Addr.add_zero'] at hx109_3)
            (try rw [show ((0 : Int)).toNat = 0 from rfl] at hx109_4)
            (try rw [show 0 * 5 = 0 from rfl] at hx109_4)
            (try rw [Addr.add_zero'] at hx109_4)
            replace hx109_0 := (HB.out.cell (World.block_lt_of_cell? w _ hx109_0)).trans hx109_0
            replace hx109_1 := (HB.out.cell (World.block_lt_of_cell? w _ hx109_1)).trans hx109_1
            replace hx109_2 := (HB.out.cell (World.block_lt_of_cell? w _ hx109_2)).trans hx109_2
            replace hx109_3 := (HB.out.cell (World.block_lt_of_cell? w _ hx109_3)).trans hx109_3
            replace hx109_4 := (HB.out.cell (World.block_lt_of_cell? w _ hx109_4)).trans hx109_4
            replace p109 := eq_true p109
            replace q109 := eq_true q109
            have p110 : 0 ≤ (0 : Int) := (by omega)
            have q110 : 0 < (l0.length : Int) := of_decide_eq_true (by first | (with_reducible assumption) | assumption)
            obtain ⟨ad110, e110, hx110_0, hx110_1, hx110_2, hx110_3, hx110_4⟩ := at_T81 HR0.out 0 p110 q110
            obtain rfl : ad109 = ad110 := (by injection e110)
            have qi110 : (0 < l0.length) = True := eq_true (by omega)
            (try rw [show ((0 : Int)).toNat = 0 from rfl] at hx110_0)
            (try rw [show 0 * 5 = 0 from rfl] at hx110_0)
            (try rw [Addr.add_zero'] at hx110_0)
            (try rw [show ((0 : Int)).toNat = 0 from rfl] at hx110_1)
            (try rw [show 0 * 5 = 0 from rfl] at hx110_1)
            (try rw [Addr.add_zero'] at hx110_1)
            (try rw [show ((0 : Int)).toNat = 0 from rfl] at hx110_2)
            (try rw [show 0 * 5 = 0 from rfl] at hx110_2)
            (try rw [Addr.add_zero'] at hx110_2)
            (try rw [show ((0 : Int)).toNat = 0 from rfl] at hx110_3)
            (try rw [show 0 * 5 = 0 from rfl] at hx110_3)
            (try rw [Addr.add_zero'] at hx110_3)
            (try rw [show ((0 : Int)).toNat = 0 from rfl] at hx110_4)
            (try rw [show 0 * 5 = 0 from rfl] at hx110_4)
            (try rw [Addr.add_zero'] at hx110_4)
            replace hx110_0 := (HB.out.cell (World.block_lt_of_cell? w _ hx110_0)).trans hx110_0
            replace hx110_1 := (HB.out.cell (World.block_lt_of_cell? w _ hx110_1)).trans hx110_1
            replace hx110_2 := (HB.out.cell (World.block_lt_of_cell? w _ hx110_2)).trans hx110_2
            replace hx110_3 := (HB.out.cell (World.block_lt_of_cell? w _ hx110_3)).trans hx110_3
            replace hx110_4 := (HB.out.cell (World.block_lt_of_cell? w _ hx110_4)).trans hx110_4
            replace p110 := eq_true p110
            replace q110 := eq_true q110
            go_wp2
            go_meet
            case rel => exact ⟨_, (true), (by first | rfl | (simp; done) | (simp [*]; done)), H', ⟨by first | omega | exact Nat.le_refl _⟩, ⟨by repeat (first | (with_reducible first | exact HB.out | apply below_alloc | apply pw_below_drewN | apply below_drew1) | exact HB.out)⟩⟩
        · rw [if_neg c5] at H
          have c5b0 : (((rd_T81 l0 0).f0) == 0) = false := beq_eq_false_iff_ne.mpr c5
          have c5b1 : (((rd_T81 l0 0).f0) != 0) = true := bne_iff_ne.mpr c5
          have H' := Aside0.mk H
          clear H
          have p109 : 0 ≤ (0 : Int) := (by omega)
          have q109 : 0 < (l0.length : Int) := of_decide_eq_true (by first | (with_reducible assumption) | assumption)
          obtain ⟨ad109, e109, hx109_0, hx109_1, hx109_2, hx109_3, hx109_4⟩ := at_T81 HR0.out 0 p109 q109
          cases e109
          have qi109 : (0 < l0.length) = True := eq_true (by omega)
          (try rw [show ((0 : Int)).toNat = 0 from rfl] at hx109_0)
          (try rw [show 0 * 5 = 0 from rfl] at hx109_0)
          (try rw [Addr.add_zero'] at hx109_0)
          (try rw [show ((0 : Int)).toNat = 0 from rfl] at hx109_1)
          (try rw [show 0 * 5 = 0 from rfl] at hx109_1)
          (try rw [Addr.add_zero'] at hx109_1)
          (try rw [show ((0 : Int)).toNat = 0 from rfl] at hx109_2)
          (try rw [show 0 * 5 = 0 from rfl] at hx109_2)
          (try rw [Addr.add_zero'] at hx109_2)
          (try rw [show ((0 : Int)).toNat = 0 from rfl] at hx109_3)
          (try rw [show 0 * 5 = 0 from rfl] at hx109_3)
          (try rw [Addr.add_zero'] at hx109_3)
          (try rw [show ((0 : Int)).toNat = 0 from rfl] at hx109_4)
          (try rw [show 0 * 5 = 0 from rfl] at hx109_4)
          (try rw [Addr.add_zero'] at hx109_4)
          replace hx109_0 := (HB.out.cell (World.block_lt_of_cell? w _ hx109_0)).trans hx109_0
          replace hx109_1 := (HB.out.cell (World.block_lt_of_cell? w _ hx109_1)).trans hx109_1
          replace hx109_2 := (HB.out.cell (World.block_lt_of_cell? w _ hx109_2)).trans hx109_2
          replace hx109_3 := (HB.out.cell (World.block_lt_of_cell? w _ hx109_3)).trans hx109_3
          replace hx109_4 := (HB.out.cell (World.block_lt_of_cell? w _ hx109_4)).trans hx109_4
          replace p109 := eq_true p109
          replace q109 := eq_true q109
          go_wp2
          go_meet
          case rel => exact ⟨_, (true), (by first | rfl | (simp; done) | (simp [*]; done)), H', ⟨by first | omega | exact Nat.le_refl _⟩, ⟨by repeat (first | (with_reducible first | exact HB.out | apply below_alloc | apply pw_below_drewN | apply below_drew1) | exact HB.out)⟩⟩
      · rw [if_neg c4] at H
        exact absurd H (by simp)
  case rest =>
    clear HC2
    try clear p1
    try clear q1
    try clear hx1
    try clear qi1
    try clear p2
    try clear c3
    try clear c3b0
    try clear c3b1
    try clear c3b2
    try clear c4
    try clear c4b0
    try clear c4b1
    try clear c5
    try clear c5b0
    try clear c5b1
    try clear c6
    try clear c6b0
    try clear c6b1
    try clear hx109_0
    try clear hx109_1
    try clear hx109_2
    try clear hx109_3
    try clear hx109_4
    try clear hx110_0
    try clear hx110_1
    try clear hx110_2
    try clear hx110_3
    try clear hx110_4
    try clear hx111_0
    try clear hx111_1
    try clear hx111_2
    try clear hx111_3
    try clear hx111_4
    try clear p109
    try clear p110
    try clear p111
    try clear q109
    try clear q110
    try clear q111
    obtain ⟨kq, x29_1, rfl, HA, HJ1, HB⟩ := hcut
    cases kq with
    | zero => exact absurd HA.out (by simp [cracknelref08_Right.j0])
    | succ kj1 =>
      have H := HA.out
      clear HA
      simp only [cracknelref08_Right.j0] at H
      by_cases c9 : x29_1 = true
      · subst c9
        have H1 : (some false) = some r := by rw [if_pos rfl] at H; exact H
        clear H
        have H := H1
        clear H1
        obtain rfl := Option.some.inj H
        go_wp2
        go_ret
        exact ⟨by first | rfl | (simp [errW_none, errW_some] <;> rfl) | (simp [*, errW_none, errW_some] <;> rfl), by repeat (first | (with_reducible first | exact HB.out | apply below_alloc | apply pw_below_drewN | apply below_drew1) | exact HB.out)⟩
      · replace c9 := Bool.eq_false_iff.mpr c9
        subst c9
        have H1 : (cracknelref08_Right.l0 kj1 l0 1) = some r := by rw [if_neg (show ¬ (false = true) by decide)] at H; exact H
        clear H
        have H := H1
        clear H1
        have H' := Aside0.mk H
        clear H
        go_wp2
        go_loopg [3] kj1 (fun kq v3 w' => ∃ (x3_2 : Int), v3 = .int .i64 x3_2 ∧ Aside0 (cracknelref08_Right.l0 kq l0 x3_2 = some r) ∧ Aside0 (kq ≤ kj1) ∧ Aside0 (Below w.heap.size w w'))
        case atStart => exact ⟨(1), (by first | rfl | (simp; done) | (simp [*]; done)), H', ⟨Nat.le_refl _⟩, ⟨by repeat (first | (with_reducible first | exact HB.out | apply below_alloc | apply pw_below_drewN | apply below_drew1) | exact HB.out)⟩⟩
        case round =>
          clear H'
          try clear p1
          try clear q1
          try clear hx1
          try clear qi1
          try clear p2
          try clear c3
          try clear c3b0
          try clear c3b1
          try clear c3b2
          try clear c4
          try clear c4b0
          try clear c4b1
          try clear c5
          try clear c5b0
          try clear c5b1
          try clear c6
          try clear c6b0
          try clear c6b1
          try clear c9
          try clear hx109_0
          try clear hx109_1
          try clear hx109_2
          try clear hx109_3
          try clear hx109_4
          try clear hx110_0
          try clear hx110_1
          try clear hx110_2
          try clear hx110_3
          try clear hx110_4
          try clear hx111_0
          try clear hx111_1
          try clear hx111_2
          try clear hx111_3
          try clear hx111_4
          try clear p1
          try clear p109
          try clear p110
          try clear p111
          try clear p2
          try clear q1
          try clear q109
          try clear q110
          try clear q111
          obtain ⟨x3_2, rfl, HA, HK2, HB⟩ := hrel
          cases gk with
          | zero => exact absurd HA.out (by simp [cracknelref08_Right.l0])
          | succ k2 =>
            have H := HA.out
            clear HA
            simp only [cracknelref08_Right.l0] at H
            by_cases c10 : x3_2 < (l0.length : Int)
            · rw [if_pos c10] at H
              have c10b0 : decide (x3_2 < (l0.length : Int)) = true := decide_eq_true c10
              clear c10
              obtain ⟨ji11, hji11⟩ : ∃ j_ : Int, (wrap64 (x3_2 - 1)) = j_ := ⟨_, rfl⟩
              replace H : (if 0 ≤ (ji11) then (if (ji11) < (l0.length : Int) then (if ((rd_T81 l0 (ji11)).f1) ≥ 6 then (cracknelref08_Right.j2 k2 l0 x3_2 (wrap64 (((rd_T81 l0 (ji11)).f0) + 1))) else (cracknelref08_Right.j2 k2 l0 x3_2 ((rd_T81 l0 (ji11)).f0))) else (none)) else (none)) = some r := by first | (rw [hji11] at H; exact H) | (simp only [hji11] at H ⊢; exact H)
              have hji11w : (IntKind.i64.wrap (x3_2 - 1)) = ji11 := (i64_w _).trans hji11
              by_cases c12 : 0 ≤ (ji11)
              · rw [if_pos c12] at H
                have c12b0 : decide (0 ≤ (ji11)) = true := decide_eq_true c12
                clear c12
                by_cases c13 : (ji11) < (l0.length : Int)
                · rw [if_pos c13] at H
                  have c13b0 : decide ((ji11) < (l0.length : Int)) = true := decide_eq_true c13
                  clear c13
                  have HC14 := Aside0.mk H
                  clear H
                  have p113 : 0 ≤ ((ji11) : Int) := of_decide_eq_true (by first | (with_reducible assumption) | assumption)
                  have q113 : (ji11) < (l0.length : Int) := of_decide_eq_true (by first | (with_reducible assumption) | assumption)
                  obtain ⟨ad113, e113, hx113_0, hx113_1, hx113_2, hx113_3, hx113_4⟩ := at_T81 HR0.out (ji11) p113 q113
                  cases e113
                  replace hx113_0 := (HB.out.cell (World.block_lt_of_cell? w _ hx113_0)).trans hx113_0
                  replace hx113_1 := (HB.out.cell (World.block_lt_of_cell? w _ hx113_1)).trans hx113_1
                  replace hx113_2 := (HB.out.cell (World.block_lt_of_cell? w _ hx113_2)).trans hx113_2
                  replace hx113_3 := (HB.out.cell (World.block_lt_of_cell? w _ hx113_3)).trans hx113_3
                  replace hx113_4 := (HB.out.cell (World.block_lt_of_cell? w _ hx113_4)).trans hx113_4
                  replace p113 := eq_true p113
                  replace q113 := eq_true q113
                  have p114 : 0 ≤ ((ji11) : Int) := of_decide_eq_true (by first | (with_reducible assumption) | assumption)
                  have q114 : (ji11) < (l0.length : Int) := of_decide_eq_true (by first | (with_reducible assumption) | assumption)
                  obtain ⟨ad114, e114, hx114_0, hx114_1, hx114_2, hx114_3, hx114_4⟩ := at_T81 HR0.out (ji11) p114 q114
                  obtain rfl : ad113 = ad114 := (by injection e114)
                  replace hx114_0 := (HB.out.cell (World.block_lt_of_cell? w _ hx114_0)).trans hx114_0
                  replace hx114_1 := (HB.out.cell (World.block_lt_of_cell? w _ hx114_1)).trans hx114_1
                  replace hx114_2 := (HB.out.cell (World.block_lt_of_cell? w _ hx114_2)).trans hx114_2
                  replace hx114_3 := (HB.out.cell (World.block_lt_of_cell? w _ hx114_3)).trans hx114_3
                  replace hx114_4 := (HB.out.cell (World.block_lt_of_cell? w _ hx114_4)).trans hx114_4
                  replace p114 := eq_true p114
                  replace q114 := eq_true q114
                  go_upto_if 48 with (fail)
                  go_cut [4] (fun v4 wc => ∃ (kq : Nat) (x4_13 : Int), v4 = .int .i64 x4_13 ∧ Aside0 (cracknelref08_Right.j2 kq l0 x3_2 x4_13 = some r) ∧ Aside0 (kq ≤ k2) ∧ Aside0 (Below w.heap.size w wc))
                  case first =>
                    have H := HC14.out
                    clear HC14
                    by_cases c15 : ((rd_T81 l0 (ji11)).f1) ≥ 6
                    · rw [if_pos c15] at H
                      have c15b0 : decide (6 ≤ ((rd_T81 l0 (ji11)).f1)) = true := decide_eq_true c15
                      clear c15
                      (first | rw [c15b0] | (simp only [i64_w, i32_w]; rw [c15b0]) | skip)
                      have H' := Aside0.mk H
                      clear H
                      go_wp2
                      go_meet
                      case rel => exact ⟨_, (wrap64 (((rd_T81 l0 (ji11)).f0) + 1)), (by first | rfl | (simp; done) | (simp only [← hji11] <;> (first | rfl | simp)) | (simp [*]; done)), H', ⟨by have := HJ1.out; have := HK2.out; first | omega | exact Nat.le_refl _⟩, ⟨by repeat (first | (with_reducible first | exact HB.out | apply below_alloc | apply pw_below_drewN | apply below_drew1) | exact HB.out)⟩⟩
                    · rw [if_neg c15] at H
                      have c15b0 : decide (6 ≤ ((rd_T81 l0 (ji11)).f1)) = false := decide_eq_false c15
                      clear c15
                      (first | rw [c15b0] | (simp only [i64_w, i32_w]; rw [c15b0]) | skip)
                      have H' := Aside0.mk H
                      clear H
                      go_wp2
                      go_meet
                      case rel => exact ⟨_, ((rd_T81 l0 (ji11)).f0), (by first | rfl | (simp; done) | (simp only [← hji11] <;> (first | rfl | simp)) | (simp [*]; done)), H', ⟨by have := HJ1.out; have := HK2.out; first | omega | exact Nat.le_refl _⟩, ⟨by repeat (first | (with_reducible first | exact HB.out | apply below_alloc | apply pw_below_drewN | apply below_drew1) | exact HB.out)⟩⟩
                  case rest =>
                    clear HC14
                    try clear c1
                    try clear p1
                    try clear q1
                    try clear hx1
                    try clear qi1
                    try clear p2
                    try clear c3
                    try clear c3b0
                    try clear c3b1
                    try clear c3b2
                    try clear c4
                    try clear c4b0
                    try clear c4b1
                    try clear c5
                    try clear c5b0
                    try clear c5b1
                    try clear c6
                    try clear c6b0
                    try clear c6b1
                    try clear p6
                    try clear c9
                    try clear c10
                    try clear c10b0
                    try clear p10
                    try clear q10
                    try clear hx10
                    try clear qi10
                    try clear p11
                    try clear q11
                    try clear hx11
                    try clear qi11
                    try clear c12
                    try clear c12b0
                    try clear c13
                    try clear c13b0
                    try clear c15
                    try clear c15b0
                    try clear hx109_0
                    try clear hx109_1
                    try clear hx109_2
                    try clear hx109_3
                    try clear hx109_4
                    try clear hx110_0
                    try clear hx110_1
                    try clear hx110_2
                    try clear hx110_3
                    try clear hx110_4
                    try clear hx111_0
                    try clear hx111_1
                    try clear hx111_2
                    try clear hx111_3
                    try clear hx111_4
                    try clear hx113_0
                    try clear hx113_1
                    try clear hx113_2
                    try clear hx113_3
                    try clear hx113_4
                    try clear hx114_0
                    try clear hx114_1
                    try clear hx114_2
                    try clear hx114_3
                    try clear hx114_4
                    try clear p1
                    try clear p109
                    try clear p110
                    try clear p111
                    try clear p113
                    try clear p114
                    try clear p2
                    try clear q1
                    try clear q109
                    try clear q110
                    try clear q111
                    try clear q113
                    try clear q114
                    obtain ⟨kq, x4_13, rfl, HA, HJ13, HB⟩ := hcut
                    cases kq with
                    | zero => exact absurd HA.out (by simp [cracknelref08_Right.j2])
                    | succ kj13 =>
                      have H := HA.out
                      clear HA
                      simp only [cracknelref08_Right.j2] at H
                      have HC16 := Aside0.mk H
                      clear H
                      go_upto_region 9 with (fail)
                      go_cut [73] (fun v73 wc => ∃ (kq : Nat) (x73_15 : Bool), v73 = .bool x73_15 ∧ Aside0 (cracknelref08_Right.j3 kq l0 x3_2 x73_15 = some r) ∧ Aside0 (kq ≤ kj13) ∧ Aside0 (Below w.heap.size w wc))
                      case first =>
                        have H := HC16.out
                        clear HC16
                        by_cases c17 : 0 ≤ x3_2
                        · rw [if_pos c17] at H
                          have c17b0 : decide (0 ≤ x3_2) = true := decide_eq_true c17
                          clear c17
                          (first | rw [c17b0] | (simp only [i64_w, i32_w]; rw [c17b0]) | skip)
                          by_cases c18 : x3_2 < (l0.length : Int)
                          · rw [if_pos c18] at H
                            have c18b0 : decide (x3_2 < (l0.length : Int)) = true := decide_eq_true c18
                            clear c18
                            replace H := Option.bind_eq_some_iff.mp H
                            obtain ⟨t116, A190, H⟩ := H
                            replace H : (if t116 = true then (if ((rd_T81 l0 x3_2).f0) < 1 then (cracknelref08_Right.j3 kj13 l0 x3_2 true) else (cracknelref08_Right.j3 kj13 l0 x3_2 (decide (((rd_T81 l0 x3_2).f0) > x4_13)))) else (cracknelref08_Right.j3 kj13 l0 x3_2 true)) = some r := H
                            have A19 := Aside0.mk A190
                            clear A190
                            by_cases c20 : t116 = true
                            · subst c20
                              have H1 : (if ((rd_T81 l0 x3_2).f0) < 1 then (cracknelref08_Right.j3 kj13 l0 x3_2 true) else (cracknelref08_Right.j3 kj13 l0 x3_2 (decide (((rd_T81 l0 x3_2).f0) > x4_13)))) = some r := by rw [if_pos rfl] at H; exact H
                              clear H
                              have H := H1
                              clear H1
                              by_cases c21 : ((rd_T81 l0 x3_2).f0) < 1
                              · rw [if_pos c21] at H
                                have c21b0 : decide (((rd_T81 l0 x3_2).f0) < 1) = true := decide_eq_true c21
                                clear c21
                                have H' := Aside0.mk H
                                clear H
                                have p115 : 0 ≤ (x3_2 : Int) := of_decide_eq_true (by first | (with_reducible assumption) | assumption)
                                have q115 : x3_2 < (l0.length : Int) := of_decide_eq_true (by first | (with_reducible assumption) | assumption)
                                obtain ⟨ad115, e115, hx115_0, hx115_1, hx115_2, hx115_3, hx115_4⟩ := at_T81 HR0.out x3_2 p115 q115
                                obtain rfl : ad113 = ad115 := (by injection e115)
                                replace hx115_0 := (HB.out.cell (World.block_lt_of_cell? w _ hx115_0)).trans hx115_0
                                replace hx115_1 := (HB.out.cell (World.block_lt_of_cell? w _ hx115_1)).trans hx115_1
                                replace hx115_2 := (HB.out.cell (World.block_lt_of_cell? w _ hx115_2)).trans hx115_2
                                replace hx115_3 := (HB.out.cell (World.block_lt_of_cell? w _ hx115_3)).trans hx115_3
                                replace hx115_4 := (HB.out.cell (World.block_lt_of_cell? w _ hx115_4)).trans hx115_4
                                replace p115 := eq_true p115
                                replace q115 := eq_true q115
                                go_wp2_with (first | ((with_reducible refine gate_callee (f := 66) rfl ?_); refine goesL_ (some 55) rfl rfl Tryd.func66 (by kernel_rfl) rfl #[.agg #[.int .i64 ((rd_T81 l0 x3_2).f0), .int .i64 ((rd_T81 l0 x3_2).f1), .string ((rd_T81 l0 x3_2).f2), .string ((rd_T81 l0 x3_2).f3), .int .i64 ((rd_T81 l0 x3_2).f4)]] rfl (by (try simp only [List.map_toArray, List.map_cons, List.map_nil]); first | done | rfl | (simp only [List.length_drop, List.length_take]; rfl)) ?_; (with_reducible refine (cracknelref08_may.calls kj13 ((rd_T81 l0 x3_2).f0) ((rd_T81 l0 x3_2).f1) ((rd_T81 l0 x3_2).f2) ((rd_T81 l0 x3_2).f3) ((rd_T81 l0 x3_2).f4) true _ A19.out).mono ?_); rintro e w22 ⟨rfl, hb⟩; refine ⟨_, rfl, ?_⟩; have n0_ := Aside0.mk (below_step (by repeat (first | (with_reducible first | exact HB.out | apply below_alloc | apply pw_below_drewN | apply below_drew1) | exact HB.out)) hb); clear HB; have HB := n0_; clear n0_; (try clear hb); (try clear hb2); (try clear hk); (try clear hi); have p117 : 0 ≤ (x3_2 : Int) := of_decide_eq_true (by first | (with_reducible assumption) | assumption); have q117 : x3_2 < (l0.length : Int) := of_decide_eq_true (by first | (with_reducible assumption) | assumption); obtain ⟨ad117, e117, hx117_0, hx117_1, hx117_2, hx117_3, hx117_4⟩ := at_T81 HR0.out x3_2 p117 q117; obtain rfl : ad113 = ad117 := (by injection e117); replace hx117_0 := (HB.out.cell (World.block_lt_of_cell? w _ hx117_0)).trans hx117_0; replace hx117_1 := (HB.out.cell (World.block_lt_of_cell? w _ hx117_1)).trans hx117_1; replace hx117_2 := (HB.out.cell (World.block_lt_of_cell? w _ hx117_2)).trans hx117_2; replace hx117_3 := (HB.out.cell (World.block_lt_of_cell? w _ hx117_3)).trans hx117_3; replace hx117_4 := (HB.out.cell (World.block_lt_of_cell? w _ hx117_4)).trans hx117_4; replace p117 := eq_true p117; replace q117 := eq_true q117))
                                go_meet
                                case rel => exact ⟨_, (true), (by first | rfl | (simp; done) | (simp [*]; done)), H', ⟨by have := HJ1.out; have := HK2.out; have := HJ13.out; first | omega | exact Nat.le_refl _⟩, ⟨by repeat (first | (with_reducible first | exact HB.out | apply below_alloc | apply pw_below_drewN | apply below_drew1) | exact HB.out)⟩⟩
                              · rw [if_neg c21] at H
                                have c21b0 : decide (((rd_T81 l0 x3_2).f0) < 1) = false := decide_eq_false c21
                                clear c21
                                have H' := Aside0.mk H
                                clear H
                                have p115 : 0 ≤ (x3_2 : Int) := of_decide_eq_true (by first | (with_reducible assumption) | assumption)
                                have q115 : x3_2 < (l0.length : Int) := of_decide_eq_true (by first | (with_reducible assumption) | assumption)
                                obtain ⟨ad115, e115, hx115_0, hx115_1, hx115_2, hx115_3, hx115_4⟩ := at_T81 HR0.out x3_2 p115 q115
                                obtain rfl : ad113 = ad115 := (by injection e115)
                                replace hx115_0 := (HB.out.cell (World.block_lt_of_cell? w _ hx115_0)).trans hx115_0
                                replace hx115_1 := (HB.out.cell (World.block_lt_of_cell? w _ hx115_1)).trans hx115_1
                                replace hx115_2 := (HB.out.cell (World.block_lt_of_cell? w _ hx115_2)).trans hx115_2
                                replace hx115_3 := (HB.out.cell (World.block_lt_of_cell? w _ hx115_3)).trans hx115_3
                                replace hx115_4 := (HB.out.cell (World.block_lt_of_cell? w _ hx115_4)).trans hx115_4
                                replace p115 := eq_true p115
                                replace q115 := eq_true q115
                                go_wp2_with (first | ((with_reducible refine gate_callee (f := 66) rfl ?_); refine goesL_ (some 55) rfl rfl Tryd.func66 (by kernel_rfl) rfl #[.agg #[.int .i64 ((rd_T81 l0 x3_2).f0), .int .i64 ((rd_T81 l0 x3_2).f1), .string ((rd_T81 l0 x3_2).f2), .string ((rd_T81 l0 x3_2).f3), .int .i64 ((rd_T81 l0 x3_2).f4)]] rfl (by (try simp only [List.map_toArray, List.map_cons, List.map_nil]); first | done | rfl | (simp only [List.length_drop, List.length_take]; rfl)) ?_; (with_reducible refine (cracknelref08_may.calls kj13 ((rd_T81 l0 x3_2).f0) ((rd_T81 l0 x3_2).f1) ((rd_T81 l0 x3_2).f2) ((rd_T81 l0 x3_2).f3) ((rd_T81 l0 x3_2).f4) true _ A19.out).mono ?_); rintro e w23 ⟨rfl, hb⟩; refine ⟨_, rfl, ?_⟩; have n0_ := Aside0.mk (below_step (by repeat (first | (with_reducible first | exact HB.out | apply below_alloc | apply pw_below_drewN | apply below_drew1) | exact HB.out)) hb); clear HB; have HB := n0_; clear n0_; (try clear hb); (try clear hb2); (try clear hk); (try clear hi); have p117 : 0 ≤ (x3_2 : Int) := of_decide_eq_true (by first | (with_reducible assumption) | assumption); have q117 : x3_2 < (l0.length : Int) := of_decide_eq_true (by first | (with_reducible assumption) | assumption); obtain ⟨ad117, e117, hx117_0, hx117_1, hx117_2, hx117_3, hx117_4⟩ := at_T81 HR0.out x3_2 p117 q117; obtain rfl : ad113 = ad117 := (by injection e117); replace hx117_0 := (HB.out.cell (World.block_lt_of_cell? w _ hx117_0)).trans hx117_0; replace hx117_1 := (HB.out.cell (World.block_lt_of_cell? w _ hx117_1)).trans hx117_1; replace hx117_2 := (HB.out.cell (World.block_lt_of_cell? w _ hx117_2)).trans hx117_2; replace hx117_3 := (HB.out.cell (World.block_lt_of_cell? w _ hx117_3)).trans hx117_3; replace hx117_4 := (HB.out.cell (World.block_lt_of_cell? w _ hx117_4)).trans hx117_4; replace p117 := eq_true p117; replace q117 := eq_true q117; have p118 : 0 ≤ (x3_2 : Int) := of_decide_eq_true (by first | (with_reducible assumption) | assumption); have q118 : x3_2 < (l0.length : Int) := of_decide_eq_true (by first | (with_reducible assumption) | assumption); obtain ⟨ad118, e118, hx118_0, hx118_1, hx118_2, hx118_3, hx118_4⟩ := at_T81 HR0.out x3_2 p118 q118; obtain rfl : ad113 = ad118 := (by injection e118); replace hx118_0 := (HB.out.cell (World.block_lt_of_cell? w _ hx118_0)).trans hx118_0; replace hx118_1 := (HB.out.cell (World.block_lt_of_cell? w _ hx118_1)).trans hx118_1; replace hx118_2 := (HB.out.cell (World.block_lt_of_cell? w _ hx118_2)).trans hx118_2; replace hx118_3 := (HB.out.cell (World.block_lt_of_cell? w _ hx118_3)).trans hx118_3; replace hx118_4 := (HB.out.cell (World.block_lt_of_cell? w _ hx118_4)).trans hx118_4; replace p118 := eq_true p118; replace q118 := eq_true q118))
                                go_meet
                                case rel => exact ⟨_, (decide (((rd_T81 l0 x3_2).f0) > x4_13)), (by first | rfl | (simp; done) | (simp [*]; done)), H', ⟨by have := HJ1.out; have := HK2.out; have := HJ13.out; first | omega | exact Nat.le_refl _⟩, ⟨by repeat (first | (with_reducible first | exact HB.out | apply below_alloc | apply pw_below_drewN | apply below_drew1) | exact HB.out)⟩⟩
                            · replace c20 := Bool.eq_false_iff.mpr c20
                              subst c20
                              have H1 : (cracknelref08_Right.j3 kj13 l0 x3_2 true) = some r := by rw [if_neg (show ¬ (false = true) by decide)] at H; exact H
                              clear H
                              have H := H1
                              clear H1
                              have H' := Aside0.mk H
                              clear H
                              have p115 : 0 ≤ (x3_2 : Int) := of_decide_eq_true (by first | (with_reducible assumption) | assumption)
                              have q115 : x3_2 < (l0.length : Int) := of_decide_eq_true (by first | (with_reducible assumption) | assumption)
                              obtain ⟨ad115, e115, hx115_0, hx115_1, hx115_2, hx115_3, hx115_4⟩ := at_T81 HR0.out x3_2 p115 q115
                              obtain rfl : ad113 = ad115 := (by injection e115)
                              replace hx115_0 := (HB.out.cell (World.block_lt_of_cell? w _ hx115_0)).trans hx115_0
                              replace hx115_1 := (HB.out.cell (World.block_lt_of_cell? w _ hx115_1)).trans hx115_1
                              replace hx115_2 := (HB.out.cell (World.block_lt_of_cell? w _ hx115_2)).trans hx115_2
                              replace hx115_3 := (HB.out.cell (World.block_lt_of_cell? w _ hx115_3)).trans hx115_3
                              replace hx115_4 := (HB.out.cell (World.block_lt_of_cell? w _ hx115_4)).trans hx115_4
                              replace p115 := eq_true p115
                              replace q115 := eq_true q115
                              go_wp2_with (first | ((with_reducible refine gate_callee (f := 66) rfl ?_); refine goesL_ (some 55) rfl rfl Tryd.func66 (by kernel_rfl) rfl #[.agg #[.int .i64 ((rd_T81 l0 x3_2).f0), .int .i64 ((rd_T81 l0 x3_2).f1), .string ((rd_T81 l0 x3_2).f2), .string ((rd_T81 l0 x3_2).f3), .int .i64 ((rd_T81 l0 x3_2).f4)]] rfl (by (try simp only [List.map_toArray, List.map_cons, List.map_nil]); first | done | rfl | (simp only [List.length_drop, List.length_take]; rfl)) ?_; (with_reducible refine (cracknelref08_may.calls kj13 ((rd_T81 l0 x3_2).f0) ((rd_T81 l0 x3_2).f1) ((rd_T81 l0 x3_2).f2) ((rd_T81 l0 x3_2).f3) ((rd_T81 l0 x3_2).f4) false _ A19.out).mono ?_); rintro e w24 ⟨rfl, hb⟩; refine ⟨_, rfl, ?_⟩; have n0_ := Aside0.mk (below_step (by repeat (first | (with_reducible first | exact HB.out | apply below_alloc | apply pw_below_drewN | apply below_drew1) | exact HB.out)) hb); clear HB; have HB := n0_; clear n0_; (try clear hb); (try clear hb2); (try clear hk); (try clear hi)))
                              go_meet
                              case rel => exact ⟨_, (true), (by first | rfl | (simp; done) | (simp [*]; done)), H', ⟨by have := HJ1.out; have := HK2.out; have := HJ13.out; first | omega | exact Nat.le_refl _⟩, ⟨by repeat (first | (with_reducible first | exact HB.out | apply below_alloc | apply pw_below_drewN | apply below_drew1) | exact HB.out)⟩⟩
                          · rw [if_neg c18] at H
                            exact absurd H (by simp)
                        · rw [if_neg c17] at H
                          exact absurd H (by simp)
                      case rest =>
                        clear HC16
                        try clear c1
                        try clear p1
                        try clear q1
                        try clear hx1
                        try clear qi1
                        try clear c2
                        try clear p2
                        try clear c3
                        try clear c3b0
                        try clear c3b1
                        try clear c3b2
                        try clear c4
                        try clear c4b0
                        try clear c4b1
                        try clear c5
                        try clear c5b0
                        try clear c5b1
                        try clear c6
                        try clear c6b0
                        try clear c6b1
                        try clear p6
                        try clear c9
                        try clear c10
                        try clear c10b0
                        try clear p10
                        try clear q10
                        try clear hx10
                        try clear qi10
                        try clear p11
                        try clear q11
                        try clear hx11
                        try clear qi11
                        try clear c12
                        try clear c12b0
                        try clear c13
                        try clear c13b0
                        try clear c15
                        try clear c15b0
                        try clear c17
                        try clear c17b0
                        try clear c18
                        try clear c18b0
                        try clear c20
                        try clear c21
                        try clear c21b0
                        try clear hx109_0
                        try clear hx109_1
                        try clear hx109_2
                        try clear hx109_3
                        try clear hx109_4
                        try clear hx110_0
                        try clear hx110_1
                        try clear hx110_2
                        try clear hx110_3
                        try clear hx110_4
                        try clear hx111_0
                        try clear hx111_1
                        try clear hx111_2
                        try clear hx111_3
                        try clear hx111_4
                        try clear hx113_0
                        try clear hx113_1
                        try clear hx113_2
                        try clear hx113_3
                        try clear hx113_4
                        try clear hx114_0
                        try clear hx114_1
                        try clear hx114_2
                        try clear hx114_3
                        try clear hx114_4
                        try clear hx115_0
                        try clear hx115_1
                        try clear hx115_2
                        try clear hx115_3
                        try clear hx115_4
                        try clear hx117_0
                        try clear hx117_1
                        try clear hx117_2
                        try clear hx117_3
                        try clear hx117_4
                        try clear hx118_0
                        try clear hx118_1
                        try clear hx118_2
                        try clear hx118_3
                        try clear hx118_4
                        try clear p1
                        try clear p10
                        try clear p109
                        try clear p11
                        try clear p110
                        try clear p111
                        try clear p113
                        try clear p114
                        try clear p115
                        try clear p117
                        try clear p118
                        try clear p2
                        try clear p6
                        try clear q1
                        try clear q10
                        try clear q109
                        try clear q11
                        try clear q110
                        try clear q111
                        try clear q113
                        try clear q114
                        try clear q115
                        try clear q117
                        try clear q118
                        obtain ⟨kq, x73_15, rfl, HA, HJ15, HB⟩ := hcut
                        cases kq with
                        | zero => exact absurd HA.out (by simp [cracknelref08_Right.j3])
                        | succ kj15 =>
                          have H := HA.out
                          clear HA
                          simp only [cracknelref08_Right.j3] at H
                          by_cases c25 : x73_15 = true
                          · subst c25
                            have H1 : (some false) = some r := by rw [if_pos rfl] at H; exact H
                            clear H
                            have H := H1
                            clear H1
                            obtain rfl := Option.some.inj H
                            go_wp2
                            go_ret
                            exact ⟨by first | rfl | (simp [errW_none, errW_some] <;> rfl) | (simp only [← hji11]; first | rfl | (simp [errW_none, errW_some] <;> rfl)) | (simp [*, errW_none, errW_some] <;> rfl), by repeat (first | (with_reducible first | exact HB.out | apply below_alloc | apply pw_below_drewN | apply below_drew1) | exact HB.out)⟩
                          · replace c25 := Bool.eq_false_iff.mpr c25
                            subst c25
                            have H1 : ((cracknelref08_holder.f kj15 l0 x3_2).bind fun t119 => (if 0 ≤ t119 then (if t119 < (l0.length : Int) then (if ((rd_T81 l0 t119).f1) = 6 then (if 0 ≤ x3_2 then (if x3_2 < (l0.length : Int) then (cracknelref08_Right.j4 kj15 l0 x3_2 t119 (((rd_T81 l0 x3_2).f2).toList != ([] : List UInt8))) else (none)) else (none)) else (cracknelref08_Right.j4 kj15 l0 x3_2 t119 false)) else (none)) else (none))) = some r := by rw [if_neg (show ¬ (false = true) by decide)] at H; exact H
                            clear H
                            have H := H1
                            clear H1
                            replace H := Option.bind_eq_some_iff.mp H
                            obtain ⟨t119, A260, H⟩ := H
                            replace H : (if 0 ≤ t119 then (if t119 < (l0.length : Int) then (if ((rd_T81 l0 t119).f1) = 6 then (if 0 ≤ x3_2 then (if x3_2 < (l0.length : Int) then (cracknelref08_Right.j4 kj15 l0 x3_2 t119 (((rd_T81 l0 x3_2).f2).toList != ([] : List UInt8))) else (none)) else (none)) else (cracknelref08_Right.j4 kj15 l0 x3_2 t119 false)) else (none)) else (none)) = some r := H
                            have A26 := Aside0.mk A260
                            clear A260
                            have HC27 := Aside0.mk H
                            clear H
                            go_upto_region 12 with (first | ((with_reducible refine gate_callee (f := 67) rfl ?_); refine goesL_ (some 76) rfl rfl Tryd.func67 (by kernel_rfl) rfl #[.slice (some ad113) l0.length c0, .int .i64 x3_2] rfl (by (try simp only [List.map_toArray, List.map_cons, List.map_nil]); first | done | rfl | (simp only [List.length_drop, List.length_take]; rfl)) ?_; (with_reducible refine (cracknelref08_holder.calls kj15 _ _ l0 x3_2 t119 _ ?side1 ?side2 A26.out).mono ?_); (case side1 => repeat (first | exact (Kd.C_below HR0.out HB.out) | (with_reducible refine Kd.C_alloc ?_ _) | (with_reducible refine Kd.C_drewN ?_ _) | (with_reducible refine Kd.C_drew ?_))); (case side2 => exact HC0.out); rintro e w' ⟨rfl, ⟨nd, rfl⟩⟩; refine ⟨_, rfl, ?_⟩))
                            (try simp only [Act.put, List.setIfInBounds_toArray, List.set_cons_zero, List.set_cons_succ])
                            go_cut [90] (fun v90 wc => ∃ (kq : Nat) (x90_26 : Bool), v90 = .bool x90_26 ∧ Aside0 (cracknelref08_Right.j4 kq l0 x3_2 t119 x90_26 = some r) ∧ Aside0 (kq ≤ kj15) ∧ Aside0 (Below w.heap.size w wc))
                            case first =>
                              have H := HC27.out
                              clear HC27
                              by_cases c28 : 0 ≤ t119
                              · rw [if_pos c28] at H
                                have c28b0 : decide (0 ≤ t119) = true := decide_eq_true c28
                                clear c28
                                (first | rw [c28b0] | (simp only [i64_w, i32_w]; rw [c28b0]) | skip)
                                by_cases c29 : t119 < (l0.length : Int)
                                · rw [if_pos c29] at H
                                  have c29b0 : decide (t119 < (l0.length : Int)) = true := decide_eq_true c29
                                  clear c29
                                  by_cases c30 : ((rd_T81 l0 t119).f1) = 6
                                  · rw [if_pos c30] at H
                                    have c30b0 : (((rd_T81 l0 t119).f1) == 6) = true := beq_iff_eq.mpr c30
                                    have c30b1 : (((rd_T81 l0 t119).f1) != 6) = false := bne_eq_false_iff_eq.mpr c30
                                    clear c30
                                    by_cases c31 : 0 ≤ x3_2
                                    · rw [if_pos c31] at H
                                      have c31b0 : decide (0 ≤ x3_2) = true := decide_eq_true c31
                                      clear c31
                                      by_cases c32 : x3_2 < (l0.length : Int)
                                      · rw [if_pos c32] at H
                                        have c32b0 : decide (x3_2 < (l0.length : Int)) = true := decide_eq_true c32
                                        clear c32
                                        have H' := Aside0.mk H
                                        clear H
                                        have p120 : 0 ≤ (t119 : Int) := of_decide_eq_true (by first | (with_reducible assumption) | assumption)
                                        have q120 : t119 < (l0.length : Int) := of_decide_eq_true (by first | (with_reducible assumption) | assumption)
                                        obtain ⟨ad120, e120, hx120_0, hx120_1, hx120_2, hx120_3, hx120_4⟩ := at_T81 HR0.out t119 p120 q120
                                        obtain rfl : ad113 = ad120 := (by injection e120)
                                        replace hx120_0 := (HB.out.cell (World.block_lt_of_cell? w _ hx120_0)).trans hx120_0
                                        replace hx120_1 := (HB.out.cell (World.block_lt_of_cell? w _ hx120_1)).trans hx120_1
                                        replace hx120_2 := (HB.out.cell (World.block_lt_of_cell? w _ hx120_2)).trans hx120_2
                                        replace hx120_3 := (HB.out.cell (World.block_lt_of_cell? w _ hx120_3)).trans hx120_3
                                        replace hx120_4 := (HB.out.cell (World.block_lt_of_cell? w _ hx120_4)).trans hx120_4
                                        replace p120 := eq_true p120
                                        replace q120 := eq_true q120
                                        have p121 : 0 ≤ (x3_2 : Int) := of_decide_eq_true (by first | (with_reducible assumption) | assumption)
                                        have q121 : x3_2 < (l0.length : Int) := of_decide_eq_true (by first | (with_reducible assumption) | assumption)
                                        obtain ⟨ad121, e121, hx121_0, hx121_1, hx121_2, hx121_3, hx121_4⟩ := at_T81 HR0.out x3_2 p121 q121
                                        obtain rfl : ad113 = ad121 := (by injection e121)
                                        replace hx121_0 := (HB.out.cell (World.block_lt_of_cell? w _ hx121_0)).trans hx121_0
                                        replace hx121_1 := (HB.out.cell (World.block_lt_of_cell? w _ hx121_1)).trans hx121_1
                                        replace hx121_2 := (HB.out.cell (World.block_lt_of_cell? w _ hx121_2)).trans hx121_2
                                        replace hx121_3 := (HB.out.cell (World.block_lt_of_cell? w _ hx121_3)).trans hx121_3
                                        replace hx121_4 := (HB.out.cell (World.block_lt_of_cell? w _ hx121_4)).trans hx121_4
                                        replace p121 := eq_true p121
                                        replace q121 := eq_true q121
                                        go_wp2
                                        go_meet
                                        case rel => exact ⟨_, ((((rd_T81 l0 x3_2).f2).toList != ([] : List UInt8))), (by first | rfl | (simp; done) | (simp [*]; done) | exact congrArg Value.bool (isE2 _) | (simp; exact isE _)), H', ⟨by have := HJ1.out; have := HK2.out; have := HJ13.out; have := HJ15.out; first | omega | exact Nat.le_refl _⟩, ⟨by repeat (first | (with_reducible first | exact HB.out | apply below_alloc | apply pw_below_drewN | apply below_drew1) | exact HB.out)⟩⟩
                                      · rw [if_neg c32] at H
                                        exact absurd H (by simp)
                                    · rw [if_neg c31] at H
                                      exact absurd H (by simp)
                                  · rw [if_neg c30] at H
                                    have c30b0 : (((rd_T81 l0 t119).f1) == 6) = false := beq_eq_false_iff_ne.mpr c30
                                    have c30b1 : (((rd_T81 l0 t119).f1) != 6) = true := bne_iff_ne.mpr c30
                                    have H' := Aside0.mk H
                                    clear H
                                    have p120 : 0 ≤ (t119 : Int) := of_decide_eq_true (by first | (with_reducible assumption) | assumption)
                                    have q120 : t119 < (l0.length : Int) := of_decide_eq_true (by first | (with_reducible assumption) | assumption)
                                    obtain ⟨ad120, e120, hx120_0, hx120_1, hx120_2, hx120_3, hx120_4⟩ := at_T81 HR0.out t119 p120 q120
                                    obtain rfl : ad113 = ad120 := (by injection e120)
                                    replace hx120_0 := (HB.out.cell (World.block_lt_of_cell? w _ hx120_0)).trans hx120_0
                                    replace hx120_1 := (HB.out.cell (World.block_lt_of_cell? w _ hx120_1)).trans hx120_1
                                    replace hx120_2 := (HB.out.cell (World.block_lt_of_cell? w _ hx120_2)).trans hx120_2
                                    replace hx120_3 := (HB.out.cell (World.block_lt_of_cell? w _ hx120_3)).trans hx120_3
                                    replace hx120_4 := (HB.out.cell (World.block_lt_of_cell? w _ hx120_4)).trans hx120_4
                                    replace p120 := eq_true p120
                                    replace q120 := eq_true q120
                                    go_wp2
                                    go_meet
                                    case rel => exact ⟨_, (false), (by first | rfl | (simp; done) | (simp [*]; done)), H', ⟨by have := HJ1.out; have := HK2.out; have := HJ13.out; have := HJ15.out; first | omega | exact Nat.le_refl _⟩, ⟨by repeat (first | (with_reducible first | exact HB.out | apply below_alloc | apply pw_below_drewN | apply below_drew1) | exact HB.out)⟩⟩
                                · rw [if_neg c29] at H
                                  exact absurd H (by simp)
                              · rw [if_neg c28] at H
                                exact absurd H (by simp)
                            case rest =>
                              clear HC27
                              try clear c1
                              try clear p1
                              try clear q1
                              try clear hx1
                              try clear qi1
                              try clear c2
                              try clear p2
                              try clear c3
                              try clear c3b0
                              try clear c3b1
                              try clear c3b2
                              try clear c4
                              try clear c4b0
                              try clear c4b1
                              try clear c5
                              try clear c5b0
                              try clear c5b1
                              try clear c6
                              try clear c6b0
                              try clear c6b1
                              try clear p6
                              try clear c9
                              try clear c10
                              try clear c10b0
                              try clear p10
                              try clear q10
                              try clear hx10
                              try clear qi10
                              try clear p11
                              try clear q11
                              try clear hx11
                              try clear qi11
                              try clear c12
                              try clear c12b0
                              try clear p12
                              try clear q12
                              try clear hx12
                              try clear c13
                              try clear c13b0
                              try clear c15
                              try clear c15b0
                              try clear c17
                              try clear c17b0
                              try clear c18
                              try clear c18b0
                              try clear c20
                              try clear c21
                              try clear c21b0
                              try clear c25
                              try clear c28
                              try clear c28b0
                              try clear c29
                              try clear c29b0
                              try clear c30
                              try clear c30b0
                              try clear c30b1
                              try clear c31
                              try clear c31b0
                              try clear c32
                              try clear c32b0
                              try clear hx109_0
                              try clear hx109_1
                              try clear hx109_2
                              try clear hx109_3
                              try clear hx109_4
                              try clear hx110_0
                              try clear hx110_1
                              try clear hx110_2
                              try clear hx110_3
                              try clear hx110_4
                              try clear hx111_0
                              try clear hx111_1
                              try clear hx111_2
                              try clear hx111_3
                              try clear hx111_4
                              try clear hx113_0
                              try clear hx113_1
                              try clear hx113_2
                              try clear hx113_3
                              try clear hx113_4
                              try clear hx114_0
                              try clear hx114_1
                              try clear hx114_2
                              try clear hx114_3
                              try clear hx114_4
                              try clear hx115_0
                              try clear hx115_1
                              try clear hx115_2
                              try clear hx115_3
                              try clear hx115_4
                              try clear hx117_0
                              try clear hx117_1
                              try clear hx117_2
                              try clear hx117_3
                              try clear hx117_4
                              try clear hx118_0
                              try clear hx118_1
                              try clear hx118_2
                              try clear hx118_3
                              try clear hx118_4
                              try clear hx120_0
                              try clear hx120_1
                              try clear hx120_2
                              try clear hx120_3
                              try clear hx120_4
                              try clear hx121_0
                              try clear hx121_1
                              try clear hx121_2
                              try clear hx121_3
                              try clear hx121_4
                              try clear p1
                              try clear p10
                              try clear p109
                              try clear p11
                              try clear p110
                              try clear p111
                              try clear p113
                              try clear p114
                              try clear p115
                              try clear p117
                              try clear p118
                              try clear p120
                              try clear p121
                              try clear p2
                              try clear p6
                              try clear q1
                              try clear q10
                              try clear q109
                              try clear q11
                              try clear q110
                              try clear q111
                              try clear q113
                              try clear q114
                              try clear q115
                              try clear q117
                              try clear q118
                              try clear q120
                              try clear q121
                              obtain ⟨kq, x90_26, rfl, HA, HJ26, HB⟩ := hcut
                              cases kq with
                              | zero => exact absurd HA.out (by simp [cracknelref08_Right.j4])
                              | succ kj26 =>
                                have H := HA.out
                                clear HA
                                simp only [cracknelref08_Right.j4] at H
                                by_cases c33 : x90_26 = true
                                · subst c33
                                  have H1 : (some false) = some r := by rw [if_pos rfl] at H; exact H
                                  clear H
                                  have H := H1
                                  clear H1
                                  obtain rfl := Option.some.inj H
                                  go_wp2
                                  go_ret
                                  exact ⟨by first | rfl | (simp [errW_none, errW_some] <;> rfl) | (simp only [← hji11]; first | rfl | (simp [errW_none, errW_some] <;> rfl)) | (simp [*, errW_none, errW_some] <;> rfl), by repeat (first | (with_reducible first | exact HB.out | apply below_alloc | apply pw_below_drewN | apply below_drew1) | exact HB.out)⟩
                                · replace c33 := Bool.eq_false_iff.mpr c33
                                  subst c33
                                  have H1 : (if 0 ≤ t119 then (if t119 < (l0.length : Int) then (if ((rd_T81 l0 t119).f1) = 7 then ((cracknelref08_alone.f kj26 l0 x3_2 t119).bind fun t123 => (if t123 = true then (cracknelref08_Right.l0 kj26 l0 (wrap64 (x3_2 + 1))) else (some false))) else (cracknelref08_Right.l0 kj26 l0 (wrap64 (x3_2 + 1)))) else (none)) else (none)) = some r := by rw [if_neg (show ¬ (false = true) by decide)] at H; exact H
                                  clear H
                                  have H := H1
                                  clear H1
                                  by_cases c34 : 0 ≤ t119
                                  · rw [if_pos c34] at H
                                    have c34b0 : decide (0 ≤ t119) = true := decide_eq_true c34
                                    clear c34
                                    by_cases c35 : t119 < (l0.length : Int)
                                    · rw [if_pos c35] at H
                                      have c35b0 : decide (t119 < (l0.length : Int)) = true := decide_eq_true c35
                                      clear c35
                                      by_cases c36 : ((rd_T81 l0 t119).f1) = 7
                                      · rw [if_pos c36] at H
                                        have c36b0 : (((rd_T81 l0 t119).f1) == 7) = true := beq_iff_eq.mpr c36
                                        have c36b1 : (((rd_T81 l0 t119).f1) != 7) = false := bne_eq_false_iff_eq.mpr c36
                                        clear c36
                                        replace H := Option.bind_eq_some_iff.mp H
                                        obtain ⟨t123, A370, H⟩ := H
                                        replace H : (if t123 = true then (cracknelref08_Right.l0 kj26 l0 (wrap64 (x3_2 + 1))) else (some false)) = some r := H
                                        have A37 := Aside0.mk A370
                                        clear A370
                                        by_cases c38 : t123 = true
                                        · subst c38
                                          have H1 : (cracknelref08_Right.l0 kj26 l0 (wrap64 (x3_2 + 1))) = some r := by rw [if_pos rfl] at H; exact H
                                          clear H
                                          have H := H1
                                          clear H1
                                          have H' := Aside0.mk H
                                          clear H
                                          have p122 : 0 ≤ (t119 : Int) := of_decide_eq_true (by first | (with_reducible assumption) | assumption)
                                          have q122 : t119 < (l0.length : Int) := of_decide_eq_true (by first | (with_reducible assumption) | assumption)
                                          obtain ⟨ad122, e122, hx122_0, hx122_1, hx122_2, hx122_3, hx122_4⟩ := at_T81 HR0.out t119 p122 q122
                                          obtain rfl : ad113 = ad122 := (by injection e122)
                                          replace hx122_0 := (HB.out.cell (World.block_lt_of_cell? w _ hx122_0)).trans hx122_0
                                          replace hx122_1 := (HB.out.cell (World.block_lt_of_cell? w _ hx122_1)).trans hx122_1
                                          replace hx122_2 := (HB.out.cell (World.block_lt_of_cell? w _ hx122_2)).trans hx122_2
                                          replace hx122_3 := (HB.out.cell (World.block_lt_of_cell? w _ hx122_3)).trans hx122_3
                                          replace hx122_4 := (HB.out.cell (World.block_lt_of_cell? w _ hx122_4)).trans hx122_4
                                          replace p122 := eq_true p122
                                          replace q122 := eq_true q122
                                          go_wp2_with (first | (go_at_call 68; (with_reducible refine (cracknelref08_alone.calls kj26 _ _ l0 x3_2 t119 true _ ?side1 ?side2 A37.out).mono ?_); (case side1 => repeat (first | exact (Kd.C_below HR0.out HB.out) | (with_reducible refine Kd.C_alloc ?_ _) | (with_reducible refine Kd.C_drewN ?_ _) | (with_reducible refine Kd.C_drew ?_))); (case side2 => exact HC0.out); rintro e w' ⟨rfl, ⟨nd, rfl⟩⟩))
                                          go_roundg kj26
                                          case measure => have := HJ1.out; have := HK2.out; have := HJ13.out; have := HJ15.out; have := HJ26.out; omega
                                          case rel => exact ⟨(wrap64 (x3_2 + 1)), (by first | rfl | (simp; done) | (simp [*]; done)), H', ⟨by have := HJ1.out; have := HK2.out; have := HJ13.out; have := HJ15.out; have := HJ26.out; omega⟩, ⟨by repeat (first | (with_reducible first | exact HB.out | apply below_alloc | apply pw_below_drewN | apply below_drew1) | exact HB.out)⟩⟩
                                        · replace c38 := Bool.eq_false_iff.mpr c38
                                          subst c38
                                          have H1 : (some false) = some r := by rw [if_neg (show ¬ (false = true) by decide)] at H; exact H
                                          clear H
                                          have H := H1
                                          clear H1
                                          obtain rfl := Option.some.inj H
                                          have p122 : 0 ≤ (t119 : Int) := of_decide_eq_true (by first | (with_reducible assumption) | assumption)
                                          have q122 : t119 < (l0.length : Int) := of_decide_eq_true (by first | (with_reducible assumption) | assumption)
                                          obtain ⟨ad122, e122, hx122_0, hx122_1, hx122_2, hx122_3, hx122_4⟩ := at_T81 HR0.out t119 p122 q122
                                          obtain rfl : ad113 = ad122 := (by injection e122)
                                          replace hx122_0 := (HB.out.cell (World.block_lt_of_cell? w _ hx122_0)).trans hx122_0
                                          replace hx122_1 := (HB.out.cell (World.block_lt_of_cell? w _ hx122_1)).trans hx122_1
                                          replace hx122_2 := (HB.out.cell (World.block_lt_of_cell? w _ hx122_2)).trans hx122_2
                                          replace hx122_3 := (HB.out.cell (World.block_lt_of_cell? w _ hx122_3)).trans hx122_3
                                          replace hx122_4 := (HB.out.cell (World.block_lt_of_cell? w _ hx122_4)).trans hx122_4
                                          replace p122 := eq_true p122
                                          replace q122 := eq_true q122
                                          go_wp2_with (first | (go_at_call 68; (with_reducible refine (cracknelref08_alone.calls kj26 _ _ l0 x3_2 t119 false _ ?side1 ?side2 A37.out).mono ?_); (case side1 => repeat (first | exact (Kd.C_below HR0.out HB.out) | (with_reducible refine Kd.C_alloc ?_ _) | (with_reducible refine Kd.C_drewN ?_ _) | (with_reducible refine Kd.C_drew ?_))); (case side2 => exact HC0.out); rintro e w' ⟨rfl, ⟨nd, rfl⟩⟩))
                                          go_ret
                                          exact ⟨by first | rfl | (simp [errW_none, errW_some] <;> rfl) | (simp only [← hji11]; first | rfl | (simp [errW_none, errW_some] <;> rfl)) | (simp [*, errW_none, errW_some] <;> rfl), by repeat (first | (with_reducible first | exact HB.out | apply below_alloc | apply pw_below_drewN | apply below_drew1) | exact HB.out)⟩
                                      · rw [if_neg c36] at H
                                        have c36b0 : (((rd_T81 l0 t119).f1) == 7) = false := beq_eq_false_iff_ne.mpr c36
                                        have c36b1 : (((rd_T81 l0 t119).f1) != 7) = true := bne_iff_ne.mpr c36
                                        have H' := Aside0.mk H
                                        clear H
                                        have p122 : 0 ≤ (t119 : Int) := of_decide_eq_true (by first | (with_reducible assumption) | assumption)
                                        have q122 : t119 < (l0.length : Int) := of_decide_eq_true (by first | (with_reducible assumption) | assumption)
                                        obtain ⟨ad122, e122, hx122_0, hx122_1, hx122_2, hx122_3, hx122_4⟩ := at_T81 HR0.out t119 p122 q122
                                        obtain rfl : ad113 = ad122 := (by injection e122)
                                        replace hx122_0 := (HB.out.cell (World.block_lt_of_cell? w _ hx122_0)).trans hx122_0
                                        replace hx122_1 := (HB.out.cell (World.block_lt_of_cell? w _ hx122_1)).trans hx122_1
                                        replace hx122_2 := (HB.out.cell (World.block_lt_of_cell? w _ hx122_2)).trans hx122_2
                                        replace hx122_3 := (HB.out.cell (World.block_lt_of_cell? w _ hx122_3)).trans hx122_3
                                        replace hx122_4 := (HB.out.cell (World.block_lt_of_cell? w _ hx122_4)).trans hx122_4
                                        replace p122 := eq_true p122
                                        replace q122 := eq_true q122
                                        go_wp2
                                        go_roundg kj26
                                        case measure => have := HJ1.out; have := HK2.out; have := HJ13.out; have := HJ15.out; have := HJ26.out; omega
                                        case rel => exact ⟨(wrap64 (x3_2 + 1)), (by first | rfl | (simp; done) | (simp [*]; done)), H', ⟨by have := HJ1.out; have := HK2.out; have := HJ13.out; have := HJ15.out; have := HJ26.out; omega⟩, ⟨by repeat (first | (with_reducible first | exact HB.out | apply below_alloc | apply pw_below_drewN | apply below_drew1) | exact HB.out)⟩⟩
                                    · rw [if_neg c35] at H
                                      exact absurd H (by simp)
                                  · rw [if_neg c34] at H
                                    exact absurd H (by simp)
                · rw [if_neg c13] at H
                  exact absurd H (by simp)
              · rw [if_neg c12] at H
                exact absurd H (by simp)
            · rw [if_neg c10] at H
              have c10b0 : decide (x3_2 < (l0.length : Int)) = false := decide_eq_false c10
              clear c10
              obtain rfl := Option.some.inj H
              go_wp2
              go_ret
              exact ⟨by first | rfl | (simp [errW_none, errW_some] <;> rfl) | (simp [*, errW_none, errW_some] <;> rfl), by repeat (first | (with_reducible first | exact HB.out | apply below_alloc | apply pw_below_drewN | apply below_drew1) | exact HB.out)⟩
end Go.Proofs.YthhmmaihbjhhgaaDoor.J2
