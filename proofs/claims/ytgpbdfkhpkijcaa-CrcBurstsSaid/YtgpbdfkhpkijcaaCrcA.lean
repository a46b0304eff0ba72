/- The contracts of the crc package's functions that hold an array: Table, Sum (any input). -/
import Derived.Test.YtgpbdfkhpkijcaaPCrcRightx1
import Derived.Lib.Hide
namespace Go.Proofs.Ytgpbdfkhpkijcaa.Crc
open Go.RowKit Go.Proofs.YtgpbdfkhpkijcaaW.PrintWords Go.Proofs.YtgpbdfkhpkijcaaW.PrintLast Go.Proofs.YtgpbdfkhpkijcaaW.PrintMore
open Go.Proofs.Ytgpbdfkhpkijcaa.PCrcRight

def zs : Array Value := ⟨List.replicate 256 (.int .u32 0)⟩
theorem hz (w : World) : (zeroValue 23).run Try.prog w = .ok (.agg zs) w := by kernel_rfl

/-- the table's entry at a number, k rounds given -/
def ent (c : Nat) : Int := ((crc_entry.f 9 (c : Int)).getD 0)
theorem ent_some : ∀ c : Nat, c < 256 → crc_entry.f 9 (c : Int) = some (ent c) := by
  have h : ∀ c : Fin 256, crc_entry.f 9 ((c.val : Nat) : Int) = some (ent c.val) := by decide +kernel
  exact fun c hc => h ⟨c, hc⟩
def tab (k : Nat) : Array Value := ⟨(List.range 256).map fun c => .int .u32 (if c < k then ent c else 0)⟩
theorem tab_0 : tab 0 = zs := by kernel_rfl
theorem tab_get (k c : Nat) (hc : c < 256) : (tab k)[c]? = some (.int .u32 (if c < k then ent c else 0)) := by
  simp [tab, hc]
theorem tab_size (k : Nat) : (tab k).size = 256 := by simp [tab]
theorem tab_set (k : Nat) : (tab k).setIfInBounds k (.int .u32 (ent k)) = tab (k + 1) := by
  apply Array.ext
  · simp [tab]
  · intro i h1 h2
    have hi : i < 256 := by simpa [tab] using h1
    rw [Array.getElem_setIfInBounds]
    · split
      · subst i; simp [tab]
      · simp only [tab, List.getElem_toArray, List.getElem_map, List.getElem_range]
        by_cases h : i < k
        · rw [if_pos h, if_pos (by omega)]
        · rw [if_neg h, if_neg (by omega)]
    · simpa [tab] using hi

theorem nocell {w wr : World} {k : Nat} (h : wr.heap[w.heap.size + 1]? = some (.cells (tab k) 23 (0, 0))) (hk : k < 256) :
    (∃ v, wr.cell? ⟨w.heap.size + 1, k, none⟩ = some v) ∧ wr.frozen? ⟨w.heap.size + 1, k, none⟩ = false :=
  ⟨⟨_, (cell_of_row wr _ k _ 23 _ h).trans (tab_get k k hk)⟩, frozen_of_row wr _ k _ 23 h⟩
theorem below_row {w wr : World} (hb : Below w.heap.size w wr) (cs : Array Value) : Below w.heap.size w (wr.setRow w.heap.size cs) :=
  hb.trans ⟨rfl, rfl, rfl, by simp, fun k hk => setRow_other _ _ _ _ (by omega)⟩
set_option maxHeartbeats 4000000 in
set_option maxRecDepth 100000 in
theorem table_any (w : World) :
    Calls Try.prog 10 #[] w fun e w' => e = .returned (.agg (tab 256)) ∧ Below w.heap.size w w' := by
  have h0 := hz
  go_enter Try.func10, Try.ntmps10
  go_wp2
  clear h0
  go_loopw [2, 3] (fun _ v3 wr => ∃ k : Nat, k ≤ 256 ∧ v3 = .int .i64 k ∧ Below w.heap.size w wr ∧ wr.heap.size = w.heap.size + 2 ∧ wr.heap[w.heap.size]? = some (.cells zs 23 (0, 0)) ∧ wr.heap[w.heap.size + 1]? = some (.cells (tab k) 23 (0, 0))) (fun _ v3 _ => 256 - (intOf v3).toNat)
  case atStart => exact ⟨0, by omega, rfl, below_alloc (below_alloc (Below.refl _ _) _) _, by simp, heap_alloc2_old _ _ _, by rw [tab_0]; exact heap_alloc2_new _ _ _⟩
  case round =>
    obtain ⟨k, hk, rfl, hb, hs, hr0, hr1⟩ := hrel
    have B1 := Lib.hid hb; have S1 := Lib.hid hs; have R0 := Lib.hid hr0; have R1 := Lib.hid hr1
    clear hb hs hr0 hr1
    by_cases hlt : k < 256
    · have E := Aside0.mk (ent_some k hlt)
      obtain ⟨⟨vv, hc⟩, hf⟩ := nocell R1.out hlt
      have hm : (k : Int) % 256 = k := by omega
      go_wp2_with (go_at_call 21; refine (crc_entry.calls 9 _ _ _ E.out).mono ?_; rintro e w' ⟨rfl, ⟨nd, rfl⟩⟩)
      go_roundw
      case rel =>
        refine ⟨k + 1, by omega, by go_num, (pw_below_drewN B1.out nd).setCell (by simp) _, by simpa [World.setCell] using S1.out, ?_, ?_⟩
        · rw [heap_setCell_other _ _ _ _ (by simp)]; exact R0.out
        · rw [heap_setCell_same (wr.drewN nd) _ k (tab k) 23 _ R1.out, tab_set]
      case measure => simp [intOf]; omega
    · obtain rfl : k = 256 := by omega
      have hsz : (Try.prog.info? 23).map (·.size) = some (tab 256).size := by rw [tab_size]; kernel_rfl
      have h1 : (tab 256).all (·.oneCell') = true := by kernel_rfl
      have hold : zs.size = (tab 256).size := by rw [tab_size]; kernel_rfl
      go_wp2_with (first
        | (with_reducible refine wpList_load_row rfl 23 (.tmp 1) rfl (w.heap.size + 1) rfl 23 (tab 256) (0, 0) _ R1.out Try.underlying23 rfl hsz ?_)
        | (with_reducible refine wpList_store_row rfl 23 (.tmp 0) (.tmp 12) rfl w.heap.size (tab 256) rfl rfl 23 zs R0.out hsz hold h1 ?_))
      refine bodyPost_ret (results_cell_row rfl _ _ w.heap.size 23 (tab 256) (0, 0) _ rfl (setRow_heap _ _ zs _ 23 _ R0.out) Try.underlying23 rfl hsz) rfl ⟨rfl, below_row B1.out _⟩
end Go.Proofs.Ytgpbdfkhpkijcaa.Crc
