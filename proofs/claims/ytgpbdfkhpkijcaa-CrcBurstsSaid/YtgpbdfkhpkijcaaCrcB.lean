/- The contract of crc.Sum: at any row of strings (each shorter than 2^62 bytes) it returns the fold of the table step over all bytes. -/
import Derived.Test.YtgpbdfkhpkijcaaCrcA
namespace Go.Proofs.Ytgpbdfkhpkijcaa.Crc
open Go.RowKit Go.Proofs.YtgpbdfkhpkijcaaW.PrintWords Go.Proofs.YtgpbdfkhpkijcaaW.PrintLast Go.Proofs.YtgpbdfkhpkijcaaW.PrintMore
open Go.Proofs.Ytgpbdfkhpkijcaa.PCrcRight

def stepT (s b : Int) : Int := Go.bits .xor .u32 (s / 256) (ent (Go.bits .xor .u8 (s % 256) b).toNat)
def runB (s : Int) (x : ByteArray) : Nat → Int
  | 0 => s
  | k + 1 => stepT (runB s x k) (bt x k)
def runS (l : List ByteArray) : Nat → Int
  | 0 => 4294967295
  | i + 1 => runB (runS l i) (rdOf ByteArray.empty l i) (rdOf ByteArray.empty l i).size

theorem bits_u8 (op : BinOp) (x y : Int) : 0 ≤ Go.bits op .u8 x y ∧ Go.bits op .u8 x y < 256 := by
  unfold Go.bits
  split <;> first | (rw [IntKind.wrap_u8]; omega) | simp

set_option maxHeartbeats 4000000 in
set_option maxRecDepth 100000 in
theorem sum_some (a : Addr) (c : Nat) (l : List ByteArray) (w : World) (hr : Kd.C Kd.string w (some a) l.length l) (_hc : l.length ≤ c) (hb : ∀ i : Nat, (rdOf ByteArray.empty l i).size < 4611686018427387904) :
    Calls Try.prog 16 #[.slice (some a) l.length c] w fun e w' => e = .returned (.int .u32 (Go.bits .xor .u32 IntKind.u32.max (runS l l.length))) ∧ Below w.heap.size w w' := by
  have hn : l.length ≤ 9223372036854775807 := hr.2.1
  have HR := Aside0.mk hr
  have HB := Aside0.mk hb
  have hcell : ∀ i : Nat, i < l.length → w.cell? (a.add i) = some (.string (rdOf ByteArray.empty l i)) := fun i hi => Kd.foot_string hr i (by omega) (by omega)
  have HC := Aside0.mk hcell
  clear hr hb hcell
  have h0 := hz
  have hsz : (Try.prog.info? 23).map (·.size) = some (tab 256).size := by rw [tab_size]; kernel_rfl
  have h1 : (tab 256).all (·.oneCell') = true := by kernel_rfl
  have hold : zs.size = (tab 256).size := by rw [tab_size]; kernel_rfl
  go_enter Try.func16, Try.ntmps16
  go_wp2_with (first
    | (go_at_call 10; refine (table_any _).mono ?_; rintro e w1 ⟨rfl, B1⟩)
    | (with_reducible refine wpList_store_row rfl 23 (.tmp 3) (.tmp 8) rfl _ (tab 256) rfl rfl 23 zs (heap_alloc_new _ _) hsz hold h1 ?_))
  clear h0 hsz h1 hold
  obtain ⟨W, hW⟩ : ∃ W, (w1.alloc (Obj.cells zs 23)).setRow w1.heap.size (tab 256) = W := ⟨_, rfl⟩
  obtain ⟨b, hbn⟩ : ∃ b, w1.heap.size = b := ⟨_, rfl⟩
  have BW : Aside0 (Below w.heap.size w W) := ⟨by rw [← hW]; exact (below_alloc B1 _).trans ⟨rfl, rfl, rfl, by simp, fun k hk => setRow_other _ _ _ _ (by have := B1.size; omega)⟩⟩
  have TW : Aside0 (∀ i : Nat, i < 256 → W.cell? ⟨b, i, none⟩ = some (.int .u32 (ent i))) := ⟨fun i hi => by
    rw [← hW, ← hbn]
    exact (cell_of_row _ _ i _ 23 _ (setRow_heap _ _ zs (tab 256) 23 _ (heap_alloc_new w1 _))).trans (by rw [tab_get 256 i hi, if_pos hi])⟩
  have CW : Aside0 (∀ i : Nat, i < l.length → W.cell? (a.add i) = some (.string (rdOf ByteArray.empty l i))) := ⟨fun i hi => pw_cell_below BW.out (HC.out i hi)⟩
  rw [hW, hbn]
  clear hW hbn B1 HR HC
  go_loop [4, 11] (fun v4 v11 => ∃ i : Nat, i ≤ l.length ∧ v11 = .int .i64 i ∧ v4 = .int .u32 (runS l i)) (fun _ v11 => l.length - (intOf v11).toNat)
  case atStart => exact ⟨0, by omega, rfl, rfl⟩
  case round =>
    obtain ⟨i, hi, rfl, rfl⟩ := hrel
    by_cases hlt : i < l.length
    · have hci := CW.out i hlt
      have hsi := HB.out i
      obtain ⟨x, hx⟩ : ∃ x, rdOf ByteArray.empty l i = x := ⟨_, rfl⟩
      have HX := Aside0.mk hx
      rw [hx] at hci hsi
      clear hx
      go_wp2
      go_loop [4, 17] (fun v4 v17 => ∃ k : Nat, k ≤ x.size ∧ v17 = .int .i64 k ∧ v4 = .int .u32 (runB (runS l i) x k)) (fun _ v17 => x.size - (intOf v17).toNat)
      case atStart => exact ⟨0, by omega, rfl, rfl⟩
      case round =>
        obtain ⟨k, hk, rfl, rfl⟩ := hrel
        by_cases hlt2 : k < x.size
        · obtain ⟨s, hs⟩ : ∃ s, runB (runS l i) x k = s := ⟨_, rfl⟩
          rw [hs]
          have HS := Aside0.mk hs
          clear hs
          have hix := bits_u8 .xor (s % 256) ((x[k].toNat : Nat) : Int)
          have hce := TW.out (Go.bits .xor .u8 (s % 256) ((x[k].toNat : Nat) : Int)).toNat (by omega)
          have hst : stepT s (bt x k) = Go.bits .xor .u32 (s / 256) (ent (Go.bits .xor .u8 (s % 256) ((x[k].toNat : Nat) : Int)).toNat) := by
            rw [← bt_at x k (by simpa using hlt2)]; rfl
          have HST := Aside0.mk hst
          clear hst
          go_wp2
          go_round
          case rel => exact ⟨k + 1, by omega, by go_num, by rw [← HST.out, ← HS.out]; rfl⟩
          case measure => simp [intOf]; omega
        · obtain rfl : k = x.size := by omega
          go_wp2
          go_round
          case rel => exact ⟨i + 1, by omega, by go_num, by rw [runS, HX.out]⟩
          case measure => simp [intOf]; omega
    · obtain rfl : i = l.length := by omega
      go_wp2
      go_ret
      exact ⟨rfl, BW.out⟩

set_option maxHeartbeats 4000000 in
set_option maxRecDepth 100000 in
theorem sum_none (A : Option Addr) (c : Nat) (w : World) :
    Calls Try.prog 16 #[.slice A 0 c] w fun e w' => e = .returned (.int .u32 (Go.bits .xor .u32 IntKind.u32.max (runS [] 0))) ∧ Below w.heap.size w w' := by
  have h0 := hz
  have hsz : (Try.prog.info? 23).map (·.size) = some (tab 256).size := by rw [tab_size]; kernel_rfl
  have h1 : (tab 256).all (·.oneCell') = true := by kernel_rfl
  have hold : zs.size = (tab 256).size := by rw [tab_size]; kernel_rfl
  go_enter Try.func16, Try.ntmps16
  go_wp2_with (first
    | (go_at_call 10; refine (table_any _).mono ?_; rintro e w1 ⟨rfl, B1⟩)
    | (with_reducible refine wpList_store_row rfl 23 (.tmp 3) (.tmp 8) rfl _ (tab 256) rfl rfl 23 zs (heap_alloc_new _ _) hsz hold h1 ?_))
  clear h0 hsz h1 hold
  obtain ⟨W, hW⟩ : ∃ W, (w1.alloc (Obj.cells zs 23)).setRow w1.heap.size (tab 256) = W := ⟨_, rfl⟩
  have BW : Aside0 (Below w.heap.size w W) := ⟨by rw [← hW]; exact (below_alloc B1 _).trans ⟨rfl, rfl, rfl, by simp, fun k hk => setRow_other _ _ _ _ (by have := B1.size; omega)⟩⟩
  rw [hW]
  clear hW B1
  go_loop [4, 11] (fun v4 v11 => v11 = .int .i64 0 ∧ v4 = .int .u32 4294967295) (fun _ _ => 0)
  case atStart => exact ⟨rfl, rfl⟩
  case round =>
    obtain ⟨rfl, rfl⟩ := hrel
    go_wp2
    go_ret
    exact ⟨rfl, BW.out⟩

/-- what the hook of the printer asks -/
def crc_Sum.f (l : List ByteArray) : Option Int := if l.all (fun s => decide (s.size < 4611686018427387904)) = true then some (Go.bits .xor .u32 IntKind.u32.max (runS l l.length)) else none
theorem crc_Sum.calls (A0 : Option Addr) (c0 : Nat) (l0 : List ByteArray) (r : Int) (w : World) (hr0 : Kd.C Kd.string w A0 l0.length l0) (hc0 : l0.length ≤ c0) (h : crc_Sum.f l0 = some r) :
    Calls Try.prog 16 #[.slice A0 l0.length c0] w fun e w' => e = .returned (.int .u32 r) ∧ Below w.heap.size w w' := by
  unfold crc_Sum.f at h
  split at h
  · rename_i hall
    obtain rfl := Option.some.inj h
    by_cases hn : 0 < l0.length
    · obtain ⟨ad, rfl, _⟩ := hr0.2.2 hn
      refine sum_some ad c0 l0 w hr0 hc0 fun i => ?_
      unfold rdOf
      rw [List.getD_eq_getElem?_getD, List.all_eq_true] at *
      cases hi : l0[(i : Int).toNat]? with
      | none => simp
      | some y => simpa using hall y (List.mem_of_getElem? hi)
    · obtain rfl : l0 = [] := List.eq_nil_of_length_eq_zero (by omega)
      exact sum_none A0 c0 w
  · cases h
end Go.Proofs.Ytgpbdfkhpkijcaa.Crc
