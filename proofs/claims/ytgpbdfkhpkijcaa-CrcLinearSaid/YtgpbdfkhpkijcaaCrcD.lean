/- The walks of the laws CrcTable and CrcLinear, which hold the table itself: at any byte(s) they return true. -/
import Derived.Test.YtgpbdfkhpkijcaaCrcN
import Derived.Deep.RegionHeld3
import Derived.OpenShut
namespace Go.Proofs.Ytgpbdfkhpkijcaa.Crc
open Go.RowKit Go.Proofs.YtgpbdfkhpkijcaaW.PrintWords Go.Proofs.YtgpbdfkhpkijcaaW.PrintLast Go.Proofs.YtgpbdfkhpkijcaaW.PrintMore
open Go.Proofs.Ytgpbdfkhpkijcaa.S1

theorem tab_cell (w1 : World) (c : Nat) (hc : c < 256) : ((w1.alloc (Obj.cells zs 23)).setRow w1.heap.size (tab 256)).cell? ⟨w1.heap.size, c, none⟩ = some (.int .u32 ((Mi 8 c : Nat) : Int)) :=
  (cell_of_row _ _ c _ 23 _ (setRow_heap _ _ zs (tab 256) 23 _ (heap_alloc_new w1 _))).trans (by rw [tab_get 256 c hc, if_pos hc, ent_nat c hc])
theorem tab_below {w w1 : World} (B1 : Below w.heap.size w w1) : Below w.heap.size w ((w1.alloc (Obj.cells zs 23)).setRow w1.heap.size (tab 256)) :=
  (below_alloc B1 _).trans ⟨rfl, rfl, rfl, by simp, fun k hk => setRow_other _ _ _ _ (by have := B1.size; omega)⟩

set_option maxHeartbeats 4000000 in
set_option maxRecDepth 100000 in
theorem table_law (c : Nat) (hc : c < 256) (w : World) : Calls Try.prog 3 #[.int .u8 (c : Int)] w fun e w' => e = .returned (.bool true) ∧ Below w.heap.size w w' := by
  have F1 : Aside0 (cracknelref04_Entry.f 100 (IntKind.i64.wrap (c : Int)) = some (IntKind.i64.wrap ((Mi 8 c : Nat) : Int))) := ⟨by
    have hl := Mi_lt 8 (n := c) (by omega)
    rw [IntWalk.i64_in _ (by omega), IntWalk.i64_in _ (by omega)]
    exact ref_entry 100 c (by omega) (by omega)⟩
  have hlt := Mi_lt 8 (n := c) (by omega)
  have hcv : ((Mi 8 c : Nat) : Int) ≤ 4294967295 := by omega
  clear hlt
  have hi0 : (0 : Int) ≤ (c : Int) := by omega
  have hi1 : (c : Int) < 256 := by omega
  have h0 := hz
  have hsz : (Try.prog.info? 23).map (·.size) = some (tab 256).size := by rw [tab_size]; kernel_rfl
  have h1 : (tab 256).all (·.oneCell') = true := by kernel_rfl
  have hold : zs.size = (tab 256).size := by rw [tab_size]; kernel_rfl
  go_enter Try.func3, Try.ntmps3
  go_wp2_with (first
    | (go_at_call 10; refine (table_any _).mono ?_; rintro e w1 ⟨rfl, B1⟩)
    | (with_reducible refine wpList_store_row rfl 23 (.tmp 3) (.tmp 4) rfl _ (tab 256) rfl rfl 23 zs (heap_alloc_new _ _) hsz hold h1 ?_))
  clear h0 hsz h1 hold
  have BW := tab_below B1
  have TW := tab_cell w1 c hc
  generalize (w1.alloc (Obj.cells zs 23)).setRow w1.heap.size (tab 256) = W at BW TW ⊢
  generalize w1.heap.size = b at TW ⊢
  clear B1
  go_region_held3 (fun w' => w'.cell? ⟨b, c, none⟩ = some (.int .u32 ((Mi 8 c : Nat) : Int)) ∧ Below w.heap.size w w')
    (first
      | exact ⟨by assumption, by assumption⟩
      | exact ⟨by assumption, below_drew (by assumption)⟩)
    (first
      | (go_at_call 11; obtain ⟨hc1, hB1⟩ := ‹World.cell? _ _ = _ ∧ Below _ _ _›; refine (alive_any _).mono ?_; rintro e w' ⟨rfl, hb⟩; have hc2 := pw_cell_below hb hc1; have hB2 := below_step hB1 hb)
      | (go_at_call 12; obtain ⟨hc1, hB1⟩ := ‹World.cell? _ _ = _ ∧ Below _ _ _›; refine (cracknelref04_Entry.calls 100 _ _ _ F1.out).mono ?_; rintro e w' ⟨rfl, ⟨nd, rfl⟩⟩; have hB2 := pw_below_drewN hB1 nd))
  go_wp2
  go_ret
  exact ⟨by simp, hB2⟩

theorem mi_lin (a b : Nat) (ha : a < 256) (hb : b < 256) : Go.bits .xor .u32 ((Mi 8 a : Nat) : Int) ((Mi 8 b : Nat) : Int) = ((Mi 8 (a ^^^ b) : Nat) : Int) := by
  rw [bits_xor32 _ _ (Mi_lt 8 (by omega)) (Mi_lt 8 (by omega)), Mi_xor]

set_option maxHeartbeats 4000000 in
set_option maxRecDepth 100000 in
theorem linear_law (c d : Nat) (hc : c < 256) (hd : d < 256) (w : World) : Calls Try.prog 8 #[.int .u8 (c : Int), .int .u8 (d : Int)] w fun e w' => e = .returned (.bool true) ∧ Below w.heap.size w w' := by
  have hx : (c ^^^ d) < 256 := Nat.xor_lt_two_pow (n := 8) (by omega) (by omega)
  have hi0 : (0 : Int) ≤ (c : Int) := by omega
  have hi1 : (c : Int) < 256 := by omega
  have hj0 : (0 : Int) ≤ (d : Int) := by omega
  have hj1 : (d : Int) < 256 := by omega
  have hbx : Go.bits .xor .u8 (c : Int) (d : Int) = ((c ^^^ d : Nat) : Int) := bits_xor8 c d (by omega) (by omega)
  obtain ⟨x, hxe⟩ : ∃ x, c ^^^ d = x := ⟨_, rfl⟩
  have hm := mi_lin c d hc hd
  rw [hxe] at hx hbx hm
  have hk0 : (0 : Int) ≤ (x : Int) := by omega
  have hk1 : (x : Int) < 256 := by omega
  have hbm : (Go.bits .xor .u32 ((Mi 8 c : Nat) : Int) ((Mi 8 d : Nat) : Int) == ((Mi 8 x : Nat) : Int)) = true := beq_iff_eq.mpr hm
  have h0 := hz
  have hsz : (Try.prog.info? 23).map (·.size) = some (tab 256).size := by rw [tab_size]; kernel_rfl
  have h1 : (tab 256).all (·.oneCell') = true := by kernel_rfl
  have hold : zs.size = (tab 256).size := by rw [tab_size]; kernel_rfl
  clear hxe hm
  go_enter Try.func8, Try.ntmps8
  go_wp2_with (first
    | (go_at_call 10; refine (table_any _).mono ?_; rintro e w1 ⟨rfl, B1⟩)
    | (with_reducible refine wpList_store_row rfl 23 (.tmp 5) (.tmp 6) rfl _ (tab 256) rfl rfl 23 zs (heap_alloc_new _ _) hsz hold h1 ?_))
  clear h0 hsz h1 hold
  have BW := tab_below B1
  have TW := tab_cell w1 c hc
  have UW := tab_cell w1 d hd
  have VW := tab_cell w1 x hx
  have ZW := tab_cell w1 0 (by omega)
  rw [Mi_zero] at ZW
  generalize (w1.alloc (Obj.cells zs 23)).setRow w1.heap.size (tab 256) = W at BW TW UW VW ZW ⊢
  generalize w1.heap.size = b at TW UW VW ZW ⊢
  clear B1
  go_region_held3 (fun w' => w'.cell? ⟨b, c, none⟩ = some (.int .u32 ((Mi 8 c : Nat) : Int)) ∧ w'.cell? ⟨b, d, none⟩ = some (.int .u32 ((Mi 8 d : Nat) : Int)) ∧ w'.cell? ⟨b, x, none⟩ = some (.int .u32 ((Mi 8 x : Nat) : Int)) ∧ w'.cell? ⟨b, 0, none⟩ = some (.int .u32 0) ∧ Below w.heap.size w w')
    (first
      | exact ⟨by assumption, by assumption, by assumption, by assumption, by assumption⟩
      | exact ⟨by assumption, by assumption, by assumption, by assumption, below_drew (by assumption)⟩)
    (first
      | (go_at_call 11; obtain ⟨hc1, hc2, hc3, hc4, hB1⟩ := ‹World.cell? _ _ = _ ∧ World.cell? _ _ = _ ∧ World.cell? _ _ = _ ∧ World.cell? _ _ = _ ∧ Below _ _ _›; refine (alive_any _).mono ?_; rintro e w' ⟨rfl, hb⟩; have hd1 := pw_cell_below hb hc1; have hd2 := pw_cell_below hb hc2; have hd3 := pw_cell_below hb hc3; have hd4 := pw_cell_below hb hc4; have hB2 := below_step hB1 hb))
  go_wp2
  go_ret
  exact ⟨by simp, hB2⟩
theorem u8_nat {a : Int} (h : (Lit.int .u8 a).wf = true) : ∃ c : Nat, a = c ∧ c < 256 := by
  have b := bounds_u8 h
  exact ⟨a.toNat, by omega, by omega⟩
theorem table_walk (a : Int) (w : World) (h : (Lit.int .u8 a).wf = true) : Calls Try.prog 3 #[.int .u8 a] w fun e w' => e = .returned (.bool true) ∧ Below w.heap.size w w' := by
  obtain ⟨c, rfl, hc⟩ := u8_nat h
  exact table_law c hc w
theorem linear_walk (a b : Int) (w : World) (h : (Lit.int .u8 a).wf = true) (h' : (Lit.int .u8 b).wf = true) : Calls Try.prog 8 #[.int .u8 a, .int .u8 b] w fun e w' => e = .returned (.bool true) ∧ Below w.heap.size w w' := by
  obtain ⟨c, rfl, hc⟩ := u8_nat h
  obtain ⟨d, rfl, hd⟩ := u8_nat h'
  exact linear_law c d hc hd w
end Go.Proofs.Ytgpbdfkhpkijcaa.Crc
