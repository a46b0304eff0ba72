/- The contract of the laws' own check 'alive' (a sum that is well known): it returns true. -/
import Derived.Test.YtgpbdfkhpkijcaaS1x2
import Derived.Deep.RegionHeld3
namespace Go.Proofs.Ytgpbdfkhpkijcaa.Crc
open Go.RowKit Go.Proofs.YtgpbdfkhpkijcaaW.PrintWords Go.Proofs.YtgpbdfkhpkijcaaW.PrintLast Go.Proofs.YtgpbdfkhpkijcaaW.PrintMore
open Go.Proofs.Ytgpbdfkhpkijcaa.S1

theorem C_strs (W : World) (t : TypeId) (l : List ByteArray) (_hl : 0 < l.length) (hm : l.length ≤ 9223372036854775807) (cs : Array Value) (hcs : cs = ⟨l.map Value.string⟩) : Kd.C Kd.string (W.alloc (.cells cs t)) (some ⟨W.heap.size, 0, none⟩) l.length l := by
  subst hcs
  refine ⟨rfl, hm, fun _ => ⟨_, rfl, fun j p hj => ⟨[.string p], rfl, rfl, fun i u hu => ?_⟩⟩⟩
  have hi : i = 0 := by cases i with | zero => rfl | succ n => simp at hu
  subst hi
  obtain rfl : Value.string p = u := by simpa using hu
  rw [add_plain]
  refine (World.cell?_alloc_new _ _ _ _).trans ?_
  simp [Kd.string, Kd.scalar, hj]

theorem C1 (W : World) : Kd.C Kd.string (W.alloc (.cells #[.string ⟨#[49, 50, 51, 52]⟩, .string ⟨#[53, 54, 55, 56, 57]⟩] 9)).drew (some ⟨W.heap.size, 0, none⟩) 2 [⟨#[49, 50, 51, 52]⟩, ⟨#[53, 54, 55, 56, 57]⟩] :=
  C_strs W 9 [⟨#[49, 50, 51, 52]⟩, ⟨#[53, 54, 55, 56, 57]⟩] (by decide) (by decide) _ rfl
theorem C2 (W : World) : Kd.C Kd.string (W.alloc (.cells #[.string ⟨#[49, 50, 51, 52, 53, 54, 55, 56, 57]⟩] 9)) (some ⟨W.heap.size, 0, none⟩) 1 [⟨#[49, 50, 51, 52, 53, 54, 55, 56, 57]⟩] :=
  C_strs W 9 [⟨#[49, 50, 51, 52, 53, 54, 55, 56, 57]⟩] (by decide) (by decide) _ rfl
theorem ent1 : (if (1 : Nat) < 256 then ent 1 else 0) = 1996959894 := by decide +kernel

theorem f1 : crc_Sum.f [⟨#[49, 50, 51, 52]⟩, ⟨#[53, 54, 55, 56, 57]⟩] = some 3421780262 := by decide +kernel
theorem f2 : crc_Tail.f [⟨#[49, 50, 51, 52, 53, 54, 55, 56, 57]⟩] = some ⟨#[38, 57, 244, 203]⟩ := by decide +kernel
theorem f3 : crc_Step.f 9 0 1 = some 1996959894 := by decide +kernel
theorem f4 : crc_Right.f ⟨#[49, 50, 51, 52, 53, 54, 55, 56, 57, 38, 57, 244, 203]⟩ = some true := by decide +kernel
theorem f5 : crc_Right.f ⟨#[49, 50, 51, 52, 53, 54, 55, 56, 57, 38, 57, 244, 204]⟩ = some false := by decide +kernel
theorem f6 : crc_Right.f ⟨#[97, 98, 99]⟩ = some false := by decide +kernel
set_option maxHeartbeats 4000000 in
set_option maxRecDepth 100000 in
theorem alive_any (w : World) : Calls Try.prog 11 #[] w fun e w' => e = .returned (.bool true) ∧ Below w.heap.size w w' := by
  have F1 := Aside0.mk f1
  have F2 := Aside0.mk f2
  have F3 := Aside0.mk f3
  have F4 := Aside0.mk f4
  have F5 := Aside0.mk f5
  have F6 := Aside0.mk f6
  have h0 := hz
  have hsz : (Try.prog.info? 23).map (·.size) = some (tab 256).size := by rw [tab_size]; kernel_rfl
  have h1 : (tab 256).all (·.oneCell') = true := by kernel_rfl
  have hold : zs.size = (tab 256).size := by rw [tab_size]; kernel_rfl
  go_enter Try.func11, Try.ntmps11
  go_wp2_with (first
    | (go_at_call 10; refine (table_any _).mono ?_; rintro e w1 ⟨rfl, B1⟩)
    | (with_reducible refine wpList_store_row rfl 23 (.tmp 1) (.tmp 2) rfl _ (tab 256) rfl rfl 23 zs (heap_alloc_new _ _) hsz hold h1 ?_))
  clear h0 hsz h1 hold
  obtain ⟨W, hW⟩ : ∃ W, (w1.alloc (Obj.cells zs 23)).setRow w1.heap.size (tab 256) = W := ⟨_, rfl⟩
  obtain ⟨b, hbn⟩ : ∃ b, w1.heap.size = b := ⟨_, rfl⟩
  have BW : Below w.heap.size w W := by rw [← hW]; exact (below_alloc B1 _).trans ⟨rfl, rfl, rfl, by simp, fun k hk => setRow_other _ _ _ _ (by have := B1.size; omega)⟩
  have TW : W.cell? ⟨b, 1, none⟩ = some (.int .u32 1996959894) := by
    rw [← hW, ← hbn]
    exact (cell_of_row _ _ 1 _ 23 _ (setRow_heap _ _ zs (tab 256) 23 _ (heap_alloc_new w1 _))).trans (by rw [tab_get 256 1 (by omega)]; exact congrArg (fun z => some (Value.int .u32 z)) ent1)
  rw [hW, hbn]
  clear hW hbn B1
  go_region_held3 (fun w' => w'.cell? ⟨b, 1, none⟩ = some (.int .u32 1996959894) ∧ Below w.heap.size w w')
    (first
      | exact ⟨by assumption, by assumption⟩
      | exact ⟨by assumption, below_drew (by assumption)⟩
      | (go_split_ands; refine ⟨?_, ?_⟩
         · first | assumption | go_keep
         · first | assumption | exact below_drew (by assumption) | exact below_alloc (by assumption) _))
    (first
      | (go_at_call 16; obtain ⟨hc1, hB1⟩ := ‹World.cell? _ _ = _ ∧ Below _ _ _›; refine (crc_Sum.calls _ _ [⟨#[49, 50, 51, 52]⟩, ⟨#[53, 54, 55, 56, 57]⟩] 3421780262 _ (C1 _) (Nat.le_refl _) F1.out).mono ?_; rintro e w' ⟨rfl, hb⟩; have hc2 := pw_cell_below hb hc1; have hB2 := below_step hB1 hb)
      | (go_at_call 15; obtain ⟨hc1, hB1⟩ := ‹World.cell? _ _ = _ ∧ Below _ _ _›; refine (crc_Tail.calls _ _ [⟨#[49, 50, 51, 52, 53, 54, 55, 56, 57]⟩] ⟨#[38, 57, 244, 203]⟩ _ (C2 _) (Nat.le_refl _) F2.out).mono ?_; rintro e w' ⟨rfl, hb⟩; have hc2 := pw_cell_below hb hc1; have hB2 := below_step hB1 hb)
      | (go_at_call 13; obtain ⟨hc1, hB1⟩ := ‹World.cell? _ _ = _ ∧ Below _ _ _›; refine (crc_Step.calls 9 _ _ 1996959894 _ F3.out).mono ?_; rintro e w' ⟨rfl, ⟨nd, rfl⟩⟩; have hB2 := pw_below_drewN hB1 nd)
      | (go_at_call 19; obtain ⟨hc1, hB1⟩ := ‹World.cell? _ _ = _ ∧ Below _ _ _›; first
          | ((with_reducible refine (crc_Right.calls _ true _ F4.out).mono ?_); rintro e w' ⟨rfl, hb⟩; have hc2 := pw_cell_below hb hc1; have hB2 := below_step hB1 hb)
          | ((with_reducible refine (crc_Right.calls _ false _ F5.out).mono ?_); rintro e w' ⟨rfl, hb⟩; have hc2 := pw_cell_below hb hc1; have hB2 := below_step hB1 hb)
          | ((with_reducible refine (crc_Right.calls _ false _ F6.out).mono ?_); rintro e w' ⟨rfl, hb⟩; have hc2 := pw_cell_below hb hc1; have hB2 := below_step hB1 hb)))
  go_wp2
  go_ret
  exact ⟨rfl, hB2⟩
/-- what the hook of the printer asks -/
def cracknellaw04_alive.f : Option Bool := some true
theorem cracknellaw04_alive.calls (r : Bool) (w : World) (h : cracknellaw04_alive.f = some r) : Calls Try.prog 11 #[] w fun e w' => e = .returned (.bool r) ∧ Below w.heap.size w w' := by
  obtain rfl := Option.some.inj h
  exact alive_any w
end Go.Proofs.Ytgpbdfkhpkijcaa.Crc
