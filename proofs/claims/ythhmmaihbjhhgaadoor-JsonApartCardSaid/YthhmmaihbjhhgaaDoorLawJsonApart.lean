/- The row of the law JsonApart, out of its walk, and its tied card: the given statement JsonApartCardSaid. -/
import Derived.Test.YthhmmaihbjhhgaaDoorFactJsonApart
import Derived.Test.YthhmmaihbjhhgaaDoorRows
import Derived.Test.YthhmmaihbjhhgaaDoorCards
import Derived.Test.YthhmmaihbjhhgaaDoorTie
import Derived.Test.YthhmmaihbjhhgaaDoorKP6
import Derived.WalkKit
import Derived.ProofKit
import Derived.OpenShut
import Derived.ShutString
import Derived.ChangeOld
import Derived.Below
import Derived.SizedLaws
import Derived.Carry
import Derived.SevenTiedAt
import Derived.Lib.LaidIn
import Derived.Deep.DeepHandedRow
import Derived.Deep.DeepWitnessRowRef
namespace Go.Proofs.YthhmmaihbjhhgaaDoor.jsonApart
open Go.ChangeShapes Go.WideShapes Go.ChangeAt Go.RowKit Go.Proofs.YthhmmaihbjhhgaaDoorW.PrintWords Go.Proofs.YthhmmaihbjhhgaaDoorW.PrintLast Go.Proofs.YthhmmaihbjhhgaaDoorW.PrintMore Go.Lib
open Go.ChangeMaps (open_string shut_string)
set_option linter.unusedVariables false
theorem own : ownKnob Tryd.prog.godebug = none := by kernel_rfl
theorem laidOut : laidOutB Tryd.prog = true := by kernel_rfl
theorem laid_met (os : Os) : laidMet Tryd.prog Rows.jsonApartRow.laid ((LaidJ.laidWorld os).forCall (fun _ _ => 0) ⟨#[], #[.slice none 0 0, .slice none 0 0], []⟩).memory :=
  (LaidIn.of_run (l := Rows.jsonApartRow.laid) [6, 7, 5, 1, 4, 3, 0, 8, 9, 10, 11, 12, 13, 14, 15, 16, 17, 18, 19, 20] 8 (by kernel_rfl) (by kernel_rfl) (by kernel_rfl) (by kernel_rfl)).met
theorem witness_row (os : Os) {H : Type} (enc : TypeId × Value → H) :
    (OpenSpec.ofChange Rows.jsonApartSpec).preRow enc Tryd.prog Tryd.f19 Rows.jsonApartRow.domain false Rows.jsonApartRow.laid ((LaidJ.laidWorld os).forCall (fun _ _ => 0) ⟨#[], #[.slice none 0 0, .slice none 0 0], []⟩).memory #[.slice none 0 0, .slice none 0 0] := by
  have hw : (DataW.whole enc Tryd.prog ((LaidJ.laidWorld os).forCall (fun _ _ => 0) ⟨#[], #[.slice none 0 0, .slice none 0 0], []⟩).memory Tryd.f19.params.toList (OpenSpec.ofChange Rows.jsonApartSpec).vars false (#[.slice none 0 0, .slice none 0 0] : Array Value).toList 8).map (fun x => (x.1, x.2.1)) =
      some ([.nil, .nil], []) := by kernel_rfl
  obtain ⟨⟨x1, x2, x3⟩, hx, hx1⟩ := Option.map_eq_some_iff.1 hw
  simp only [Prod.mk.injEq] at hx1
  obtain ⟨rfl, rfl⟩ := hx1
  exact OpenSpec.preRow_of_cond 8 hx (by kernel_rfl) (fun k hk => by cases hk) (by kernel_rfl) (laid_met os)
set_option maxRecDepth 100000 in
set_option maxHeartbeats 4000000 in
theorem lifted (os : Os) (started : os.Started) (H : Type) (enc : TypeId × Value → H) (F : Stop.Interp) :
    ReturnsInHanded {} Tryd.checked os 19 .any ((OpenSpec.ofChange Rows.jsonApartSpec).preRow enc Tryd.prog Tryd.f19 Rows.jsonApartRow.domain false Rows.jsonApartRow.laid) (((OpenSpec.ofChange Rows.jsonApartSpec).at F).post enc Tryd.prog Tryd.f19 false true false false) := by
  refine returnsInHanded_of_row (C := Tryd.checked) (s := OpenSpec.ofChange Rows.jsonApartSpec) own started (by kernel_rfl) Tryd.func19
    (witness_row_atRef (enc := enc) (C := Tryd.checked) false (LaidJ.laidWorld os) #[.slice none 0 0, .slice none 0 0] rfl (by kernel_rfl) (by kernel_rfl) (by kernel_rfl) (witness_row os enc)) ?_
  intro W base args ds gs before hval0 hW _ _ hsz0 hL _ _
  have hsz : (DataW.weightsEach Tryd.prog (Tryd.f19.params.toList ++ Rows.jsonApartSpec.plain.varTypes Tryd.prog) (ds ++ gs)).all (· ≤ reachBytes) = true := hsz0
  have hval : ∀ (j : Nat) t v, Tryd.f19.params[j]? = some t → args[j]? = some v → Value.okWide Tryd.prog W .any base t v := hval0
  have hW' := hW
  obtain ⟨p, q, hA0, hV, rfl, hfz, hnd⟩ := hW
  have hA : DataW.TrodAll enc Tryd.prog W 0 (fun _ => true) true Tryd.f19.params.toList args.toList ds p := hA0
  rw [Tryd.params19] at hA hval hsz
  obtain ⟨v0, vs0, d0, ds0, p0, q0, hargs, rfl, rfl, h0, r0⟩ := trodAll_cons hA
  obtain ⟨v1, vs1, d1, ds1, p1, q1, rfl, rfl, rfl, h1, r1⟩ := trodAll_cons r0
  obtain ⟨rfl, rfl, rfl⟩ := trodAll_nil r1
  obtain rfl : args = #[v0, v1] := by cases args; simp_all
  obtain ⟨rfl, rfl⟩ := trodVars_none hV
  obtain ⟨a0, len0, cap0, rfl⟩ := okWide_slice Tryd.underlying47 (hval 0 47 v0 rfl rfl)
  have k0 := h0
  have lt0 : ∀ x ∈ p0, x.block < W.heap.size := by obtain ⟨m, hm⟩ := k0; exact DataW.trod_lt m _ _ _ hm
  obtain ⟨z0, w0⟩ : ∃ zs : List J1.S81, zs.length = len0 ∧ len0 ≤ cap0 ∧ Kd.C J1.k81 W a0 zs.length zs ∧ ∀ z ∈ zs, Giv.OkS z := by
    obtain ⟨fuel, hf⟩ := h0
    obtain ⟨a', l', c', zs, hcs, hl, hz, hC, hO⟩ := Giv.open_S81 Tryd.underlying47 Tryd.underlying81 (by kernel_rfl) (by kernel_rfl) (by kernel_rfl) (by kernel_rfl) (by kernel_rfl) (by kernel_rfl) (by kernel_rfl) hf
    simp [Value.cells] at hcs
    obtain ⟨rfl, rfl, rfl⟩ := hcs
    exact ⟨zs, hz, hl, by rw [hz]; exact hC, hO⟩
  obtain ⟨a1, len1, cap1, rfl⟩ := okWide_slice Tryd.underlying47 (hval 1 47 v1 rfl rfl)
  have k1 := h1
  have lt1 : ∀ x ∈ p1, x.block < W.heap.size := by obtain ⟨m, hm⟩ := k1; exact DataW.trod_lt m _ _ _ hm
  obtain ⟨z1, w1⟩ : ∃ zs : List J1.S81, zs.length = len1 ∧ len1 ≤ cap1 ∧ Kd.C J1.k81 W a1 zs.length zs ∧ ∀ z ∈ zs, Giv.OkS z := by
    obtain ⟨fuel, hf⟩ := h1
    obtain ⟨a', l', c', zs, hcs, hl, hz, hC, hO⟩ := Giv.open_S81 Tryd.underlying47 Tryd.underlying81 (by kernel_rfl) (by kernel_rfl) (by kernel_rfl) (by kernel_rfl) (by kernel_rfl) (by kernel_rfl) (by kernel_rfl) hf
    simp [Value.cells] at hcs
    obtain ⟨rfl, rfl, rfl⟩ := hcs
    exact ⟨zs, hz, hl, by rw [hz]; exact hC, hO⟩
  clear hA0 hval0 hsz0 hsz
  refine (Giv.jsonApart_walk a0 len0 cap0 z0 a1 len1 cap1 z1 W w0 w1 (LaidJ.jtabs W _ hL (.tail _ (.tail _ (.tail _ (.tail _ (.tail _ (.tail _ (.head _))))))) (.tail _ (.tail _ (.tail _ (.head _)))) (.tail _ (.tail _ (.head _))) (.tail _ (.tail _ (.tail _ (.tail _ (.tail _ (.head _)))))) (.tail _ (.tail _ (.tail _ (.tail _ (.head _)))))) ((LaidJ.jtabs W _ hL (.tail _ (.tail _ (.tail _ (.tail _ (.tail _ (.tail _ (.head _))))))) (.tail _ (.tail _ (.tail _ (.head _)))) (.tail _ (.tail _ (.head _))) (.tail _ (.tail _ (.tail _ (.tail _ (.tail _ (.head _)))))) (.tail _ (.tail _ (.tail _ (.tail _ (.head _)))))).tabs)).mono fun e W' ⟨he, bel⟩ => ?_
  subst he
  exact ⟨_, rfl, _, _, _, [], _, [], hW', trodAll_mk1 (shut_bool Tryd.underlying4 _), (trodAll_cons_mk (Below.trod laidOut (by kernel_rfl) (of_decide_eq_true (by kernel_rfl)) k0 bel lt0) (trodAll_cons_mk (Below.trod laidOut (by kernel_rfl) (of_decide_eq_true (by kernel_rfl)) k1 bel lt1) trodAll_mk0)), rfl, bel.frame _, fun h => by cases h⟩
theorem over : Rows.JsonApartSaid :=
  OpenClaim.holds_of_cond 19 Tryd.f19 rfl rfl rfl rfl rfl rfl rfl ⟨rfl, rfl, rfl, rfl, rfl⟩ rfl rfl rfl rfl rfl (by kernel_rfl) Tryd.func19 facts
    (of_decide_eq_true (by kernel_rfl)) (by unfold Func.isWrapper; rw [if_neg (of_decide_eq_false (by kernel_rfl))]; exact ⟨rfl, rfl⟩)
    (fun os started H enc _ F0 => by rw [OpenClaim.pre_eq_preRow]; exact lifted os started H enc F0)
theorem card_hw : (Rows.jsonApartRow.wfByText (OpenSpec.ofChange Rows.jsonApartSpec)) = true := by kernel_rfl
theorem card_hm : Tryd.pinned.checked.prog.mainIs = some (true, "22dc8213063933b30f37c9e785a72b3134fba76d30a0527222ee4ff2b9c5771e".toList) := by kernel_rfl
theorem card_lk : true = Tryd.pinned.checked.prog.looks [] := by kernel_rfl
theorem card_hg : false = Rows.jsonApartRow.goesBy Tryd.pinned.checked.prog := by kernel_rfl
theorem card_proved : Rows.JsonApartCardSaid :=
  Claim7.holds_tied_plain_at .later [] [.data, .data, .data, .data, .sentinel, .sentinel, .pinned] true (true, "22dc8213063933b30f37c9e785a72b3134fba76d30a0527222ee4ff2b9c5771e") true
    over (fun _ h => by cases h) card_hw (fun _ h => by cases h) jsonApart_row_tie rfl ⟨rfl, rfl⟩ card_hm rfl
    (fun f fn hf hfn => by
      obtain rfl : f = 19 := Option.some.inj ((show Tryd.prog.funcNamed "cracknel/cracknellaw08.JsonApart" = some 19 by kernel_rfl).symm.trans hf) |>.symm
      obtain rfl : fn = Tryd.f19 := (Option.some.inj (Tryd.func19.symm.trans hfn)).symm
      exact ⟨card_lk, fun j t ht => by
        rw [Tryd.params19] at ht
        have h3 : t = 47 := by
          match j, ht with
          | 0, ht => have e : 47 = t := Option.some.inj ht; exact e.symm
          | 1, ht => have e : 47 = t := Option.some.inj ht; exact e.symm
          | j + 2, ht => exact absurd ht (by simp)
        rcases h3 with rfl
        · exact (show Tryd.prog.wantsStandIn 47 = false by kernel_rfl)⟩) card_hg
end Go.Proofs.YthhmmaihbjhhgaaDoor.jsonApart
namespace Go.Proofs.YthhmmaihbjhhgaaDoor
/-- The card, under a short name, for the claim. -/
theorem jsonApart_holds : Rows.JsonApartCardSaid := jsonApart.card_proved
end Go.Proofs.YthhmmaihbjhhgaaDoor
