/- The row of the law JsonParses, out of its walk, and its tied card: the given statement JsonParsesCardSaid. -/
import Derived.Test.YthhmmaihbjhhgaaGreatDoorFactJsonParses
import Derived.Test.YthhmmaihbjhhgaaGreatDoorRows
import Derived.Test.YthhmmaihbjhhgaaGreatDoorCards
import Derived.Test.YthhmmaihbjhhgaaGreatDoorTie
import Derived.Test.YthhmmaihbjhhgaaGreatDoorKY7
import Derived.WalkKit
import Derived.ProofKit
import Derived.OpenShut
import Derived.ShutString
import Derived.ChangeOld
import Derived.Below
import Derived.SizedLaws
import Derived.Carry
import Derived.SevenTiedAt
import Derived.Lib.LaidIn
import Derived.Deep.DeepHandedRow
import Derived.Deep.DeepWitnessRowRef
namespace Go.Proofs.YthhmmaihbjhhgaaGreatDoor.jsonParses
open Go.ChangeShapes Go.WideShapes Go.ChangeAt Go.RowKit Go.Proofs.Wa Go.Proofs.Wb Go.Proofs.Wc Go.Lib
open Go.ChangeMaps (open_string shut_string)
set_option linter.unusedVariables false
theorem own : ownKnob Tryz.prog.godebug = none := by kernel_rfl
theorem laid_met (os : Os) : laidMet Tryz.prog Rows.jsonParsesRow.laid ((LaidJ.laidWorld os).forCall (fun _ _ => 0) ⟨#[], #[.string ⟨#[]⟩], []⟩).memory :=
  (LaidIn.of_run (l := Rows.jsonParsesRow.laid) [6, 7, 3, 1, 5, 4, 0, 8, 9, 10, 11, 12, 13, 14, 15, 16, 17, 18, 19, 20] 8 (by kernel_rfl) (by kernel_rfl) (by kernel_rfl) (by kernel_rfl)).met
theorem witness_row (os : Os) {H : Type} (enc : TypeId × Value → H) :
    (OpenSpec.ofChange Rows.jsonParsesSpec).preRow enc Tryz.prog Tryz.f4 Rows.jsonParsesRow.domain false Rows.jsonParsesRow.laid ((LaidJ.laidWorld os).forCall (fun _ _ => 0) ⟨#[], #[.string ⟨#[]⟩], []⟩).memory #[.string ⟨#[]⟩] := by
  have hw : (DataW.whole enc Tryz.prog ((LaidJ.laidWorld os).forCall (fun _ _ => 0) ⟨#[], #[.string ⟨#[]⟩], []⟩).memory Tryz.f4.params.toList (OpenSpec.ofChange Rows.jsonParsesSpec).vars false (#[.string ⟨#[]⟩] : Array Value).toList 8).map (fun x => (x.1, x.2.1)) =
      some ([.lit (.string [])], []) := by kernel_rfl
  obtain ⟨⟨x1, x2, x3⟩, hx, hx1⟩ := Option.map_eq_some_iff.1 hw
  simp only [Prod.mk.injEq] at hx1
  obtain ⟨rfl, rfl⟩ := hx1
  exact OpenSpec.preRow_of_cond 8 hx (by kernel_rfl) (fun k hk => by cases hk) (by kernel_rfl) (laid_met os)
set_option maxRecDepth 100000 in
set_option maxHeartbeats 4000000 in
theorem lifted (os : Os) (started : os.Started) (H : Type) (enc : TypeId × Value → H) (F : Stop.Interp) :
    ReturnsInHanded {} Tryz.checked os 4 .any ((OpenSpec.ofChange Rows.jsonParsesSpec).preRow enc Tryz.prog Tryz.f4 Rows.jsonParsesRow.domain false Rows.jsonParsesRow.laid) (((OpenSpec.ofChange Rows.jsonParsesSpec).at F).post enc Tryz.prog Tryz.f4 false true false false) := by
  refine returnsInHanded_of_row (C := Tryz.checked) (s := OpenSpec.ofChange Rows.jsonParsesSpec) own started (by kernel_rfl) Tryz.func4
    (witness_row_atRef (enc := enc) (C := Tryz.checked) false (LaidJ.laidWorld os) #[.string ⟨#[]⟩] rfl (by kernel_rfl) (by kernel_rfl) (by kernel_rfl) (witness_row os enc)) ?_
  intro W base args ds gs before hval0 hW _ _ hsz0 hL _ _
  have hsz : (DataW.weightsEach Tryz.prog (Tryz.f4.params.toList ++ Rows.jsonParsesSpec.plain.varTypes Tryz.prog) (ds ++ gs)).all (· ≤ reachBytes) = true := hsz0
  have hval : ∀ (j : Nat) t v, Tryz.f4.params[j]? = some t → args[j]? = some v → Value.okWide Tryz.prog W .any base t v := hval0
  have hW' := hW
  obtain ⟨p, q, hA0, hV, rfl, hfz, hnd⟩ := hW
  have hA : DataW.TrodAll enc Tryz.prog W 0 (fun _ => true) true Tryz.f4.params.toList args.toList ds p := hA0
  rw [Tryz.params4] at hA hval hsz
  obtain ⟨v0, vs0, d0, ds0, p0, q0, hargs, rfl, rfl, h0, r0⟩ := trodAll_cons hA
  obtain ⟨rfl, rfl, rfl⟩ := trodAll_nil r0
  obtain rfl : args = #[v0] := by cases args; simp_all
  obtain ⟨rfl, rfl⟩ := trodVars_none hV
  obtain ⟨a0, rfl, rfl, rfl, y0⟩ := open_string Tryz.underlying9 (hval 0 9 v0 rfl rfl) h0
  have w0 : a0.size ≤ 140737488351232 := by
    have z := sized_string hsz (j := 0) (t := 9) rfl rfl
    rw [Array.length_toList] at z
    exact z
  clear hA0 hval0 hsz0 hsz
  refine (NGiv.jsonParses_walk a0 W w0 (LaidJ.jtabs W _ hL (.tail _ (.tail _ (.tail _ (.tail _ (.tail _ (.tail _ (.head _))))))) (.tail _ (.tail _ (.tail _ (.head _)))) (.tail _ (.tail _ (.head _))) (.tail _ (.tail _ (.tail _ (.tail _ (.tail _ (.head _)))))) (.tail _ (.tail _ (.tail _ (.tail _ (.head _)))))) ((LaidJ.jtabs W _ hL (.tail _ (.tail _ (.tail _ (.tail _ (.tail _ (.tail _ (.head _))))))) (.tail _ (.tail _ (.tail _ (.head _)))) (.tail _ (.tail _ (.head _))) (.tail _ (.tail _ (.tail _ (.tail _ (.tail _ (.head _)))))) (.tail _ (.tail _ (.tail _ (.tail _ (.head _)))))).tabs)).mono fun e W' ⟨he, bel⟩ => ?_
  subst he
  exact ⟨_, rfl, _, _, _, [], _, [], hW', trodAll_mk1 (shut_bool Tryz.underlying4 _), (trodAll_cons_mk (shut_string Tryz.underlying9 y0) trodAll_mk0), rfl, bel.frame _, fun h => by cases h⟩
theorem over : Rows.JsonParsesSaid :=
  OpenClaim.holds_of_cond 4 Tryz.f4 rfl rfl rfl rfl rfl rfl rfl ⟨rfl, rfl, rfl, rfl, rfl⟩ rfl rfl rfl rfl rfl (by kernel_rfl) Tryz.func4 facts
    (of_decide_eq_true (by kernel_rfl)) (by unfold Func.isWrapper; rw [if_neg (of_decide_eq_false (by kernel_rfl))]; exact ⟨rfl, rfl⟩)
    (fun os started H enc _ F0 => by rw [OpenClaim.pre_eq_preRow]; exact lifted os started H enc F0)
theorem card_hw : (Rows.jsonParsesRow.wfByText (OpenSpec.ofChange Rows.jsonParsesSpec)) = true := by kernel_rfl
theorem card_hm : Tryz.pinned.checked.prog.mainIs = some (true, "af924fa517dbebd94df16b44882bc77858e2fa005954f5021103f9c44084cb80".toList) := by kernel_rfl
theorem card_lk : true = Tryz.pinned.checked.prog.looks [] := by kernel_rfl
theorem card_hg : false = Rows.jsonParsesRow.goesBy Tryz.pinned.checked.prog := by kernel_rfl
theorem card_proved : Rows.JsonParsesCardSaid :=
  Claim7.holds_tied_plain_at .later [] [.data, .data, .data, .data, .sentinel, .sentinel, .pinned] true (true, "af924fa517dbebd94df16b44882bc77858e2fa005954f5021103f9c44084cb80") true
    over (fun _ h => by cases h) card_hw (fun _ h => by cases h) jsonParses_row_tie rfl ⟨rfl, rfl⟩ card_hm rfl
    (fun f fn hf hfn => by
      obtain rfl : f = 4 := Option.some.inj ((show Tryz.prog.funcNamed "cracknel/cracknellaw08.JsonParses" = some 4 by kernel_rfl).symm.trans hf) |>.symm
      obtain rfl : fn = Tryz.f4 := (Option.some.inj (Tryz.func4.symm.trans hfn)).symm
      exact ⟨card_lk, fun j t ht => by
        rw [Tryz.params4] at ht
        have h3 : t = 9 := by
          match j, ht with
          | 0, ht => have e : 9 = t := Option.some.inj ht; exact e.symm
          | j + 1, ht => exact absurd ht (by simp)
        rcases h3 with rfl
        · exact (show Tryz.prog.wantsStandIn 9 = false by kernel_rfl)⟩) card_hg
end Go.Proofs.YthhmmaihbjhhgaaGreatDoor.jsonParses
namespace Go.Proofs.YthhmmaihbjhhgaaGreatDoor
/-- The card, under a short name, for the claim. -/
theorem jsonParses_holds : Rows.JsonParsesCardSaid := jsonParses.card_proved
end Go.Proofs.YthhmmaihbjhhgaaGreatDoor
