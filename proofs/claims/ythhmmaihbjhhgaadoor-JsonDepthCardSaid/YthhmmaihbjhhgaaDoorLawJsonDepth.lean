/- The row of the law JsonDepth, out of its walk, and its tied card: the given statement JsonDepthCardSaid. -/
import Derived.Test.YthhmmaihbjhhgaaDoorFactJsonDepth
import Derived.Test.YthhmmaihbjhhgaaDoorRows
import Derived.Test.YthhmmaihbjhhgaaDoorCards
import Derived.Test.YthhmmaihbjhhgaaDoorTie
import Derived.Test.YthhmmaihbjhhgaaDoorKBJsonDepth
import Derived.WalkKit
import Derived.ProofKit
import Derived.OpenShut
import Derived.ShutString
import Derived.ChangeOld
import Derived.Below
import Derived.SizedLaws
import Derived.Carry
import Derived.SevenTiedAt
import Derived.Lib.LaidIn
import Derived.Deep.DeepHandedRow
import Derived.Deep.DeepWitnessRowRef
namespace Go.Proofs.YthhmmaihbjhhgaaDoor.jsonDepth
open Go.ChangeShapes Go.WideShapes Go.ChangeAt Go.RowKit Go.Proofs.YthhmmaihbjhhgaaDoorW.PrintWords Go.Proofs.YthhmmaihbjhhgaaDoorW.PrintLast Go.Proofs.YthhmmaihbjhhgaaDoorW.PrintMore Go.Lib
open Go.ChangeMaps (open_string shut_string)
set_option linter.unusedVariables false
theorem own : ownKnob Tryd.prog.godebug = none := by kernel_rfl
theorem laid_met (os : Os) : laidMet Tryd.prog Rows.jsonDepthRow.laid ((LaidJ.laidWorld os).forCall (fun _ _ => 0) ⟨#[], #[.int .i64 0, .bool false], []⟩).memory :=
  (LaidIn.of_run (l := Rows.jsonDepthRow.laid) [6, 7, 5, 1, 4, 3, 0, 8, 9, 10, 11, 12, 13, 14, 15, 16, 17, 18, 19, 20] 8 (by kernel_rfl) (by kernel_rfl) (by kernel_rfl) (by kernel_rfl)).met
theorem witness_row (os : Os) {H : Type} (enc : TypeId × Value → H) :
    (OpenSpec.ofChange Rows.jsonDepthSpec).preRow enc Tryd.prog Tryd.f20 Rows.jsonDepthRow.domain false Rows.jsonDepthRow.laid ((LaidJ.laidWorld os).forCall (fun _ _ => 0) ⟨#[], #[.int .i64 0, .bool false], []⟩).memory #[.int .i64 0, .bool false] := by
  have hw : (DataW.whole enc Tryd.prog ((LaidJ.laidWorld os).forCall (fun _ _ => 0) ⟨#[], #[.int .i64 0, .bool false], []⟩).memory Tryd.f20.params.toList (OpenSpec.ofChange Rows.jsonDepthSpec).vars false (#[.int .i64 0, .bool false] : Array Value).toList 8).map (fun x => (x.1, x.2.1)) =
      some ([.lit (.int .i64 0), .lit (.bool false)], []) := by kernel_rfl
  obtain ⟨⟨x1, x2, x3⟩, hx, hx1⟩ := Option.map_eq_some_iff.1 hw
  simp only [Prod.mk.injEq] at hx1
  obtain ⟨rfl, rfl⟩ := hx1
  exact OpenSpec.preRow_of_cond 8 hx (by kernel_rfl) (fun k hk => by cases hk) (by kernel_rfl) (laid_met os)
set_option maxRecDepth 100000 in
set_option maxHeartbeats 4000000 in
theorem lifted (os : Os) (started : os.Started) (H : Type) (enc : TypeId × Value → H) (F : Stop.Interp) :
    ReturnsInHanded {} Tryd.checked os 20 .any ((OpenSpec.ofChange Rows.jsonDepthSpec).preRow enc Tryd.prog Tryd.f20 Rows.jsonDepthRow.domain false Rows.jsonDepthRow.laid) (((OpenSpec.ofChange Rows.jsonDepthSpec).at F).post enc Tryd.prog Tryd.f20 false true false false) := by
  refine returnsInHanded_of_row (C := Tryd.checked) (s := OpenSpec.ofChange Rows.jsonDepthSpec) own started (by kernel_rfl) Tryd.func20
    (witness_row_atRef (enc := enc) (C := Tryd.checked) false (LaidJ.laidWorld os) #[.int .i64 0, .bool false] rfl (by kernel_rfl) (by kernel_rfl) (by kernel_rfl) (witness_row os enc)) ?_
  intro W base args ds gs before hval0 hW _ _ hsz0 hL _ _
  have hsz : (DataW.weightsEach Tryd.prog (Tryd.f20.params.toList ++ Rows.jsonDepthSpec.plain.varTypes Tryd.prog) (ds ++ gs)).all (· ≤ reachBytes) = true := hsz0
  have hval : ∀ (j : Nat) t v, Tryd.f20.params[j]? = some t → args[j]? = some v → Value.okWide Tryd.prog W .any base t v := hval0
  have hW' := hW
  obtain ⟨p, q, hA0, hV, rfl, hfz, hnd⟩ := hW
  have hA : DataW.TrodAll enc Tryd.prog W 0 (fun _ => true) true Tryd.f20.params.toList args.toList ds p := hA0
  rw [Tryd.params20] at hA hval hsz
  obtain ⟨v0, vs0, d0, ds0, p0, q0, hargs, rfl, rfl, h0, r0⟩ := trodAll_cons hA
  obtain ⟨v1, vs1, d1, ds1, p1, q1, rfl, rfl, rfl, h1, r1⟩ := trodAll_cons r0
  obtain ⟨rfl, rfl, rfl⟩ := trodAll_nil r1
  obtain rfl : args = #[v0, v1] := by cases args; simp_all
  obtain ⟨rfl, rfl⟩ := trodVars_none hV
  obtain ⟨a0, rfl, rfl, rfl, w0⟩ := open_int Tryd.underlying3 (hval 0 3 v0 rfl rfl) h0
  obtain ⟨a1, rfl, rfl, rfl⟩ := open_bool Tryd.underlying4 (hval 1 4 v1 rfl rfl) h1
  clear hA0 hval0 hsz0 hsz
  refine (Giv.jsonDepth_walk a0 a1 W w0 (LaidJ.jtabs W _ hL (.tail _ (.tail _ (.tail _ (.tail _ (.tail _ (.tail _ (.head _))))))) (.tail _ (.tail _ (.tail _ (.head _)))) (.tail _ (.tail _ (.head _))) (.tail _ (.tail _ (.tail _ (.tail _ (.tail _ (.head _)))))) (.tail _ (.tail _ (.tail _ (.tail _ (.head _)))))) ((LaidJ.jtabs W _ hL (.tail _ (.tail _ (.tail _ (.tail _ (.tail _ (.tail _ (.head _))))))) (.tail _ (.tail _ (.tail _ (.head _)))) (.tail _ (.tail _ (.head _))) (.tail _ (.tail _ (.tail _ (.tail _ (.tail _ (.head _)))))) (.tail _ (.tail _ (.tail _ (.tail _ (.head _)))))).tabs)).mono fun e W' ⟨he, bel⟩ => ?_
  subst he
  exact ⟨_, rfl, _, _, _, [], _, [], hW', trodAll_mk1 (shut_bool Tryd.underlying4 _), (trodAll_cons_mk (shut_int Tryd.underlying3 w0) (trodAll_cons_mk (shut_bool Tryd.underlying4 _) trodAll_mk0)), rfl, bel.frame _, fun h => by cases h⟩
theorem over : Rows.JsonDepthSaid :=
  OpenClaim.holds_of_cond 20 Tryd.f20 rfl rfl rfl rfl rfl rfl rfl ⟨rfl, rfl, rfl, rfl, rfl⟩ rfl rfl rfl rfl rfl (by kernel_rfl) Tryd.func20 facts
    (of_decide_eq_true (by kernel_rfl)) (by unfold Func.isWrapper; rw [if_neg (of_decide_eq_false (by kernel_rfl))]; exact ⟨rfl, rfl⟩)
    (fun os started H enc _ F0 => by rw [OpenClaim.pre_eq_preRow]; exact lifted os started H enc F0)
theorem card_hw : (Rows.jsonDepthRow.wfByText (OpenSpec.ofChange Rows.jsonDepthSpec)) = true := by kernel_rfl
theorem card_hm : Tryd.pinned.checked.prog.mainIs = some (true, "22dc8213063933b30f37c9e785a72b3134fba76d30a0527222ee4ff2b9c5771e".toList) := by kernel_rfl
theorem card_lk : true = Tryd.pinned.checked.prog.looks [] := by kernel_rfl
theorem card_hg : false = Rows.jsonDepthRow.goesBy Tryd.pinned.checked.prog := by kernel_rfl
theorem card_proved : Rows.JsonDepthCardSaid :=
  Claim7.holds_tied_plain_at .later [] [.data, .data, .data, .data, .sentinel, .sentinel, .pinned] true (true, "22dc8213063933b30f37c9e785a72b3134fba76d30a0527222ee4ff2b9c5771e") true
    over (fun _ h => by cases h) card_hw (fun _ h => by cases h) jsonDepth_row_tie rfl ⟨rfl, rfl⟩ card_hm rfl
    (fun f fn hf hfn => by
      obtain rfl : f = 20 := Option.some.inj ((show Tryd.prog.funcNamed "cracknel/cracknellaw08.JsonDepth" = some 20 by kernel_rfl).symm.trans hf) |>.symm
      obtain rfl : fn = Tryd.f20 := (Option.some.inj (Tryd.func20.symm.trans hfn)).symm
      exact ⟨card_lk, fun j t ht => by
        rw [Tryd.params20] at ht
        have h3 : t = 3 ∨ t = 4 := by
          match j, ht with
          | 0, ht => have e : 3 = t := Option.some.inj ht; exact Or.inl e.symm
          | 1, ht => have e : 4 = t := Option.some.inj ht; exact Or.inr (e.symm)
          | j + 2, ht => exact absurd ht (by simp)
        rcases h3 with rfl | rfl
        · exact (show Tryd.prog.wantsStandIn 3 = false by kernel_rfl)
        · exact (show Tryd.prog.wantsStandIn 4 = false by kernel_rfl)⟩) card_hg
end Go.Proofs.YthhmmaihbjhhgaaDoor.jsonDepth
namespace Go.Proofs.YthhmmaihbjhhgaaDoor
/-- The card, under a short name, for the claim. -/
theorem jsonDepth_holds : Rows.JsonDepthCardSaid := jsonDepth.card_proved
end Go.Proofs.YthhmmaihbjhhgaaDoor
