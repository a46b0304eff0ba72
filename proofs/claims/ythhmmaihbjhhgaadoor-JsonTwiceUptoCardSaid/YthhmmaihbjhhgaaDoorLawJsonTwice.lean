/- The row of the law JsonTwice, out of its walk, and its tied card: the given statement JsonTwiceCardSaid. -/
import Derived.Test.YthhmmaihbjhhgaaDoorFactJsonTwice
import Derived.Test.YthhmmaihbjhhgaaDoorRows
import Derived.Test.YthhmmaihbjhhgaaDoorCards
import Derived.Test.YthhmmaihbjhhgaaDoorTie
import Derived.Test.YthhmmaihbjhhgaaDoorKBJsonTwice
import Derived.WalkKit
import Derived.ProofKit
import Derived.OpenShut
import Derived.ShutString
import Derived.ChangeOld
import Derived.Below
import Derived.SizedLaws
import Derived.Carry
import Derived.SevenTiedAt
import Derived.Lib.LaidIn
import Derived.Deep.DeepHandedRow
import Derived.Deep.DeepWitnessRowRef
namespace Go.Proofs.YthhmmaihbjhhgaaDoor.jsonTwice
open Go.ChangeShapes Go.WideShapes Go.ChangeAt Go.RowKit Go.Proofs.YthhmmaihbjhhgaaDoorW.PrintWords Go.Proofs.YthhmmaihbjhhgaaDoorW.PrintLast Go.Proofs.YthhmmaihbjhhgaaDoorW.PrintMore Go.Lib
open Go.ChangeMaps (open_string shut_string)
set_option linter.unusedVariables false
theorem own : ownKnob Tryd.prog.godebug = none := by kernel_rfl
theorem laid_met (os : Os) : laidMet Tryd.prog Rows.jsonTwiceUptoRow.laid ((LaidJ.laidWorld os).forCall (fun _ _ => 0) ⟨#[], #[.string ⟨#[]⟩, .int .i64 0, .int .i64 0], []⟩).memory :=
  (LaidIn.of_run (l := Rows.jsonTwiceUptoRow.laid) [6, 7, 5, 1, 4, 3, 0, 8, 9, 10, 11, 12, 13, 14, 15, 16, 17, 18, 19, 20] 8 (by kernel_rfl) (by kernel_rfl) (by kernel_rfl) (by kernel_rfl)).met
theorem witness_row (os : Os) {H : Type} (enc : TypeId × Value → H) :
    (Rows.OpenSpec.upto Rows.jsonTwiceSpec).preRow enc Tryd.prog Tryd.f18 Rows.jsonTwiceUptoRow.domain false Rows.jsonTwiceUptoRow.laid ((LaidJ.laidWorld os).forCall (fun _ _ => 0) ⟨#[], #[.string ⟨#[]⟩, .int .i64 0, .int .i64 0], []⟩).memory #[.string ⟨#[]⟩, .int .i64 0, .int .i64 0] := by
  have hw : (DataW.whole enc Tryd.prog ((LaidJ.laidWorld os).forCall (fun _ _ => 0) ⟨#[], #[.string ⟨#[]⟩, .int .i64 0, .int .i64 0], []⟩).memory Tryd.f18.params.toList (Rows.OpenSpec.upto Rows.jsonTwiceSpec).vars false (#[.string ⟨#[]⟩, .int .i64 0, .int .i64 0] : Array Value).toList 8).map (fun x => (x.1, x.2.1)) =
      some ([.lit (.string []), .lit (.int .i64 0), .lit (.int .i64 0)], []) := by kernel_rfl
  obtain ⟨⟨x1, x2, x3⟩, hx, hx1⟩ := Option.map_eq_some_iff.1 hw
  simp only [Prod.mk.injEq] at hx1
  obtain ⟨rfl, rfl⟩ := hx1
  exact OpenSpec.preRow_of_cond 8 hx (by kernel_rfl) (fun k hk => by cases hk; kernel_rfl) (by kernel_rfl) (laid_met os)
set_option maxRecDepth 100000 in
set_option maxHeartbeats 4000000 in
theorem lifted (os : Os) (started : os.Started) (H : Type) (enc : TypeId × Value → H) (F : Stop.Interp) :
    ReturnsInHanded {} Tryd.checked os 18 .any ((Rows.OpenSpec.upto Rows.jsonTwiceSpec).preRow enc Tryd.prog Tryd.f18 Rows.jsonTwiceUptoRow.domain false Rows.jsonTwiceUptoRow.laid) (((Rows.OpenSpec.upto Rows.jsonTwiceSpec).at F).post enc Tryd.prog Tryd.f18 false true false false) := by
  refine returnsInHanded_of_row (C := Tryd.checked) (s := Rows.OpenSpec.upto Rows.jsonTwiceSpec) own started (by kernel_rfl) Tryd.func18
    (witness_row_atRef (enc := enc) (C := Tryd.checked) false (LaidJ.laidWorld os) #[.string ⟨#[]⟩, .int .i64 0, .int .i64 0] rfl (by kernel_rfl) (by kernel_rfl) (by kernel_rfl) (witness_row os enc)) ?_
  intro W base args ds gs before hval0 hW _ hcond hsz0 hL _ _
  have hsz : (DataW.weightsEach Tryd.prog (Tryd.f18.params.toList ++ Rows.jsonTwiceSpec.plain.varTypes Tryd.prog) (ds ++ gs)).all (· ≤ reachBytes) = true := hsz0
  have hval : ∀ (j : Nat) t v, Tryd.f18.params[j]? = some t → args[j]? = some v → Value.okWide Tryd.prog W .any base t v := hval0
  have hW' := hW
  obtain ⟨p, q, hA0, hV, rfl, hfz, hnd⟩ := hW
  have hA : DataW.TrodAll enc Tryd.prog W 0 (fun _ => true) true Tryd.f18.params.toList args.toList ds p := hA0
  rw [Tryd.params18] at hA hval hsz
  obtain ⟨v0, vs0, d0, ds0, p0, q0, hargs, rfl, rfl, h0, r0⟩ := trodAll_cons hA
  obtain ⟨v1, vs1, d1, ds1, p1, q1, rfl, rfl, rfl, h1, r1⟩ := trodAll_cons r0
  obtain ⟨v2, vs2, d2, ds2, p2, q2, rfl, rfl, rfl, h2, r2⟩ := trodAll_cons r1
  obtain ⟨rfl, rfl, rfl⟩ := trodAll_nil r2
  obtain rfl : args = #[v0, v1, v2] := by cases args; simp_all
  obtain ⟨rfl, rfl⟩ := trodVars_none hV
  obtain ⟨a0, rfl, rfl, rfl, y0⟩ := open_string Tryd.underlying9 (hval 0 9 v0 rfl rfl) h0
  have w0 : a0.size ≤ 140737488351232 := by
    have z := sized_string hsz (j := 0) (t := 9) rfl rfl
    rw [Array.length_toList] at z
    exact z
  obtain ⟨a1, rfl, rfl, rfl, w1⟩ := open_int Tryd.underlying3 (hval 1 3 v1 rfl rfl) h1
  obtain ⟨a2, rfl, rfl, rfl, w2⟩ := open_int Tryd.underlying3 (hval 2 3 v2 rfl rfl) h2
  have hu := of_decide_eq_true (hcond _ rfl)
  simp only [List.append_nil, Rows.uptoBulkAll, Rows.uptoBulk, Array.length_toList] at hu
  have b0 : a0.size ≤ 1048576 := by have : a0.data.size = a0.size := rfl; omega
  clear hA0 hval0 hsz0 hsz
  refine (Giv.jsonTwice_walk a0 a1 a2 W b0 w1 w2 (LaidJ.jtabs W _ hL (.tail _ (.tail _ (.tail _ (.tail _ (.tail _ (.tail _ (.head _))))))) (.tail _ (.tail _ (.tail _ (.head _)))) (.tail _ (.tail _ (.head _))) (.tail _ (.tail _ (.tail _ (.tail _ (.tail _ (.head _)))))) (.tail _ (.tail _ (.tail _ (.tail _ (.head _)))))) ((LaidJ.jtabs W _ hL (.tail _ (.tail _ (.tail _ (.tail _ (.tail _ (.tail _ (.head _))))))) (.tail _ (.tail _ (.tail _ (.head _)))) (.tail _ (.tail _ (.head _))) (.tail _ (.tail _ (.tail _ (.tail _ (.tail _ (.head _)))))) (.tail _ (.tail _ (.tail _ (.tail _ (.head _)))))).tabs)).mono fun e W' ⟨he, bel⟩ => ?_
  subst he
  exact ⟨_, rfl, _, _, _, [], _, [], hW', trodAll_mk1 (shut_bool Tryd.underlying4 _), (trodAll_cons_mk (shut_string Tryd.underlying9 y0) (trodAll_cons_mk (shut_int Tryd.underlying3 w1) (trodAll_cons_mk (shut_int Tryd.underlying3 w2) trodAll_mk0))), rfl, bel.frame _, fun h => by cases h⟩
theorem over : Rows.JsonTwiceUptoSaid :=
  OpenClaim.holds_of_cond 18 Tryd.f18 rfl rfl rfl rfl rfl rfl rfl ⟨rfl, rfl, rfl, rfl, rfl⟩ rfl rfl rfl rfl rfl (by kernel_rfl) Tryd.func18 facts
    (of_decide_eq_true (by kernel_rfl)) (by unfold Func.isWrapper; rw [if_neg (of_decide_eq_false (by kernel_rfl))]; exact ⟨rfl, rfl⟩)
    (fun os started H enc _ F0 => by rw [OpenClaim.pre_eq_preRow]; exact lifted os started H enc F0)
theorem card_hw : (Rows.jsonTwiceUptoRow.wfByText (Rows.OpenSpec.upto Rows.jsonTwiceSpec)) = true := by kernel_rfl
theorem card_hm : Tryd.pinned.checked.prog.mainIs = some (true, "22dc8213063933b30f37c9e785a72b3134fba76d30a0527222ee4ff2b9c5771e".toList) := by kernel_rfl
theorem card_lk : true = Tryd.pinned.checked.prog.looks [] := by kernel_rfl
theorem card_hg : false = Rows.jsonTwiceUptoRow.goesBy Tryd.pinned.checked.prog := by kernel_rfl
theorem card_proved : Rows.JsonTwiceUptoCardSaid :=
  Claim7.holds_tied_plain_at .later [] [.data, .data, .data, .data, .sentinel, .sentinel, .pinned] true (true, "22dc8213063933b30f37c9e785a72b3134fba76d30a0527222ee4ff2b9c5771e") true
    over (fun _ h => by cases h) card_hw (fun _ h => by cases h) jsonTwiceUpto_row_tie rfl ⟨rfl, rfl⟩ card_hm rfl
    (fun f fn hf hfn => by
      obtain rfl : f = 18 := Option.some.inj ((show Tryd.prog.funcNamed "cracknel/cracknellaw08.JsonTwice" = some 18 by kernel_rfl).symm.trans hf) |>.symm
      obtain rfl : fn = Tryd.f18 := (Option.some.inj (Tryd.func18.symm.trans hfn)).symm
      exact ⟨card_lk, fun j t ht => by
        rw [Tryd.params18] at ht
        have h3 : t = 3 ∨ t = 9 := by
          match j, ht with
          | 0, ht => have e : 9 = t := Option.some.inj ht; exact Or.inr (e.symm)
          | 1, ht => have e : 3 = t := Option.some.inj ht; exact Or.inl e.symm
          | 2, ht => have e : 3 = t := Option.some.inj ht; exact Or.inl e.symm
          | j + 3, ht => exact absurd ht (by simp)
        rcases h3 with rfl | rfl
        · exact (show Tryd.prog.wantsStandIn 3 = false by kernel_rfl)
        · exact (show Tryd.prog.wantsStandIn 9 = false by kernel_rfl)⟩) card_hg
end Go.Proofs.YthhmmaihbjhhgaaDoor.jsonTwice
namespace Go.Proofs.YthhmmaihbjhhgaaDoor
/-- The card, under a short name, for the claim. -/
theorem jsonTwice_holds : Rows.JsonTwiceUptoCardSaid := jsonTwice.card_proved
end Go.Proofs.YthhmmaihbjhhgaaDoor
