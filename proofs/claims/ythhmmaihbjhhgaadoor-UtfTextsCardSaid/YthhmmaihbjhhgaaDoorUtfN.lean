/- The laws' own check of chapter 05 holds; UtfPuts and UtfOrders in plain numbers and bytes. -/
import Derived.Test.YthhmmaihbjhhgaaDoorUtfM
import Derived.Test.YthhmmaihbjhhgaaDoorU2x1
import Derived.OpenShut
namespace Go.Proofs.YthhmmaihbjhhgaaDoor.Giv
open Go.RowKit Go.Proofs.YthhmmaihbjhhgaaDoorW.PrintWords Go.Proofs.YthhmmaihbjhhgaaDoorW.PrintLast Go.Proofs.YthhmmaihbjhhgaaDoorW.PrintMore
open Go.Proofs.YthhmmaihbjhhgaaDoor.U1 Go.Proofs.YthhmmaihbjhhgaaDoor.U2

set_option maxRecDepth 100000 in
theorem alive1 : cracknellaw05_alive.f 1 = some true := by decide +kernel
theorem alive05 (k : Nat) (hk : 1 ≤ k) : cracknellaw05_alive.f k = some true := at_rounds cracknellaw05_alive.mono hk alive1
theorem UtfPuts : cracknellaw05_UtfPuts.Pure := by
  intro a0 a1 w0 w1
  have b0 := bounds_i64 w0
  refine ⟨1, ?_⟩
  unfold cracknellaw05_UtfPuts.f
  have hsz : (putS a0).1.size ≤ 4 := by
    unfold putS; split
    · have := encode_size a0; rename_i h; rw [encode_enc a0 h] at this; exact this
    · exact Nat.zero_le _
  rw [put_S 1 a0 (by decide), refPut, Option.bind_some, Option.bind_some, if_pos (by omega), take_S, Option.bind_some, alive05 1 (by decide), Option.bind_some, if_pos rfl, if_pos rfl, if_pos (by simp)]
  by_cases h : letterB a0 = true
  · obtain ⟨h0, h1, h2⟩ := (letter_iff a0).1 h
    obtain ⟨n, rfl⟩ : ∃ n : Nat, a0 = n := ⟨a0.toNat, by omega⟩
    have hp : putS (n : Int) = (⟨(enc (n : Int)).toArray⟩, true) := by unfold putS; rw [if_pos h]
    have ht : takeS ((putS (n : Int)).1 ++ a1) = ((n : Int), ((enc (n : Int)).length : Int), true) := by
      unfold takeS
      rw [hp, ByteArray.data_append, Array.toList_append]
      show (match tk (enc (n : Int) ++ a1.data.toList) with | none => ((0 : Int), (0 : Int), false) | some (r, n) => ((r : Int), (n : Int), true)) = _
      rw [tk_enc n h]
    rw [ht, hp]
    rw [if_pos rfl, if_pos rfl, if_pos rfl]
    congr 1
    rw [beq_iff_eq]
    show ((enc (n : Int)).length : Int) = (((enc (n : Int)).toArray.size : Nat) : Int)
    rw [List.size_toArray]
  · have hp : putS a0 = (⟨#[]⟩, false) := by unfold putS; rw [if_neg h]
    rw [hp, if_neg (by decide)]
end Go.Proofs.YthhmmaihbjhhgaaDoor.Giv
