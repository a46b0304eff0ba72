/- QuoteApart in plain bytes. -/
import Derived.Test.YthhmmaihbjhhgaaDoorQuoY
import Derived.Test.YthhmmaihbjhhgaaDoorQ2x2
namespace Go.Proofs.YthhmmaihbjhhgaaDoor.Giv
open Go.RowKit Go.Proofs.YthhmmaihbjhhgaaDoorW.PrintWords Go.Proofs.YthhmmaihbjhhgaaDoorW.PrintLast Go.Proofs.YthhmmaihbjhhgaaDoorW.PrintMore
open Go.Proofs.YthhmmaihbjhhgaaDoor.U1 Go.Proofs.YthhmmaihbjhhgaaDoor.Q1 Go.Proofs.YthhmmaihbjhhgaaDoor.Q2

theorem apart_l0 (a b x5 x7 : ByteArray) (x6 x8 : Bool) (hlow : ∀ i : Nat, i < x5.size → 32 ≤ bt x5 (i : Int)) (hz : x5.size ≤ 1000000) : ∀ (n k i : Nat), x5.size - i = n → i ≤ x5.size → n + 25 < k →
    cracknellaw07_QuoteApart.l0 k a b x5 x6 x7 x8 (x5.size : Int) (i : Int) = some (if x6 = true then (if x8 = true then ((x5.toList == x7.toList) == (a.toList == b.toList)) else true) else true)
  | 0, k, i, h1, h2, h3 => by
    obtain ⟨k, rfl⟩ : ∃ m, k = m + 1 := ⟨k - 1, by omega⟩
    simp only [cracknellaw07_QuoteApart.l0]
    rw [if_neg (by omega), alive07 _ (by omega), Option.bind_some, if_pos (by first | rfl | trivial)]
    split
    · split <;> rfl
    · rfl
  | n + 1, k, i, h1, h2, h3 => by
    obtain ⟨k, rfl⟩ : ∃ m, k = m + 1 := ⟨k - 1, by omega⟩
    have hl := hlow i (by omega)
    simp only [cracknellaw07_QuoteApart.l0]
    rw [if_pos (by omega), if_pos (by omega), if_pos (by omega), if_neg (by omega), w64 (by omega) (by omega), show (i : Int) + 1 = ((i + 1 : Nat) : Int) by omega]
    exact apart_l0 a b x5 x7 x6 x8 hlow hz n k (i + 1) (by omega) (by omega) (by omega)
theorem QuoteApart : cracknellaw07_QuoteApart.Pure := by
  intro a b ha hb
  refine ⟨5001, ?_⟩
  unfold cracknellaw07_QuoteApart.f
  have out : cracknellaw07_QuoteApart.j0 5001 a b true = some true := by
    simp only [cracknellaw07_QuoteApart.j0]
    rw [if_pos (by first | rfl | trivial), alive07 _ (by omega)]; rfl
  by_cases hl : a.size > 300
  · rw [if_pos (by omega), out]
  · rw [if_neg (by omega)]
    by_cases hm : b.size > 300
    · rw [decide_eq_true (by omega), out]
    · have hs := writeS_size a
      rw [decide_eq_false (by omega)]
      simp only [cracknellaw07_QuoteApart.j0]
      rw [if_neg (by first | decide | exact fun h => h), write_f a (by omega), write_f b (by omega), Option.bind_some, Option.bind_some, show (0 : Int) = ((0 : Nat) : Int) from rfl,
        apart_l0 a b (writeS a).1 (writeS b).1 (writeS a).2 (writeS b).2 (fun i hi => writeS_low a i hi) (by omega) _ 5000 0 rfl (by omega) (by omega)]
      congr 1
      by_cases va : Lib.validD a.data.toList = true
      · by_cases vb : Lib.validD b.data.toList = true
        · rw [writeS_yes a va, writeS_yes b vb]
          simp only
          rw [if_pos (by first | rfl | trivial), if_pos (by first | rfl | trivial), Lib.toList_data, Lib.toList_data, Lib.toList_data, Lib.toList_data, quoted_list, quoted_list, beq_iff_eq, Bool.eq_iff_iff, beq_iff_eq, beq_iff_eq]
          constructor
          · intro e; rw [quoted_eq a b va vb e]
          · intro e; rw [e]
        · rw [writeS_no b vb]; simp
      · rw [writeS_no a va]; simp only; rw [if_neg (by first | decide | exact fun h => h)]
end Go.Proofs.YthhmmaihbjhhgaaDoor.Giv
