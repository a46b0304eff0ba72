/- CrcSums: the sum of any text, and its bytes, are what the reference says; with them behind it, it is right: any text. -/
import Derived.Test.YtgpbdfkhpkijcaaQCrcSumsx1
import Derived.Test.YtgpbdfkhpkijcaaCrcN
namespace Go.Proofs.Ytgpbdfkhpkijcaa.Pure
open Go.RowKit Go.Proofs.Ytgpbdfkhpkijcaa.QCrcSums Go.Proofs.Ytgpbdfkhpkijcaa.Crc Go.Proofs.YtgpbdfkhpkijcaaW.PrintWords Go.Proofs.YtgpbdfkhpkijcaaW.PrintLast

theorem tail_size (n : Nat) : (tailN n).size = 4 := by unfold tailN; rw [strOfNums_size]; rfl
theorem right_gen (x t : ByteArray) (hx : x.size < 2 ^ 50) (ht : t.size = 4) (h : tailN (sumN x.data.toList) = t) : S1.crc_Right.f (x ++ t) = some true := by
  have hsz : (x ++ t).size = x.size + 4 := by rw [ByteArray.size_append, ht]
  have e1 : (x ++ t).extract 0 ((x ++ t).size - 4) = x := by
    rw [hsz]; exact ByteArray.extract_append_eq_left (by omega)
  have e2 : (x ++ t).extract ((x ++ t).size - 4) (x ++ t).size = t := by
    rw [hsz]; exact ByteArray.extract_append_eq_right (by omega) (by omega)
  rw [right_f _ (by omega), if_pos (by omega), e1, e2, h]
  simp
theorem CrcSums : cracknellaw04_CrcSums.Pure := by
  intro x hx
  refine ⟨x.size + 101, ?_⟩
  unfold cracknellaw04_CrcSums.f
  rw [alive_f]
  by_cases h : (x.size : Int) > 300
  · rw [if_pos h]; rfl
  · rw [if_neg h]
    have hone : ∀ y ∈ [x], y.size ≤ 300 := by intro y hy; rw [List.mem_singleton] at hy; subst hy; omega
    have h1 := tail_f [x] 300 (by omega) hone
    have h2 := sum_f [x] 300 (by omega) hone
    have h3 := ref_sum x (by omega) (x.size + 101) (by omega)
    have h4 := ref_tail x (by omega) (x.size + 101) (by omega)
    have hlt := sumN_lt x.data.toList
    have hr := right_gen x (tailN (sumN x.data.toList)) (by omega) (tail_size _) rfl
    have hts := tail_size (sumN x.data.toList)
    rw [bytes_one] at h1 h2
    generalize sumN x.data.toList = s at h1 h2 h3 h4 hlt hr hts
    generalize tailN s = t at h1 h4 hr hts
    rw [h1, h2, h3, h4]
    rw [Option.bind_some, Option.bind_some, if_pos rfl, Option.bind_some, Option.bind_some, if_pos (wrap64_nat (by omega) (by omega)), Option.bind_some, if_pos rfl, if_pos (by omega), hr, Option.bind_some]
end Go.Proofs.Ytgpbdfkhpkijcaa.Pure
