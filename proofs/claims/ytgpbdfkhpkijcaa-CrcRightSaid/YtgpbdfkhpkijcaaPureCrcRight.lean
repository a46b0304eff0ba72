/- CrcRight: which texts end with their sum is what the reference says: any text. -/
import Derived.Test.YtgpbdfkhpkijcaaQCrcRightx1
import Derived.Test.YtgpbdfkhpkijcaaCrcN
namespace Go.Proofs.Ytgpbdfkhpkijcaa.Pure
open Go.RowKit Go.Proofs.Ytgpbdfkhpkijcaa.QCrcRight Go.Proofs.Ytgpbdfkhpkijcaa.Crc Go.Proofs.YtgpbdfkhpkijcaaW.PrintWords Go.Proofs.YtgpbdfkhpkijcaaW.PrintLast

theorem CrcRight : cracknellaw04_CrcRight.Pure := by
  intro x hx
  refine ⟨x.size + 101, ?_⟩
  unfold cracknellaw04_CrcRight.f
  rw [alive_f]
  by_cases h : (x.size : Int) > 300
  · rw [if_pos h]; rfl
  · rw [if_neg h]
    simp only [Option.bind_some, if_true]
    rw [right_f x (by omega), ref_right x (by omega) _ (by omega)]
    simp

end Go.Proofs.Ytgpbdfkhpkijcaa.Pure
