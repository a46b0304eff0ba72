/- CrcSteps: what a sum becomes by any byte is what the reference says: any sum, any byte. -/
import Derived.Test.YtgpbdfkhpkijcaaQCrcStepsx1
import Derived.Test.YtgpbdfkhpkijcaaCrcN
import Derived.OpenShut
namespace Go.Proofs.Ytgpbdfkhpkijcaa.Pure
open Go.RowKit Go.Proofs.Ytgpbdfkhpkijcaa.QCrcSteps Go.Proofs.Ytgpbdfkhpkijcaa.Crc Go.Proofs.YtgpbdfkhpkijcaaW.PrintWords Go.Proofs.YtgpbdfkhpkijcaaW.PrintLast

theorem CrcSteps : cracknellaw04_CrcSteps.Pure := by
  intro a0 a1 w0 w1
  have b0 : 0 ≤ a0 ∧ a0 ≤ 4294967295 := bounds_u32 w0
  have b1 : 0 ≤ a1 ∧ a1 ≤ 255 := bounds_u8 w1
  obtain ⟨s, rfl⟩ : ∃ s : Nat, a0 = s := ⟨a0.toNat, by omega⟩
  obtain ⟨b, rfl⟩ : ∃ b : Nat, a1 = b := ⟨a1.toNat, by omega⟩
  refine ⟨100, ?_⟩
  unfold cracknellaw04_CrcSteps.f
  have hlt := stepN_lt (s := s) (b := b) (by omega) (by omega)
  rw [alive_f, wrap64_nat (x := (s : Int)) (by omega) (by omega), wrap64_nat (x := (b : Int)) (by omega) (by omega)]
  simp only [Option.bind_some, if_true]
  rw [step_f 100 s b (by omega) (by omega) (by omega), ref_step 100 s b (by omega) (by omega) (by omega)]
  simp only [Option.bind_some]
  rw [wrap64_nat (by omega) (by omega)]
  simp

end Go.Proofs.Ytgpbdfkhpkijcaa.Pure
