/- The law QuoteJoins: whatever the texts, it returns true. -/
import Derived.Test.YthhmmaihbjhhgaaDoorQuoY
import Derived.Test.YthhmmaihbjhhgaaDoorQuoV
namespace Go.Proofs.YthhmmaihbjhhgaaDoor.Giv
open Go.RowKit Go.Proofs.YthhmmaihbjhhgaaDoorW.PrintWords Go.Proofs.YthhmmaihbjhhgaaDoorW.PrintLast Go.Proofs.YthhmmaihbjhhgaaDoorW.PrintMore
open Go.Proofs.YthhmmaihbjhhgaaDoor.U1 Go.Proofs.YthhmmaihbjhhgaaDoor.Q1 Go.Proofs.YthhmmaihbjhhgaaDoor.Q2

theorem join_quoted (a b : ByteArray) (m : Nat) (hm : m = (inner a.data.toList).length + 1) :
    (⟨(quoted a.data.toList).toArray⟩ : ByteArray).extract 0 m ++ (⟨(quoted b.data.toList).toArray⟩ : ByteArray).extract 1 (⟨(quoted b.data.toList).toArray⟩ : ByteArray).size = ⟨(quoted (a ++ b).data.toList).toArray⟩ := by
  apply ofList_eq
  have e1 : ((⟨(quoted a.data.toList).toArray⟩ : ByteArray).extract 0 m).data.toList = (quoted a.data.toList).take m := by
    rw [ByteArray.data_extract, Array.toList_extract]; simp
  rw [ByteArray.data_append, Array.toList_append, extract_drop, e1, quoted_list, quoted_list, ByteArray.data_append, Array.toList_append]
  unfold quoted
  rw [inner_app, hm, List.cons_append, List.take_succ_cons, List.take_left]
  simp
theorem joins_walk (a b : ByteArray) (w : World) (_ : a.size ≤ 140737488351232) (_ : b.size ≤ 140737488351232) (ht : Tabs w) :
    Calls Tryd.prog 13 #[.string a, .string b] w fun e w' => e = .returned (.bool true) ∧ Below w.heap.size w w' := by
  by_cases hl : 300 < a.size
  · exact joins_a 20 a b w ht (alive07 20 (by decide)) hl
  · by_cases hm : 300 < b.size
    · exact joins_b 20 a b w ht (alive07 20 (by decide)) (by omega) hm
    · have fa := write_f a (by omega)
      have fb := write_f b (by omega)
      by_cases va : Lib.validD a.data.toList = true
      · by_cases vb : Lib.validD b.data.toList = true
        · have vj := valid_join a b va vb
          have hs : (a ++ b).size = a.size + b.size := ByteArray.size_append
          have fj := write_f (a ++ b) (by omega)
          have za := quoted_size a.data.toList
          have zb := quoted_size b.data.toList
          have ia := inner_size a
          have ib := inner_size b
          have hj := join_quoted a b ((inner a.data.toList).length + 1) rfl
          have hr := readS_quoted (a ++ b) ⟨#[]⟩ vj 1000 (by omega)
          have hz := quoted_size (a ++ b).data.toList
          have hi := inner_size (a ++ b)
          have hn : (⟨(quoted (a ++ b).data.toList).toArray⟩ : ByteArray) ++ ⟨#[]⟩ = ⟨(quoted (a ++ b).data.toList).toArray⟩ := by
            apply ofList_eq; rw [ByteArray.data_append, Array.toList_append]; simp
          rw [hn] at hr
          rw [writeS_yes a va] at fa
          rw [writeS_yes b vb] at fb
          rw [writeS_yes _ vj] at fj
          have hq := read_S 1000 5000 _ _ hr (by omega) (by omega) (by omega)
          rw [quoted_len, ← hz] at hq
          exact joins_yes 5000 a b _ _ _ w ht (by omega) (by omega) fa fb fj (by omega) (by omega) _ (by omega) hj (by rw [hj]; exact hq) (alive07 5000 (by decide))
        · rw [writeS_yes a va] at fa
          rw [writeS_no b vb] at fb
          exact joins_nob 20 a b w ht (alive07 20 (by decide)) (by omega) (by omega) _ _ fa fb
      · rw [writeS_no a va] at fa
        exact joins_no 20 a b w ht (alive07 20 (by decide)) (by omega) (by omega) _ _ _ fa fb
end Go.Proofs.YthhmmaihbjhhgaaDoor.Giv
