/- QuoteWrites and QuoteCuts in plain bytes. -/
import Derived.Test.YthhmmaihbjhhgaaDoorQuoY
namespace Go.Proofs.YthhmmaihbjhhgaaDoor.Giv
open Go.RowKit Go.Proofs.YthhmmaihbjhhgaaDoorW.PrintWords Go.Proofs.YthhmmaihbjhhgaaDoorW.PrintLast Go.Proofs.YthhmmaihbjhhgaaDoorW.PrintMore
open Go.Proofs.YthhmmaihbjhhgaaDoor.U1 Go.Proofs.YthhmmaihbjhhgaaDoor.Q1 Go.Proofs.YthhmmaihbjhhgaaDoor.Q2

theorem QuoteWrites : cracknellaw07_QuoteWrites.Pure := by
  intro s b hs hb
  refine ⟨b.size + 20000, ?_⟩
  unfold cracknellaw07_QuoteWrites.f
  by_cases hl : s.size > 1000
  · rw [if_pos (by omega), alive07 _ (by omega)]; rfl
  · rw [if_neg (by omega)]
    have hw := writeS_size s
    rw [write_f s (by omega), refWrite _ s (by omega) (by omega), Option.bind_some, Option.bind_some, if_pos (by omega)]
    by_cases hv : Lib.validD s.data.toList = true
    · rw [writeS_yes s hv] at hw ⊢
      simp only at hw ⊢
      rw [read_S 1001 _ _ _ (readS_quoted s b hv 1001 (by omega)) (by omega) (by omega) (by rw [ByteArray.size_append]; omega), Option.bind_some, alive07 _ (by omega), Option.bind_some, if_pos (by first | rfl | trivial), if_pos (by first | rfl | trivial), if_pos (by first | rfl | trivial), if_pos (by first | rfl | trivial), if_pos (by first | rfl | trivial), if_pos]
      · rfl
      · simp only
        rw [quoted_len, quoted_size]
    · rw [writeS_no s hv]
      obtain ⟨r, _, hr⟩ := read_any (b.size + 20000) ((⟨#[]⟩ : ByteArray) ++ b) (by rw [ByteArray.size_append]; show 0 + b.size + 20 < _; omega) (by rw [ByteArray.size_append]; show 0 + b.size ≤ _; omega)
      simp only
      rw [hr, Option.bind_some, alive07 _ (by omega), Option.bind_some, if_pos (by first | rfl | trivial), if_pos (by first | rfl | trivial), if_pos (by first | rfl | trivial), if_neg (by first | decide | exact fun h => h)]
theorem cut_list (s : ByteArray) (c : Nat) : (s.extract 0 c).data.toList = s.data.toList.take c := by
  rw [ByteArray.data_extract, Array.toList_extract]
  simp
theorem cut_S (s : ByteArray) (h : Lib.validD s.data.toList = true) (c n : Nat) (hc : c < (inner s.data.toList).length + 2) (hn : 6 * s.size + 3 < n) :
    ∃ e : Int, e ≠ 0 ∧ readS n ((⟨(quoted s.data.toList).toArray⟩ : ByteArray).extract 0 c) = some (⟨#[]⟩, 0, e) := by
  obtain ⟨xs, h1, h2, h3⟩ := valid_xs s h
  have hd := cut_list ⟨(quoted s.data.toList).toArray⟩ c
  rw [quoted_list] at hd
  have hi := inner_size s
  unfold readS
  cases c with
  | zero =>
    rw [if_pos (by rw [← data_length, hd]; rfl)]
    exact ⟨70, by decide, rfl⟩
  | succ d =>
    have e : (quoted s.data.toList).take (d + 1) = 34 :: (inner (encs xs) ++ [34]).take d := by
      unfold quoted
      rw [h2, List.cons_append, List.take_succ_cons]
    rw [e] at hd
    rw [if_neg (by rw [← data_length, hd]; simp), hd, if_pos (by first | rfl | trivial), List.drop_succ_cons, List.drop_zero]
    obtain ⟨q, hq⟩ := readL_some n ((inner (encs xs) ++ [34]).take d) (by rw [List.length_take, h2, List.length_append]; simp only [List.length_singleton]; omega)
    have hne := readL_cut xs h1 n d (by omega) (by rw [h2]; omega) q hq
    rw [hq, Option.map_some]
    unfold endR
    rw [if_neg hne]
    exact ⟨_, hne, rfl⟩
theorem QuoteCuts : cracknellaw07_QuoteCuts.Pure := by
  intro s c hs hc
  refine ⟨5001, ?_⟩
  unfold cracknellaw07_QuoteCuts.f
  by_cases hl : s.size > 300
  · rw [if_pos (by omega), alive07 _ (by omega)]; rfl
  · rw [if_neg (by omega)]
    have hw := inner_size s
    rw [write_f s (by omega), Option.bind_some]
    have out : ∀ x5, cracknellaw07_QuoteCuts.j0 5001 c x5 true = some true := by
      intro x5
      rw [cracknellaw07_QuoteCuts.j0, if_pos (by first | rfl | trivial), alive07 _ (by omega)]; rfl
    by_cases hv : Lib.validD s.data.toList = true
    · rw [writeS_yes s hv]
      simp only
      rw [if_pos (by first | rfl | trivial)]
      by_cases h0 : c < 0
      · rw [if_pos h0, out]
      · rw [if_neg h0]
        obtain ⟨m, rfl⟩ : ∃ m : Nat, c = m := ⟨c.toNat, by omega⟩
        have hq := quoted_size s.data.toList
        by_cases h1 : (m : Int) ≥ (((⟨(quoted s.data.toList).toArray⟩ : ByteArray).size : Nat) : Int)
        · rw [decide_eq_true h1, out]
        · obtain ⟨e, he, hr⟩ := cut_S s hv m 2000 (by omega) (by omega)
          rw [decide_eq_false h1, cracknellaw07_QuoteCuts.j0, if_neg (by first | decide | exact fun h => h), if_pos (by omega), if_pos (by omega), Int.toNat_natCast, read_S 2000 _ _ _ hr (by omega) (by omega) (by rw [ByteArray.size_extract]; omega), Option.bind_some, alive07 _ (by omega), Option.bind_some, if_pos (by first | rfl | trivial), if_pos (by show (⟨#[]⟩ : ByteArray).toList = _; rw [Lib.toList_data]), if_pos (by first | rfl | trivial)]
          congr 1
          rw [bne_iff_ne]; exact he
    · rw [writeS_no s hv]
      simp only
      rw [if_neg (by first | decide | exact fun h => h), out]
end Go.Proofs.YthhmmaihbjhhgaaDoor.Giv
