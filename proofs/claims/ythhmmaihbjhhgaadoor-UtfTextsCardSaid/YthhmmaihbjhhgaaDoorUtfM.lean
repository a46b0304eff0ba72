/- Plain law of letters and their bytes: what is written is taken as it was; what is taken is written so. -/
import Derived.Test.YthhmmaihbjhhgaaDoorUtfC
import Derived.Test.YthhmmaihbjhhgaaDoorU1x2
import Derived.Lib.MapLaws
import Derived.Lib.Strings
namespace Go.Proofs.YthhmmaihbjhhgaaDoor.Giv
open Go.RowKit Go.Proofs.YthhmmaihbjhhgaaDoorW.PrintWords Go.Proofs.YthhmmaihbjhhgaaDoorW.PrintLast Go.Proofs.YthhmmaihbjhhgaaDoorW.PrintMore
open Go.Proofs.YthhmmaihbjhhgaaDoor.U1

theorem w64 {x : Int} (h0 : -9223372036854775808 ≤ x) (h1 : x ≤ 9223372036854775807) : wrap64 x = x := by unfold wrap64; omega
theorem letter_iff (r : Int) : letterB r = true ↔ (0 ≤ r ∧ r ≤ 1114111 ∧ (r < 55296 ∨ 57343 < r)) := by unfold letterB; exact decide_eq_true_iff
/-- a letter's bytes -/
abbrev enc (r : Int) : List UInt8 := Lib.encodeRune r
theorem strOfNums_list (xs : List Int) : (strOfNums xs).data.toList = xs.map fun n => UInt8.ofNat n.toNat := rfl
theorem ofList_eq {a b : ByteArray} (h : a.data.toList = b.data.toList) : a = b := by
  cases a; cases b; simp at h; congr
theorem encode_enc (r : Int) (h : letterB r = true) : Utf8.encode r = ⟨(enc r).toArray⟩ := by
  obtain ⟨h0, h1, h2⟩ := (letter_iff r).1 h
  obtain ⟨n, rfl⟩ : ∃ n : Nat, r = n := ⟨r.toNat, by omega⟩
  have hv : Utf8.valid (n : Int) = true := by unfold Utf8.valid; simp; omega
  unfold Utf8.encode enc Lib.encodeRune
  simp only [hv, if_true, Int.toNat_natCast]
  by_cases a : n < 128
  · rw [if_pos a, Lib.encodeRuneZ, if_pos (by omega)]; simp [Nat.toUInt8]
  · rw [if_neg a]
    by_cases b : n < 2048
    · rw [if_pos b, Lib.encodeRuneZ, if_neg (by omega), if_pos (by omega)]
      have e1 : ((192 : Int) + (n : Int) / 64).toNat = 192 + n / 64 := by omega
      have e2 : ((128 : Int) + (n : Int) % 64).toNat = 128 + n % 64 := by omega
      simp only [List.map_cons, List.map_nil, e1, e2]
    · rw [if_neg b]
      by_cases c : n < 65536
      · rw [if_pos c, Lib.encodeRuneZ, if_neg (by omega), if_neg (by omega), if_pos (by omega)]
        have e1 : ((224 : Int) + (n : Int) / 4096).toNat = 224 + n / 4096 := by omega
        have e2 : ((128 : Int) + (n : Int) / 64 % 64).toNat = 128 + n / 64 % 64 := by omega
        have e3 : ((128 : Int) + (n : Int) % 64).toNat = 128 + n % 64 := by omega
        simp only [List.map_cons, List.map_nil, e1, e2, e3]
      · rw [if_neg c, Lib.encodeRuneZ, if_neg (by omega), if_neg (by omega), if_neg (by omega), if_pos (by omega)]
        have e1 : ((240 : Int) + (n : Int) / 262144).toNat = 240 + n / 262144 := by omega
        have e2 : ((128 : Int) + (n : Int) / 4096 % 64).toNat = 128 + n / 4096 % 64 := by omega
        have e3 : ((128 : Int) + (n : Int) / 64 % 64).toNat = 128 + n / 64 % 64 := by omega
        have e4 : ((128 : Int) + (n : Int) % 64).toNat = 128 + n % 64 := by omega
        simp only [List.map_cons, List.map_nil, e1, e2, e3, e4]
def putS (r : Int) : ByteArray × Bool := if letterB r = true then (⟨(enc r).toArray⟩, true) else (⟨#[]⟩, false)
theorem put_S (k : Nat) (r : Int) (hk : 0 < k) : utf_Put.f k r = some (putS r) := by
  rw [put_f k r hk, putS]
  by_cases h : letterB r = true
  · rw [if_pos h, if_pos h, encode_enc r h]
  · rw [if_neg h, if_neg h]
theorem refLetter (r : Int) : cracknelref05_Letter.f r = some (letterB r) := by
  unfold cracknelref05_Letter.f letterB
  by_cases h0 : 0 ≤ r
  · by_cases h1 : r ≤ 1114111
    · by_cases h2 : r < 55296
      · rw [if_pos h0, if_pos h1, if_pos h2, decide_eq_true ⟨h0, h1, .inl h2⟩]
      · rw [if_pos h0, if_pos h1, if_neg h2]
        congr 1
        rw [decide_eq_decide]
        omega
    · rw [if_pos h0, if_neg h1, decide_eq_false (by omega)]
  · rw [if_neg h0, decide_eq_false (by omega)]
theorem refPut (r : Int) : cracknelref05_Put.f r = some (putS r) := by
  unfold cracknelref05_Put.f
  rw [refLetter]
  simp only [Option.bind_some]
  unfold putS
  by_cases h : letterB r = true
  · rw [if_pos h, if_pos h]
    obtain ⟨h0, h1, h2⟩ := (letter_iff r).1 h
    rw [Int.tdiv_eq_ediv_of_nonneg h0, Int.tdiv_eq_ediv_of_nonneg h0, Int.tdiv_eq_ediv_of_nonneg h0, Int.tmod_eq_emod_of_nonneg h0]
    rw [w64 (x := r / 64) (by omega) (by omega), w64 (x := r / 4096) (by omega) (by omega), w64 (x := r / 262144) (by omega) (by omega)]
    rw [Int.tmod_eq_emod_of_nonneg (a := r / 64) (by omega), Int.tmod_eq_emod_of_nonneg (a := r / 4096) (by omega)]
    rw [w64 (x := 192 + r / 64) (by omega) (by omega), w64 (x := 128 + r % 64) (by omega) (by omega), w64 (x := 224 + r / 4096) (by omega) (by omega), w64 (x := 128 + r / 64 % 64) (by omega) (by omega), w64 (x := 240 + r / 262144) (by omega) (by omega), w64 (x := 128 + r / 4096 % 64) (by omega) (by omega)]
    have fin : ∀ xs : List Int, (xs = Lib.encodeRuneZ r) → some (strOfNums xs, true) = some ((⟨(enc r).toArray⟩ : ByteArray), true) := by
      intro xs e; subst e; congr 2
    by_cases a : r < 128
    · rw [if_pos a]; exact fin _ (by rw [Lib.encodeRuneZ, if_pos (by omega)]; congr 1; omega)
    · rw [if_neg a]
      by_cases b : r < 2048
      · rw [if_pos b]; exact fin _ (by rw [Lib.encodeRuneZ, if_neg (by omega), if_pos (by omega)]; congr 1; omega; congr 1; omega)
      · rw [if_neg b]
        by_cases c : r < 65536
        · rw [if_pos c]; exact fin _ (by rw [Lib.encodeRuneZ, if_neg (by omega), if_neg (by omega), if_pos (by omega)]; congr 1; omega; congr 1; omega; congr 1; omega)
        · rw [if_neg c]; exact fin _ (by rw [Lib.encodeRuneZ, if_neg (by omega), if_neg (by omega), if_neg (by omega), if_pos (by omega)]; congr 1; omega; congr 1; omega; congr 1; omega; congr 1; omega)
  · rw [if_neg h, if_neg h]

/-! ### taking -/
theorem decodeGo_L (s : ByteArray) (h : s.data.toList ≠ []) : Lib.decodeGo s = Lib.decodeL s.data.toList := by
  unfold Lib.decodeGo
  have hs : s.size ≠ 0 := by
    intro e; apply h; apply List.eq_nil_of_length_eq_zero; rw [data_length]; exact e
  rw [if_neg hs, ← Lib.decodeL_drop s 0, List.drop_zero]
/-- the letter with which bytes begin: how many bytes; none -/
def tk (l : List UInt8) : Option (Nat × Nat) := if l = [] ∨ ((Lib.decodeL l).1 = 65533 ∧ (Lib.decodeL l).2 = 1) then none else some (Lib.decodeL l)
def takeS (s : ByteArray) : Int × Int × Bool := match tk s.data.toList with | none => (0, 0, false) | some (r, n) => ((r : Int), (n : Int), true)
theorem decodeL_hi (l : List UInt8) : (Lib.decodeL l).1 ≤ 2147483647 := by unfold Lib.decodeL; exact decode_le _ _
theorem take_S (s : ByteArray) : utf_Take.f s = some (takeS s) := by
  unfold utf_Take.f utf8_DecodeRuneInString.f takeS tk
  rw [Option.bind_some]
  by_cases hl : s.data.toList = []
  · rw [if_pos (Or.inl hl)]
    have hs : s.size = 0 := by rw [← data_length, hl]; rfl
    unfold Lib.decodeGo
    rw [if_pos hs]; rfl
  · rw [decodeGo_L s hl]
    have h1 := Lib.decodeL_width s.data.toList
    have h2 := decodeL_hi s.data.toList
    generalize Lib.decodeL s.data.toList = d at h1 h2
    obtain ⟨r, n⟩ := d
    simp only at h1 h2 ⊢
    by_cases a : r = 65533
    · by_cases b : n = 1
      · rw [if_pos (Or.inr ⟨a, b⟩), if_pos (by omega), if_pos (by omega)]
      · rw [if_pos (show (r : Int) = 65533 by omega), if_neg (show ¬ (n : Int) < 2 by omega), if_neg (show ¬ (s.data.toList = [] ∨ (r = 65533 ∧ n = 1)) from fun hh => hh.elim hl (fun h => b h.2)), w64 (by omega) (by omega)]
    · rw [if_neg (show ¬ (r : Int) = 65533 by omega), if_neg (show ¬ (s.data.toList = [] ∨ (r = 65533 ∧ n = 1)) from fun hh => hh.elim hl (fun h => a h.1)), w64 (by omega) (by omega)]
theorem get_app (a : UInt8) (l : List UInt8) : (a :: l).getD 0 0 = a := rfl
theorem u8 (n : Nat) (h : n < 256) : (n.toUInt8).toNat = n := by simp [Nat.toUInt8]; omega
/-- what is written is decoded as it was, whatever is behind it -/
theorem decode_enc (n : Nat) (h : letterB (n : Int) = true) (x : List UInt8) : Lib.decodeL (enc (n : Int) ++ x) = (n, (enc (n : Int)).length) := by
  obtain ⟨h0, h1, h2⟩ := (letter_iff _).1 h
  rw [Lib.decodeL_N]
  unfold enc Lib.encodeRune
  by_cases a : n < 128
  · rw [Lib.encodeRuneZ, if_pos (by omega)]
    have e : ((n : Int).toNat.toUInt8).toNat = n := by rw [Int.toNat_natCast]; exact u8 n (by omega)
    simp only [List.map_cons, List.map_nil, List.cons_append, List.nil_append, List.getD_cons_zero, e]
    unfold Lib.decodeN
    rw [if_pos a]; rfl
  · by_cases b : n < 2048
    · rw [Lib.encodeRuneZ, if_neg (by omega), if_pos (by omega)]
      have e0 : (((192 : Int) + (n : Int) / 64).toNat.toUInt8).toNat = 192 + n / 64 := by rw [show ((192 : Int) + (n : Int) / 64).toNat = 192 + n / 64 by omega]; exact u8 _ (by omega)
      have e1 : (((128 : Int) + (n : Int) % 64).toNat.toUInt8).toNat = 128 + n % 64 := by rw [show ((128 : Int) + (n : Int) % 64).toNat = 128 + n % 64 by omega]; exact u8 _ (by omega)
      simp only [List.map_cons, List.map_nil, List.cons_append, List.nil_append, List.getD_cons_zero, List.getD_cons_succ, e0, e1, List.length_cons, List.length_nil]
      unfold Lib.decodeN
      rw [if_neg (by omega), if_pos (by omega), if_pos (by omega)]
      congr 1; omega
    · by_cases c : n < 65536
      · rw [Lib.encodeRuneZ, if_neg (by omega), if_neg (by omega), if_pos (by omega)]
        have e0 : (((224 : Int) + (n : Int) / 4096).toNat.toUInt8).toNat = 224 + n / 4096 := by rw [show ((224 : Int) + (n : Int) / 4096).toNat = 224 + n / 4096 by omega]; exact u8 _ (by omega)
        have e1 : (((128 : Int) + (n : Int) / 64 % 64).toNat.toUInt8).toNat = 128 + n / 64 % 64 := by rw [show ((128 : Int) + (n : Int) / 64 % 64).toNat = 128 + n / 64 % 64 by omega]; exact u8 _ (by omega)
        have e2 : (((128 : Int) + (n : Int) % 64).toNat.toUInt8).toNat = 128 + n % 64 := by rw [show ((128 : Int) + (n : Int) % 64).toNat = 128 + n % 64 by omega]; exact u8 _ (by omega)
        simp only [List.map_cons, List.map_nil, List.cons_append, List.nil_append, List.getD_cons_zero, List.getD_cons_succ, e0, e1, e2, List.length_cons, List.length_nil]
        unfold Lib.decodeN
        rw [if_neg (by omega), if_neg (by omega), if_pos (by omega), if_pos (by omega)]
        congr 1; omega
      · rw [Lib.encodeRuneZ, if_neg (by omega), if_neg (by omega), if_neg (by omega), if_pos (by omega)]
        have e0 : (((240 : Int) + (n : Int) / 262144).toNat.toUInt8).toNat = 240 + n / 262144 := by rw [show ((240 : Int) + (n : Int) / 262144).toNat = 240 + n / 262144 by omega]; exact u8 _ (by omega)
        have e1 : (((128 : Int) + (n : Int) / 4096 % 64).toNat.toUInt8).toNat = 128 + n / 4096 % 64 := by rw [show ((128 : Int) + (n : Int) / 4096 % 64).toNat = 128 + n / 4096 % 64 by omega]; exact u8 _ (by omega)
        have e2 : (((128 : Int) + (n : Int) / 64 % 64).toNat.toUInt8).toNat = 128 + n / 64 % 64 := by rw [show ((128 : Int) + (n : Int) / 64 % 64).toNat = 128 + n / 64 % 64 by omega]; exact u8 _ (by omega)
        have e3 : (((128 : Int) + (n : Int) % 64).toNat.toUInt8).toNat = 128 + n % 64 := by rw [show ((128 : Int) + (n : Int) % 64).toNat = 128 + n % 64 by omega]; exact u8 _ (by omega)
        simp only [List.map_cons, List.map_nil, List.cons_append, List.nil_append, List.getD_cons_zero, List.getD_cons_succ, e0, e1, e2, e3, List.length_cons, List.length_nil]
        unfold Lib.decodeN
        rw [if_neg (by omega), if_neg (by omega), if_neg (by omega), if_pos (by omega), if_pos (by omega)]
        congr 1; omega
theorem enc_len_pos (r : Int) : 1 ≤ (enc r).length := by
  unfold enc Lib.encodeRune Lib.encodeRuneZ
  rw [List.length_map]
  repeat' split
  all_goals simp
theorem enc_ne (r : Int) : enc r ≠ [] := fun e => by have := enc_len_pos r; rw [e] at this; simp at this
theorem enc_len3 (r : Int) (h : 2048 ≤ r) : 3 ≤ (enc r).length := by
  unfold enc Lib.encodeRune Lib.encodeRuneZ
  rw [List.length_map]
  repeat' split
  all_goals first | (simp; done) | omega
theorem tk_enc (n : Nat) (h : letterB (n : Int) = true) (x : List UInt8) : tk (enc (n : Int) ++ x) = some (n, (enc (n : Int)).length) := by
  unfold tk
  rw [decode_enc n h x, if_neg]
  rintro (e | ⟨e1, e2⟩)
  · exact enc_ne _ (List.append_eq_nil_iff.1 e).1
  · simp only at e1 e2
    have := enc_len3 (n : Int) (by omega)
    omega
end Go.Proofs.YthhmmaihbjhhgaaDoor.Giv
