/- Plain law of letters, their bytes, and texts: the program's answers and the reference's. -/
import Derived.Test.YthhmmaihbjhhgaaDoorUtfC
import Derived.Test.YthhmmaihbjhhgaaDoorU1x2
import Derived.Lib.MapLaws
import Derived.Lib.Strings
import Derived.OpenShut
namespace Go.Proofs.YthhmmaihbjhhgaaDoor.Giv
open Go.RowKit Go.Proofs.YthhmmaihbjhhgaaDoorW.PrintWords Go.Proofs.YthhmmaihbjhhgaaDoorW.PrintLast Go.Proofs.YthhmmaihbjhhgaaDoorW.PrintMore
open Go.Proofs.YthhmmaihbjhhgaaDoor.U1


theorem w64 {x : Int} (h0 : -9223372036854775808 ≤ x) (h1 : x ≤ 9223372036854775807) : wrap64 x = x := by unfold wrap64; omega
theorem letter_iff (r : Int) : letterB r = true ↔ (0 ≤ r ∧ r ≤ 1114111 ∧ (r < 55296 ∨ 57343 < r)) := by unfold letterB; exact decide_eq_true_iff
/-- a letter's bytes -/
abbrev enc (r : Int) : List UInt8 := Lib.encodeRune r
theorem strOfNums_list (xs : List Int) : (strOfNums xs).data.toList = xs.map fun n => UInt8.ofNat n.toNat := rfl
theorem ofList_eq {a b : ByteArray} (h : a.data.toList = b.data.toList) : a = b := by
  cases a; cases b; simp at h; congr
theorem encode_enc (r : Int) (h : letterB r = true) : Utf8.encode r = ⟨(enc r).toArray⟩ := by
  obtain ⟨h0, h1, h2⟩ := (letter_iff r).1 h
  obtain ⟨n, rfl⟩ : ∃ n : Nat, r = n := ⟨r.toNat, by omega⟩
  have hv : Utf8.valid (n : Int) = true := by unfold Utf8.valid; simp; omega
  unfold Utf8.encode enc Lib.encodeRune
  simp only [hv, if_true, Int.toNat_natCast]
  by_cases a : n < 128
  · rw [if_pos a, Lib.encodeRuneZ, if_pos (by omega)]; simp [Nat.toUInt8]
  · rw [if_neg a]
    by_cases b : n < 2048
    · rw [if_pos b, Lib.encodeRuneZ, if_neg (by omega), if_pos (by omega)]
      have e1 : ((192 : Int) + (n : Int) / 64).toNat = 192 + n / 64 := by omega
      have e2 : ((128 : Int) + (n : Int) % 64).toNat = 128 + n % 64 := by omega
      simp only [List.map_cons, List.map_nil, e1, e2]
    · rw [if_neg b]
      by_cases c : n < 65536
      · rw [if_pos c, Lib.encodeRuneZ, if_neg (by omega), if_neg (by omega), if_pos (by omega)]
        have e1 : ((224 : Int) + (n : Int) / 4096).toNat = 224 + n / 4096 := by omega
        have e2 : ((128 : Int) + (n : Int) / 64 % 64).toNat = 128 + n / 64 % 64 := by omega
        have e3 : ((128 : Int) + (n : Int) % 64).toNat = 128 + n % 64 := by omega
        simp only [List.map_cons, List.map_nil, e1, e2, e3]
      · rw [if_neg c, Lib.encodeRuneZ, if_neg (by omega), if_neg (by omega), if_neg (by omega), if_pos (by omega)]
        have e1 : ((240 : Int) + (n : Int) / 262144).toNat = 240 + n / 262144 := by omega
        have e2 : ((128 : Int) + (n : Int) / 4096 % 64).toNat = 128 + n / 4096 % 64 := by omega
        have e3 : ((128 : Int) + (n : Int) / 64 % 64).toNat = 128 + n / 64 % 64 := by omega
        have e4 : ((128 : Int) + (n : Int) % 64).toNat = 128 + n % 64 := by omega
        simp only [List.map_cons, List.map_nil, e1, e2, e3, e4]
def putS (r : Int) : ByteArray × Bool := if letterB r = true then (⟨(enc r).toArray⟩, true) else (⟨#[]⟩, false)
theorem put_S (k : Nat) (r : Int) (hk : 0 < k) : utf_Put.f k r = some (putS r) := by
  rw [put_f k r hk, putS]
  by_cases h : letterB r = true
  · rw [if_pos h, if_pos h, encode_enc r h]
  · rw [if_neg h, if_neg h]
theorem refLetter (r : Int) : cracknelref05_Letter.f r = some (letterB r) := by
  unfold cracknelref05_Letter.f letterB
  by_cases h0 : 0 ≤ r
  · by_cases h1 : r ≤ 1114111
    · by_cases h2 : r < 55296
      · rw [if_pos h0, if_pos h1, if_pos h2, decide_eq_true ⟨h0, h1, .inl h2⟩]
      · rw [if_pos h0, if_pos h1, if_neg h2]
        congr 1
        rw [decide_eq_decide]
        omega
    · rw [if_pos h0, if_neg h1, decide_eq_false (by omega)]
  · rw [if_neg h0, decide_eq_false (by omega)]
theorem refPut (r : Int) : cracknelref05_Put.f r = some (putS r) := by
  unfold cracknelref05_Put.f
  rw [refLetter]
  simp only [Option.bind_some]
  unfold putS
  by_cases h : letterB r = true
  · rw [if_pos h, if_pos h]
    obtain ⟨h0, h1, h2⟩ := (letter_iff r).1 h
    rw [Int.tdiv_eq_ediv_of_nonneg h0, Int.tdiv_eq_ediv_of_nonneg h0, Int.tdiv_eq_ediv_of_nonneg h0, Int.tmod_eq_emod_of_nonneg h0]
    rw [w64 (x := r / 64) (by omega) (by omega), w64 (x := r / 4096) (by omega) (by omega), w64 (x := r / 262144) (by omega) (by omega)]
    rw [Int.tmod_eq_emod_of_nonneg (a := r / 64) (by omega), Int.tmod_eq_emod_of_nonneg (a := r / 4096) (by omega)]
    rw [w64 (x := 192 + r / 64) (by omega) (by omega), w64 (x := 128 + r % 64) (by omega) (by omega), w64 (x := 224 + r / 4096) (by omega) (by omega), w64 (x := 128 + r / 64 % 64) (by omega) (by omega), w64 (x := 240 + r / 262144) (by omega) (by omega), w64 (x := 128 + r / 4096 % 64) (by omega) (by omega)]
    have fin : ∀ xs : List Int, (xs = Lib.encodeRuneZ r) → some (strOfNums xs, true) = some ((⟨(enc r).toArray⟩ : ByteArray), true) := by
      intro xs e; subst e; congr 2
    by_cases a : r < 128
    · rw [if_pos a]; exact fin _ (by rw [Lib.encodeRuneZ, if_pos (by omega)]; congr 1; omega)
    · rw [if_neg a]
      by_cases b : r < 2048
      · rw [if_pos b]; exact fin _ (by rw [Lib.encodeRuneZ, if_neg (by omega), if_pos (by omega)]; congr 1; omega; congr 1; omega)
      · rw [if_neg b]
        by_cases c : r < 65536
        · rw [if_pos c]; exact fin _ (by rw [Lib.encodeRuneZ, if_neg (by omega), if_neg (by omega), if_pos (by omega)]; congr 1; omega; congr 1; omega; congr 1; omega)
        · rw [if_neg c]; exact fin _ (by rw [Lib.encodeRuneZ, if_neg (by omega), if_neg (by omega), if_neg (by omega), if_pos (by omega)]; congr 1; omega; congr 1; omega; congr 1; omega; congr 1; omega)
  · rw [if_neg h, if_neg h]

/-! ### taking -/
theorem decodeGo_L (s : ByteArray) (h : s.data.toList ≠ []) : Lib.decodeGo s = Lib.decodeL s.data.toList := by
  unfold Lib.decodeGo
  have hs : s.size ≠ 0 := by
    intro e; apply h; apply List.eq_nil_of_length_eq_zero; rw [data_length]; exact e
  rw [if_neg hs, ← Lib.decodeL_drop s 0, List.drop_zero]
/-- the letter with which bytes begin: how many bytes; none -/
def tk (l : List UInt8) : Option (Nat × Nat) := if l = [] ∨ ((Lib.decodeL l).1 = 65533 ∧ (Lib.decodeL l).2 = 1) then none else some (Lib.decodeL l)
def takeS (s : ByteArray) : Int × Int × Bool := match tk s.data.toList with | none => (0, 0, false) | some (r, n) => ((r : Int), (n : Int), true)
theorem decodeL_hi (l : List UInt8) : (Lib.decodeL l).1 ≤ 2147483647 := by unfold Lib.decodeL; exact decode_le _ _
theorem take_S (s : ByteArray) : utf_Take.f s = some (takeS s) := by
  unfold utf_Take.f utf8_DecodeRuneInString.f takeS tk
  rw [Option.bind_some]
  by_cases hl : s.data.toList = []
  · rw [if_pos (Or.inl hl)]
    have hs : s.size = 0 := by rw [← data_length, hl]; rfl
    unfold Lib.decodeGo
    rw [if_pos hs]; rfl
  · rw [decodeGo_L s hl]
    have h1 := Lib.decodeL_width s.data.toList
    have h2 := decodeL_hi s.data.toList
    generalize Lib.decodeL s.data.toList = d at h1 h2
    obtain ⟨r, n⟩ := d
    simp only at h1 h2 ⊢
    by_cases a : r = 65533
    · by_cases b : n = 1
      · rw [if_pos (Or.inr ⟨a, b⟩), if_pos (by omega), if_pos (by omega)]
      · rw [if_pos (show (r : Int) = 65533 by omega), if_neg (show ¬ (n : Int) < 2 by omega), if_neg (show ¬ (s.data.toList = [] ∨ (r = 65533 ∧ n = 1)) from fun hh => hh.elim hl (fun h => b h.2)), w64 (by omega) (by omega)]
    · rw [if_neg (show ¬ (r : Int) = 65533 by omega), if_neg (show ¬ (s.data.toList = [] ∨ (r = 65533 ∧ n = 1)) from fun hh => hh.elim hl (fun h => a h.1)), w64 (by omega) (by omega)]
theorem get_app (a : UInt8) (l : List UInt8) : (a :: l).getD 0 0 = a := rfl
theorem u8 (n : Nat) (h : n < 256) : (n.toUInt8).toNat = n := by simp [Nat.toUInt8]; omega
/-- what is written is decoded as it was, whatever is behind it -/
theorem decode_enc (n : Nat) (h : letterB (n : Int) = true) (x : List UInt8) : Lib.decodeL (enc (n : Int) ++ x) = (n, (enc (n : Int)).length) := by
  obtain ⟨h0, h1, h2⟩ := (letter_iff _).1 h
  rw [Lib.decodeL_N]
  unfold enc Lib.encodeRune
  by_cases a : n < 128
  · rw [Lib.encodeRuneZ, if_pos (by omega)]
    have e : ((n : Int).toNat.toUInt8).toNat = n := by rw [Int.toNat_natCast]; exact u8 n (by omega)
    simp only [List.map_cons, List.map_nil, List.cons_append, List.nil_append, List.getD_cons_zero, e]
    unfold Lib.decodeN
    rw [if_pos a]; rfl
  · by_cases b : n < 2048
    · rw [Lib.encodeRuneZ, if_neg (by omega), if_pos (by omega)]
      have e0 : (((192 : Int) + (n : Int) / 64).toNat.toUInt8).toNat = 192 + n / 64 := by rw [show ((192 : Int) + (n : Int) / 64).toNat = 192 + n / 64 by omega]; exact u8 _ (by omega)
      have e1 : (((128 : Int) + (n : Int) % 64).toNat.toUInt8).toNat = 128 + n % 64 := by rw [show ((128 : Int) + (n : Int) % 64).toNat = 128 + n % 64 by omega]; exact u8 _ (by omega)
      simp only [List.map_cons, List.map_nil, List.cons_append, List.nil_append, List.getD_cons_zero, List.getD_cons_succ, e0, e1, List.length_cons, List.length_nil]
      unfold Lib.decodeN
      rw [if_neg (by omega), if_pos (by omega), if_pos (by omega)]
      congr 1; omega
    · by_cases c : n < 65536
      · rw [Lib.encodeRuneZ, if_neg (by omega), if_neg (by omega), if_pos (by omega)]
        have e0 : (((224 : Int) + (n : Int) / 4096).toNat.toUInt8).toNat = 224 + n / 4096 := by rw [show ((224 : Int) + (n : Int) / 4096).toNat = 224 + n / 4096 by omega]; exact u8 _ (by omega)
        have e1 : (((128 : Int) + (n : Int) / 64 % 64).toNat.toUInt8).toNat = 128 + n / 64 % 64 := by rw [show ((128 : Int) + (n : Int) / 64 % 64).toNat = 128 + n / 64 % 64 by omega]; exact u8 _ (by omega)
        have e2 : (((128 : Int) + (n : Int) % 64).toNat.toUInt8).toNat = 128 + n % 64 := by rw [show ((128 : Int) + (n : Int) % 64).toNat = 128 + n % 64 by omega]; exact u8 _ (by omega)
        simp only [List.map_cons, List.map_nil, List.cons_append, List.nil_append, List.getD_cons_zero, List.getD_cons_succ, e0, e1, e2, List.length_cons, List.length_nil]
        unfold Lib.decodeN
        rw [if_neg (by omega), if_neg (by omega), if_pos (by omega), if_pos (by omega)]
        congr 1; omega
      · rw [Lib.encodeRuneZ, if_neg (by omega), if_neg (by omega), if_neg (by omega), if_pos (by omega)]
        have e0 : (((240 : Int) + (n : Int) / 262144).toNat.toUInt8).toNat = 240 + n / 262144 := by rw [show ((240 : Int) + (n : Int) / 262144).toNat = 240 + n / 262144 by omega]; exact u8 _ (by omega)
        have e1 : (((128 : Int) + (n : Int) / 4096 % 64).toNat.toUInt8).toNat = 128 + n / 4096 % 64 := by rw [show ((128 : Int) + (n : Int) / 4096 % 64).toNat = 128 + n / 4096 % 64 by omega]; exact u8 _ (by omega)
        have e2 : (((128 : Int) + (n : Int) / 64 % 64).toNat.toUInt8).toNat = 128 + n / 64 % 64 := by rw [show ((128 : Int) + (n : Int) / 64 % 64).toNat = 128 + n / 64 % 64 by omega]; exact u8 _ (by omega)
        have e3 : (((128 : Int) + (n : Int) % 64).toNat.toUInt8).toNat = 128 + n % 64 := by rw [show ((128 : Int) + (n : Int) % 64).toNat = 128 + n % 64 by omega]; exact u8 _ (by omega)
        simp only [List.map_cons, List.map_nil, List.cons_append, List.nil_append, List.getD_cons_zero, List.getD_cons_succ, e0, e1, e2, e3, List.length_cons, List.length_nil]
        unfold Lib.decodeN
        rw [if_neg (by omega), if_neg (by omega), if_neg (by omega), if_pos (by omega), if_pos (by omega)]
        congr 1; omega
theorem enc_len_pos (r : Int) : 1 ≤ (enc r).length := by
  unfold enc Lib.encodeRune Lib.encodeRuneZ
  rw [List.length_map]
  repeat' split
  all_goals simp
theorem enc_ne (r : Int) : enc r ≠ [] := fun e => by have := enc_len_pos r; rw [e] at this; simp at this
theorem enc_len3 (r : Int) (h : 2048 ≤ r) : 3 ≤ (enc r).length := by
  unfold enc Lib.encodeRune Lib.encodeRuneZ
  rw [List.length_map]
  repeat' split
  all_goals first | (simp; done) | omega
theorem tk_enc (n : Nat) (h : letterB (n : Int) = true) (x : List UInt8) : tk (enc (n : Int) ++ x) = some (n, (enc (n : Int)).length) := by
  unfold tk
  rw [decode_enc n h x, if_neg]
  rintro (e | ⟨e1, e2⟩)
  · exact enc_ne _ (List.append_eq_nil_iff.1 e).1
  · simp only at e1 e2
    have := enc_len3 (n : Int) (by omega)
    omega

/-- what is taken is written so -/
theorem tk_some {l : List UInt8} {r n : Nat} (h : tk l = some (r, n)) : letterB (r : Int) = true ∧ enc (r : Int) = l.take n ∧ n ≤ l.length ∧ 1 ≤ n := by
  unfold tk at h
  split at h
  · cases h
  · rename_i hc
    have hne : l ≠ [] := fun e => hc (.inl e)
    have hv : ¬ ((Lib.decodeL l).1 = 65533 ∧ (Lib.decodeL l).2 = 1) := fun e => hc (.inr e)
    have he := Lib.encode_decode l hne hv
    have hle := Lib.decodeL_le l hne
    have hw := Lib.decodeL_width l
    have hd := Option.some.inj h
    rw [hd] at he hle hw hv
    refine ⟨?_, he, hle, hw⟩
    rw [letter_iff]
    rw [Lib.decodeL_N] at hd
    rcases Lib.decodeN_shape l.length (l.getD 0 0).toNat (l.getD 1 0).toNat (l.getD 2 0).toNat (l.getD 3 0).toNat with ⟨c, e⟩ | ⟨c1, c2, c3, cv, e⟩ | ⟨c1, c2, c3, c4, cv, cs, e⟩ | ⟨c1, c2, c3, c4, c5, cv, cs, e⟩ | e
    all_goals rw [e] at hd; simp only [Prod.mk.injEq] at hd; obtain ⟨rfl, rfl⟩ := hd
    · omega
    · omega
    · omega
    · omega
    · exact absurd ⟨rfl, rfl⟩ hv
theorem tk_of {l : List UInt8} {r : Nat} (hr : letterB (r : Int) = true) {n : Nat} (h : enc (r : Int) = l.take n) (hn : n ≤ l.length) : tk l = some (r, n) := by
  have h2 := tk_enc r hr (l.drop n)
  rw [h, List.take_append_drop] at h2
  rw [h2, List.length_take]
  congr 2; omega

theorem btL (s : ByteArray) (i : Nat) : bt s (i : Int) = (((s.data.toList.getD i 0).toNat : Nat) : Int) := by
  unfold bt
  split
  · rename_i h
    rw [Int.toNat_natCast] at h
    have hl : i < s.data.toList.length := by rw [data_length]; exact h
    rw [List.getD_eq_getElem?_getD, List.getElem?_eq_getElem hl]; simp; rfl
  · rename_i h
    rw [Int.toNat_natCast] at h
    have hl : s.data.toList.length ≤ i := by rw [data_length]; omega
    rw [List.getD_eq_getElem?_getD, List.getElem?_eq_none hl]; rfl
/-- what the reference answers behind the bytes -/
def finR (s : ByteArray) (n : Int) (long : Nat) : Int × Int × Bool := if letterB n = true ∧ enc n = s.data.toList.take long then (n, (long : Int), true) else (0, 0, false)
theorem l0_done (k : Nat) (s : ByteArray) (long : Nat) (n i : Int) (hk : 0 < k) (hi : (long : Int) ≤ i) (hl : long ≤ s.size) : cracknelref05_Take.l0 k s (long : Int) n i = some (finR s n long) := by
  obtain ⟨k, rfl⟩ : ∃ m, k = m + 1 := ⟨k - 1, by omega⟩
  simp only [cracknelref05_Take.l0]
  rw [if_neg (by omega), refPut, Option.bind_some]
  unfold putS finR
  by_cases h : letterB n = true
  · rw [if_pos h, if_pos (show ((⟨(enc n).toArray⟩ : ByteArray), true).2 = true from rfl), if_pos (by omega), if_pos (by omega), Int.toNat_natCast]
    have e : (s.extract 0 long).toList = s.data.toList.take long := by
      rw [Lib.toList_data, ByteArray.data_extract, Array.toList_extract]; simp
    rw [e]
    show (if (⟨(enc n).toArray⟩ : ByteArray).toList = _ then _ else _) = _
    rw [Lib.toList_data]
    by_cases h2 : enc n = s.data.toList.take long
    · rw [if_pos h2, if_pos ⟨h, h2⟩]
    · rw [if_neg h2, if_neg (fun hh => h2 hh.2)]
  · rw [if_neg h, if_neg (by decide), if_neg (fun hh => h hh.1)]
theorem l0_step (k : Nat) (s : ByteArray) (long i m : Nat) (hi : i < long) (hl : long ≤ s.size) (hs : long ≤ 4) (hm : m < 1048576000000) :
    cracknelref05_Take.l0 (k + 1) s (long : Int) (m : Int) (i : Int) = cracknelref05_Take.l0 k s (long : Int) ((64 * m + (s.data.toList.getD i 0).toNat % 64 : Nat) : Int) ((i + 1 : Nat) : Int) := by
  have hb := UInt8.toNat_lt (s.data.toList.getD i 0)
  rw [cracknelref05_Take.l0, if_pos (by omega), if_pos (by omega), if_pos (by omega), btL, w64 (x := (((s.data.toList.getD i 0).toNat : Nat) : Int)) (by omega) (by omega), Int.tmod_eq_emod_of_nonneg (by omega), w64 (x := 64 * (m : Int)) (by omega) (by omega), w64 (by omega) (by omega), w64 (by omega) (by omega)]
  congr 1
/-- the first byte's part -/
def fstR (b : Nat) : Nat × Nat := if b < 128 then (1, b) else if 192 ≤ b ∧ b < 224 then (2, b - 192) else if 224 ≤ b ∧ b < 240 then (3, b - 224) else if 240 ≤ b ∧ b < 248 then (4, b - 240) else (0, 0)
theorem first_R (k b : Nat) (hk : 2 < k) (hb : b < 256) : cracknelref05_first.f k (b : Int) = some (((fstR b).1 : Int), ((fstR b).2 : Int)) := by
  obtain ⟨k, rfl⟩ : ∃ m, k = m + 1 + 1 := ⟨k - 2, by omega⟩
  unfold cracknelref05_first.f fstR
  by_cases a : b < 128
  · rw [if_pos (by omega), if_pos a]; rfl
  · rw [if_neg (show ¬ (b : Int) < 128 by omega), if_neg a]
    by_cases c : 192 ≤ b ∧ b < 224
    · rw [if_pos (show (b : Int) ≥ 192 by omega), decide_eq_true (show (b : Int) < 224 by omega), if_pos c, cracknelref05_first.j0, if_pos rfl, w64 (by omega) (by omega)]
      congr 2; omega
    · rw [if_neg c]
      by_cases d : 224 ≤ b ∧ b < 240
      · rw [if_pos (show (b : Int) ≥ 192 by omega), decide_eq_false (show ¬ (b : Int) < 224 by omega), if_pos d, cracknelref05_first.j0, if_neg (by decide), if_pos (show (b : Int) ≥ 224 by omega), decide_eq_true (show (b : Int) < 240 by omega), cracknelref05_first.j1, if_pos rfl, w64 (by omega) (by omega)]
        congr 2; omega
      · rw [if_neg d]
        by_cases e : 240 ≤ b ∧ b < 248
        · rw [if_pos (show (b : Int) ≥ 192 by omega), decide_eq_false (show ¬ (b : Int) < 224 by omega), if_pos e, cracknelref05_first.j0, if_neg (by decide), if_pos (show (b : Int) ≥ 224 by omega), decide_eq_false (show ¬ (b : Int) < 240 by omega), cracknelref05_first.j1, if_neg (by decide), if_pos (show (b : Int) ≥ 240 by omega), if_pos (show (b : Int) < 248 by omega), w64 (by omega) (by omega)]
          congr 2; omega
        · rw [if_neg e]
          by_cases f : 192 ≤ b
          · rw [if_pos (show (b : Int) ≥ 192 by omega), decide_eq_false (show ¬ (b : Int) < 224 by omega), cracknelref05_first.j0, if_neg (by decide), if_pos (show (b : Int) ≥ 224 by omega), decide_eq_false (show ¬ (b : Int) < 240 by omega), cracknelref05_first.j1, if_neg (by decide), if_pos (show (b : Int) ≥ 240 by omega), if_neg (show ¬ (b : Int) < 248 by omega)]; rfl
          · rw [if_neg (show ¬ (b : Int) ≥ 192 by omega), cracknelref05_first.j0, if_neg (by decide), if_neg (show ¬ (b : Int) ≥ 224 by omega), cracknelref05_first.j1, if_neg (by decide), if_neg (show ¬ (b : Int) ≥ 240 by omega)]; rfl
/-- all of the bytes told -/
def acc (l : List UInt8) : Nat → Nat → Nat
  | 2, n => 64 * n + (l.getD 1 0).toNat % 64
  | 3, n => 64 * (64 * n + (l.getD 1 0).toNat % 64) + (l.getD 2 0).toNat % 64
  | 4, n => 64 * (64 * (64 * n + (l.getD 1 0).toNat % 64) + (l.getD 2 0).toNat % 64) + (l.getD 3 0).toNat % 64
  | _, n => n
def refTakeS (s : ByteArray) : Int × Int × Bool :=
  let d := fstR (s.data.toList.getD 0 0).toNat
  if s.size = 0 ∨ d.1 = 0 ∨ s.size < d.1 then (0, 0, false) else finR s ((acc s.data.toList d.1 d.2 : Nat) : Int) d.1
theorem fst_bd (b : Nat) (hb : b < 256) : (fstR b).1 ≤ 4 ∧ (fstR b).2 < 256 := by
  unfold fstR; repeat' split
  all_goals simp only; omega
theorem refTake (k : Nat) (s : ByteArray) (hk : 10 < k) : cracknelref05_Take.f k s = some (refTakeS s) := by
  obtain ⟨k, rfl⟩ : ∃ m, k = m + 1 + 1 + 1 + 1 + 1 := ⟨k - 5, by omega⟩
  have hb := UInt8.toNat_lt (s.data.toList.getD 0 0)
  unfold cracknelref05_Take.f refTakeS
  by_cases h0 : s.size = 0
  · rw [if_pos (show (s.size : Int) = 0 by omega), if_pos (Or.inl h0)]
  · rw [if_neg (show ¬ (s.size : Int) = 0 by omega), if_pos (show 0 < (s.size : Int) by omega), show (0 : Int) = ((0 : Nat) : Int) by rfl, btL, w64 (by omega) (by omega), first_R _ _ (by omega) hb, Option.bind_some]
    have hbd := fst_bd _ hb
    obtain ⟨⟨L, n⟩, hd⟩ : ∃ d, fstR (s.data.toList.getD 0 0).toNat = d := ⟨_, rfl⟩
    rw [hd] at hbd
    rw [hd]
    simp only at hbd ⊢
    by_cases h1 : L = 0
    · rw [if_pos (show (L : Int) = ((0 : Nat) : Int) by omega), if_pos (Or.inr (Or.inl h1)), cracknelref05_Take.j0, if_pos rfl]; rfl
    · rw [if_neg (show ¬ (L : Int) = ((0 : Nat) : Int) by omega), cracknelref05_Take.j0]
      by_cases h2 : s.size < L
      · rw [if_pos (decide_eq_true (show (L : Int) > (s.size : Int) by omega)), if_pos (Or.inr (Or.inr h2))]; rfl
      · rw [if_neg (show ¬ decide ((L : Int) > (s.size : Int)) = true by rw [decide_eq_true_iff]; omega), if_neg (show ¬ (s.size = 0 ∨ L = 0 ∨ s.size < L) by omega)]
        have hc1 := UInt8.toNat_lt (s.data.toList.getD 1 0)
        have hc2 := UInt8.toNat_lt (s.data.toList.getD 2 0)
        have hc : L = 1 ∨ L = 2 ∨ L = 3 ∨ L = 4 := by omega
        rw [show (1 : Int) = ((1 : Nat) : Int) by rfl]
        rcases hc with rfl | rfl | rfl | rfl
        · rw [l0_done _ s 1 _ _ (by omega) (by omega) (by omega)]; rfl
        · rw [l0_step _ s 2 1 n (by omega) (by omega) (by omega) (by omega), l0_done _ s 2 _ _ (by omega) (by omega) (by omega)]; rfl
        · rw [l0_step _ s 3 1 n (by omega) (by omega) (by omega) (by omega), l0_step _ s 3 2 _ (by omega) (by omega) (by omega) (by omega), l0_done _ s 3 _ _ (by omega) (by omega) (by omega)]; rfl
        · rw [l0_step _ s 4 1 n (by omega) (by omega) (by omega) (by omega), l0_step _ s 4 2 _ (by omega) (by omega) (by omega) (by omega), l0_step _ s 4 3 _ (by omega) (by omega) (by omega) (by omega), l0_done _ s 4 _ _ (by omega) (by omega) (by omega)]; rfl
theorem getD_app (a x : List UInt8) (i : Nat) (h : i < a.length) : (a ++ x).getD i 0 = a.getD i 0 := by
  rw [List.getD_eq_getElem?_getD, List.getD_eq_getElem?_getD, List.getElem?_append_left h]
/-- the reference's first byte and the rest tell a letter's number -/
theorem fst_enc (n : Nat) (h : letterB (n : Int) = true) (x : List UInt8) : (fstR ((enc (n : Int) ++ x).getD 0 0).toNat).1 = (enc (n : Int)).length ∧ acc (enc (n : Int) ++ x) (enc (n : Int)).length (fstR ((enc (n : Int) ++ x).getD 0 0).toNat).2 = n := by
  obtain ⟨h0, h1, h2⟩ := (letter_iff _).1 h
  unfold enc Lib.encodeRune
  by_cases a : n < 128
  · rw [Lib.encodeRuneZ, if_pos (by omega)]
    have e : ((n : Int).toNat.toUInt8).toNat = n := by rw [Int.toNat_natCast]; exact u8 n (by omega)
    simp only [List.map_cons, List.map_nil, List.cons_append, List.nil_append, List.getD_cons_zero, e, List.length_cons, List.length_nil]
    unfold fstR; rw [if_pos a]; exact ⟨rfl, rfl⟩
  · by_cases b : n < 2048
    · rw [Lib.encodeRuneZ, if_neg (by omega), if_pos (by omega)]
      have e0 : (((192 : Int) + (n : Int) / 64).toNat.toUInt8).toNat = 192 + n / 64 := by rw [show ((192 : Int) + (n : Int) / 64).toNat = 192 + n / 64 by omega]; exact u8 _ (by omega)
      have e1 : (((128 : Int) + (n : Int) % 64).toNat.toUInt8).toNat = 128 + n % 64 := by rw [show ((128 : Int) + (n : Int) % 64).toNat = 128 + n % 64 by omega]; exact u8 _ (by omega)
      simp only [List.map_cons, List.map_nil, List.cons_append, List.nil_append, List.getD_cons_zero, List.getD_cons_succ, e0, List.length_cons, List.length_nil, acc]
      unfold fstR
      rw [if_neg (by omega), if_pos (by omega)]
      refine ⟨rfl, ?_⟩
      simp only [e1]; omega
    · by_cases c : n < 65536
      · rw [Lib.encodeRuneZ, if_neg (by omega), if_neg (by omega), if_pos (by omega)]
        have e0 : (((224 : Int) + (n : Int) / 4096).toNat.toUInt8).toNat = 224 + n / 4096 := by rw [show ((224 : Int) + (n : Int) / 4096).toNat = 224 + n / 4096 by omega]; exact u8 _ (by omega)
        have e1 : (((128 : Int) + (n : Int) / 64 % 64).toNat.toUInt8).toNat = 128 + n / 64 % 64 := by rw [show ((128 : Int) + (n : Int) / 64 % 64).toNat = 128 + n / 64 % 64 by omega]; exact u8 _ (by omega)
        have e2 : (((128 : Int) + (n : Int) % 64).toNat.toUInt8).toNat = 128 + n % 64 := by rw [show ((128 : Int) + (n : Int) % 64).toNat = 128 + n % 64 by omega]; exact u8 _ (by omega)
        simp only [List.map_cons, List.map_nil, List.cons_append, List.nil_append, List.getD_cons_zero, List.getD_cons_succ, e0, List.length_cons, List.length_nil, acc]
        unfold fstR
        rw [if_neg (by omega), if_neg (by omega), if_pos (by omega)]
        refine ⟨rfl, ?_⟩
        simp only [e1, e2]; omega
      · rw [Lib.encodeRuneZ, if_neg (by omega), if_neg (by omega), if_neg (by omega), if_pos (by omega)]
        have e0 : (((240 : Int) + (n : Int) / 262144).toNat.toUInt8).toNat = 240 + n / 262144 := by rw [show ((240 : Int) + (n : Int) / 262144).toNat = 240 + n / 262144 by omega]; exact u8 _ (by omega)
        have e1 : (((128 : Int) + (n : Int) / 4096 % 64).toNat.toUInt8).toNat = 128 + n / 4096 % 64 := by rw [show ((128 : Int) + (n : Int) / 4096 % 64).toNat = 128 + n / 4096 % 64 by omega]; exact u8 _ (by omega)
        have e2 : (((128 : Int) + (n : Int) / 64 % 64).toNat.toUInt8).toNat = 128 + n / 64 % 64 := by rw [show ((128 : Int) + (n : Int) / 64 % 64).toNat = 128 + n / 64 % 64 by omega]; exact u8 _ (by omega)
        have e3 : (((128 : Int) + (n : Int) % 64).toNat.toUInt8).toNat = 128 + n % 64 := by rw [show ((128 : Int) + (n : Int) % 64).toNat = 128 + n % 64 by omega]; exact u8 _ (by omega)
        simp only [List.map_cons, List.map_nil, List.cons_append, List.nil_append, List.getD_cons_zero, List.getD_cons_succ, e0, List.length_cons, List.length_nil, acc]
        unfold fstR
        rw [if_neg (by omega), if_neg (by omega), if_neg (by omega), if_pos (by omega)]
        refine ⟨rfl, ?_⟩
        simp only [e1, e2, e3]; omega
theorem refTakeS_eq (s : ByteArray) : refTakeS s = takeS s := by
  have hsz : s.data.toList.length = s.size := data_length s
  unfold takeS
  cases ht : tk s.data.toList with
  | some d =>
    obtain ⟨r, n⟩ := d
    obtain ⟨hl, he, hn, h1⟩ := tk_some ht
    have hx : s.data.toList = enc (r : Int) ++ s.data.toList.drop n := by rw [he, List.take_append_drop]
    have hlen : (enc (r : Int)).length = n := by rw [he, List.length_take]; omega
    have hf := fst_enc r hl (s.data.toList.drop n)
    rw [← hx, hlen] at hf
    unfold refTakeS
    simp only
    rw [hf.1, if_neg (by omega), hf.2]
    unfold finR
    rw [if_pos ⟨hl, he⟩]
  | none =>
    unfold refTakeS
    simp only
    split
    · rfl
    · rename_i hc
      unfold finR
      split
      · rename_i hh
        have := tk_of hh.1 hh.2 (by omega)
        rw [ht] at this; cases this
      · rfl

/-- a letter's bytes as numbers -/
def encN (n : Nat) : List Nat :=
  if n < 128 then [n] else if n < 2048 then [192 + n / 64, 128 + n % 64] else if n < 65536 then [224 + n / 4096, 128 + n / 64 % 64, 128 + n % 64] else [240 + n / 262144, 128 + n / 4096 % 64, 128 + n / 64 % 64, 128 + n % 64]
theorem enc_N (n : Nat) (h : letterB (n : Int) = true) : enc (n : Int) = (encN n).map Nat.toUInt8 ∧ ∀ x ∈ encN n, x < 256 := by
  obtain ⟨h0, h1, h2⟩ := (letter_iff _).1 h
  unfold enc Lib.encodeRune encN
  by_cases a : n < 128
  · rw [Lib.encodeRuneZ, if_pos (by omega), if_pos a]
    exact ⟨by simp, by intro x hx; simp at hx; omega⟩
  · by_cases b : n < 2048
    · rw [Lib.encodeRuneZ, if_neg (by omega), if_pos (by omega), if_neg a, if_pos b]
      have e0 : ((192 : Int) + (n : Int) / 64).toNat = 192 + n / 64 := by omega
      have e1 : ((128 : Int) + (n : Int) % 64).toNat = 128 + n % 64 := by omega
      exact ⟨by simp only [List.map_cons, List.map_nil, e0, e1], by intro x hx; simp at hx; omega⟩
    · by_cases c : n < 65536
      · rw [Lib.encodeRuneZ, if_neg (by omega), if_neg (by omega), if_pos (by omega), if_neg a, if_neg b, if_pos c]
        have e0 : ((224 : Int) + (n : Int) / 4096).toNat = 224 + n / 4096 := by omega
        have e1 : ((128 : Int) + (n : Int) / 64 % 64).toNat = 128 + n / 64 % 64 := by omega
        have e2 : ((128 : Int) + (n : Int) % 64).toNat = 128 + n % 64 := by omega
        exact ⟨by simp only [List.map_cons, List.map_nil, e0, e1, e2], by intro x hx; simp at hx; omega⟩
      · rw [Lib.encodeRuneZ, if_neg (by omega), if_neg (by omega), if_neg (by omega), if_pos (by omega), if_neg a, if_neg b, if_neg c]
        have e0 : ((240 : Int) + (n : Int) / 262144).toNat = 240 + n / 262144 := by omega
        have e1 : ((128 : Int) + (n : Int) / 4096 % 64).toNat = 128 + n / 4096 % 64 := by omega
        have e2 : ((128 : Int) + (n : Int) / 64 % 64).toNat = 128 + n / 64 % 64 := by omega
        have e3 : ((128 : Int) + (n : Int) % 64).toNat = 128 + n % 64 := by omega
        exact ⟨by simp only [List.map_cons, List.map_nil, e0, e1, e2, e3], by intro x hx; simp at hx; omega⟩
def natLess : List Nat → List Nat → Bool
  | _, [] => false
  | [], _ :: _ => true
  | a :: x, b :: y => decide (a < b) || (decide (a = b) && natLess x y)
theorem less_map : ∀ (x y : List Nat), (∀ a ∈ x, a < 256) → (∀ b ∈ y, b < 256) → Op.bytesLess (x.map Nat.toUInt8) (y.map Nat.toUInt8) = natLess x y
  | x, [], _, _ => by cases x <;> rfl
  | [], b :: y, _, _ => rfl
  | a :: x, b :: y, hx, hy => by
    have ih := less_map x y (fun c hc => hx c (List.mem_cons_of_mem _ hc)) (fun c hc => hy c (List.mem_cons_of_mem _ hc))
    have ha := u8 a (hx a (List.mem_cons_self ..))
    have hb := u8 b (hy b (List.mem_cons_self ..))
    simp only [List.map_cons, Op.bytesLess, natLess, ih]
    have e1 : decide (a.toUInt8 < b.toUInt8) = decide (a < b) := by rw [decide_eq_decide, UInt8.lt_iff_toNat_lt, ha, hb]
    have e2 : (a.toUInt8 == b.toUInt8) = decide (a = b) := by
      rw [Bool.eq_iff_iff, beq_iff_eq, decide_eq_true_iff]
      constructor
      · intro e; have := congrArg UInt8.toNat e; rw [ha, hb] at this; exact this
      · intro e; rw [e]
    rw [e1, e2]
theorem less_enc (a b : Nat) (ha : a ≤ 1114111) (hb : b ≤ 1114111) : natLess (encN a) (encN b) = decide (a < b) := by
  unfold encN
  repeat' split
  all_goals (rw [Bool.eq_iff_iff, decide_eq_true_iff]; simp only [natLess, Bool.or_eq_true, Bool.and_eq_true, decide_eq_true_iff, Bool.false_eq_true, and_false, or_false]; first | done | omega)
theorem eq_enc (a b : Nat) (ha : letterB (a : Int) = true) (hb : letterB (b : Int) = true) : enc (a : Int) = enc (b : Int) ↔ a = b := by
  constructor
  · intro e
    have h1 := tk_enc a ha []
    have h2 := tk_enc b hb []
    rw [e, h2] at h1
    exact ((Prod.mk.inj (Option.some.inj h1)).1).symm
  · intro e; rw [e]

/-- the letters of bytes -/
def letsN : Nat → List UInt8 → Option (List Int)
  | 0, _ => some []
  | n + 1, l => if l = [] then some [] else match tk l with | none => none | some (r, m) => (letsN n (l.drop m)).map fun x => (r : Int) :: x
def lets (l : List UInt8) : Option (List Int) := letsN l.length l
theorem letsN_of : ∀ (a b : Nat) (l : List UInt8), l.length ≤ a → l.length ≤ b → letsN a l = letsN b l
  | 0, b, l, ha, hb => by
    have : l = [] := List.eq_nil_of_length_eq_zero (by omega)
    subst this
    cases b <;> simp [letsN]
  | a + 1, 0, l, ha, hb => by
    have : l = [] := List.eq_nil_of_length_eq_zero (by omega)
    subst this
    simp [letsN]
  | a + 1, b + 1, l, ha, hb => by
    simp only [letsN]
    split
    · rfl
    · rename_i hne
      cases ht : tk l with
      | none => rfl
      | some d =>
        obtain ⟨r, m⟩ := d
        obtain ⟨_, _, h1, h2⟩ := tk_some ht
        simp only
        rw [letsN_of a b (l.drop m) (by rw [List.length_drop]; omega) (by rw [List.length_drop]; omega)]
theorem lets_nil : lets [] = some [] := rfl
theorem lets_none {l : List UInt8} (hne : l ≠ []) (ht : tk l = none) : lets l = none := by
  unfold lets
  cases l with
  | nil => exact absurd rfl hne
  | cons b t => simp only [List.length_cons, letsN]; rw [if_neg hne, ht]
theorem lets_some {l : List UInt8} {r m : Nat} (hne : l ≠ []) (ht : tk l = some (r, m)) : lets l = (lets (l.drop m)).map fun x => (r : Int) :: x := by
  obtain ⟨_, _, h1, h2⟩ := tk_some ht
  unfold lets
  cases l with
  | nil => exact absurd rfl hne
  | cons b t =>
    simp only [List.length_cons, letsN]; rw [if_neg hne, ht]
    simp only
    rw [letsN_of t.length _ _ (by rw [List.length_drop, List.length_cons]; omega) (Nat.le_refl _)]
theorem tk_none {l : List UInt8} (hne : l ≠ []) : tk l = none ↔ ((Lib.decodeL l).1 = 65533 ∧ (Lib.decodeL l).2 = 1) := by
  unfold tk
  constructor
  · intro h; split at h
    · rename_i hc; exact hc.elim (fun e => absurd e hne) id
    · cases h
  · intro h; rw [if_pos (Or.inr h)]
theorem tk_dec {l : List UInt8} {r m : Nat} (ht : tk l = some (r, m)) : l ≠ [] ∧ Lib.decodeL l = (r, m) := by
  unfold tk at ht
  split at ht
  · cases ht
  · rename_i hc
    exact ⟨fun e => hc (.inl e), Option.some.inj ht⟩
theorem valid_lets : ∀ (n : Nat) (l : List UInt8), l.length ≤ n → Lib.validD l = (lets l).isSome
  | 0, l, h => by
    have : l = [] := List.eq_nil_of_length_eq_zero (by omega)
    subst this; rfl
  | n + 1, l, h => by
    by_cases hne : l = []
    · subst hne; rfl
    · rw [Lib.validD_step l hne]
      cases ht : tk l with
      | none => rw [if_pos ((tk_none hne).1 ht), lets_none hne ht]; rfl
      | some d =>
        obtain ⟨r, m⟩ := d
        obtain ⟨_, hd⟩ := tk_dec ht
        obtain ⟨_, _, h1, h2⟩ := tk_some ht
        rw [if_neg (fun e => by have := (tk_none hne).2 e; rw [ht] at this; cases this), lets_some hne ht, hd, valid_lets n (l.drop m) (by rw [List.length_drop]; omega), Option.isSome_map]
theorem runesP_lets (s : ByteArray) : ∀ (n p : Nat) (xs : List Int), s.size - p ≤ n → lets (s.data.toList.drop p) = some xs → runesP s n p = xs
  | 0, p, xs, hn, h => by
    have : s.data.toList.drop p = [] := List.drop_eq_nil_of_le (by rw [data_length]; omega)
    rw [this, lets_nil] at h
    exact (Option.some.inj h)
  | n + 1, p, xs, hn, h => by
    rw [runesP]
    by_cases hp : p < s.size
    · rw [if_pos hp]
      have hne : s.data.toList.drop p ≠ [] := by
        intro e
        have := congrArg List.length e
        rw [List.length_drop, data_length] at this
        simp at this; omega
      cases ht : tk (s.data.toList.drop p) with
      | none => rw [lets_none hne ht] at h; cases h
      | some d =>
        obtain ⟨r, m⟩ := d
        obtain ⟨_, hd⟩ := tk_dec ht
        obtain ⟨_, _, h1, h2⟩ := tk_some ht
        rw [lets_some hne ht, List.drop_drop] at h
        rw [← Lib.decodeL_drop s p, hd]
        cases hx : lets (s.data.toList.drop (p + m)) with
        | none => rw [hx] at h; cases h
        | some ys =>
          rw [hx] at h
          rw [runesP_lets s n (p + m) ys (by omega) hx]
          exact Option.some.inj h
    · rw [if_neg hp]
      have : s.data.toList.drop p = [] := List.drop_eq_nil_of_le (by rw [data_length]; omega)
      rw [this, lets_nil] at h
      exact (Option.some.inj h)
theorem runes_lets (s : ByteArray) : runesS s = match lets s.data.toList with | none => ([], false) | some xs => (xs, true) := by
  unfold runesS
  rw [valid_lets _ _ (Nat.le_refl _)]
  cases h : lets s.data.toList with
  | none => rfl
  | some xs =>
    rw [if_pos (show (some xs).isSome = true from rfl), runesP_lets s s.size 0 xs (by omega) (by rw [List.drop_zero]; exact h)]

/-- the letters' bytes -/
def encs : List Int → List UInt8
  | [] => []
  | r :: l => enc r ++ encs l
theorem encs_app : ∀ (a b : List Int), encs (a ++ b) = encs a ++ encs b
  | [], _ => rfl
  | r :: a, b => by rw [List.cons_append, encs, encs, encs_app a b, List.append_assoc]
theorem lets_enc (r : Int) (h : letterB r = true) (x : List UInt8) : lets (enc r ++ x) = (lets x).map fun y => r :: y := by
  obtain ⟨h0, _, _⟩ := (letter_iff r).1 h
  obtain ⟨n, rfl⟩ : ∃ n : Nat, r = n := ⟨r.toNat, by omega⟩
  have hne : enc (n : Int) ++ x ≠ [] := fun e => enc_ne _ (List.append_eq_nil_iff.1 e).1
  rw [lets_some hne (tk_enc n h x), List.drop_left]
theorem lets_encs (y : List UInt8) : ∀ (l : List Int), (∀ x ∈ l, letterB x = true) → lets (encs l ++ y) = (lets y).map fun z => l ++ z
  | [], _ => by simp [encs]
  | r :: l, h => by
    rw [encs, List.append_assoc, lets_enc r (h r (List.mem_cons_self ..)), lets_encs y l (fun x hx => h x (List.mem_cons_of_mem _ hx)), Option.map_map]
    rfl
theorem of_lets : ∀ (n : Nat) (l : List UInt8) (xs : List Int), l.length ≤ n → lets l = some xs → (∀ x ∈ xs, letterB x = true) ∧ encs xs = l
  | 0, l, xs, hn, h => by
    have : l = [] := List.eq_nil_of_length_eq_zero (by omega)
    subst this
    cases h
    exact ⟨by simp, rfl⟩
  | n + 1, l, xs, hn, h => by
    by_cases hne : l = []
    · subst hne; cases h; exact ⟨by simp, rfl⟩
    · cases ht : tk l with
      | none => rw [lets_none hne ht] at h; cases h
      | some d =>
        obtain ⟨r, m⟩ := d
        obtain ⟨hl, he, h1, h2⟩ := tk_some ht
        rw [lets_some hne ht] at h
        cases hx : lets (l.drop m) with
        | none => rw [hx] at h; cases h
        | some ys =>
          rw [hx] at h
          obtain ⟨a, b⟩ := of_lets n (l.drop m) ys (by rw [List.length_drop]; omega) hx
          have := (Option.some.inj h).symm
          subst this
          refine ⟨?_, ?_⟩
          · intro x hx'
            rcases List.mem_cons.1 hx' with rfl | hx'
            · exact hl
            · exact a x hx'
          · rw [encs, he, b, List.take_append_drop]
theorem textN_encs (l : List Int) (hl : ∀ j : Nat, j < l.length → letterB (rd l (j : Int)) = true) : ∀ k, k ≤ l.length → textN l k = encs (l.take k)
  | 0, _ => by rw [textN, List.take_zero]; rfl
  | k + 1, h => by
    have e : l.take (k + 1) = l.take k ++ [rd l (k : Int)] := by
      rw [List.take_add_one]
      congr 1
      unfold rd
      rw [Int.toNat_natCast, List.getElem?_eq_getElem (by omega), List.getD_eq_getElem?_getD, List.getElem?_eq_getElem (by omega)]
      rfl
    rw [textN, textN_encs l hl k (by omega), e, encs_app, encode_enc _ (hl k (by omega))]
    show encs (List.take k l) ++ enc (rd l ↑k) = encs (List.take k l) ++ (enc (rd l ↑k) ++ [])
    rw [List.append_nil]
theorem all_rd (l : List Int) : (∀ j : Nat, j < l.length → letterB (rd l (j : Int)) = true) ↔ ∀ x ∈ l, letterB x = true := by
  have e : ∀ j : Nat, ∀ h : j < l.length, rd l (j : Int) = l[j] := by
    intro j h
    unfold rd
    rw [Int.toNat_natCast, List.getD_eq_getElem?_getD, List.getElem?_eq_getElem h]; rfl
  constructor
  · intro h x hx
    obtain ⟨j, hj, rfl⟩ := List.mem_iff_getElem.1 hx
    rw [← e j hj]; exact h j hj
  · intro h j hj
    rw [e j hj]; exact h _ (List.getElem_mem hj)
theorem text_encs (l : List Int) : textS l = if (∀ x ∈ l, letterB x = true) then (⟨(encs l).toArray⟩, true) else (⟨#[]⟩, false) := by
  unfold textS
  by_cases h : ∀ x ∈ l, letterB x = true
  · have h' := (all_rd l).2 h
    rw [if_pos h', if_pos h, textN_encs l h' _ (Nat.le_refl _), List.take_length]
  · rw [if_neg h, if_neg (fun h' => h ((all_rd l).1 h'))]
theorem encs_len : ∀ l : List Int, (encs l).length ≤ 4 * l.length
  | [] => Nat.le_refl _
  | r :: l => by
    have := encs_len l
    have h2 : (enc r).length ≤ 4 := by
      unfold enc Lib.encodeRune Lib.encodeRuneZ
      rw [List.length_map]
      repeat' split
      all_goals simp
    rw [encs, List.length_append, List.length_cons]; omega

/-! ### the reference's -/
theorem rd_drop (l : List Int) (i : Nat) (h : i < l.length) : l.drop i = rd l (i : Int) :: l.drop (i + 1) := by
  rw [List.drop_eq_getElem_cons h]
  congr 1
  unfold rd
  rw [Int.toNat_natCast, List.getD_eq_getElem?_getD, List.getElem?_eq_getElem h]; rfl
theorem refText_l0 : ∀ (n k i : Nat) (l : List Int) (o : ByteArray), l.length - i = n → i ≤ l.length → n < k → o.size + 4 * n ≤ 1073741824 → l.length ≤ 1073741824 →
    cracknelref05_Text.l0 k l o (i : Int) = some (if (∀ x ∈ l.drop i, letterB x = true) then (o ++ ⟨(encs (l.drop i)).toArray⟩, true) else (⟨#[]⟩, false))
  | 0, k, i, l, o, h1, h2, h3, h4, h5 => by
    obtain ⟨k, rfl⟩ : ∃ m, k = m + 1 := ⟨k - 1, by omega⟩
    have e : l.drop i = [] := List.drop_eq_nil_of_le (by omega)
    simp only [cracknelref05_Text.l0]
    rw [if_neg (by omega), e, if_pos (by simp)]
    congr 2
    apply ofList_eq; rw [ByteArray.data_append, Array.toList_append]; simp [encs]
  | n + 1, k, i, l, o, h1, h2, h3, h4, h5 => by
    obtain ⟨k, rfl⟩ : ∃ m, k = m + 1 := ⟨k - 1, by omega⟩
    simp only [cracknelref05_Text.l0]
    rw [if_pos (by omega), if_pos (by omega), refPut, Option.bind_some, rd_drop l i (by omega)]
    unfold putS
    by_cases hr : letterB (rd l (i : Int)) = true
    · rw [if_pos hr, if_pos rfl]
      have hsz : ((⟨(enc (rd l (i : Int))).toArray⟩ : ByteArray), true).1.size ≤ 4 := by
        have := encs_len [rd l (i : Int)]
        rw [encs, List.length_append] at this
        show (enc (rd l (i : Int))).toArray.size ≤ 4
        rw [List.size_toArray]
        simp at this; omega
      rw [if_pos (by omega), w64 (by omega) (by omega), show ((i : Int) + 1) = ((i + 1 : Nat) : Int) by omega]
      rw [refText_l0 n k (i + 1) l _ (by omega) (by omega) (by omega) (by rw [ByteArray.size_append]; omega) h5]
      congr 1
      by_cases ha : ∀ x ∈ l.drop (i + 1), letterB x = true
      · rw [if_pos ha, if_pos (by intro x hx; rcases List.mem_cons.1 hx with rfl | hx; exact hr; exact ha x hx)]
        congr 1
        apply ofList_eq
        simp [ByteArray.data_append, Array.toList_append, encs]
      · rw [if_neg ha, if_neg (fun hh => ha (fun x hx => hh x (List.mem_cons_of_mem _ hx)))]
    · rw [if_neg hr, if_neg (by decide), if_neg (fun hh => hr (hh _ (List.mem_cons_self ..)))]
theorem refText (k : Nat) (l : List Int) (hk : l.length < k) (hl : l.length ≤ 268435456) : cracknelref05_Text.f k l = some (textS l) := by
  unfold cracknelref05_Text.f
  rw [show (0 : Int) = ((0 : Nat) : Int) from rfl, refText_l0 l.length k 0 l ⟨#[]⟩ (by omega) (by omega) hk (by show 0 + _ ≤ _; omega) (by omega), text_encs, List.drop_zero]
  congr 1
theorem same_l0 : ∀ (n k i : Nat) (a b : List Int), a.length - i = n → a.length = b.length → i ≤ a.length → n < k → a.length ≤ 1073741824 →
    cracknelref05_Same.l0 k a b (i : Int) = some (decide (a.drop i = b.drop i))
  | 0, k, i, a, b, h1, h2, h3, h4, h5 => by
    obtain ⟨k, rfl⟩ : ∃ m, k = m + 1 := ⟨k - 1, by omega⟩
    simp only [cracknelref05_Same.l0]
    rw [if_neg (by omega), List.drop_eq_nil_of_le (by omega), List.drop_eq_nil_of_le (by omega)]; rfl
  | n + 1, k, i, a, b, h1, h2, h3, h4, h5 => by
    obtain ⟨k, rfl⟩ : ∃ m, k = m + 1 := ⟨k - 1, by omega⟩
    simp only [cracknelref05_Same.l0]
    rw [if_pos (by omega), if_pos (by omega), if_pos (by omega), rd_drop a i (by omega), rd_drop b i (by omega)]
    by_cases h : rd a (i : Int) = rd b (i : Int)
    · rw [if_pos h, w64 (by omega) (by omega), show ((i : Int) + 1) = ((i + 1 : Nat) : Int) by omega, same_l0 n k (i + 1) a b (by omega) h2 (by omega) (by omega) h5, h]
      congr 1
      rw [decide_eq_decide]; simp
    · rw [if_neg h]
      congr 1
      symm
      rw [decide_eq_false_iff_not]
      intro e
      exact h (List.cons.inj e).1
theorem same_f (k : Nat) (a b : List Int) (hk : a.length < k) (ha : a.length ≤ 1073741824) : cracknelref05_Same.f k a b = some (decide (a = b)) := by
  unfold cracknelref05_Same.f
  by_cases h : a.length = b.length
  · rw [if_pos (by omega), show (0 : Int) = ((0 : Nat) : Int) from rfl, same_l0 a.length k 0 a b (by omega) h (by omega) hk ha, List.drop_zero, List.drop_zero]
  · rw [if_neg (by omega)]
    congr 1; symm; rw [decide_eq_false_iff_not]; intro e; exact h (by rw [e])
theorem refRunes_l0 : ∀ (n k : Nat) (s : ByteArray) (o : List Int), s.size ≤ n → n + 12 < k → o.length + n ≤ 1073741824 →
    cracknelref05_Runes.l0 k s o = some (match lets s.data.toList with | none => ([], false) | some xs => (o ++ xs, true))
  | n, k, s, o, h1, h2, h3 => by
    obtain ⟨k, rfl⟩ : ∃ m, k = m + 1 := ⟨k - 1, by omega⟩
    simp only [cracknelref05_Runes.l0]
    have hsz : s.data.toList.length = s.size := data_length s
    by_cases h0 : s.size = 0
    · have e : s.data.toList = [] := List.eq_nil_of_length_eq_zero (by omega)
      rw [if_neg (by omega), e, lets_nil]
      simp
    · have hne : s.data.toList ≠ [] := fun e => h0 (by rw [← hsz, e]; rfl)
      rw [if_pos (by omega), refTake k s (by omega), refTakeS_eq, Option.bind_some]
      unfold takeS
      cases ht : tk s.data.toList with
      | none =>
        simp only
        rw [if_neg (by decide), lets_none hne ht]
      | some d =>
        obtain ⟨r, m⟩ := d
        obtain ⟨_, _, q1, q2⟩ := tk_some ht
        simp only
        rw [if_pos trivial, if_pos (by omega), if_pos (by omega), if_pos (by omega), Int.toNat_natCast]
        have e : (s.extract m s.size).data.toList = s.data.toList.drop m := by
          rw [ByteArray.data_extract, Array.toList_extract]
          simp
          rw [List.take_of_length_le (by rw [List.length_drop]; omega)]
        have hs2 : (s.extract m s.size).size = s.size - m := by rw [← data_length, e, List.length_drop, hsz]
        obtain ⟨n, rfl⟩ : ∃ z, n = z + 1 := ⟨n - 1, by omega⟩
        rw [refRunes_l0 n k _ _ (by omega) (by omega) (by rw [List.length_append, List.length_singleton]; omega), e, lets_some hne ht]
        cases lets (s.data.toList.drop m) with
        | none => rfl
        | some xs => simp
theorem refRunes (k : Nat) (s : ByteArray) (hk : s.size + 12 < k) (hs : s.size ≤ 1073741824) : cracknelref05_Runes.f k s = some (runesS s) := by
  unfold cracknelref05_Runes.f
  rw [refRunes_l0 s.size k s [] (by omega) hk (by simp; omega), runes_lets]
  congr 1

theorem len_lets : ∀ (n : Nat) (l : List UInt8) (xs : List Int), l.length ≤ n → lets l = some xs → xs.length ≤ l.length := by
  intro n l xs hn h
  obtain ⟨a, rfl⟩ := of_lets n l xs hn h
  clear h hn a
  induction xs with
  | nil => simp
  | cons r x ih => rw [encs, List.length_append, List.length_cons]; have := enc_len_pos r; omega
end Go.Proofs.YthhmmaihbjhhgaaDoor.Giv
