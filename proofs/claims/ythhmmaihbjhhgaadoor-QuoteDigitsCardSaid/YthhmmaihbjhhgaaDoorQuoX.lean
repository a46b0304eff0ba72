/- Plain law of texts in quotes: writing, the pieces, the program's reading. -/
import Derived.Test.YthhmmaihbjhhgaaDoorUtfZ
import Derived.Test.YthhmmaihbjhhgaaDoorQ2x1
import Derived.Test.YthhmmaihbjhhgaaDoorQ1x3
namespace Go.Proofs.YthhmmaihbjhhgaaDoor.Giv
open Go.RowKit Go.Proofs.YthhmmaihbjhhgaaDoorW.PrintWords Go.Proofs.YthhmmaihbjhhgaaDoorW.PrintLast Go.Proofs.YthhmmaihbjhhgaaDoorW.PrintMore
open Go.Proofs.YthhmmaihbjhhgaaDoor.U1 Go.Proofs.YthhmmaihbjhhgaaDoor.Q1 Go.Proofs.YthhmmaihbjhhgaaDoor.Q2


set_option maxRecDepth 100000 in
theorem alive7 : cracknellaw07_alive.f 20 = some true := by decide +kernel
theorem alive07 (k : Nat) (hk : 20 ≤ k) : cracknellaw07_alive.f k = some true := at_rounds cracknellaw07_alive.mono hk alive7

def shortI (n : Int) : Int := if n = 34 ∨ n = 92 then n else if n = 8 then 98 else if n = 9 then 116 else if n = 10 then 110 else if n = 12 then 102 else if n = 13 then 114 else 0
theorem short_f (k : Nat) (n : Int) (hk : 0 < k) : cracknelref07_short.f k n = some (shortI n) := by
  obtain ⟨k, rfl⟩ : ∃ m, k = m + 1 := ⟨k - 1, by omega⟩
  unfold cracknelref07_short.f shortI
  by_cases a : n = 34
  · subst a; rfl
  · rw [if_neg a, cracknelref07_short.j0]
    by_cases b : n = 92
    · subst b; rfl
    · rw [if_neg (show ¬ (n == 92) = true by simpa using b), if_neg (show ¬ (n = 34 ∨ n = 92) by omega)]
      repeat' split
      all_goals rfl
def sgn (a : Int) : Int := if a < 10 then (48 + a) % 256 else (87 + a) % 256
theorem sign_f (a : Int) : cracknelref07_sign.f a = some (sgn a) := by
  unfold cracknelref07_sign.f sgn; split <;> rfl
def pieceI (n : Int) : List Int := if shortI n = 0 then (if n < 32 then [92, 117, 48, 48, sgn (n / 16), sgn (n % 16)] else [n]) else [92, shortI n]
set_option maxRecDepth 100000 in
theorem piece_I : ∀ n : Nat, n < 256 → (pieceI (n : Int)).map (fun x => UInt8.ofNat x.toNat) = pieceN n := by decide +kernel
theorem pieceI_len (n : Int) : (pieceI n).length ≤ 6 := by unfold pieceI; repeat' split
                                                           all_goals simp
theorem refWrite_step (k : Nat) (s : ByteArray) (x : List Int) (i : Nat) (hk : 0 < k) (hi : i < s.size) (hs : s.size ≤ 1073741824) (hx : x.length ≤ 10737418240) :
    cracknelref07_Write.l0 (k + 1) s x (i : Int) = cracknelref07_Write.l0 k s (x ++ pieceI (bt s (i : Int))) ((i + 1 : Nat) : Int) := by
  have hb := bt_range s (i : Int)
  simp only [cracknelref07_Write.l0]
  rw [if_pos (by omega), if_pos (by omega), short_f k _ hk, Option.bind_some, Option.bind_some, w64 (by omega) (by omega), show ((i : Int) + 1) = ((i + 1 : Nat) : Int) by omega]
  unfold pieceI
  by_cases a : shortI (bt s (i : Int)) = 0
  · rw [if_pos a, if_pos a]
    by_cases b : bt s (i : Int) < 32
    · rw [if_pos b, if_pos b, sign_f, sign_f, Option.bind_some, Option.bind_some, Option.bind_some, Int.tdiv_eq_ediv_of_nonneg hb.1, Int.tmod_eq_emod_of_nonneg hb.1, show bt s (i : Int) / 16 % 256 = bt s (i : Int) / 16 by omega, if_pos (by simp; omega)]
    · rw [if_neg b, if_neg b, if_pos (by omega)]
  · rw [if_neg a, if_neg a, Option.bind_some, if_pos (by simp; omega)]

theorem byte_bt (s : ByteArray) (i : Nat) : bt s (i : Int) = (((s.data.toList.getD i 0).toNat : Nat) : Int) := btL s i
theorem drop_byte (s : ByteArray) (i : Nat) (hi : i < s.size) : s.data.toList.drop i = s.data.toList.getD i 0 :: s.data.toList.drop (i + 1) := by
  have hl : i < s.data.toList.length := by rw [data_length]; exact hi
  rw [List.drop_eq_getElem_cons hl]
  congr 1
  rw [List.getD_eq_getElem?_getD, List.getElem?_eq_getElem hl]; rfl
def toB (x : List Int) : List UInt8 := x.map fun n => UInt8.ofNat n.toNat
theorem toB_app (a b : List Int) : toB (a ++ b) = toB a ++ toB b := List.map_append ..
theorem toB_piece (s : ByteArray) (i : Nat) : toB (pieceI (bt s (i : Int))) = pieceN (s.data.toList.getD i 0).toNat := by
  rw [byte_bt s i]
  exact piece_I _ (UInt8.toNat_lt _)
theorem refWrite_l0 (s : ByteArray) (hs : s.size ≤ 1048576) : ∀ (n k i : Nat) (x : List Int), s.size - i = n → i ≤ s.size → n + 1 < k → x.length ≤ 6 * i + 1 →
    cracknelref07_Write.l0 k s x (i : Int) = some (⟨(toB x ++ inner (s.data.toList.drop i) ++ [34]).toArray⟩, true)
  | 0, k, i, x, h1, h2, h3, h4 => by
    obtain ⟨k, rfl⟩ : ∃ m, k = m + 1 := ⟨k - 1, by omega⟩
    have e : s.data.toList.drop i = [] := List.drop_eq_nil_of_le (by rw [data_length]; omega)
    simp only [cracknelref07_Write.l0]
    rw [if_neg (by omega), if_pos (by omega), e, inner, List.append_nil]
    congr 2
    apply ofList_eq
    rw [strOfNums_list]
    exact toB_app x [34]
  | n + 1, k, i, x, h1, h2, h3, h4 => by
    obtain ⟨k, rfl⟩ : ∃ m, k = m + 1 := ⟨k - 1, by omega⟩
    have hl := pieceI_len (bt s (i : Int))
    rw [refWrite_step k s x i (by omega) (by omega) (by omega) (by omega), refWrite_l0 s hs n k (i + 1) _ (by omega) (by omega) (by omega) (by rw [List.length_append]; omega)]
    rw [toB_app, toB_piece s i, drop_byte s i (by omega), inner]
    congr 3
    rw [List.append_assoc, List.append_assoc, List.append_assoc, List.append_assoc]
theorem refValid (k : Nat) (s : ByteArray) (hk : s.size + 12 < k) (hs : s.size ≤ 1073741824) : cracknelref05_Valid.f k s = some (Lib.validD s.data.toList) := by
  unfold cracknelref05_Valid.f
  rw [refRunes k s hk hs, Option.bind_some]
  unfold runesS
  by_cases h : Lib.validD s.data.toList = true
  · rw [if_pos h, h]
  · rw [if_neg h, Bool.eq_false_iff.2 h]
theorem refWrite (k : Nat) (s : ByteArray) (hk : s.size + 12 < k) (hs : s.size ≤ 1048576) : cracknelref07_Write.f k s = some (writeS s) := by
  unfold cracknelref07_Write.f writeS
  rw [refValid k s hk (by omega), Option.bind_some]
  by_cases h : Lib.validD s.data.toList = true
  · rw [if_pos h, if_pos h, show (0 : Int) = ((0 : Nat) : Int) from rfl, refWrite_l0 s hs s.size k 0 [34] (by omega) (by omega) (by omega) (by simp), List.drop_zero]
    rfl
  · rw [if_neg h, if_neg h]

/-- a hexadecimal digit's number, or -1 -/
def hv (n : Nat) : Int := if 48 ≤ n ∧ n ≤ 57 then (n : Int) - 48 else if 97 ≤ n ∧ n ≤ 102 then (n : Int) - 87 else if 65 ≤ n ∧ n ≤ 70 then (n : Int) - 55 else -1
theorem hv_bd (n : Nat) : -1 ≤ hv n ∧ hv n < 16 := by unfold hv; repeat' split
                                                      all_goals omega
def hexL : List UInt8 := [48, 49, 50, 51, 52, 53, 54, 55, 56, 57, 97, 98, 99, 100, 101, 102]
def hexU : List UInt8 := [48, 49, 50, 51, 52, 53, 54, 55, 56, 57, 65, 66, 67, 68, 69, 70]
set_option maxRecDepth 100000 in
theorem hv_index : ∀ n : Nat, n < 256 → (if Lib.indexByte hexL n.toUInt8 < 0 then Lib.indexByte hexU n.toUInt8 else Lib.indexByte hexL n.toUInt8) = hv n := by decide +kernel
theorem bits_or_i64_small (a b : Nat) (ha : a < 65536) (hb : b < 16) : Go.bits .or .i64 ((a : Int) * 16) (b : Int) = ((a * 16 + b : Nat) : Int) := by
  rw [show (a : Int) * 16 = ((a * 16 : Nat) : Int) by omega]
  have h1 : (BitVec.ofInt 64 ((a * 16 : Nat) : Int)).toNat = a * 16 := by
    rw [BitVec.ofInt_natCast, BitVec.toNat_ofNat]; exact Nat.mod_eq_of_lt (by omega)
  have h2 : (BitVec.ofInt 64 (b : Int)).toNat = b := by
    rw [BitVec.ofInt_natCast, BitVec.toNat_ofNat]; exact Nat.mod_eq_of_lt (by omega)
  have ho : a * 16 ||| b = a * 16 + b := by
    have := Nat.shiftLeft_add_eq_or_of_lt (i := 4) (b := b) (by omega) a
    rw [Nat.shiftLeft_eq] at this
    exact this.symm
  show IntKind.i64.wrap ((BitVec.ofInt 64 ((a * 16 : Nat) : Int) ||| BitVec.ofInt 64 (b : Int)).toNat : Int) = _
  rw [BitVec.toNat_or, h1, h2, ho]
  rw [i64_w]
  exact w64 (x := ((a * 16 + b : Nat) : Int)) (by omega) (by omega)
theorem digits_step (k : Nat) (s : ByteArray) (a i : Nat) (hi : i < 4) (hs : 4 ≤ s.size) (ha : a < 65536) :
    quote_digits.l0 (k + 1) s (a : Int) (i : Int) = if hv (s.data.toList.getD i 0).toNat < 0 then some (-1) else quote_digits.l0 k s (((a : Int) * 16 + hv (s.data.toList.getD i 0).toNat)) ((i + 1 : Nat) : Int) := by
  simp only [quote_digits.l0]
  have hn := UInt8.toNat_lt (s.data.toList.getD i 0)
  have hh := hv_index _ hn
  have hbd := hv_bd (s.data.toList.getD i 0).toNat
  rw [if_pos (by omega), if_pos (by omega), if_pos (by omega), byte_bt s i]
  generalize (s.data.toList.getD i 0).toNat = n at hn hh hbd ⊢
  unfold strings_IndexByte.f
  rw [Option.bind_some, Option.bind_some, Int.toNat_natCast, w64 (x := (i : Int) + 1) (by omega) (by omega), w64 (x := (a : Int) * 16) (by omega) (by omega), show ((i : Int) + 1) = ((i + 1 : Nat) : Int) by omega]
  show (if Lib.indexByte hexL n.toUInt8 < 0 then if Lib.indexByte hexU n.toUInt8 < 0 then some (-1) else quote_digits.l0 k s (Go.bits .or .i64 ((a : Int) * 16) (Lib.indexByte hexU n.toUInt8)) ((i + 1 : Nat) : Int) else quote_digits.l0 k s (Go.bits .or .i64 ((a : Int) * 16) (Lib.indexByte hexL n.toUInt8)) ((i + 1 : Nat) : Int)) = _
  by_cases c : Lib.indexByte hexL n.toUInt8 < 0
  · rw [if_pos c] at hh
    rw [if_pos c, hh]
    by_cases d : hv n < 0
    · rw [if_pos d, if_pos d]
    · rw [if_neg d, if_neg d]
      obtain ⟨m, hm⟩ : ∃ m : Nat, hv n = m := ⟨(hv n).toNat, by omega⟩
      rw [hm, bits_or_i64_small a m ha (by omega)]
      congr 1
  · rw [if_neg c] at hh
    rw [hh] at c
    rw [hh, if_neg c, if_neg c]
    obtain ⟨m, hm⟩ : ∃ m : Nat, hv n = m := ⟨(hv n).toNat, by omega⟩
    rw [hm, bits_or_i64_small a m ha (by omega)]
    congr 1
/-- the number of four digits at a list's beginning; -1: there are none -/
def digN (l : List UInt8) : Int :=
  if l.length < 4 then -1 else if hv (l.getD 0 0).toNat < 0 ∨ hv (l.getD 1 0).toNat < 0 ∨ hv (l.getD 2 0).toNat < 0 ∨ hv (l.getD 3 0).toNat < 0 then -1
  else ((hv (l.getD 0 0).toNat * 16 + hv (l.getD 1 0).toNat) * 16 + hv (l.getD 2 0).toNat) * 16 + hv (l.getD 3 0).toNat
theorem digN_bd (l : List UInt8) : -1 ≤ digN l ∧ digN l < 65536 := by
  have h0 := hv_bd (l.getD 0 0).toNat
  have h1 := hv_bd (l.getD 1 0).toNat
  have h2 := hv_bd (l.getD 2 0).toNat
  have h3 := hv_bd (l.getD 3 0).toNat
  unfold digN; repeat' split
  all_goals omega
theorem digits_f (k : Nat) (s : ByteArray) (hk : 4 < k) : quote_digits.f k s = some (digN s.data.toList) := by
  obtain ⟨k, rfl⟩ : ∃ m, k = m + 1 + 1 + 1 + 1 + 1 := ⟨k - 5, by omega⟩
  have hl : s.data.toList.length = s.size := data_length s
  have h0 := hv_bd (s.data.toList.getD 0 0).toNat
  have h1 := hv_bd (s.data.toList.getD 1 0).toNat
  have h2 := hv_bd (s.data.toList.getD 2 0).toNat
  have h3 := hv_bd (s.data.toList.getD 3 0).toNat
  unfold quote_digits.f digN
  by_cases c : s.size < 4
  · rw [if_pos (by omega), if_pos (by omega)]
  · rw [if_neg (by omega), if_neg (by omega)]
    have st : ∀ (k : Nat) (i : Nat) (a : Int), i < 4 → 0 ≤ a → a < 65536 → quote_digits.l0 (k + 1) s a (i : Int) = if hv (s.data.toList.getD i 0).toNat < 0 then some (-1) else quote_digits.l0 k s (a * 16 + hv (s.data.toList.getD i 0).toNat) ((i + 1 : Nat) : Int) := by
      intro k i a hi ha0 ha1
      obtain ⟨m, rfl⟩ : ∃ m : Nat, a = m := ⟨a.toNat, by omega⟩
      exact digits_step k s m i hi (by omega) (by omega)
    have e0 := st (k + 1 + 1 + 1 + 1) 0 0 (by omega) (by omega) (by omega)
    show quote_digits.l0 (k + 1 + 1 + 1 + 1 + 1) s 0 ((0 : Nat) : Int) = _
    rw [e0]
    by_cases d0 : hv (s.data.toList.getD 0 0).toNat < 0
    · rw [if_pos d0, if_pos (by omega)]
    · rw [if_neg d0, st _ 1 _ (by omega) (by omega) (by omega)]
      by_cases d1 : hv (s.data.toList.getD 1 0).toNat < 0
      · rw [if_pos d1, if_pos (by omega)]
      · rw [if_neg d1, st _ 2 _ (by omega) (by omega) (by omega)]
        by_cases d2 : hv (s.data.toList.getD 2 0).toNat < 0
        · rw [if_pos d2, if_pos (by omega)]
        · rw [if_neg d2, st _ 3 _ (by omega) (by omega) (by omega)]
          by_cases d3 : hv (s.data.toList.getD 3 0).toNat < 0
          · rw [if_pos d3, if_pos (by omega)]
          · rw [if_neg d3, if_neg (by omega)]
            simp only [quote_digits.l0]
            rw [if_neg (by omega)]
            congr 1
            omega

theorem extract_drop (s : ByteArray) (m : Nat) : (s.extract m s.size).data.toList = s.data.toList.drop m := by
  rw [ByteArray.data_extract, Array.toList_extract]
  simp
  rw [List.take_of_length_le (by rw [List.length_drop, data_length]; exact Nat.le_refl _)]
/-- what stands behind a u: a number, and how many bytes; -1: none -/
def numL (l : List UInt8) : Int × Int :=
  if digN l < 55296 ∨ 57344 ≤ digN l then (digN l, 4)
  else if 56320 ≤ digN l ∨ l.length < 6 ∨ (l.getD 4 0).toNat ≠ 92 ∨ (l.getD 5 0).toNat ≠ 117 then (-1, 0)
  else if digN (l.drop 6) < 56320 ∨ 57344 ≤ digN (l.drop 6) then (-1, 0)
  else (65536 + (digN l - 55296) * 1024 + digN (l.drop 6) - 56320, 10)
theorem numbered_f (k : Nat) (s : ByteArray) (hk : 8 < k) : quote_numbered.f k s = some (numL s.data.toList) := by
  obtain ⟨k, rfl⟩ : ∃ m, k = m + 1 + 1 := ⟨k - 2, by omega⟩
  have hl : s.data.toList.length = s.size := data_length s
  have hd := digN_bd s.data.toList
  have hd6 := digN_bd (s.data.toList.drop 6)
  unfold quote_numbered.f numL
  rw [digits_f _ s (by omega), Option.bind_some]
  generalize digN s.data.toList = n at hd ⊢
  by_cases a : n < 55296
  · rw [if_pos a, if_pos (show n < 55296 ∨ 57344 ≤ n by omega), quote_numbered.j0, if_pos rfl]
  · rw [if_neg a, quote_numbered.j0]
    by_cases b : 57344 ≤ n
    · rw [if_pos (by simpa using b), if_pos (show n < 55296 ∨ 57344 ≤ n by omega)]
    · rw [if_neg (by simpa using b), if_neg (show ¬ (n < 55296 ∨ 57344 ≤ n) by omega)]
      by_cases c : 56320 ≤ n
      · rw [if_pos (show n ≥ 56320 from c), if_pos (show 56320 ≤ n ∨ s.data.toList.length < 6 ∨ (s.data.toList.getD 4 0).toNat ≠ 92 ∨ (s.data.toList.getD 5 0).toNat ≠ 117 by omega), quote_numbered.j1, if_pos rfl]
      · rw [if_neg (show ¬ n ≥ 56320 from c)]
        by_cases d : s.size < 6
        · rw [if_pos (show (s.size : Int) < 6 by omega), if_pos (show 56320 ≤ n ∨ s.data.toList.length < 6 ∨ (s.data.toList.getD 4 0).toNat ≠ 92 ∨ (s.data.toList.getD 5 0).toNat ≠ 117 by omega), quote_numbered.j1, if_pos rfl]
        · rw [if_neg (show ¬ (s.size : Int) < 6 by omega), if_pos (show 4 < (s.size : Int) by omega), show (4 : Int) = ((4 : Nat) : Int) from rfl, show (5 : Int) = ((5 : Nat) : Int) from rfl, byte_bt, byte_bt]
          by_cases e : (s.data.toList.getD 4 0).toNat = 92
          · rw [if_pos (show (((s.data.toList.getD 4 0).toNat : Nat) : Int) = 92 by omega), if_pos (show ((5 : Nat) : Int) < (s.size : Int) by omega), quote_numbered.j1]
            by_cases f : (s.data.toList.getD 5 0).toNat = 117
            · rw [if_neg (show ¬ ((((s.data.toList.getD 5 0).toNat : Nat) : Int) != 117) = true by rw [bne_iff_ne]; omega), if_neg (show ¬ (56320 ≤ n ∨ s.data.toList.length < 6 ∨ (s.data.toList.getD 4 0).toNat ≠ 92 ∨ (s.data.toList.getD 5 0).toNat ≠ 117) by omega), if_pos (show 6 ≤ (s.size : Int) by omega), digits_f _ _ (by omega), Option.bind_some, extract_drop]
              generalize digN (s.data.toList.drop 6) = m at hd6 ⊢
              by_cases g : m < 56320
              · rw [if_pos g, if_pos (show m < 56320 ∨ 57344 ≤ m by omega)]
              · rw [if_neg g]
                by_cases g2 : 57344 ≤ m
                · rw [if_pos (show m ≥ 57344 from g2), if_pos (show m < 56320 ∨ 57344 ≤ m by omega)]
                · rw [if_neg (show ¬ m ≥ 57344 from g2), if_neg (show ¬ (m < 56320 ∨ 57344 ≤ m) by omega)]
                  rw [w64 (x := n - 55296) (by omega) (by omega), w64 (x := (n - 55296) * 1024) (by omega) (by omega), w64 (x := 65536 + (n - 55296) * 1024) (by omega) (by omega), w64 (x := 65536 + (n - 55296) * 1024 + m) (by omega) (by omega), w64 (by omega) (by omega)]
            · rw [if_pos (show ((((s.data.toList.getD 5 0).toNat : Nat) : Int) != 117) = true by rw [bne_iff_ne]; omega), if_pos (show 56320 ≤ n ∨ s.data.toList.length < 6 ∨ (s.data.toList.getD 4 0).toNat ≠ 92 ∨ (s.data.toList.getD 5 0).toNat ≠ 117 by omega)]
          · rw [if_neg (show ¬ (((s.data.toList.getD 4 0).toNat : Nat) : Int) = 92 by omega), if_pos (show 56320 ≤ n ∨ s.data.toList.length < 6 ∨ (s.data.toList.getD 4 0).toNat ≠ 92 ∨ (s.data.toList.getD 5 0).toNat ≠ 117 by omega), quote_numbered.j1, if_pos rfl]
/-- what a sign behind a backslash means; 0: none -/
def meanB (n : Nat) : UInt8 := if n = 98 then 8 else if n = 116 then 9 else if n = 110 then 10 else if n = 102 then 12 else if n = 114 then 13 else 0
set_option maxRecDepth 100000 in
theorem mean_index : ∀ n : Nat, n < 256 → if 0 ≤ Lib.indexByte [98, 116, 110, 102, 114] n.toUInt8 then (Lib.indexByte [98, 116, 110, 102, 114] n.toUInt8 ≤ 4 ∧ meanB n ≠ 0 ∧ ((⟨#[8, 9, 10, 12, 13]⟩ : ByteArray).extract (Lib.indexByte [98, 116, 110, 102, 114] n.toUInt8).toNat (Lib.indexByte [98, 116, 110, 102, 114] n.toUInt8 + 1).toNat).data.toList = [meanB n]) else meanB n = 0 := by decide +kernel
/-- a piece that begins with a backslash: its bytes, how many it has, its error -/
def escL (l : List UInt8) : List UInt8 × Int × Int :=
  if l.length < 2 then ([], 0, 73)
  else if meanB (l.getD 1 0).toNat ≠ 0 then ([meanB (l.getD 1 0).toNat], 2, 0)
  else if (l.getD 1 0).toNat = 34 ∨ (l.getD 1 0).toNat = 92 ∨ (l.getD 1 0).toNat = 47 then ([l.getD 1 0], 2, 0)
  else if (l.getD 1 0).toNat = 117 then (if letterB (numL (l.drop 2)).1 = true then (enc (numL (l.drop 2)).1, 2 + (numL (l.drop 2)).2, 0) else ([], 0, 73))
  else ([], 0, 73)
def packR (r : List UInt8 × Int × Int) : ByteArray × Int × Int := (⟨r.1.toArray⟩, r.2.1, r.2.2)
theorem numL_bd (l : List UInt8) : (numL l).2 = 0 ∨ (numL l).2 = 4 ∨ (numL l).2 = 10 := by
  unfold numL; repeat' split
  all_goals simp
theorem esc_j0 (k : Nat) (s : ByteArray) (hk : 9 < k) (h2 : 2 ≤ s.size) (b : Bool) (hb : b = true ↔ ((s.data.toList.getD 1 0).toNat = 34 ∨ (s.data.toList.getD 1 0).toNat = 92 ∨ (s.data.toList.getD 1 0).toNat = 47)) (hm : meanB (s.data.toList.getD 1 0).toNat = 0) :
    quote_escape.j0 k s (((s.data.toList.getD 1 0).toNat : Nat) : Int) b = some (packR (escL s.data.toList)) := by
  obtain ⟨k, rfl⟩ : ∃ m, k = m + 1 := ⟨k - 1, by omega⟩
  have hl : s.data.toList.length = s.size := data_length s
  rw [quote_escape.j0]
  unfold escL
  rw [if_neg (show ¬ s.data.toList.length < 2 by omega), if_neg (show ¬ meanB (s.data.toList.getD 1 0).toNat ≠ 0 from fun h => h hm)]
  by_cases a : b = true
  · rw [if_pos a, if_pos (by decide), if_pos (by omega), if_pos (hb.1 a)]
    congr 1
    unfold packR
    simp only
    congr 1
    apply ofList_eq
    have e := drop_byte s 1 (by omega)
    rw [ByteArray.data_extract, Array.toList_extract]
    simp only [List.extract, e]
    rfl
  · rw [if_neg a, if_neg (fun h => a (hb.2 h))]
    by_cases c : (s.data.toList.getD 1 0).toNat = 117
    · rw [if_pos (by omega), if_pos (by omega), if_pos c, numbered_f _ _ (by omega), extract_drop, Option.bind_some, put_S _ _ (by omega), Option.bind_some]
      have hn := numL_bd (s.data.toList.drop 2)
      unfold putS
      by_cases d : letterB (numL (s.data.toList.drop 2)).1 = true
      · rw [if_pos d, if_pos d, if_pos rfl, w64 (by omega) (by omega)]; rfl
      · rw [if_neg d, if_neg d, if_neg (by decide)]; rfl
    · rw [if_neg (by omega), if_neg c]; rfl
theorem escape_f (k : Nat) (s : ByteArray) (hk : 9 < k) : quote_escape.f k s = some (packR (escL s.data.toList)) := by
  have hl : s.data.toList.length = s.size := data_length s
  unfold quote_escape.f
  by_cases a : s.size < 2
  · rw [if_pos (by omega)]
    unfold escL
    rw [if_pos (show s.data.toList.length < 2 by omega)]; rfl
  · rw [if_neg (by omega), if_pos (by omega), show (1 : Int) = ((1 : Nat) : Int) from rfl, byte_bt]
    have hn := UInt8.toNat_lt (s.data.toList.getD 1 0)
    have hm := mean_index _ hn
    have hj := esc_j0 k s hk (by omega)
    have hE : ¬ s.data.toList.length < 2 := by omega
    unfold strings_IndexByte.f
    rw [Option.bind_some, Int.toNat_natCast]
    show (if Lib.indexByte [98, 116, 110, 102, 114] (s.data.toList.getD 1 0).toNat.toUInt8 ≥ 0 then _ else _) = _
    by_cases b : 0 ≤ Lib.indexByte [98, 116, 110, 102, 114] (s.data.toList.getD 1 0).toNat.toUInt8
    · rw [if_pos b] at hm
      rw [if_pos (show Lib.indexByte [98, 116, 110, 102, 114] (s.data.toList.getD 1 0).toNat.toUInt8 ≥ 0 from b)]
      show (if 0 ≤ Lib.indexByte [98, 116, 110, 102, 114] (s.data.toList.getD 1 0).toNat.toUInt8 then (if Lib.indexByte [98, 116, 110, 102, 114] (s.data.toList.getD 1 0).toNat.toUInt8 ≤ wrap64 (Lib.indexByte [98, 116, 110, 102, 114] (s.data.toList.getD 1 0).toNat.toUInt8 + 1) then (if wrap64 (Lib.indexByte [98, 116, 110, 102, 114] (s.data.toList.getD 1 0).toNat.toUInt8 + 1) ≤ 5 then some ((⟨#[8, 9, 10, 12, 13]⟩ : ByteArray).extract (Lib.indexByte [98, 116, 110, 102, 114] (s.data.toList.getD 1 0).toNat.toUInt8).toNat (wrap64 (Lib.indexByte [98, 116, 110, 102, 114] (s.data.toList.getD 1 0).toNat.toUInt8 + 1)).toNat, (2 : Int), (0 : Int)) else none) else none) else none) = _
      unfold escL
      rw [if_neg hE, if_pos hm.2.1]
      obtain ⟨h1, _, h3⟩ := hm
      generalize Lib.indexByte [98, 116, 110, 102, 114] (s.data.toList.getD 1 0).toNat.toUInt8 = t at b h1 h3 ⊢
      rw [w64 (x := t + 1) (by omega) (by omega), if_pos b, if_pos (by omega), if_pos (by omega)]
      congr 1
      unfold packR
      simp only
      congr 1
      apply ofList_eq
      rw [h3]
    · rw [if_neg b] at hm
      rw [if_neg (show ¬ Lib.indexByte [98, 116, 110, 102, 114] (s.data.toList.getD 1 0).toNat.toUInt8 ≥ 0 from b)]
      by_cases c : (s.data.toList.getD 1 0).toNat = 34
      · rw [if_pos (by omega)]
        exact hj _ (by rw [beq_iff_eq]; omega) hm
      · rw [if_neg (by omega)]
        by_cases d : (s.data.toList.getD 1 0).toNat = 92
        · rw [if_pos (by omega)]
          exact hj _ (by rw [beq_iff_eq]; omega) hm
        · rw [if_neg (by omega)]
          exact hj _ (by rw [beq_iff_eq]; omega) hm
/-- a piece that is a letter -/
def plainL (l : List UInt8) : List UInt8 × Int × Int := match tk l with | none => ([], 0, 74) | some (_, n) => (l.take n, (n : Int), 0)
theorem plain_f (s : ByteArray) : quote_plain.f s = some (packR (plainL s.data.toList)) := by
  have hl : s.data.toList.length = s.size := data_length s
  unfold quote_plain.f plainL
  rw [take_S, Option.bind_some]
  unfold takeS
  cases ht : tk s.data.toList with
  | none => rfl
  | some d =>
    obtain ⟨r, n⟩ := d
    obtain ⟨_, _, h1, h2⟩ := tk_some ht
    simp only
    rw [if_pos trivial, if_pos (by omega), if_pos (by omega), Int.toNat_natCast]
    congr 1
    unfold packR
    simp only
    congr 1
    apply ofList_eq
    rw [ByteArray.data_extract, Array.toList_extract]; simp

def oneL (l : List UInt8) : List UInt8 × Int × Int := if (l.getD 0 0).toNat = 92 then escL l else plainL l
/-- what stands behind the first mark: its bytes, how many were read, the error; none: the fuel has ended -/
def readL : Nat → List UInt8 → Option (List UInt8 × Int × Int)
  | 0, _ => none
  | n + 1, l => if l = [] then some ([], 0, 71) else if (l.getD 0 0).toNat = 34 then some ([], 1, 0) else if (l.getD 0 0).toNat < 32 then some ([], 0, 72)
    else if (oneL l).2.2 = 0 then (readL n (l.drop (oneL l).2.1.toNat)).map fun q => if q.2.2 = 0 then ((oneL l).1 ++ q.1, (oneL l).2.1 + q.2.1, 0) else ([], 0, q.2.2) else some ([], 0, (oneL l).2.2)
theorem enc_len4 (r : Int) : (enc r).length ≤ 4 := by
  have := encs_len [r]
  rw [encs, List.length_append] at this
  simp at this; omega
theorem digN_len (l : List UInt8) (h : 0 ≤ digN l) : 4 ≤ l.length := by
  unfold digN at h
  by_cases c : l.length < 4
  · rw [if_pos c] at h; omega
  · omega
theorem numL_len (l : List UInt8) (h : letterB (numL l).1 = true) : 0 ≤ (numL l).2 ∧ (numL l).2 ≤ l.length := by
  obtain ⟨h0, _, _⟩ := (letter_iff _).1 h
  unfold numL at h0 ⊢
  split
  · rename_i c
    rw [if_pos c] at h0
    have := digN_len l h0
    simp only; omega
  · rename_i c
    rw [if_neg c] at h0
    split
    · rename_i d; rw [if_pos d] at h0; simp only at h0; omega
    · rename_i d
      rw [if_neg d] at h0
      split
      · rename_i e; rw [if_pos e] at h0; simp only at h0; omega
      · rename_i e
        have := digN_len (l.drop 6) (by omega)
        rw [List.length_drop] at this
        simp only; omega
/-- a piece read well: at least one byte, no more than there are, at most four bytes of text -/
theorem one_bd (l : List UInt8) (h : (oneL l).2.2 = 0) : 1 ≤ (oneL l).2.1 ∧ (oneL l).2.1 ≤ l.length ∧ (oneL l).1.length ≤ 4 := by
  unfold oneL at h ⊢
  split
  · rename_i c
    rw [if_pos c] at h
    unfold escL at h ⊢
    by_cases a : l.length < 2
    · rw [if_pos a] at h; simp at h
    · rw [if_neg a] at h ⊢
      by_cases b : meanB (l.getD 1 0).toNat ≠ 0
      · rw [if_pos b]; simp only [List.length_singleton]; omega
      · rw [if_neg b] at h ⊢
        by_cases d : (l.getD 1 0).toNat = 34 ∨ (l.getD 1 0).toNat = 92 ∨ (l.getD 1 0).toNat = 47
        · rw [if_pos d]; simp only [List.length_singleton]; omega
        · rw [if_neg d] at h ⊢
          by_cases e : (l.getD 1 0).toNat = 117
          · rw [if_pos e] at h ⊢
            by_cases f : letterB (numL (l.drop 2)).1 = true
            · rw [if_pos f]
              have := numL_len _ f
              rw [List.length_drop] at this
              exact ⟨by simp only; omega, by simp only; omega, enc_len4 _⟩
            · rw [if_neg f] at h; simp at h
          · rw [if_neg e] at h; simp at h
  · rename_i c
    rw [if_neg c] at h
    unfold plainL at h ⊢
    cases ht : tk l with
    | none => rw [ht] at h; simp at h
    | some d =>
      obtain ⟨r, n⟩ := d
      obtain ⟨_, he, h1, h2⟩ := tk_some ht
      simp only
      refine ⟨by omega, by omega, ?_⟩
      rw [← he]
      exact enc_len4 _
theorem getD_drop (l : List UInt8) (p : Nat) : (l.drop p).getD 0 0 = l.getD p 0 := by
  rw [List.getD_eq_getElem?_getD, List.getD_eq_getElem?_getD, List.getElem?_drop, Nat.add_zero]
theorem read_one (k : Nat) (s : ByteArray) (p : Nat) (hk : 9 < k) : quote_Read.one k s p = some (packR (oneL (s.data.toList.drop p))) := by
  unfold quote_Read.one oneL
  rw [byte_bt, getD_drop]
  by_cases c : (s.data.toList.getD p 0).toNat = 92
  · rw [if_pos (by omega), if_pos c, escape_f k _ hk, extract_drop]
  · rw [if_neg (by omega), if_neg c, plain_f, extract_drop]
def endR (o : ByteArray) (p : Nat) (r : List UInt8 × Int × Int) : ByteArray × Int × Int := if r.2.2 = 0 then (o ++ ⟨r.1.toArray⟩, (p : Int) + r.2.1, 0) else (⟨#[]⟩, 0, r.2.2)
theorem read_l0 (s : ByteArray) : ∀ (n k : Nat) (o : ByteArray) (p : Nat) (r : List UInt8 × Int × Int), readL n (s.data.toList.drop p) = some r → p ≤ s.size → n + 10 < k → o.size + 4 * n ≤ 140737488355328 →
    quote_Read.l0 k s o p = some (endR o p r)
  | 0, k, o, p, r, h, hp, hk, ho => by simp [readL] at h
  | n + 1, k, o, p, r, h, hp, hk, ho => by
    obtain ⟨k, rfl⟩ : ∃ m, k = m + 1 := ⟨k - 1, by omega⟩
    have hl : (s.data.toList.drop p).length = s.size - p := by rw [List.length_drop, data_length]
    rw [readL] at h
    rw [quote_Read.l0]
    by_cases e1 : p = s.size
    · have e : s.data.toList.drop p = [] := List.eq_nil_of_length_eq_zero (by omega)
      rw [if_pos e] at h
      rw [if_pos e1]
      cases h; rfl
    · have e : s.data.toList.drop p ≠ [] := fun e => by rw [e] at hl; simp at hl; omega
      rw [if_neg e] at h
      rw [if_neg e1, if_neg (by omega), byte_bt]
      rw [getD_drop] at h
      by_cases e2 : (s.data.toList.getD p 0).toNat = 34
      · rw [if_pos e2] at h
        rw [if_pos (by omega)]
        cases h
        unfold endR
        rw [if_pos rfl]
        congr 2
        apply ofList_eq
        rw [ByteArray.data_append, Array.toList_append]; simp
      · rw [if_neg e2] at h
        rw [if_neg (by omega)]
        by_cases e3 : (s.data.toList.getD p 0).toNat < 32
        · rw [if_pos e3] at h
          rw [if_pos (by omega)]
          cases h; rfl
        · rw [if_neg e3] at h
          rw [if_neg (by omega), read_one k s p (by omega), Option.bind_some]
          by_cases e4 : (oneL (s.data.toList.drop p)).2.2 = 0
          · rw [if_pos e4] at h
            obtain ⟨q, hq, hr⟩ := Option.map_eq_some_iff.1 h
            obtain ⟨b1, b2, b3⟩ := one_bd _ e4
            unfold packR
            simp only
            have hsz : (⟨(oneL (s.data.toList.drop p)).1.toArray⟩ : ByteArray).size ≤ 4 := by
              show ((oneL (s.data.toList.drop p)).1.toArray).size ≤ 4
              rw [List.size_toArray]; exact b3
            rw [if_pos e4, if_pos (by omega), if_pos (by omega), if_pos (by omega)]
            rw [List.drop_drop] at hq
            rw [read_l0 s n k _ _ q hq (by omega) (by omega) (by rw [ByteArray.size_append]; omega)]
            congr 1
            subst hr
            unfold endR
            by_cases e5 : q.2.2 = 0
            · rw [if_pos e5, if_pos e5, if_pos rfl]
              simp only [Prod.mk.injEq, and_true]
              refine ⟨?_, by omega⟩
              apply ofList_eq
              simp [ByteArray.data_append, Array.toList_append]
            · rw [if_neg e5, if_neg e5, if_neg e5]
          · rw [if_neg e4] at h
            unfold packR
            simp only
            rw [if_neg e4]
            cases h
            unfold endR
            rw [if_neg e4]
theorem readL_some : ∀ (n : Nat) (l : List UInt8), l.length < n → ∃ r, readL n l = some r
  | 0, l, h => absurd h (Nat.not_lt_zero _)
  | n + 1, l, h => by
    rw [readL]
    by_cases e1 : l = []
    · rw [if_pos e1]; exact ⟨_, rfl⟩
    · rw [if_neg e1]
      by_cases e2 : (l.getD 0 0).toNat = 34
      · rw [if_pos e2]; exact ⟨_, rfl⟩
      · rw [if_neg e2]
        by_cases e3 : (l.getD 0 0).toNat < 32
        · rw [if_pos e3]; exact ⟨_, rfl⟩
        · rw [if_neg e3]
          by_cases e4 : (oneL l).2.2 = 0
          · obtain ⟨b1, b2, _⟩ := one_bd l e4
            obtain ⟨q, hq⟩ := readL_some n (l.drop (oneL l).2.1.toNat) (by rw [List.length_drop]; omega)
            rw [if_pos e4, hq]; exact ⟨_, rfl⟩
          · rw [if_neg e4]; exact ⟨_, rfl⟩
/-- the program's answer: the first mark, and what stands behind it -/
def readS (n : Nat) (s : ByteArray) : Option (ByteArray × Int × Int) :=
  if s.size = 0 then some (⟨#[]⟩, 0, 70) else if (s.data.toList.getD 0 0).toNat = 34 then (readL n (s.data.toList.drop 1)).map (endR ⟨#[]⟩ 1) else some (⟨#[]⟩, 0, 70)
theorem read_S (n k : Nat) (s : ByteArray) (r : ByteArray × Int × Int) (h : readS n s = some r) (hk : n + 10 < k) (hn : 4 * n ≤ 140737488355328) (hs : s.size ≤ 4611686018427387904) : quote_Read.f k s = some r := by
  unfold readS at h
  unfold quote_Read.f
  rw [if_pos hs]
  by_cases e1 : s.size = 0
  · rw [if_pos e1] at h ⊢; exact h
  · rw [if_neg e1] at h ⊢
    rw [show (0 : Int) = ((0 : Nat) : Int) from rfl, byte_bt]
    by_cases e2 : (s.data.toList.getD 0 0).toNat = 34
    · rw [if_pos e2] at h
      rw [if_pos (by omega)]
      obtain ⟨q, hq, hr⟩ := Option.map_eq_some_iff.1 h
      rw [read_l0 s n k ⟨#[]⟩ 1 q hq (by omega) hk (by show 0 + _ ≤ _; omega), hr]
    · rw [if_neg e2] at h
      rw [if_neg (by omega)]
      exact h
end Go.Proofs.YthhmmaihbjhhgaaDoor.Giv
