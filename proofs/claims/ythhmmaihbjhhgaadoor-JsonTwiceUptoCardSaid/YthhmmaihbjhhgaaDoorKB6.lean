/- What the proof of chapter 8's laws, part 6, stands on: cut and merged by a program out of this session's texts. -/
import Derived.Test.YthhmmaihbjhhgaaDoorKB5
import Derived.Test.YthhmmaihbjhhgaaDoorProg
import Derived.Below
import Derived.Deep.Draws
import Derived.Deep.AppendLies
import Derived.Maps.AppendAt
import Derived.OwnWalk
import Derived.Laws.BytesArg
import Derived.Laws.MakeOwn
import Derived.Laws.OwnMore
import Derived.Deep.OwnRows
import Derived.Tactics
import Derived.Lib.ConvBytes
import Derived.Laws.Slices
import Derived.WalkKit
import Derived.KernelRfl
import Derived.RowKit3
import Derived.Deep.LoopGhost
import Derived.Deep.QuietTactic
import Derived.BigQuiet
import Derived.WideLaws
import Derived.Deep.DeepCutAuto
import Derived.Deep.CutBlock
import Derived.Deep.RegionHeld3
import Derived.Laws.Rows
import Derived.Lib.AppendStr
import Derived.ArgAppend
import Derived.Laws.IdiomCopy
import Derived.OrdersHeld
import Derived.Laws.BitsLemmas
import Derived.RowKit
set_option linter.unusedVariables false
set_option linter.unusedSimpArgs false
namespace Go.Proofs.YthhmmaihbjhhgaaDoor.Giv
open Go.RowKit Go.Proofs.YthhmmaihbjhhgaaDoorW.PrintWords Go.Proofs.YthhmmaihbjhhgaaDoorW.PrintLast Go.Proofs.YthhmmaihbjhhgaaDoorW.PrintMore
open Go.Proofs.YthhmmaihbjhhgaaDoor.U1 Go.Proofs.YthhmmaihbjhhgaaDoor.Q1 Go.Proofs.YthhmmaihbjhhgaaDoor.Q2
def shortI (n : Int) : Int := if n = 34 ∨ n = 92 then n else if n = 8 then 98 else if n = 9 then 116 else if n = 10 then 110 else if n = 12 then 102 else if n = 13 then 114 else 0
theorem short_f (k : Nat) (n : Int) (hk : 0 < k) : cracknelref07_short.f k n = some (shortI n) := by
  obtain ⟨k, rfl⟩ : ∃ m, k = m + 1 := ⟨k - 1, by omega⟩
  unfold cracknelref07_short.f shortI
  by_cases a : n = 34
  · subst a; rfl
  · rw [if_neg a, cracknelref07_short.j0]
    by_cases b : n = 92
    · subst b; rfl
    · rw [if_neg (show ¬ (n == 92) = true by simpa using b), if_neg (show ¬ (n = 34 ∨ n = 92) by omega)]
      repeat' split
      all_goals rfl
def sgn (a : Int) : Int := if a < 10 then (48 + a) % 256 else (87 + a) % 256
theorem sign_f (a : Int) : cracknelref07_sign.f a = some (sgn a) := by
  unfold cracknelref07_sign.f sgn; split <;> rfl
def pieceI (n : Int) : List Int := if shortI n = 0 then (if n < 32 then [92, 117, 48, 48, sgn (n / 16), sgn (n % 16)] else [n]) else [92, shortI n]
set_option maxRecDepth 100000 in
theorem piece_I : ∀ n : Nat, n < 256 → (pieceI (n : Int)).map (fun x => UInt8.ofNat x.toNat) = pieceN n := by decide +kernel
theorem pieceI_len (n : Int) : (pieceI n).length ≤ 6 := by unfold pieceI; repeat' split
                                                           all_goals simp
theorem refWrite_step (k : Nat) (s : ByteArray) (x : List Int) (i : Nat) (hk : 0 < k) (hi : i < s.size) (hs : s.size ≤ 1073741824) (hx : x.length ≤ 10737418240) :
    cracknelref07_Write.l0 (k + 1) s x (i : Int) = cracknelref07_Write.l0 k s (x ++ pieceI (bt s (i : Int))) ((i + 1 : Nat) : Int) := by
  have hb := bt_range s (i : Int)
  simp only [cracknelref07_Write.l0]
  rw [if_pos (by omega), if_pos (by omega), short_f k _ hk, Option.bind_some, Option.bind_some, w64 (by omega) (by omega), show ((i : Int) + 1) = ((i + 1 : Nat) : Int) by omega]
  unfold pieceI
  by_cases a : shortI (bt s (i : Int)) = 0
  · rw [if_pos a, if_pos a]
    by_cases b : bt s (i : Int) < 32
    · rw [if_pos b, if_pos b, sign_f, sign_f, Option.bind_some, Option.bind_some, Option.bind_some, Int.tdiv_eq_ediv_of_nonneg hb.1, Int.tmod_eq_emod_of_nonneg hb.1, show bt s (i : Int) / 16 % 256 = bt s (i : Int) / 16 by omega, if_pos (by simp; omega)]
    · rw [if_neg b, if_neg b, if_pos (by omega)]
  · rw [if_neg a, if_neg a, Option.bind_some, if_pos (by simp; omega)]
theorem byte_bt (s : ByteArray) (i : Nat) : bt s (i : Int) = (((s.data.toList.getD i 0).toNat : Nat) : Int) := btL s i
theorem drop_byte (s : ByteArray) (i : Nat) (hi : i < s.size) : s.data.toList.drop i = s.data.toList.getD i 0 :: s.data.toList.drop (i + 1) := by
  have hl : i < s.data.toList.length := by rw [data_length]; exact hi
  rw [List.drop_eq_getElem_cons hl]
  congr 1
  rw [List.getD_eq_getElem?_getD, List.getElem?_eq_getElem hl]; rfl
def toB (x : List Int) : List UInt8 := x.map fun n => UInt8.ofNat n.toNat
theorem toB_app (a b : List Int) : toB (a ++ b) = toB a ++ toB b := List.map_append ..
theorem toB_piece (s : ByteArray) (i : Nat) : toB (pieceI (bt s (i : Int))) = pieceN (s.data.toList.getD i 0).toNat := by
  rw [byte_bt s i]
  exact piece_I _ (UInt8.toNat_lt _)
theorem refWrite_l0 (s : ByteArray) (hs : s.size ≤ 1048576) : ∀ (n k i : Nat) (x : List Int), s.size - i = n → i ≤ s.size → n + 1 < k → x.length ≤ 6 * i + 1 →
    cracknelref07_Write.l0 k s x (i : Int) = some (⟨(toB x ++ inner (s.data.toList.drop i) ++ [34]).toArray⟩, true)
  | 0, k, i, x, h1, h2, h3, h4 => by
    obtain ⟨k, rfl⟩ : ∃ m, k = m + 1 := ⟨k - 1, by omega⟩
    have e : s.data.toList.drop i = [] := List.drop_eq_nil_of_le (by rw [data_length]; omega)
    simp only [cracknelref07_Write.l0]
    rw [if_neg (by omega), if_pos (by omega), e, inner, List.append_nil]
    congr 2
    apply ofList_eq
    rw [strOfNums_list]
    exact toB_app x [34]
  | n + 1, k, i, x, h1, h2, h3, h4 => by
    obtain ⟨k, rfl⟩ : ∃ m, k = m + 1 := ⟨k - 1, by omega⟩
    have hl := pieceI_len (bt s (i : Int))
    rw [refWrite_step k s x i (by omega) (by omega) (by omega) (by omega), refWrite_l0 s hs n k (i + 1) _ (by omega) (by omega) (by omega) (by rw [List.length_append]; omega)]
    rw [toB_app, toB_piece s i, drop_byte s i (by omega), inner]
    congr 3
    rw [List.append_assoc, List.append_assoc, List.append_assoc, List.append_assoc]
theorem refValid (k : Nat) (s : ByteArray) (hk : s.size + 12 < k) (hs : s.size ≤ 1073741824) : cracknelref05_Valid.f k s = some (Lib.validD s.data.toList) := by
  unfold cracknelref05_Valid.f
  rw [refRunes k s hk hs, Option.bind_some]
  unfold runesS
  by_cases h : Lib.validD s.data.toList = true
  · rw [if_pos h, h]
  · rw [if_neg h, Bool.eq_false_iff.2 h]
theorem refWrite (k : Nat) (s : ByteArray) (hk : s.size + 12 < k) (hs : s.size ≤ 1048576) : cracknelref07_Write.f k s = some (writeS s) := by
  unfold cracknelref07_Write.f writeS
  rw [refValid k s hk (by omega), Option.bind_some]
  by_cases h : Lib.validD s.data.toList = true
  · rw [if_pos h, if_pos h, show (0 : Int) = ((0 : Nat) : Int) from rfl, refWrite_l0 s hs s.size k 0 [34] (by omega) (by omega) (by omega) (by simp), List.drop_zero]
    rfl
  · rw [if_neg h, if_neg h]
/-- a hexadecimal digit's number, or -1 -/
def hv (n : Nat) : Int := if 48 ≤ n ∧ n ≤ 57 then (n : Int) - 48 else if 97 ≤ n ∧ n ≤ 102 then (n : Int) - 87 else if 65 ≤ n ∧ n ≤ 70 then (n : Int) - 55 else -1
theorem hv_bd (n : Nat) : -1 ≤ hv n ∧ hv n < 16 := by unfold hv; repeat' split
                                                      all_goals omega
def hexL : List UInt8 := [48, 49, 50, 51, 52, 53, 54, 55, 56, 57, 97, 98, 99, 100, 101, 102]
def hexU : List UInt8 := [48, 49, 50, 51, 52, 53, 54, 55, 56, 57, 65, 66, 67, 68, 69, 70]
set_option maxRecDepth 100000 in
theorem hv_index : ∀ n : Nat, n < 256 → (if Lib.indexByte hexL n.toUInt8 < 0 then Lib.indexByte hexU n.toUInt8 else Lib.indexByte hexL n.toUInt8) = hv n := by decide +kernel
theorem bits_or_i64_small (a b : Nat) (ha : a < 65536) (hb : b < 16) : Go.bits .or .i64 ((a : Int) * 16) (b : Int) = ((a * 16 + b : Nat) : Int) := by
  rw [show (a : Int) * 16 = ((a * 16 : Nat) : Int) by omega]
  have h1 : (BitVec.ofInt 64 ((a * 16 : Nat) : Int)).toNat = a * 16 := by
    rw [BitVec.ofInt_natCast, BitVec.toNat_ofNat]; exact Nat.mod_eq_of_lt (by omega)
  have h2 : (BitVec.ofInt 64 (b : Int)).toNat = b := by
    rw [BitVec.ofInt_natCast, BitVec.toNat_ofNat]; exact Nat.mod_eq_of_lt (by omega)
  have ho : a * 16 ||| b = a * 16 + b := by
    have := Nat.shiftLeft_add_eq_or_of_lt (i := 4) (b := b) (by omega) a
    rw [Nat.shiftLeft_eq] at this
    exact this.symm
  show IntKind.i64.wrap ((BitVec.ofInt 64 ((a * 16 : Nat) : Int) ||| BitVec.ofInt 64 (b : Int)).toNat : Int) = _
  rw [BitVec.toNat_or, h1, h2, ho]
  rw [i64_w]
  exact w64 (x := ((a * 16 + b : Nat) : Int)) (by omega) (by omega)
theorem digits_step (k : Nat) (s : ByteArray) (a i : Nat) (hi : i < 4) (hs : 4 ≤ s.size) (ha : a < 65536) :
    quote_digits.l0 (k + 1) s (a : Int) (i : Int) = if hv (s.data.toList.getD i 0).toNat < 0 then some (-1) else quote_digits.l0 k s (((a : Int) * 16 + hv (s.data.toList.getD i 0).toNat)) ((i + 1 : Nat) : Int) := by
  simp only [quote_digits.l0]
  have hn := UInt8.toNat_lt (s.data.toList.getD i 0)
  have hh := hv_index _ hn
  have hbd := hv_bd (s.data.toList.getD i 0).toNat
  rw [if_pos (by omega), if_pos (by omega), if_pos (by omega), byte_bt s i]
  generalize (s.data.toList.getD i 0).toNat = n at hn hh hbd ⊢
  unfold strings_IndexByte.f
  rw [Option.bind_some, Option.bind_some, Int.toNat_natCast, w64 (x := (i : Int) + 1) (by omega) (by omega), w64 (x := (a : Int) * 16) (by omega) (by omega), show ((i : Int) + 1) = ((i + 1 : Nat) : Int) by omega]
  show (if Lib.indexByte hexL n.toUInt8 < 0 then if Lib.indexByte hexU n.toUInt8 < 0 then some (-1) else quote_digits.l0 k s (Go.bits .or .i64 ((a : Int) * 16) (Lib.indexByte hexU n.toUInt8)) ((i + 1 : Nat) : Int) else quote_digits.l0 k s (Go.bits .or .i64 ((a : Int) * 16) (Lib.indexByte hexL n.toUInt8)) ((i + 1 : Nat) : Int)) = _
  by_cases c : Lib.indexByte hexL n.toUInt8 < 0
  · rw [if_pos c] at hh
    rw [if_pos c, hh]
    by_cases d : hv n < 0
    · rw [if_pos d, if_pos d]
    · rw [if_neg d, if_neg d]
      obtain ⟨m, hm⟩ : ∃ m : Nat, hv n = m := ⟨(hv n).toNat, by omega⟩
      rw [hm, bits_or_i64_small a m ha (by omega)]
      congr 1
  · rw [if_neg c] at hh
    rw [hh] at c
    rw [hh, if_neg c, if_neg c]
    obtain ⟨m, hm⟩ : ∃ m : Nat, hv n = m := ⟨(hv n).toNat, by omega⟩
    rw [hm, bits_or_i64_small a m ha (by omega)]
    congr 1
/-- the number of four digits at a list's beginning; -1: there are none -/
def digN (l : List UInt8) : Int :=
  if l.length < 4 then -1 else if hv (l.getD 0 0).toNat < 0 ∨ hv (l.getD 1 0).toNat < 0 ∨ hv (l.getD 2 0).toNat < 0 ∨ hv (l.getD 3 0).toNat < 0 then -1
  else ((hv (l.getD 0 0).toNat * 16 + hv (l.getD 1 0).toNat) * 16 + hv (l.getD 2 0).toNat) * 16 + hv (l.getD 3 0).toNat
theorem digN_bd (l : List UInt8) : -1 ≤ digN l ∧ digN l < 65536 := by
  have h0 := hv_bd (l.getD 0 0).toNat
  have h1 := hv_bd (l.getD 1 0).toNat
  have h2 := hv_bd (l.getD 2 0).toNat
  have h3 := hv_bd (l.getD 3 0).toNat
  unfold digN; repeat' split
  all_goals omega
theorem digits_f (k : Nat) (s : ByteArray) (hk : 4 < k) : quote_digits.f k s = some (digN s.data.toList) := by
  obtain ⟨k, rfl⟩ : ∃ m, k = m + 1 + 1 + 1 + 1 + 1 := ⟨k - 5, by omega⟩
  have hl : s.data.toList.length = s.size := data_length s
  have h0 := hv_bd (s.data.toList.getD 0 0).toNat
  have h1 := hv_bd (s.data.toList.getD 1 0).toNat
  have h2 := hv_bd (s.data.toList.getD 2 0).toNat
  have h3 := hv_bd (s.data.toList.getD 3 0).toNat
  unfold quote_digits.f digN
  by_cases c : s.size < 4
  · rw [if_pos (by omega), if_pos (by omega)]
  · rw [if_neg (by omega), if_neg (by omega)]
    have st : ∀ (k : Nat) (i : Nat) (a : Int), i < 4 → 0 ≤ a → a < 65536 → quote_digits.l0 (k + 1) s a (i : Int) = if hv (s.data.toList.getD i 0).toNat < 0 then some (-1) else quote_digits.l0 k s (a * 16 + hv (s.data.toList.getD i 0).toNat) ((i + 1 : Nat) : Int) := by
      intro k i a hi ha0 ha1
      obtain ⟨m, rfl⟩ : ∃ m : Nat, a = m := ⟨a.toNat, by omega⟩
      exact digits_step k s m i hi (by omega) (by omega)
    have e0 := st (k + 1 + 1 + 1 + 1) 0 0 (by omega) (by omega) (by omega)
    show quote_digits.l0 (k + 1 + 1 + 1 + 1 + 1) s 0 ((0 : Nat) : Int) = _
    rw [e0]
    by_cases d0 : hv (s.data.toList.getD 0 0).toNat < 0
    · rw [if_pos d0, if_pos (by omega)]
    · rw [if_neg d0, st _ 1 _ (by omega) (by omega) (by omega)]
      by_cases d1 : hv (s.data.toList.getD 1 0).toNat < 0
      · rw [if_pos d1, if_pos (by omega)]
      · rw [if_neg d1, st _ 2 _ (by omega) (by omega) (by omega)]
        by_cases d2 : hv (s.data.toList.getD 2 0).toNat < 0
        · rw [if_pos d2, if_pos (by omega)]
        · rw [if_neg d2, st _ 3 _ (by omega) (by omega) (by omega)]
          by_cases d3 : hv (s.data.toList.getD 3 0).toNat < 0
          · rw [if_pos d3, if_pos (by omega)]
          · rw [if_neg d3, if_neg (by omega)]
            simp only [quote_digits.l0]
            rw [if_neg (by omega)]
            congr 1
            omega
theorem extract_drop (s : ByteArray) (m : Nat) : (s.extract m s.size).data.toList = s.data.toList.drop m := by
  rw [ByteArray.data_extract, Array.toList_extract]
  simp
  rw [List.take_of_length_le (by rw [List.length_drop, data_length]; exact Nat.le_refl _)]
/-- what stands behind a u: a number, and how many bytes; -1: none -/
def numL (l : List UInt8) : Int × Int :=
  if digN l < 55296 ∨ 57344 ≤ digN l then (digN l, 4)
  else if 56320 ≤ digN l ∨ l.length < 6 ∨ (l.getD 4 0).toNat ≠ 92 ∨ (l.getD 5 0).toNat ≠ 117 then (-1, 0)
  else if digN (l.drop 6) < 56320 ∨ 57344 ≤ digN (l.drop 6) then (-1, 0)
  else (65536 + (digN l - 55296) * 1024 + digN (l.drop 6) - 56320, 10)
theorem numbered_f (k : Nat) (s : ByteArray) (hk : 8 < k) : quote_numbered.f k s = some (numL s.data.toList) := by
  obtain ⟨k, rfl⟩ : ∃ m, k = m + 1 + 1 := ⟨k - 2, by omega⟩
  have hl : s.data.toList.length = s.size := data_length s
  have hd := digN_bd s.data.toList
  have hd6 := digN_bd (s.data.toList.drop 6)
  unfold quote_numbered.f numL
  rw [digits_f _ s (by omega), Option.bind_some]
  generalize digN s.data.toList = n at hd ⊢
  by_cases a : n < 55296
  · rw [if_pos a, if_pos (show n < 55296 ∨ 57344 ≤ n by omega), quote_numbered.j0, if_pos rfl]
  · rw [if_neg a, quote_numbered.j0]
    by_cases b : 57344 ≤ n
    · rw [if_pos (by simpa using b), if_pos (show n < 55296 ∨ 57344 ≤ n by omega)]
    · rw [if_neg (by simpa using b), if_neg (show ¬ (n < 55296 ∨ 57344 ≤ n) by omega)]
      by_cases c : 56320 ≤ n
      · rw [if_pos (show n ≥ 56320 from c), if_pos (show 56320 ≤ n ∨ s.data.toList.length < 6 ∨ (s.data.toList.getD 4 0).toNat ≠ 92 ∨ (s.data.toList.getD 5 0).toNat ≠ 117 by omega), quote_numbered.j1, if_pos rfl]
      · rw [if_neg (show ¬ n ≥ 56320 from c)]
        by_cases d : s.size < 6
        · rw [if_pos (show (s.size : Int) < 6 by omega), if_pos (show 56320 ≤ n ∨ s.data.toList.length < 6 ∨ (s.data.toList.getD 4 0).toNat ≠ 92 ∨ (s.data.toList.getD 5 0).toNat ≠ 117 by omega), quote_numbered.j1, if_pos rfl]
        · rw [if_neg (show ¬ (s.size : Int) < 6 by omega), if_pos (show 4 < (s.size : Int) by omega), show (4 : Int) = ((4 : Nat) : Int) from rfl, show (5 : Int) = ((5 : Nat) : Int) from rfl, byte_bt, byte_bt]
          by_cases e : (s.data.toList.getD 4 0).toNat = 92
          · rw [if_pos (show (((s.data.toList.getD 4 0).toNat : Nat) : Int) = 92 by omega), if_pos (show ((5 : Nat) : Int) < (s.size : Int) by omega), quote_numbered.j1]
            by_cases f : (s.data.toList.getD 5 0).toNat = 117
            · rw [if_neg (show ¬ ((((s.data.toList.getD 5 0).toNat : Nat) : Int) != 117) = true by rw [bne_iff_ne]; omega), if_neg (show ¬ (56320 ≤ n ∨ s.data.toList.length < 6 ∨ (s.data.toList.getD 4 0).toNat ≠ 92 ∨ (s.data.toList.getD 5 0).toNat ≠ 117) by omega), if_pos (show 6 ≤ (s.size : Int) by omega), digits_f _ _ (by omega), Option.bind_some, extract_drop]
              generalize digN (s.data.toList.drop 6) = m at hd6 ⊢
              by_cases g : m < 56320
              · rw [if_pos g, if_pos (show m < 56320 ∨ 57344 ≤ m by omega)]
              · rw [if_neg g]
                by_cases g2 : 57344 ≤ m
                · rw [if_pos (show m ≥ 57344 from g2), if_pos (show m < 56320 ∨ 57344 ≤ m by omega)]
                · rw [if_neg (show ¬ m ≥ 57344 from g2), if_neg (show ¬ (m < 56320 ∨ 57344 ≤ m) by omega)]
                  rw [w64 (x := n - 55296) (by omega) (by omega), w64 (x := (n - 55296) * 1024) (by omega) (by omega), w64 (x := 65536 + (n - 55296) * 1024) (by omega) (by omega), w64 (x := 65536 + (n - 55296) * 1024 + m) (by omega) (by omega), w64 (by omega) (by omega)]
            · rw [if_pos (show ((((s.data.toList.getD 5 0).toNat : Nat) : Int) != 117) = true by rw [bne_iff_ne]; omega), if_pos (show 56320 ≤ n ∨ s.data.toList.length < 6 ∨ (s.data.toList.getD 4 0).toNat ≠ 92 ∨ (s.data.toList.getD 5 0).toNat ≠ 117 by omega)]
          · rw [if_neg (show ¬ (((s.data.toList.getD 4 0).toNat : Nat) : Int) = 92 by omega), if_pos (show 56320 ≤ n ∨ s.data.toList.length < 6 ∨ (s.data.toList.getD 4 0).toNat ≠ 92 ∨ (s.data.toList.getD 5 0).toNat ≠ 117 by omega), quote_numbered.j1, if_pos rfl]
/-- what a sign behind a backslash means; 0: none -/
def meanB (n : Nat) : UInt8 := if n = 98 then 8 else if n = 116 then 9 else if n = 110 then 10 else if n = 102 then 12 else if n = 114 then 13 else 0
set_option maxRecDepth 100000 in
theorem mean_index : ∀ n : Nat, n < 256 → if 0 ≤ Lib.indexByte [98, 116, 110, 102, 114] n.toUInt8 then (Lib.indexByte [98, 116, 110, 102, 114] n.toUInt8 ≤ 4 ∧ meanB n ≠ 0 ∧ ((⟨#[8, 9, 10, 12, 13]⟩ : ByteArray).extract (Lib.indexByte [98, 116, 110, 102, 114] n.toUInt8).toNat (Lib.indexByte [98, 116, 110, 102, 114] n.toUInt8 + 1).toNat).data.toList = [meanB n]) else meanB n = 0 := by decide +kernel
/-- a piece that begins with a backslash: its bytes, how many it has, its error -/
def escL (l : List UInt8) : List UInt8 × Int × Int :=
  if l.length < 2 then ([], 0, 73)
  else if meanB (l.getD 1 0).toNat ≠ 0 then ([meanB (l.getD 1 0).toNat], 2, 0)
  else if (l.getD 1 0).toNat = 34 ∨ (l.getD 1 0).toNat = 92 ∨ (l.getD 1 0).toNat = 47 then ([l.getD 1 0], 2, 0)
  else if (l.getD 1 0).toNat = 117 then (if letterB (numL (l.drop 2)).1 = true then (enc (numL (l.drop 2)).1, 2 + (numL (l.drop 2)).2, 0) else ([], 0, 73))
  else ([], 0, 73)
def packR (r : List UInt8 × Int × Int) : ByteArray × Int × Int := (⟨r.1.toArray⟩, r.2.1, r.2.2)
theorem numL_bd (l : List UInt8) : (numL l).2 = 0 ∨ (numL l).2 = 4 ∨ (numL l).2 = 10 := by
  unfold numL; repeat' split
  all_goals simp
theorem esc_j0 (k : Nat) (s : ByteArray) (hk : 9 < k) (h2 : 2 ≤ s.size) (b : Bool) (hb : b = true ↔ ((s.data.toList.getD 1 0).toNat = 34 ∨ (s.data.toList.getD 1 0).toNat = 92 ∨ (s.data.toList.getD 1 0).toNat = 47)) (hm : meanB (s.data.toList.getD 1 0).toNat = 0) :
    quote_escape.j0 k s (((s.data.toList.getD 1 0).toNat : Nat) : Int) b = some (packR (escL s.data.toList)) := by
  obtain ⟨k, rfl⟩ : ∃ m, k = m + 1 := ⟨k - 1, by omega⟩
  have hl : s.data.toList.length = s.size := data_length s
  rw [quote_escape.j0]
  unfold escL
  rw [if_neg (show ¬ s.data.toList.length < 2 by omega), if_neg (show ¬ meanB (s.data.toList.getD 1 0).toNat ≠ 0 from fun h => h hm)]
  by_cases a : b = true
  · rw [if_pos a, if_pos (by decide), if_pos (by omega), if_pos (hb.1 a)]
    congr 1
    unfold packR
    simp only
    congr 1
    apply ofList_eq
    have e := drop_byte s 1 (by omega)
    rw [ByteArray.data_extract, Array.toList_extract]
    simp only [List.extract, e]
    rfl
  · rw [if_neg a, if_neg (fun h => a (hb.2 h))]
    by_cases c : (s.data.toList.getD 1 0).toNat = 117
    · rw [if_pos (by omega), if_pos (by omega), if_pos c, numbered_f _ _ (by omega), extract_drop, Option.bind_some, put_S _ _ (by omega), Option.bind_some]
      have hn := numL_bd (s.data.toList.drop 2)
      unfold putS
      by_cases d : letterB (numL (s.data.toList.drop 2)).1 = true
      · rw [if_pos d, if_pos d, if_pos rfl, w64 (by omega) (by omega)]; rfl
      · rw [if_neg d, if_neg d, if_neg (by decide)]; rfl
    · rw [if_neg (by omega), if_neg c]; rfl
theorem escape_f (k : Nat) (s : ByteArray) (hk : 9 < k) : quote_escape.f k s = some (packR (escL s.data.toList)) := by
  have hl : s.data.toList.length = s.size := data_length s
  unfold quote_escape.f
  by_cases a : s.size < 2
  · rw [if_pos (by omega)]
    unfold escL
    rw [if_pos (show s.data.toList.length < 2 by omega)]; rfl
  · rw [if_neg (by omega), if_pos (by omega), show (1 : Int) = ((1 : Nat) : Int) from rfl, byte_bt]
    have hn := UInt8.toNat_lt (s.data.toList.getD 1 0)
    have hm := mean_index _ hn
    have hj := esc_j0 k s hk (by omega)
    have hE : ¬ s.data.toList.length < 2 := by omega
    unfold strings_IndexByte.f
    rw [Option.bind_some, Int.toNat_natCast]
    show (if Lib.indexByte [98, 116, 110, 102, 114] (s.data.toList.getD 1 0).toNat.toUInt8 ≥ 0 then _ else _) = _
    by_cases b : 0 ≤ Lib.indexByte [98, 116, 110, 102, 114] (s.data.toList.getD 1 0).toNat.toUInt8
    · rw [if_pos b] at hm
      rw [if_pos (show Lib.indexByte [98, 116, 110, 102, 114] (s.data.toList.getD 1 0).toNat.toUInt8 ≥ 0 from b)]
      show (if 0 ≤ Lib.indexByte [98, 116, 110, 102, 114] (s.data.toList.getD 1 0).toNat.toUInt8 then (if Lib.indexByte [98, 116, 110, 102, 114] (s.data.toList.getD 1 0).toNat.toUInt8 ≤ wrap64 (Lib.indexByte [98, 116, 110, 102, 114] (s.data.toList.getD 1 0).toNat.toUInt8 + 1) then (if wrap64 (Lib.indexByte [98, 116, 110, 102, 114] (s.data.toList.getD 1 0).toNat.toUInt8 + 1) ≤ 5 then some ((⟨#[8, 9, 10, 12, 13]⟩ : ByteArray).extract (Lib.indexByte [98, 116, 110, 102, 114] (s.data.toList.getD 1 0).toNat.toUInt8).toNat (wrap64 (Lib.indexByte [98, 116, 110, 102, 114] (s.data.toList.getD 1 0).toNat.toUInt8 + 1)).toNat, (2 : Int), (0 : Int)) else none) else none) else none) = _
      unfold escL
      rw [if_neg hE, if_pos hm.2.1]
      obtain ⟨h1, _, h3⟩ := hm
      generalize Lib.indexByte [98, 116, 110, 102, 114] (s.data.toList.getD 1 0).toNat.toUInt8 = t at b h1 h3 ⊢
      rw [w64 (x := t + 1) (by omega) (by omega), if_pos b, if_pos (by omega), if_pos (by omega)]
      congr 1
      unfold packR
      simp only
      congr 1
      apply ofList_eq
      rw [h3]
    · rw [if_neg b] at hm
      rw [if_neg (show ¬ Lib.indexByte [98, 116, 110, 102, 114] (s.data.toList.getD 1 0).toNat.toUInt8 ≥ 0 from b)]
      by_cases c : (s.data.toList.getD 1 0).toNat = 34
      · rw [if_pos (by omega)]
        exact hj _ (by rw [beq_iff_eq]; omega) hm
      · rw [if_neg (by omega)]
        by_cases d : (s.data.toList.getD 1 0).toNat = 92
        · rw [if_pos (by omega)]
          exact hj _ (by rw [beq_iff_eq]; omega) hm
        · rw [if_neg (by omega)]
          exact hj _ (by rw [beq_iff_eq]; omega) hm
/-- a piece that is a letter -/
def plainL (l : List UInt8) : List UInt8 × Int × Int := match tk l with | none => ([], 0, 74) | some (_, n) => (l.take n, (n : Int), 0)
theorem plain_f (s : ByteArray) : quote_plain.f s = some (packR (plainL s.data.toList)) := by
  have hl : s.data.toList.length = s.size := data_length s
  unfold quote_plain.f plainL
  rw [take_S, Option.bind_some]
  unfold takeS
  cases ht : tk s.data.toList with
  | none => rfl
  | some d =>
    obtain ⟨r, n⟩ := d
    obtain ⟨_, _, h1, h2⟩ := tk_some ht
    simp only
    rw [if_pos trivial, if_pos (by omega), if_pos (by omega), Int.toNat_natCast]
    congr 1
    unfold packR
    simp only
    congr 1
    apply ofList_eq
    rw [ByteArray.data_extract, Array.toList_extract]; simp
def oneL (l : List UInt8) : List UInt8 × Int × Int := if (l.getD 0 0).toNat = 92 then escL l else plainL l
/-- what stands behind the first mark: its bytes, how many were read, the error; none: the fuel has ended -/
def readL : Nat → List UInt8 → Option (List UInt8 × Int × Int)
  | 0, _ => none
  | n + 1, l => if l = [] then some ([], 0, 71) else if (l.getD 0 0).toNat = 34 then some ([], 1, 0) else if (l.getD 0 0).toNat < 32 then some ([], 0, 72)
    else if (oneL l).2.2 = 0 then (readL n (l.drop (oneL l).2.1.toNat)).map fun q => if q.2.2 = 0 then ((oneL l).1 ++ q.1, (oneL l).2.1 + q.2.1, 0) else ([], 0, q.2.2) else some ([], 0, (oneL l).2.2)
theorem enc_len4 (r : Int) : (enc r).length ≤ 4 := by
  have := encs_len [r]
  rw [encs, List.length_append] at this
  simp at this; omega
theorem digN_len (l : List UInt8) (h : 0 ≤ digN l) : 4 ≤ l.length := by
  unfold digN at h
  by_cases c : l.length < 4
  · rw [if_pos c] at h; omega
  · omega
theorem numL_len (l : List UInt8) (h : letterB (numL l).1 = true) : 0 ≤ (numL l).2 ∧ (numL l).2 ≤ l.length := by
  obtain ⟨h0, _, _⟩ := (letter_iff _).1 h
  unfold numL at h0 ⊢
  split
  · rename_i c
    rw [if_pos c] at h0
    have := digN_len l h0
    simp only; omega
  · rename_i c
    rw [if_neg c] at h0
    split
    · rename_i d; rw [if_pos d] at h0; simp only at h0; omega
    · rename_i d
      rw [if_neg d] at h0
      split
      · rename_i e; rw [if_pos e] at h0; simp only at h0; omega
      · rename_i e
        have := digN_len (l.drop 6) (by omega)
        rw [List.length_drop] at this
        simp only; omega
/-- a piece read well: at least one byte, no more than there are, at most four bytes of text -/
theorem one_bd (l : List UInt8) (h : (oneL l).2.2 = 0) : 1 ≤ (oneL l).2.1 ∧ (oneL l).2.1 ≤ l.length ∧ (oneL l).1.length ≤ 4 := by
  unfold oneL at h ⊢
  split
  · rename_i c
    rw [if_pos c] at h
    unfold escL at h ⊢
    by_cases a : l.length < 2
    · rw [if_pos a] at h; simp at h
    · rw [if_neg a] at h ⊢
      by_cases b : meanB (l.getD 1 0).toNat ≠ 0
      · rw [if_pos b]; simp only [List.length_singleton]; omega
      · rw [if_neg b] at h ⊢
        by_cases d : (l.getD 1 0).toNat = 34 ∨ (l.getD 1 0).toNat = 92 ∨ (l.getD 1 0).toNat = 47
        · rw [if_pos d]; simp only [List.length_singleton]; omega
        · rw [if_neg d] at h ⊢
          by_cases e : (l.getD 1 0).toNat = 117
          · rw [if_pos e] at h ⊢
            by_cases f : letterB (numL (l.drop 2)).1 = true
            · rw [if_pos f]
              have := numL_len _ f
              rw [List.length_drop] at this
              exact ⟨by simp only; omega, by simp only; omega, enc_len4 _⟩
            · rw [if_neg f] at h; simp at h
          · rw [if_neg e] at h; simp at h
  · rename_i c
    rw [if_neg c] at h
    unfold plainL at h ⊢
    cases ht : tk l with
    | none => rw [ht] at h; simp at h
    | some d =>
      obtain ⟨r, n⟩ := d
      obtain ⟨_, he, h1, h2⟩ := tk_some ht
      simp only
      refine ⟨by omega, by omega, ?_⟩
      rw [← he]
      exact enc_len4 _
theorem getD_drop (l : List UInt8) (p : Nat) : (l.drop p).getD 0 0 = l.getD p 0 := by
  rw [List.getD_eq_getElem?_getD, List.getD_eq_getElem?_getD, List.getElem?_drop, Nat.add_zero]
theorem read_one (k : Nat) (s : ByteArray) (p : Nat) (hk : 9 < k) : quote_Read.one k s p = some (packR (oneL (s.data.toList.drop p))) := by
  unfold quote_Read.one oneL
  rw [byte_bt, getD_drop]
  by_cases c : (s.data.toList.getD p 0).toNat = 92
  · rw [if_pos (by omega), if_pos c, escape_f k _ hk, extract_drop]
  · rw [if_neg (by omega), if_neg c, plain_f, extract_drop]
def endR (o : ByteArray) (p : Nat) (r : List UInt8 × Int × Int) : ByteArray × Int × Int := if r.2.2 = 0 then (o ++ ⟨r.1.toArray⟩, (p : Int) + r.2.1, 0) else (⟨#[]⟩, 0, r.2.2)
theorem readL_some : ∀ (n : Nat) (l : List UInt8), l.length < n → ∃ r, readL n l = some r
  | 0, l, h => absurd h (Nat.not_lt_zero _)
  | n + 1, l, h => by
    rw [readL]
    by_cases e1 : l = []
    · rw [if_pos e1]; exact ⟨_, rfl⟩
    · rw [if_neg e1]
      by_cases e2 : (l.getD 0 0).toNat = 34
      · rw [if_pos e2]; exact ⟨_, rfl⟩
      · rw [if_neg e2]
        by_cases e3 : (l.getD 0 0).toNat < 32
        · rw [if_pos e3]; exact ⟨_, rfl⟩
        · rw [if_neg e3]
          by_cases e4 : (oneL l).2.2 = 0
          · obtain ⟨b1, b2, _⟩ := one_bd l e4
            obtain ⟨q, hq⟩ := readL_some n (l.drop (oneL l).2.1.toNat) (by rw [List.length_drop]; omega)
            rw [if_pos e4, hq]; exact ⟨_, rfl⟩
          · rw [if_neg e4]; exact ⟨_, rfl⟩
/-- the program's answer: the first mark, and what stands behind it -/
def readS (n : Nat) (s : ByteArray) : Option (ByteArray × Int × Int) :=
  if s.size = 0 then some (⟨#[]⟩, 0, 70) else if (s.data.toList.getD 0 0).toNat = 34 then (readL n (s.data.toList.drop 1)).map (endR ⟨#[]⟩ 1) else some (⟨#[]⟩, 0, 70)
end Go.Proofs.YthhmmaihbjhhgaaDoor.Giv
namespace Go.Proofs.YthhmmaihbjhhgaaDoor.Giv
open Go.RowKit Go.Proofs.YthhmmaihbjhhgaaDoorW.PrintWords Go.Proofs.YthhmmaihbjhhgaaDoorW.PrintLast Go.Proofs.YthhmmaihbjhhgaaDoorW.PrintMore
open Go.Proofs.YthhmmaihbjhhgaaDoor.U1 Go.Proofs.YthhmmaihbjhhgaaDoor.Q1 Go.Proofs.YthhmmaihbjhhgaaDoor.Q2
/-- a u, and four digits behind it -/
def numU (l : List UInt8) : Int := if (l.getD 0 0).toNat = 117 then digN (l.drop 1) else -1
theorem getD_drops (l : List UInt8) (p j : Nat) : (l.drop p).getD j 0 = l.getD (p + j) 0 := by
  rw [List.getD_eq_getElem?_getD, List.getD_eq_getElem?_getD, List.getElem?_drop]
/-- what the reference's escape answers when the byte behind the backslash is no sign of its own -/
def escN (l : List UInt8) : Int × Int :=
  if numU (l.drop 1) < 0 ∨ (56320 ≤ numU (l.drop 1) ∧ numU (l.drop 1) ≤ 57343) then (0, 0)
  else if numU (l.drop 1) < 55296 ∨ 57343 < numU (l.drop 1) then (numU (l.drop 1), 6)
  else if l.length < 12 ∨ (l.getD 6 0).toNat ≠ 92 then (0, 0)
  else if numU (l.drop 7) < 56320 ∨ 57343 < numU (l.drop 7) then (0, 0)
  else (65536 + 1024 * (numU (l.drop 1) - 55296) + numU (l.drop 7) - 56320, 12)
theorem numU_bd (l : List UInt8) : -1 ≤ numU l ∧ numU l < 65536 := by
  unfold numU
  split
  · exact digN_bd _
  · omega
/-- the reference's piece that begins with a backslash: the letter, and how many bytes; 0 of them: none -/
def escR (l : List UInt8) : Int × Int :=
  if l.length < 2 then (0, 0)
  else if (l.getD 1 0).toNat = 34 ∨ (l.getD 1 0).toNat = 92 ∨ (l.getD 1 0).toNat = 47 then (((l.getD 1 0).toNat : Int), 2)
  else if meanB (l.getD 1 0).toNat = 0 then escN l else (((meanB (l.getD 1 0).toNat).toNat : Int), 2)
theorem mean_bd (n : Nat) (h : meanB n ≠ 0) : 8 ≤ (meanB n).toNat ∧ (meanB n).toNat ≤ 13 := by
  unfold meanB at h ⊢
  repeat' split
  all_goals first | decide | simp_all
theorem enc_ascii (n : Nat) (h : n < 128) : enc (n : Int) = [n.toUInt8] ∧ letterB (n : Int) = true := by
  constructor
  · unfold enc Lib.encodeRune
    rw [Lib.encodeRuneZ, if_pos (by omega)]
    simp
  · rw [letter_iff]; omega
/-- the pair of the reference, as the program's answer -/
def ofR (r : Int × Int) : List UInt8 × Int × Int := if r.2 = 0 then ([], 0, 73) else (enc r.1, r.2, 0)
theorem escN_u (l : List UInt8) (h : (l.getD 1 0).toNat = 117) (hl : 2 ≤ l.length) : ofR (escN l) = if letterB (numL (l.drop 2)).1 = true then (enc (numL (l.drop 2)).1, 2 + (numL (l.drop 2)).2, 0) else ([], 0, 73) := by
  have hd := digN_bd (l.drop 2)
  have hd8 := digN_bd (l.drop 8)
  have h8 := digN_len (l.drop 8)
  rw [List.length_drop] at h8
  have e1 : numU (l.drop 1) = digN (l.drop 2) := by unfold numU; rw [getD_drops, if_pos h, List.drop_drop]
  have e7 : numU (l.drop 7) = if (l.getD 7 0).toNat = 117 then digN (l.drop 8) else -1 := by unfold numU; rw [getD_drop, List.drop_drop]
  unfold escN numL
  rw [e1, e7, getD_drops, getD_drops, List.drop_drop, List.length_drop]
  generalize digN (l.drop 2) = n at hd ⊢
  generalize digN (l.drop 8) = m at hd8 h8 ⊢
  have no : ∀ x : Int, ¬ (0 ≤ x ∧ x ≤ 1114111 ∧ (x < 55296 ∨ 57343 < x)) → ¬ letterB x = true := fun x hx h => hx ((letter_iff x).1 h)
  have yes : ∀ x : Int, (0 ≤ x ∧ x ≤ 1114111 ∧ (x < 55296 ∨ 57343 < x)) → letterB x = true := fun x hx => (letter_iff x).2 hx
  by_cases a : n < 0
  · rw [if_pos (show n < 0 ∨ (56320 ≤ n ∧ n ≤ 57343) by omega), if_pos (show n < 55296 ∨ 57344 ≤ n by omega), if_neg (no _ (by simp only; omega))]; rfl
  · by_cases b : n < 55296 ∨ 57344 ≤ n
    · rw [if_neg (show ¬ (n < 0 ∨ (56320 ≤ n ∧ n ≤ 57343)) by omega), if_pos (show n < 55296 ∨ 57343 < n by omega), if_pos b, if_pos (yes _ (by simp only; omega))]; rfl
    · rw [if_neg b]
      by_cases c : 56320 ≤ n
      · rw [if_pos (show n < 0 ∨ (56320 ≤ n ∧ n ≤ 57343) by omega), if_pos (Or.inl c), if_neg (no _ (by simp only; omega))]; rfl
      · rw [if_neg (show ¬ (n < 0 ∨ (56320 ≤ n ∧ n ≤ 57343)) by omega), if_neg (show ¬ (n < 55296 ∨ 57343 < n) by omega)]
        by_cases d : l.length - 2 < 6 ∨ (l.getD (2 + 4) 0).toNat ≠ 92 ∨ (l.getD (2 + 5) 0).toNat ≠ 117
        · rw [if_pos (Or.inr d), if_neg (no (-1) (by omega))]
          by_cases e : l.length < 12 ∨ (l.getD 6 0).toNat ≠ 92
          · rw [if_pos e]; rfl
          · rw [if_neg e]
            have f : ¬ (l.getD 7 0).toNat = 117 := by intro f; rcases d with d | d | d; omega; exact e (Or.inr d); exact d f
            rw [if_neg f, if_pos (by omega)]; rfl
        · have d6 : (l.getD 6 0).toNat = 92 := by have : ¬ (l.getD (2 + 4) 0).toNat ≠ 92 := fun h => d (Or.inr (Or.inl h)); exact Decidable.not_not.1 this
          have d7 : (l.getD 7 0).toNat = 117 := by have : ¬ (l.getD (2 + 5) 0).toNat ≠ 117 := fun h => d (Or.inr (Or.inr h)); exact Decidable.not_not.1 this
          have d8 : ¬ l.length - 2 < 6 := fun h => d (Or.inl h)
          rw [if_neg (show ¬ (56320 ≤ n ∨ l.length - 2 < 6 ∨ (l.getD (2 + 4) 0).toNat ≠ 92 ∨ (l.getD (2 + 5) 0).toNat ≠ 117) from fun h => h.elim c d), if_pos d7]
          by_cases e : m < 56320 ∨ 57344 ≤ m
          · rw [show (if m < 56320 ∨ 57343 < m then ((0 : Int), (0 : Int)) else (65536 + 1024 * (n - 55296) + m - 56320, 12)) = (0, 0) from if_pos (by omega), if_pos e, if_neg (no (-1) (by omega))]
            split <;> rfl
          · have h12 := h8 (by omega)
            rw [if_neg (show ¬ (l.length < 12 ∨ (l.getD 6 0).toNat ≠ 92) by omega), if_neg (show ¬ (m < 56320 ∨ 57343 < m) by omega), if_neg e, if_pos (yes _ (by simp only; omega))]
            unfold ofR
            rw [if_neg (show ¬ (12 : Int) = 0 by decide)]
            simp only
            rw [show 65536 + 1024 * (n - 55296) + m - 56320 = 65536 + (n - 55296) * 1024 + m - 56320 by omega]
            rfl
theorem escR_L (l : List UInt8) : ofR (escR l) = escL l := by
  unfold escR escL
  by_cases a : l.length < 2
  · rw [if_pos a, if_pos a]; rfl
  · rw [if_neg a, if_neg a]
    by_cases b : (l.getD 1 0).toNat = 34 ∨ (l.getD 1 0).toNat = 92 ∨ (l.getD 1 0).toNat = 47
    · have hm : ¬ meanB (l.getD 1 0).toNat ≠ 0 := by
        rcases b with b | b | b <;> rw [b] <;> decide
      rw [if_pos b, if_neg hm, if_pos b]
      unfold ofR
      rw [if_neg (show ¬ (2 : Int) = 0 by decide)]
      simp only
      rw [(enc_ascii _ (by omega)).1]
      simp
    · rw [if_neg b]
      by_cases c : meanB (l.getD 1 0).toNat = 0
      · rw [if_pos c, if_neg (fun h => h c), if_neg b]
        by_cases d : (l.getD 1 0).toNat = 117
        · rw [if_pos d, escN_u l d (by omega)]
        · rw [if_neg d]
          have e1 : numU (l.drop 1) = -1 := by unfold numU; rw [getD_drops, if_neg d]
          unfold escN
          rw [e1, if_pos (by omega)]; rfl
      · rw [if_neg c, if_pos c]
        have hb := mean_bd _ c
        unfold ofR
        rw [if_neg (show ¬ (2 : Int) = 0 by decide)]
        simp only
        rw [(enc_ascii _ (by omega)).1]
        simp
theorem escR_letter (l : List UInt8) (h : (escR l).2 ≠ 0) : letterB (escR l).1 = true := by
  have h1 := numU_bd (l.drop 1)
  have h7 := numU_bd (l.drop 7)
  unfold escR at h ⊢
  split
  · rename_i a; rw [if_pos a] at h; exact absurd rfl h
  · rename_i a
    rw [if_neg a] at h
    split
    · exact (enc_ascii _ (by omega)).2
    · rename_i b
      rw [if_neg b] at h
      split
      · rename_i c
        rw [if_pos c] at h
        unfold escN at h ⊢
        generalize numU (l.drop 1) = n at h1 h ⊢
        generalize numU (l.drop 7) = m at h7 h ⊢
        rw [letter_iff]
        split
        · rename_i d; rw [if_pos d] at h; exact absurd rfl h
        · rename_i d
          rw [if_neg d] at h
          split
          · simp only; omega
          · rename_i e
            rw [if_neg e] at h
            split
            · rename_i f; rw [if_pos f] at h; exact absurd rfl h
            · rename_i f
              rw [if_neg f] at h
              split
              · rename_i g; rw [if_pos g] at h; exact absurd rfl h
              · simp only; omega
      · rename_i c
        have hb := mean_bd _ c
        exact (enc_ascii _ (by omega)).2
/-- a piece read well is letters' bytes -/
theorem one_enc (l : List UInt8) (h : (oneL l).2.2 = 0) : ∃ r : Int, letterB r = true ∧ (oneL l).1 = enc r := by
  unfold oneL at h ⊢
  split
  · rename_i c
    rw [if_pos c, ← escR_L] at h
    rw [← escR_L]
    unfold ofR at h ⊢
    by_cases d : (escR l).2 = 0
    · rw [if_pos d] at h; simp at h
    · rw [if_neg d]
      exact ⟨_, escR_letter l d, rfl⟩
  · rename_i c
    rw [if_neg c] at h
    unfold plainL at h ⊢
    cases ht : tk l with
    | none => rw [ht] at h; simp at h
    | some d =>
      obtain ⟨r, n⟩ := d
      obtain ⟨hl, he, h1, h2⟩ := tk_some ht
      exact ⟨r, hl, he.symm⟩
theorem readL_good : ∀ (n : Nat) (l : List UInt8) (r : List UInt8 × Int × Int), readL n l = some r → r.2.2 = 0 → 1 ≤ r.2.1 ∧ r.2.1 ≤ l.length ∧ ∃ xs : List Int, (∀ x ∈ xs, letterB x = true) ∧ r.1 = encs xs
  | 0, l, r, h, he => by simp [readL] at h
  | n + 1, l, r, h, he => by
    rw [readL] at h
    by_cases e1 : l = []
    · rw [if_pos e1] at h; cases h; simp at he
    · rw [if_neg e1] at h
      have hlen : 1 ≤ l.length := by cases l with | nil => exact absurd rfl e1 | cons => simp
      by_cases e2 : (l.getD 0 0).toNat = 34
      · rw [if_pos e2] at h; cases h
        exact ⟨by simp, by simp only; omega, [], by simp, rfl⟩
      · rw [if_neg e2] at h
        by_cases e3 : (l.getD 0 0).toNat < 32
        · rw [if_pos e3] at h; cases h; simp at he
        · rw [if_neg e3] at h
          by_cases e4 : (oneL l).2.2 = 0
          · rw [if_pos e4] at h
            obtain ⟨q, hq, hr⟩ := Option.map_eq_some_iff.1 h
            obtain ⟨b1, b2, _⟩ := one_bd l e4
            by_cases e5 : q.2.2 = 0
            · rw [if_pos e5] at hr
              obtain ⟨c1, c2, xs, c3, c4⟩ := readL_good n _ q hq e5
              obtain ⟨x, d1, d2⟩ := one_enc l e4
              rw [List.length_drop] at c2
              subst hr
              refine ⟨by simp only; omega, by simp only; omega, x :: xs, ?_, ?_⟩
              · intro y hy
                rcases List.mem_cons.1 hy with rfl | hy
                · exact d1
                · exact c3 y hy
              · simp only
                rw [d2, c4, encs]
            · rw [if_neg e5] at hr
              subst hr
              exact absurd he e5
          · rw [if_neg e4] at h
            cases h
            exact absurd he e4
set_option maxRecDepth 100000 in
theorem hv_hexN : ∀ a : Nat, a < 16 → hv (hexN a).toNat = a := by decide +kernel
theorem one_plain (n : Nat) (h : letterB (n : Int) = true) (h92 : ((enc (n : Int)).getD 0 0).toNat ≠ 92) (x : List UInt8) : oneL (enc (n : Int) ++ x) = (enc (n : Int), ((enc (n : Int)).length : Int), 0) := by
  unfold oneL
  have hg : (enc (n : Int) ++ x).getD 0 0 = (enc (n : Int)).getD 0 0 := getD_app _ _ 0 (enc_len_pos _)
  rw [hg, if_neg h92]
  unfold plainL
  rw [tk_enc n h x]
  simp
theorem one_ascii (c : Nat) (hc : c < 128) (x : List UInt8) : oneL (pieceN c ++ x) = ([c.toUInt8], ((pieceN c).length : Int), 0) := by
  have he := enc_ascii c hc
  have short : ∀ (a : UInt8) (b : UInt8), meanB a.toNat = b → b ≠ 0 → oneL ([92, a] ++ x) = ([b], 2, 0) := by
    intro a b h1 h2
    unfold oneL escL
    rw [if_pos (by rfl), if_neg (by simp)]
    simp only [List.cons_append, List.nil_append, List.getD_cons_succ, List.getD_cons_zero]
    rw [h1, if_pos h2]
  unfold pieceN
  by_cases c8 : c = 8
  · subst c8; exact short 98 8 (by decide) (by decide)
  · rw [if_neg c8]
    by_cases c9 : c = 9
    · subst c9; exact short 116 9 (by decide) (by decide)
    · rw [if_neg c9]
      by_cases c10 : c = 10
      · subst c10; exact short 110 10 (by decide) (by decide)
      · rw [if_neg c10]
        by_cases c12 : c = 12
        · subst c12; exact short 102 12 (by decide) (by decide)
        · rw [if_neg c12]
          by_cases c13 : c = 13
          · subst c13; exact short 114 13 (by decide) (by decide)
          · rw [if_neg c13]
            by_cases cq : c = 34 ∨ c = 92
            · rw [if_pos cq]
              unfold oneL escL
              rw [if_pos (by rfl), if_neg (by simp)]
              simp only [List.cons_append, List.nil_append, List.getD_cons_succ, List.getD_cons_zero]
              rw [u8 c (by omega)]
              rcases cq with rfl | rfl
              · rw [if_neg (by decide), if_pos (by decide)]; rfl
              · rw [if_neg (by decide), if_pos (by decide)]; rfl
            · rw [if_neg cq]
              by_cases c32 : c < 32
              · rw [if_pos c32]
                unfold oneL escL
                rw [if_pos (by rfl), if_neg (by simp)]
                simp only [List.cons_append, List.nil_append, List.getD_cons_succ, List.getD_cons_zero]
                rw [if_neg (by decide), if_neg (by decide), if_pos (by decide)]
                have hd : digN (48 :: 48 :: hexN (c / 16) :: hexN (c % 16) :: x) = (c : Int) := by
                  unfold digN
                  rw [if_neg (by simp)]
                  simp only [List.getD_cons_succ, List.getD_cons_zero]
                  rw [hv_hexN _ (by omega), hv_hexN _ (by omega), show hv (48 : UInt8).toNat = 0 by decide, if_neg (by omega)]
                  omega
                have hn : numL (48 :: 48 :: hexN (c / 16) :: hexN (c % 16) :: x) = ((c : Int), 4) := by
                  unfold numL
                  rw [hd, if_pos (by omega)]
                simp only [List.drop_succ_cons, List.drop_zero]
                rw [hn]
                simp only
                rw [if_pos he.2, he.1]
                rfl
              · rw [if_neg c32]
                have := one_plain c he.2 (by rw [he.1]; simp only [List.getD_cons_zero]; rw [u8 c (by omega)]; omega) x
                rw [he.1] at this
                exact this
theorem encN_high (n : Nat) (h : 128 ≤ n) : ∀ x ∈ encN n, 128 ≤ x := by
  unfold encN
  rw [if_neg (by omega)]
  split
  · intro x hx; simp at hx; omega
  · split
    · intro x hx; simp at hx; omega
    · intro x hx; simp at hx; omega
theorem enc_high (n : Nat) (h : letterB (n : Int) = true) (h8 : 128 ≤ n) : ∀ x ∈ enc (n : Int), 128 ≤ x.toNat := by
  obtain ⟨e, hb⟩ := enc_N n h
  intro x hx
  rw [e] at hx
  obtain ⟨y, hy, rfl⟩ := List.mem_map.1 hx
  rw [u8 y (hb y hy)]
  exact encN_high n h8 y hy
theorem pieceN_high (c : UInt8) (h : 128 ≤ c.toNat) : pieceN c.toNat = [c] := by
  unfold pieceN
  rw [if_neg (by omega), if_neg (by omega), if_neg (by omega), if_neg (by omega), if_neg (by omega), if_neg (by omega), if_neg (by omega)]
  congr 1
  exact UInt8.toNat_inj.1 (u8 _ (UInt8.toNat_lt _))
theorem inner_high : ∀ l : List UInt8, (∀ x ∈ l, 128 ≤ x.toNat) → inner l = l
  | [], _ => rfl
  | c :: l, h => by rw [inner, pieceN_high c (h c (List.mem_cons_self ..)), inner_high l (fun x hx => h x (List.mem_cons_of_mem _ hx))]; rfl
set_option maxRecDepth 100000 in
theorem pieceN_first : ∀ c : Nat, c < 256 → ((pieceN c).getD 0 0).toNat ≠ 34 ∧ 32 ≤ ((pieceN c).getD 0 0).toNat ∧ 1 ≤ (pieceN c).length := by decide +kernel
/-- a letter as it stands in quotes is read as it -/
theorem one_letter (n : Nat) (h : letterB (n : Int) = true) (x : List UInt8) : oneL (inner (enc (n : Int)) ++ x) = (enc (n : Int), ((inner (enc (n : Int))).length : Int), 0)
    ∧ ((inner (enc (n : Int)) ++ x).getD 0 0).toNat ≠ 34 ∧ 32 ≤ ((inner (enc (n : Int)) ++ x).getD 0 0).toNat ∧ 1 ≤ (inner (enc (n : Int))).length := by
  by_cases c : n < 128
  · have he := (enc_ascii n c).1
    have hi : inner (enc (n : Int)) = pieceN n := by rw [he, inner, inner, List.append_nil, u8 n (by omega)]
    obtain ⟨f1, f2, f3⟩ := pieceN_first n (by omega)
    rw [hi, getD_app _ _ 0 f3]
    refine ⟨?_, f1, f2, f3⟩
    rw [one_ascii n c x, he]
  · have hh := enc_high n h (by omega)
    have hi := inner_high _ hh
    have hp := enc_len_pos (n : Int)
    have hm : (enc (n : Int)).getD 0 0 ∈ enc (n : Int) := by
      rw [List.getD_eq_getElem?_getD, List.getElem?_eq_getElem hp]
      exact List.getElem_mem hp
    have := hh _ hm
    rw [hi, getD_app _ _ 0 hp]
    exact ⟨one_plain n h (by omega) x, by omega, by omega, hp⟩
theorem inner_encs (r : Int) (xs : List Int) (x : List UInt8) : inner (encs (r :: xs)) ++ x = inner (enc r) ++ (inner (encs xs) ++ x) := by
  rw [encs, inner_app, List.append_assoc]
/-- what stands in quotes is read as it was, whatever is behind it -/
theorem readL_inner (x : List UInt8) : ∀ (xs : List Int) (n : Nat), (∀ y ∈ xs, letterB y = true) → xs.length < n → readL n (inner (encs xs) ++ 34 :: x) = some (encs xs, ((inner (encs xs)).length : Int) + 1, 0)
  | [], n, h, hn => by
    obtain ⟨n, rfl⟩ : ∃ m, n = m + 1 := ⟨n - 1, by omega⟩
    rw [readL]
    rfl
  | r :: xs, n, h, hn => by
    rw [List.length_cons] at hn
    obtain ⟨n, rfl⟩ : ∃ m, n = m + 1 := ⟨n - 1, by omega⟩
    have hr := h r (List.mem_cons_self ..)
    obtain ⟨h0, _, _⟩ := (letter_iff r).1 hr
    obtain ⟨c, rfl⟩ : ∃ m : Nat, r = m := ⟨r.toNat, by omega⟩
    obtain ⟨f0, f1, f2, f3⟩ := one_letter c hr (inner (encs xs) ++ 34 :: x)
    have ih := readL_inner x xs n (fun y hy => h y (List.mem_cons_of_mem _ hy)) (by omega)
    rw [inner_encs, readL, if_neg (fun e => by have := congrArg List.length e; rw [List.length_append, List.length_nil] at this; omega), if_neg f1, if_neg (by omega), f0]
    simp only
    rw [if_pos trivial, Int.toNat_natCast, List.drop_left, ih, Option.map_some]
    simp only
    rw [if_pos trivial, encs, inner_app, List.length_append]
    congr 3
theorem numL_pos (l : List UInt8) (h : letterB (numL l).1 = true) : 4 ≤ (numL l).2 := by
  obtain ⟨h0, _, _⟩ := (letter_iff _).1 h
  unfold numL at h0 ⊢
  split
  · simp
  · rename_i c
    rw [if_neg c] at h0
    split
    · rename_i d; rw [if_pos d] at h0; simp at h0
    · rename_i d
      rw [if_neg d] at h0
      split
      · rename_i e; rw [if_pos e] at h0; simp at h0
      · simp
/-- a piece read well is no longer than what was read of it -/
theorem one_le (l : List UInt8) (h : (oneL l).2.2 = 0) : ((oneL l).1.length : Int) ≤ (oneL l).2.1 := by
  unfold oneL at h ⊢
  split
  · rename_i c
    rw [if_pos c] at h
    unfold escL at h ⊢
    by_cases a : l.length < 2
    · rw [if_pos a] at h; simp at h
    · rw [if_neg a] at h ⊢
      by_cases b : meanB (l.getD 1 0).toNat ≠ 0
      · rw [if_pos b]; simp
      · rw [if_neg b] at h ⊢
        by_cases d : (l.getD 1 0).toNat = 34 ∨ (l.getD 1 0).toNat = 92 ∨ (l.getD 1 0).toNat = 47
        · rw [if_pos d]; simp
        · rw [if_neg d] at h ⊢
          by_cases e : (l.getD 1 0).toNat = 117
          · rw [if_pos e] at h ⊢
            by_cases f : letterB (numL (l.drop 2)).1 = true
            · rw [if_pos f]
              have h4 := enc_len4 (numL (l.drop 2)).1
              have h5 := numL_pos _ f
              simp only; omega
            · rw [if_neg f] at h; simp at h
          · rw [if_neg e] at h; simp at h
  · rename_i c
    rw [if_neg c] at h
    unfold plainL at h ⊢
    cases ht : tk l with
    | none => rw [ht] at h; simp at h
    | some d =>
      obtain ⟨r, n⟩ := d
      simp only
      rw [List.length_take]
      omega
/-- read_l0 where what is left bounds what is read -/
theorem read_l0s (s : ByteArray) : ∀ (n k : Nat) (o : ByteArray) (p : Nat) (r : List UInt8 × Int × Int), readL n (s.data.toList.drop p) = some r → p ≤ s.size → n + 10 < k → o.size + (s.size - p) ≤ 140737488355328 →
    quote_Read.l0 k s o p = some (endR o p r)
  | 0, k, o, p, r, h, hp, hk, ho => by simp [readL] at h
  | n + 1, k, o, p, r, h, hp, hk, ho => by
    obtain ⟨k, rfl⟩ : ∃ m, k = m + 1 := ⟨k - 1, by omega⟩
    have hl : (s.data.toList.drop p).length = s.size - p := by rw [List.length_drop, data_length]
    rw [readL] at h
    rw [quote_Read.l0]
    by_cases e1 : p = s.size
    · have e : s.data.toList.drop p = [] := List.eq_nil_of_length_eq_zero (by omega)
      rw [if_pos e] at h
      rw [if_pos e1]
      cases h; rfl
    · have e : s.data.toList.drop p ≠ [] := fun e => by rw [e] at hl; simp at hl; omega
      rw [if_neg e] at h
      rw [if_neg e1, if_neg (by omega), byte_bt]
      rw [getD_drop] at h
      by_cases e2 : (s.data.toList.getD p 0).toNat = 34
      · rw [if_pos e2] at h
        rw [if_pos (by omega)]
        cases h
        unfold endR
        rw [if_pos rfl]
        congr 2
        apply ofList_eq
        rw [ByteArray.data_append, Array.toList_append]; simp
      · rw [if_neg e2] at h
        rw [if_neg (by omega)]
        by_cases e3 : (s.data.toList.getD p 0).toNat < 32
        · rw [if_pos e3] at h
          rw [if_pos (by omega)]
          cases h; rfl
        · rw [if_neg e3] at h
          rw [if_neg (by omega), read_one k s p (by omega), Option.bind_some]
          by_cases e4 : (oneL (s.data.toList.drop p)).2.2 = 0
          · rw [if_pos e4] at h
            obtain ⟨q, hq, hr⟩ := Option.map_eq_some_iff.1 h
            obtain ⟨b1, b2, b3⟩ := one_bd _ e4
            have b4 := one_le _ e4
            unfold packR
            simp only
            have hsz : (⟨(oneL (s.data.toList.drop p)).1.toArray⟩ : ByteArray).size = (oneL (s.data.toList.drop p)).1.length := by
              show ((oneL (s.data.toList.drop p)).1.toArray).size = _
              rw [List.size_toArray]
            rw [if_pos e4, if_pos (by omega), if_pos (by omega), if_pos (by omega)]
            rw [List.drop_drop] at hq
            rw [read_l0s s n k _ _ q hq (by omega) (by omega) (by rw [ByteArray.size_append]; omega)]
            congr 1
            subst hr
            unfold endR
            by_cases e5 : q.2.2 = 0
            · rw [if_pos e5, if_pos e5, if_pos rfl]
              simp only [Prod.mk.injEq, and_true]
              refine ⟨?_, by omega⟩
              apply ofList_eq
              simp [ByteArray.data_append, Array.toList_append]
            · rw [if_neg e5, if_neg e5, if_neg e5]
          · rw [if_neg e4] at h
            unfold packR
            simp only
            rw [if_neg e4]
            cases h
            unfold endR
            rw [if_neg e4]
/-- any text is read in so many rounds as it has bytes -/
theorem read_any (k : Nat) (s : ByteArray) (hk : s.size + 20 < k) (hs : s.size ≤ 140737488355328) : ∃ r, readS (s.size + 1) s = some r ∧ quote_Read.f k s = some r := by
  unfold readS quote_Read.f
  rw [if_pos (show s.size ≤ 4611686018427387904 by omega)]
  by_cases e1 : s.size = 0
  · rw [if_pos e1]; exact ⟨_, rfl, if_pos e1⟩
  · rw [if_neg e1]
    have hb : bt s 0 = (((s.data.toList.getD 0 0).toNat : Nat) : Int) := byte_bt s 0
    rw [hb]
    by_cases e2 : (s.data.toList.getD 0 0).toNat = 34
    · obtain ⟨q, hq⟩ := readL_some (s.size + 1) (s.data.toList.drop 1) (by rw [List.length_drop, data_length]; omega)
      rw [if_pos e2, if_pos (show (((s.data.toList.getD 0 0).toNat : Nat) : Int) = 34 by omega), hq, read_l0s s (s.size + 1) k ⟨#[]⟩ 1 q hq (by omega) (by omega) (by show 0 + _ ≤ _; omega)]
      exact ⟨_, rfl, if_neg e1⟩
    · rw [if_neg e2, if_neg (show ¬ (((s.data.toList.getD 0 0).toNat : Nat) : Int) = 34 by omega)]
      exact ⟨_, rfl, if_neg e1⟩
theorem encs_ge : ∀ xs : List Int, xs.length ≤ (encs xs).length
  | [] => Nat.le_refl _
  | r :: xs => by
    have := encs_ge xs
    have := enc_len_pos r
    rw [encs, List.length_append, List.length_cons]; omega
theorem valid_xs (s : ByteArray) (h : Lib.validD s.data.toList = true) : ∃ xs : List Int, (∀ y ∈ xs, letterB y = true) ∧ encs xs = s.data.toList ∧ xs.length ≤ s.size := by
  rw [valid_lets _ _ (Nat.le_refl _)] at h
  obtain ⟨xs, hx⟩ := Option.isSome_iff_exists.1 h
  obtain ⟨a, b⟩ := of_lets _ _ xs (Nat.le_refl _) hx
  refine ⟨xs, a, b, ?_⟩
  have := encs_ge xs
  rw [b, data_length] at this
  exact this
theorem quoted_len (l : List UInt8) : (quoted l).length = (inner l).length + 2 := by
  unfold quoted; simp
theorem writeS_yes (s : ByteArray) (h : Lib.validD s.data.toList = true) : writeS s = (⟨(quoted s.data.toList).toArray⟩, true) := by unfold writeS; rw [if_pos h]
theorem writeS_no (s : ByteArray) (h : ¬ Lib.validD s.data.toList = true) : writeS s = (⟨#[]⟩, false) := by unfold writeS; rw [if_neg h]
theorem inner_size (s : ByteArray) : (inner s.data.toList).length ≤ 6 * s.size := by
  have := inner_len s.data.toList
  rw [data_length] at this; exact this
theorem tk_more {l : List UInt8} {r n : Nat} (x : List UInt8) (h : tk l = some (r, n)) : tk (l ++ x) = some (r, n) := by
  obtain ⟨hl, he, h1, h2⟩ := tk_some h
  have e : l ++ x = enc (r : Int) ++ (l.drop n ++ x) := by rw [he, ← List.append_assoc, List.take_append_drop]
  rw [e, tk_enc r hl, he, List.length_take, Nat.min_eq_left h1]
theorem digN_more (l x : List UInt8) (h : 4 ≤ l.length) : digN (l ++ x) = digN l := by
  unfold digN
  rw [if_neg (show ¬ (l ++ x).length < 4 by rw [List.length_append]; omega), if_neg (show ¬ l.length < 4 by omega), getD_app l x 0 (by omega), getD_app l x 1 (by omega), getD_app l x 2 (by omega), getD_app l x 3 (by omega)]
theorem numL_more (l x : List UInt8) (h : letterB (numL l).1 = true) : numL (l ++ x) = numL l := by
  obtain ⟨h0, h1, h2⟩ := (letter_iff _).1 h
  have h4 : 4 ≤ l.length := by
    by_cases c : 0 ≤ digN l
    · exact digN_len l c
    · exfalso
      unfold numL at h0
      rw [if_pos (by omega)] at h0
      exact c h0
  unfold numL at h0 ⊢
  rw [digN_more l x h4]
  by_cases a : digN l < 55296 ∨ 57344 ≤ digN l
  · rw [if_pos a, if_pos a]
  · rw [if_neg a] at h0 ⊢
    rw [if_neg a]
    by_cases b : 56320 ≤ digN l ∨ l.length < 6 ∨ (l.getD 4 0).toNat ≠ 92 ∨ (l.getD 5 0).toNat ≠ 117
    · rw [if_pos b] at h0; simp at h0
    · rw [if_neg b] at h0 ⊢
      rw [getD_app l x 4 (by omega), getD_app l x 5 (by omega), List.length_append, if_neg (show ¬ (56320 ≤ digN l ∨ l.length + x.length < 6 ∨ (l.getD 4 0).toNat ≠ 92 ∨ (l.getD 5 0).toNat ≠ 117) by omega)]
      by_cases c : digN (l.drop 6) < 56320 ∨ 57344 ≤ digN (l.drop 6)
      · rw [if_pos c] at h0; simp at h0
      · have h10 := digN_len (l.drop 6) (by omega)
        have hd : (l ++ x).drop 6 = l.drop 6 ++ x := List.drop_append_of_le_length (by omega)
        rw [hd, digN_more _ x h10]
theorem escL_more (l x : List UInt8) (h : (escL l).2.2 = 0) : escL (l ++ x) = escL l := by
  unfold escL at h ⊢
  by_cases a : l.length < 2
  · rw [if_pos a] at h; simp at h
  · rw [if_neg a] at h ⊢
    have hd : (l ++ x).drop 2 = l.drop 2 ++ x := List.drop_append_of_le_length (by omega)
    rw [if_neg (show ¬ (l ++ x).length < 2 by rw [List.length_append]; omega), getD_app l x 1 (by omega), hd]
    by_cases b : meanB (l.getD 1 0).toNat ≠ 0
    · rw [if_pos b, if_pos b]
    · rw [if_neg b] at h ⊢
      rw [if_neg b]
      by_cases c : (l.getD 1 0).toNat = 34 ∨ (l.getD 1 0).toNat = 92 ∨ (l.getD 1 0).toNat = 47
      · rw [if_pos c, if_pos c]
      · rw [if_neg c] at h ⊢
        rw [if_neg c]
        by_cases d : (l.getD 1 0).toNat = 117
        · rw [if_pos d] at h ⊢
          rw [if_pos d]
          by_cases e : letterB (numL (l.drop 2)).1 = true
          · rw [numL_more _ x e]
          · rw [if_neg e] at h; simp at h
        · rw [if_neg d] at h; simp at h
theorem one_more (l x : List UInt8) (hl : l ≠ []) (h : (oneL l).2.2 = 0) : oneL (l ++ x) = oneL l := by
  have hp : 0 < l.length := List.length_pos_iff.2 hl
  unfold oneL at h ⊢
  rw [getD_app l x 0 hp]
  by_cases c : (l.getD 0 0).toNat = 92
  · rw [if_pos c] at h ⊢
    rw [if_pos c, escL_more l x h]
  · rw [if_neg c] at h ⊢
    rw [if_neg c]
    unfold plainL at h ⊢
    cases ht : tk l with
    | none => rw [ht] at h; simp at h
    | some d =>
      obtain ⟨r, n⟩ := d
      obtain ⟨_, _, h1, _⟩ := tk_some ht
      rw [tk_more x ht]
      simp only
      rw [List.take_append_of_le_length h1]
theorem readL_more (x : List UInt8) : ∀ (n : Nat) (l : List UInt8) (r : List UInt8 × Int × Int), readL n l = some r → r.2.2 = 0 → readL n (l ++ x) = some r
  | 0, l, r, h, he => by simp [readL] at h
  | n + 1, l, r, h, he => by
    rw [readL] at h
    by_cases e1 : l = []
    · rw [if_pos e1] at h; cases h; simp at he
    · have hp : 0 < l.length := List.length_pos_iff.2 e1
      rw [if_neg e1] at h
      rw [readL, if_neg (fun e => e1 (List.append_eq_nil_iff.1 e).1), getD_app l x 0 hp]
      by_cases e2 : (l.getD 0 0).toNat = 34
      · rw [if_pos e2] at h ⊢; exact h
      · rw [if_neg e2] at h ⊢
        by_cases e3 : (l.getD 0 0).toNat < 32
        · rw [if_pos e3] at h; cases h; simp at he
        · rw [if_neg e3] at h ⊢
          by_cases e4 : (oneL l).2.2 = 0
          · rw [if_pos e4] at h
            obtain ⟨q, hq, hr⟩ := Option.map_eq_some_iff.1 h
            obtain ⟨b1, b2, _⟩ := one_bd l e4
            rw [one_more l x e1 e4, if_pos e4, List.drop_append_of_le_length (by omega)]
            by_cases e5 : q.2.2 = 0
            · rw [readL_more x n _ q hq e5, Option.map_some, hr]
            · rw [if_neg e5] at hr
              subst hr
              exact absurd he e5
          · rw [if_neg e4] at h
            cases h
            exact absurd he e4
end Go.Proofs.YthhmmaihbjhhgaaDoor.Giv
namespace Go.Proofs.YthhmmaihbjhhgaaDoor.Giv
open Go.RowKit Go.Proofs.YthhmmaihbjhhgaaDoorW.PrintWords Go.Proofs.YthhmmaihbjhhgaaDoorW.PrintLast Go.Proofs.YthhmmaihbjhhgaaDoorW.PrintMore
open Go.Proofs.YthhmmaihbjhhgaaDoor.U1 Go.Proofs.YthhmmaihbjhhgaaDoor.Q1 Go.Proofs.YthhmmaihbjhhgaaDoor.J0 Go.Proofs.YthhmmaihbjhhgaaDoor.J1
abbrev B := List UInt8
/-- behind blanks -/
def sk (l : B) : B := l.drop (skips l)
/-- the byte behind blanks -/
def hd (l : B) : Nat := ((sk l).getD 0 0).toNat
/-- does a byte stand behind blanks? and what is left then -/
def tk1 (l : B) (c : Nat) : Bool × B := if hd l = c ∧ sk l ≠ [] then (true, (sk l).drop 1) else (false, sk l)
/-- a text in quotes: its bytes, what is left, its error -/
def rq (l : B) : B × B × Int := match readL (l.length + 1) (l.drop 1) with
  | some q => if q.2.2 = 0 then (q.1, l.drop (q.2.1.toNat + 1), 0) else ([], [], q.2.2)
  | none => ([], [], 71)
/-- a text's number -/
def rn (t : B) : Int × Bool := readN ⟨t.toArray⟩
def row (d : Nat) (k : Int) (key t : ByteArray) (n : Int) : S59 := ⟨(d : Int), k, key, t, n⟩
def e0 : ByteArray := ⟨#[]⟩
def en (ob : Bool) : Nat := if ob then 125 else 93
/-- a key: it, what is left, its error -/
def pk (l : B) (keys : List ByteArray) : ByteArray × B × Int :=
  if hd l = 34 then (if (rq (sk l)).2.2 = 0 then (if hasB ⟨(rq (sk l)).1.toArray⟩ keys = true then (e0, [], 82) else if (tk1 (rq (sk l)).2.1 58).1 = true then (⟨(rq (sk l)).1.toArray⟩, (tk1 (rq (sk l)).2.1 58).2, 0) else (e0, [], 80)) else (e0, [], (rq (sk l)).2.2))
  else (e0, [], 80)
def wd (l : B) (d : Nat) (key : ByteArray) : Int × B × List S59 :=
  if [110, 117, 108, 108] <+: l then (0, l.drop 4, [row d 1 key e0 0])
  else if [102, 97, 108, 115, 101] <+: l then (0, l.drop 5, [row d 2 key e0 0])
  else if [116, 114, 117, 101] <+: l then (0, l.drop 4, [row d 3 key e0 0])
  else (80, [], [])
/-- what stands behind a member's value: the end, or further members (L) -/
def cont (L : B → Int × B × List S59) (l : B) (ob : Bool) : Int × B × List S59 :=
  if (tk1 l (en ob)).1 = true then (0, (tk1 l (en ob)).2, []) else if (tk1 (tk1 l (en ob)).2 44).1 = true then L (tk1 (tk1 l (en ob)).2 44).2 else (80, [], [])
def pma (L : B → Int × B × List S59) (V : Int × B × List S59) (ob : Bool) : Int × B × List S59 :=
  if V.1 = 0 then ((cont L V.2.1 ob).1, (cont L V.2.1 ob).2.1, V.2.2 ++ (cont L V.2.1 ob).2.2) else (V.1, [], [])
def kindOf (ob : Bool) : Int := if ob then 7 else 6
mutual
/-- a value: the error (below 0: the fuel has ended), what is left, its rows -/
def pv : Nat → B → Nat → ByteArray → Int × B × List S59
  | 0, _, _, _ => (-1, [], [])
  | n + 1, l, d, key =>
    if hd l = 91 then (if 64 ≤ d then (81, [], []) else ((pms n ((sk l).drop 1) d false).1, (pms n ((sk l).drop 1) d false).2.1, row d 6 key e0 0 :: (pms n ((sk l).drop 1) d false).2.2))
    else if hd l = 123 then (if 64 ≤ d then (81, [], []) else ((pms n ((sk l).drop 1) d true).1, (pms n ((sk l).drop 1) d true).2.1, row d 7 key e0 0 :: (pms n ((sk l).drop 1) d true).2.2))
    else if hd l = 34 then (if (rq (sk l)).2.2 = 0 then (0, (rq (sk l)).2.1, [row d 5 key ⟨(rq (sk l)).1.toArray⟩ 0]) else ((rq (sk l)).2.2, [], []))
    else if hd l = 45 ∨ (48 ≤ hd l ∧ hd l ≤ 57) then (if (rn ((sk l).take (numsL (sk l)))).2 = true then (0, (sk l).drop (numsL (sk l)), [row d 4 key e0 (rn ((sk l).take (numsL (sk l)))).1]) else (83, [], []))
    else wd (sk l) d key
/-- members of an array or object that was begun at a depth -/
def pms : Nat → B → Nat → Bool → Int × B × List S59
  | 0, _, _, _ => (-1, [], [])
  | n + 1, l, d, ob => if (tk1 l (en ob)).1 = true then (0, (tk1 l (en ob)).2, []) else pml n (tk1 l (en ob)).2 d ob []
/-- one member, and those behind it -/
def pml : Nat → B → Nat → Bool → List ByteArray → Int × B × List S59
  | 0, _, _, _, _ => (-1, [], [])
  | n + 1, l, d, ob, keys =>
    if ob = true then (if (pk l keys).2.2 = 0 then pma (fun x => pml n x d ob (keys ++ [(pk l keys).1])) (pv n (pk l keys).2.1 (d + 1) (pk l keys).1) ob else ((pk l keys).2.2, [], []))
    else pma (fun x => pml n x d ob keys) (pv n l (d + 1) e0) ob
end
theorem drop_sk (s : ByteArray) (p : Nat) (l : B) (h : s.data.toList.drop p = l) (hp : p ≤ s.size) : s.data.toList.drop (skipP s p) = sk l ∧ nextC s p = hd l ∧ skipP s p ≤ s.size ∧ (skipP s p < s.size ↔ sk l ≠ []) := by
  have h1 : s.data.toList.drop (skipP s p) = sk l := by
    unfold skipP sk
    rw [← List.drop_drop, h]
  have h2 := skip_le s p hp
  refine ⟨h1, ?_, h2, ?_⟩
  · unfold nextC hd
    rw [← h1, getD_drops]; rfl
  · rw [← h1]
    constructor
    · intro hlt e
      have := congrArg List.length e
      rw [List.length_drop, data_length] at this
      simp at this; omega
    · intro hne
      by_cases c : skipP s p < s.size
      · exact c
      · exact absurd (List.drop_eq_nil_of_le (by rw [data_length]; omega)) hne
theorem takes_sim (s : ByteArray) (p : Nat) (l : B) (c : Nat) (h : s.data.toList.drop p = l) (hp : p ≤ s.size) : (takesP s p c).1 = (tk1 l c).1 ∧ s.data.toList.drop (takesP s p c).2 = (tk1 l c).2 ∧ (takesP s p c).2 ≤ s.size := by
  obtain ⟨h1, h2, h3, h4⟩ := drop_sk s p l h hp
  refine ⟨?_, ?_, takes_le s p c hp⟩
  · unfold takesP tk1
    rw [h2]
    by_cases c1 : hd l = c ∧ sk l ≠ []
    · rw [if_pos c1, if_pos ⟨c1.1, h4.2 c1.2⟩]
    · rw [if_neg c1, if_neg (fun x => c1 ⟨x.1, h4.1 x.2⟩)]
  · unfold takesP tk1
    rw [h2]
    by_cases c1 : hd l = c ∧ sk l ≠ []
    · rw [if_pos c1, if_pos ⟨c1.1, h4.2 c1.2⟩, ← h1, List.drop_drop]
    · rw [if_neg c1, if_neg (fun x => c1 ⟨x.1, h4.1 x.2⟩)]; exact h1
theorem ext_list (s : ByteArray) (p : Nat) : (s.extract p s.size).data.toList = s.data.toList.drop p := by
  rw [ByteArray.data_extract, Array.toList_extract]
  simp
  rw [List.take_of_length_le (by rw [List.length_drop, data_length]; exact Nat.le_refl _)]
theorem rq_sim (s : ByteArray) (q : Nat) (l : B) (h : s.data.toList.drop q = l) (hq : q ≤ s.size) (hs : s.size ≤ 140737488355328) (h34 : (l.getD 0 0).toNat = 34) (k : Nat) (hk : s.size + 20 < k) :
    ∃ r, quote_Read.f k (s.extract q s.size) = some r ∧ r.2.2 = (rq l).2.2 ∧ 0 ≤ r.2.1 ∧ (q : Int) + r.2.1 ≤ s.size ∧ (r.2.2 = 0 → r.1 = ⟨(rq l).1.toArray⟩ ∧ s.data.toList.drop (q + r.2.1.toNat) = (rq l).2.1) := by
  have hS : (s.extract q s.size).data.toList = l := by rw [ext_list, h]
  have hz : (s.extract q s.size).size = l.length := by rw [← data_length, hS]
  have hlen : l.length + q = s.size := by rw [← h, List.length_drop, data_length]; omega
  obtain ⟨r, h1, h2⟩ := read_any k (s.extract q s.size) (by omega) (by omega)
  refine ⟨r, h2, ?_⟩
  have hne : l ≠ [] := by rintro rfl; simp at h34
  have hl0 : l.length ≠ 0 := fun e => hne (List.eq_nil_of_length_eq_zero e)
  unfold readS at h1
  rw [if_neg (by omega), hS, if_pos h34, hz] at h1
  obtain ⟨q0, h3, h4⟩ := Option.map_eq_some_iff.1 h1
  unfold rq
  rw [h3]
  unfold endR at h4
  by_cases c : q0.2.2 = 0
  · rw [if_pos c] at h4
    have hg := readL_good _ _ _ h3 c
    rw [List.length_drop] at hg
    simp only [c, if_pos]
    rw [← h4]
    refine ⟨rfl, by simp only; omega, by simp only; omega, fun _ => ⟨?_, ?_⟩⟩
    · simp only; exact ofList_eq (by simp [ByteArray.data_append])
    · simp only
      rw [← h, List.drop_drop]
      congr 1
      omega
  · rw [if_neg c] at h4
    simp only [c, if_false]
    rw [← h4]
    exact ⟨rfl, Int.le_refl _, by simp only; omega, fun e => absurd e c⟩
theorem num_sim (s : ByteArray) (q : Nat) (l : B) (h : s.data.toList.drop q = l) (_hq : q ≤ s.size) :
    numberS s q = (if (rn (l.take (numsL l))).2 = true then ((rn (l.take (numsL l))).1, 0, q + numsL l) else (0, 83, q)) := by
  have e : numP s q = q + numsL l := by unfold numP; rw [h]
  have e2 : s.extract q (numP s q) = ⟨(l.take (numsL l)).toArray⟩ := by
    apply ofList_eq
    rw [e, ByteArray.data_extract, Array.toList_extract, ← h]
    simp [List.take_drop]
  unfold numberS rn
  rw [e2, e]
theorem nums_le : ∀ l : B, numsL l ≤ l.length
  | [] => Nat.le_refl _
  | c :: l => by
    have := nums_le l
    unfold numsL; split
    · simp only [List.length_cons]; omega
    · simp only [List.length_cons]; omega
theorem word_sim (s : ByteArray) (q : Nat) (l : B) (h : s.data.toList.drop q = l) (hq : q ≤ s.size) (out : List S59) (d : Nat) (key : ByteArray) :
    ∃ p' o', wordF s q out ⟨d, 0, key, e0, 0⟩ = ((wd l d key).1, p', o') ∧ p' ≤ s.size ∧ ((wd l d key).1 = 0 → s.data.toList.drop p' = (wd l d key).2.1 ∧ o' = out ++ (wd l d key).2.2) := by
  have len : ∀ t : B, t <+: l → q + t.length ≤ s.size := by
    intro t ht
    have := ht.length_le
    rw [← h, List.length_drop, data_length] at this
    omega
  unfold wordF wd
  rw [h]
  by_cases c1 : [110, 117, 108, 108] <+: l
  · rw [if_pos c1, if_pos c1]
    exact ⟨_, _, rfl, len _ c1, fun _ => ⟨by rw [← h, List.drop_drop], rfl⟩⟩
  · rw [if_neg c1, if_neg c1]
    by_cases c2 : [102, 97, 108, 115, 101] <+: l
    · rw [if_pos c2, if_pos c2]
      exact ⟨_, _, rfl, len _ c2, fun _ => ⟨by rw [← h, List.drop_drop], rfl⟩⟩
    · rw [if_neg c2, if_neg c2]
      by_cases c3 : [116, 114, 117, 101] <+: l
      · rw [if_pos c3, if_pos c3]
        exact ⟨_, _, rfl, len _ c3, fun _ => ⟨by rw [← h, List.drop_drop], rfl⟩⟩
      · rw [if_neg c3, if_neg c3]
        exact ⟨_, _, rfl, hq, fun e => absurd e (by decide)⟩
theorem sk_len (l : B) : (sk l).length ≤ l.length := by unfold sk; rw [List.length_drop]; omega
theorem tk1_len (l : B) (c : Nat) : (tk1 l c).2.length ≤ l.length ∧ ((tk1 l c).1 = true → (tk1 l c).2.length < l.length) := by
  have h := sk_len l
  unfold tk1
  split
  · rename_i c1
    have : (sk l).length ≠ 0 := fun e => c1.2 (List.eq_nil_of_length_eq_zero e)
    rw [List.length_drop]; exact ⟨by omega, fun _ => by omega⟩
  · exact ⟨h, fun e => by cases e⟩
theorem rq_len (l : B) (h : (rq l).2.2 = 0) (hl : l ≠ []) : (rq l).2.1.length + 2 ≤ l.length := by
  unfold rq at h ⊢
  have hl0 : l.length ≠ 0 := fun e => hl (List.eq_nil_of_length_eq_zero e)
  cases hq : readL (l.length + 1) (l.drop 1) with
  | none => rw [hq] at h; simp at h
  | some q =>
    rw [hq] at h
    simp only at h ⊢
    by_cases c : q.2.2 = 0
    · rw [if_pos c]
      have hg := readL_good _ _ _ hq c
      rw [List.length_drop] at hg
      simp only
      rw [List.length_drop]; omega
    · rw [if_neg c] at h; exact absurd h c
theorem hd_ne {l : B} (h : hd l ≠ 0) : sk l ≠ [] := by
  intro e; apply h; unfold hd; rw [e]; rfl
theorem pk_len (l : B) (keys : List ByteArray) (h : (pk l keys).2.2 = 0) : (pk l keys).2.1.length < l.length := by
  unfold pk at h ⊢
  have h0 := sk_len l
  split at h
  · rename_i c1
    rw [if_pos c1]
    split at h
    · rename_i c2
      rw [if_pos c2]
      split at h
      · simp at h
      · rename_i c3
        rw [if_neg c3]
        split at h
        · rename_i c4
          rw [if_pos c4]
          have h1 := rq_len (sk l) c2 (hd_ne (by omega))
          have h2 := (tk1_len (rq (sk l)).2.1 58).1
          simp only; omega
        · simp at h
    · rename_i c2
      simp only at h; exact absurd h c2
  · simp at h
theorem wd_len (l : B) (d : Nat) (key : ByteArray) (h : (wd l d key).1 = 0) : (wd l d key).2.1.length + (wd l d key).2.2.length ≤ l.length ∧ (wd l d key).2.1.length < l.length := by
  unfold wd at h ⊢
  split
  · rename_i c; have := c.length_le; simp at this; simp only [List.length_drop, List.length_singleton]; omega
  · rename_i c1
    rw [if_neg c1] at h
    split
    · rename_i c; have := c.length_le; simp at this; simp only [List.length_drop, List.length_singleton]; omega
    · rename_i c2
      rw [if_neg c2] at h
      split
      · rename_i c; have := c.length_le; simp at this; simp only [List.length_drop, List.length_singleton]; omega
      · rename_i c3
        rw [if_neg c3] at h; simp at h
theorem nums_pos (l : B) (h : (rn (l.take (numsL l))).2 = true) : 0 < numsL l := by
  by_cases c : numsL l = 0
  · rw [c, List.take_zero] at h; exact absurd h (by decide)
  · omega
theorem cont_len (L : B → Int × B × List S59) (l : B) (ob : Bool) (hL : ∀ x, x.length < l.length → (L x).1 = 0 → (L x).2.1.length + (L x).2.2.length ≤ x.length) (h : (cont L l ob).1 = 0) : (cont L l ob).2.1.length + (cont L l ob).2.2.length < l.length := by
  unfold cont at h ⊢
  have h1 := tk1_len l (en ob)
  have h2 := tk1_len (tk1 l (en ob)).2 44
  split
  · rename_i c; have := h1.2 c; simp only [List.length_nil]; omega
  · rename_i c
    rw [if_neg c] at h
    split
    · rename_i c2
      rw [if_pos c2] at h
      have := h2.2 c2
      have := hL _ (by omega) h
      omega
    · rename_i c2
      rw [if_neg c2] at h; simp at h
theorem pma_len (L : B → Int × B × List S59) (V : Int × B × List S59) (ob : Bool) (m : Nat) (hV : V.1 = 0 → V.2.1.length + V.2.2.length ≤ m) (hL : ∀ x, x.length < m → (L x).1 = 0 → (L x).2.1.length + (L x).2.2.length ≤ x.length) (h : (pma L V ob).1 = 0) : (pma L V ob).2.1.length + (pma L V ob).2.2.length ≤ m := by
  unfold pma at h ⊢
  split
  · rename_i c
    rw [if_pos c] at h
    have h1 := hV c
    have := cont_len L V.2.1 ob (fun x hx => hL x (by omega)) h
    simp only [List.length_append]; omega
  · rename_i c
    rw [if_neg c] at h; exact absurd h c
theorem p_len : ∀ n : Nat, (∀ l d key, (pv n l d key).1 = 0 → (pv n l d key).2.1.length + (pv n l d key).2.2.length ≤ l.length) ∧ (∀ l d ob, (pms n l d ob).1 = 0 → (pms n l d ob).2.1.length + (pms n l d ob).2.2.length ≤ l.length) ∧ (∀ l d ob keys, (pml n l d ob keys).1 = 0 → (pml n l d ob keys).2.1.length + (pml n l d ob keys).2.2.length ≤ l.length)
  | 0 => ⟨fun l d key h => by simp [pv] at h, fun l d ob h => by simp [pms] at h, fun l d ob keys h => by simp [pml] at h⟩
  | n + 1 => by
    obtain ⟨iv, im, il⟩ := p_len n
    refine ⟨fun l d key h => ?_, fun l d ob h => ?_, fun l d ob keys h => ?_⟩
    · have h0 := sk_len l
      rw [pv] at h ⊢
      by_cases c1 : hd l = 91
      · rw [if_pos c1] at h ⊢
        by_cases c2 : 64 ≤ d
        · rw [if_pos c2] at h; simp at h
        · rw [if_neg c2] at h ⊢
          have := im _ _ _ h
          have hne : (sk l).length ≠ 0 := fun e => hd_ne (l := l) (by omega) (List.eq_nil_of_length_eq_zero e)
          rw [List.length_drop] at this
          simp only [List.length_cons]; omega
      · rw [if_neg c1] at h ⊢
        by_cases c3 : hd l = 123
        · rw [if_pos c3] at h ⊢
          by_cases c2 : 64 ≤ d
          · rw [if_pos c2] at h; simp at h
          · rw [if_neg c2] at h ⊢
            have := im _ _ _ h
            have hne : (sk l).length ≠ 0 := fun e => hd_ne (l := l) (by omega) (List.eq_nil_of_length_eq_zero e)
            rw [List.length_drop] at this
            simp only [List.length_cons]; omega
        · rw [if_neg c3] at h ⊢
          by_cases c4 : hd l = 34
          · rw [if_pos c4] at h ⊢
            by_cases c5 : (rq (sk l)).2.2 = 0
            · rw [if_pos c5]
              have := rq_len (sk l) c5 (hd_ne (by omega))
              simp only [List.length_singleton]; omega
            · rw [if_neg c5] at h; exact absurd h c5
          · rw [if_neg c4] at h ⊢
            split at h
            · rename_i c6
              rw [if_pos c6]
              split at h
              · rename_i c7
                rw [if_pos c7]
                have := nums_pos _ c7
                have h9 := nums_le (sk l)
                simp only [List.length_drop, List.length_singleton]; omega
              · simp at h
            · rename_i c6
              rw [if_neg c6]
              have := wd_len (sk l) d key h
              omega
    · rw [pms] at h ⊢
      have h1 := tk1_len l (en ob)
      split at h
      · rename_i c
        rw [if_pos c]
        simp only [List.length_nil]; omega
      · rename_i c
        rw [if_neg c]
        have := il _ _ _ _ h
        omega
    · rw [pml] at h ⊢
      cases ob with
      | true =>
        rw [if_pos rfl] at h ⊢
        split at h
        · rename_i c
          rw [if_pos c]
          have h1 := pk_len l keys c
          have := pma_len _ _ true (pk l keys).2.1.length (iv _ _ _) (fun x _ => il x _ _ _) h
          omega
        · rename_i c; exact absurd h c
      | false =>
        rw [if_neg (by decide)] at h ⊢
        exact pma_len _ _ false l.length (iv _ _ _) (fun x _ => il x _ _ _) h
end Go.Proofs.YthhmmaihbjhhgaaDoor.Giv
namespace Go.Proofs.YthhmmaihbjhhgaaDoor.Giv
open Go.RowKit Go.Proofs.YthhmmaihbjhhgaaDoorW.PrintWords Go.Proofs.YthhmmaihbjhhgaaDoorW.PrintLast Go.Proofs.YthhmmaihbjhhgaaDoorW.PrintMore
open Go.Proofs.YthhmmaihbjhhgaaDoor.U1 Go.Proofs.YthhmmaihbjhhgaaDoor.Q1 Go.Proofs.YthhmmaihbjhhgaaDoor.J0 Go.Proofs.YthhmmaihbjhhgaaDoor.J1
/-- what is spoken of: a value at a depth, with a key; an open item's further members: their depth, has it keys, which were there, is none ahead -/
inductive Node | v (d : Nat) (key : ByteArray) | m (d : Nat) (ob : Bool) (keys : List ByteArray) (fst : Bool)
abbrev I64 (n : Int) : Prop := -9223372036854775808 ≤ n ∧ n ≤ 9223372036854775807
def sepa (fst : Bool) : B := if fst then [] else [44]
/-- rows, and their text -/
inductive JV : Node → List S59 → B → Prop
  | null (d key) : JV (.v d key) [row d 1 key e0 0] [110, 117, 108, 108]
  | fls (d key) : JV (.v d key) [row d 2 key e0 0] [102, 97, 108, 115, 101]
  | tru (d key) : JV (.v d key) [row d 3 key e0 0] [116, 114, 117, 101]
  | num (d key) (n : Int) (h : I64 n) : JV (.v d key) [row d 4 key e0 n] (Lib.itoa n)
  | str (d key) (t : ByteArray) (h : Lib.validD t.data.toList = true) : JV (.v d key) [row d 5 key t 0] (quoted t.data.toList)
  | arr (d key) (rows : List S59) (t : B) (h : d < 64) (hm : JV (.m (d + 1) false [] true) rows t) : JV (.v d key) (row d 6 key e0 0 :: rows) (91 :: (t ++ [93]))
  | obj (d key) (rows : List S59) (t : B) (h : d < 64) (hm : JV (.m (d + 1) true [] true) rows t) : JV (.v d key) (row d 7 key e0 0 :: rows) (123 :: (t ++ [125]))
  | none (d ob keys fst) : JV (.m d ob keys fst) [] []
  | elem (d keys fst) (rows : List S59) (t : B) (rows' : List S59) (t' : B) (hv : JV (.v d e0) rows t) (hm : JV (.m d false keys false) rows' t') : JV (.m d false keys fst) (rows ++ rows') (sepa fst ++ (t ++ t'))
  | memb (d keys fst) (key : ByteArray) (hk : Lib.validD key.data.toList = true) (hn : key ∉ keys) (rows : List S59) (t : B) (rows' : List S59) (t' : B) (hv : JV (.v d key) rows t) (hm : JV (.m d true (keys ++ [key]) false) rows' t') : JV (.m d true keys fst) (rows ++ rows') (sepa fst ++ (quoted key.data.toList ++ (58 :: (t ++ t'))))
def notblank (l : B) : Prop := blank (l.getD 0 0).toNat = false
theorem sk_id {l : B} (h : notblank l) : sk l = l := by
  unfold sk
  cases l with
  | nil => rfl
  | cons c l =>
    have h2 : blank c.toNat = false := h
    rw [skips, if_neg (by rw [h2]; decide)]; rfl
theorem hd_id {l : B} (h : notblank l) : hd l = (l.getD 0 0).toNat := by unfold hd; rw [sk_id h]
theorem tk1_yes (c : UInt8) (l : B) (h : blank c.toNat = false) : tk1 (c :: l) c.toNat = (true, l) := by
  have hn : notblank (c :: l) := h
  unfold tk1
  rw [hd_id hn, sk_id hn, if_pos ⟨rfl, List.cons_ne_nil _ _⟩]; rfl
theorem tk1_no (l : B) (c : Nat) (h : notblank l) (hc : (l.getD 0 0).toNat ≠ c) : tk1 l c = (false, l) := by
  unfold tk1
  rw [hd_id h, sk_id h, if_neg (fun x => hc x.1)]
/-- how a value's text begins -/
def starts (n : Nat) : Prop := n = 110 ∨ n = 102 ∨ n = 116 ∨ n = 45 ∨ (48 ≤ n ∧ n ≤ 57) ∨ n = 34 ∨ n = 91 ∨ n = 123
theorem starts_not {n : Nat} (h : starts n) : blank n = false ∧ n ≠ 93 ∧ n ≠ 125 ∧ n ≠ 44 := by
  unfold starts at h
  refine ⟨?_, by omega, by omega, by omega⟩
  unfold blank
  simp; omega
theorem itoa_first (n : Int) : ∃ c r, Lib.itoa n = c :: r ∧ starts c.toNat ∧ (c.toNat = 45 ∨ (48 ≤ c.toNat ∧ c.toNat ≤ 57)) := by
  unfold Lib.itoa
  split
  · exact ⟨45, _, rfl, by unfold starts; decide, Or.inl rfl⟩
  · cases h : Lib.decDigits n.toNat with
    | nil => exact absurd h (digits_ne _)
    | cons c r =>
      have := digits_all n.toNat c (by rw [h]; exact List.mem_cons_self)
      exact ⟨c, r, rfl, by unfold starts; omega, Or.inr this⟩
theorem itoa_numB (n : Int) : ∀ x ∈ Lib.itoa n, numB x.toNat = true := by
  intro x hx
  unfold Lib.itoa at hx
  have key : ∀ m : Nat, x ∈ Lib.decDigits m → numB x.toNat = true := by
    intro m hm
    have := digits_all m x hm
    unfold numB; simp; omega
  split at hx
  · rcases List.mem_cons.1 hx with rfl | hx
    · decide
    · exact key _ hx
  · exact key _ hx
theorem nums_all : ∀ (a : B) (x : B), (∀ y ∈ a, numB y.toNat = true) → numB (x.getD 0 0).toNat = false → numsL (a ++ x) = a.length
  | [], [], _, _ => rfl
  | [], c :: x, _, h => by
    have h2 : numB c.toNat = false := h
    rw [List.nil_append, numsL, if_neg (by rw [h2]; decide)]; rfl
  | c :: a, x, ha, h => by
    rw [List.cons_append, numsL, if_pos (ha c List.mem_cons_self), nums_all a x (fun y hy => ha y (List.mem_cons_of_mem _ hy)) h]; rfl
theorem rn_itoa (n : Int) (h : I64 n) : rn (Lib.itoa n) = (n, true) := readN_itoa n h
theorem JV.first {K : Node} {rows : List S59} {t : B} (h : JV K rows t) : match K with
    | .v _ _ => ∃ c r, t = c :: r ∧ starts c.toNat
    | .m _ _ _ fst => t = [] ∨ (fst = false ∧ ∃ r, t = 44 :: r) ∨ (fst = true ∧ ∃ c r, t = c :: r ∧ starts c.toNat) := by
  induction h with
  | null => exact ⟨_, _, rfl, by unfold starts; decide⟩
  | fls => exact ⟨_, _, rfl, by unfold starts; decide⟩
  | tru => exact ⟨_, _, rfl, by unfold starts; decide⟩
  | num d key n h => obtain ⟨c, r, h1, h2, _⟩ := itoa_first n; exact ⟨c, r, h1, h2⟩
  | str d key t h => exact ⟨34, _, rfl, by unfold starts; decide⟩
  | arr => exact ⟨_, _, rfl, by unfold starts; decide⟩
  | obj => exact ⟨_, _, rfl, by unfold starts; decide⟩
  | none => exact Or.inl rfl
  | elem d keys fst rows t rows' t' hv hm iv im =>
    obtain ⟨c, r, h1, h2⟩ := iv
    cases fst with
    | true => exact Or.inr (Or.inr ⟨rfl, c, r ++ t', by rw [h1]; rfl, h2⟩)
    | false => exact Or.inr (Or.inl ⟨rfl, _, rfl⟩)
  | memb d keys fst key hk hn rows t rows' t' hv hm iv im =>
    cases fst with
    | true => exact Or.inr (Or.inr ⟨rfl, 34, _, rfl, by unfold starts; decide⟩)
    | false => exact Or.inr (Or.inl ⟨rfl, _, rfl⟩)
theorem pieceN_pos (c : UInt8) : 1 ≤ (pieceN c.toNat).length := (pieceN_first c.toNat (UInt8.toNat_lt _)).2.2
theorem inner_ge : ∀ a : B, a.length ≤ (inner a).length
  | [] => Nat.le_refl _
  | c :: a => by
    have := inner_ge a
    have := pieceN_pos c
    rw [inner, List.length_append, List.length_cons]; omega
theorem rq_quoted (t : ByteArray) (h : Lib.validD t.data.toList = true) (x : B) : rq (quoted t.data.toList ++ x) = (t.data.toList, x, 0) := by
  obtain ⟨xs, h1, h2, h3⟩ := valid_xs t h
  have hl : (quoted t.data.toList ++ x).length = (inner t.data.toList).length + 2 + x.length := by rw [List.length_append, quoted_len]
  have h4 := encs_ge xs
  have h5 : t.data.toList.length ≤ (inner t.data.toList).length := inner_ge _
  unfold rq
  have hd2 : (quoted t.data.toList ++ x).drop 1 = inner (encs xs) ++ 34 :: x := by
    unfold quoted; rw [h2]; simp
  rw [hd2, readL_inner x xs _ h1 (by rw [hl, ← h2] at *; omega)]
  simp only [if_pos]
  refine Prod.ext h2 (Prod.ext ?_ rfl)
  simp only
  rw [show (((inner (encs xs)).length : Int) + 1).toNat + 1 = (quoted t.data.toList).length by rw [quoted_len, h2]; omega]
  rw [List.drop_append_of_le_length (Nat.le_refl _)]
  simp
/-- a text behind which a number has ended -/
def headok (l : B) : Prop := numB (l.getD 0 0).toNat = false
theorem wd_null (x : B) (d key) : wd ([110, 117, 108, 108] ++ x) d key = (0, x, [row d 1 key e0 0]) := by
  unfold wd
  rw [if_pos (List.prefix_append _ _)]; rfl
theorem wd_false (x : B) (d key) : wd ([102, 97, 108, 115, 101] ++ x) d key = (0, x, [row d 2 key e0 0]) := by
  unfold wd
  rw [if_neg (by rintro ⟨y, hy⟩; simp at hy), if_pos (List.prefix_append _ _)]; rfl
theorem wd_true (x : B) (d key) : wd ([116, 114, 117, 101] ++ x) d key = (0, x, [row d 3 key e0 0]) := by
  unfold wd
  rw [if_neg (by rintro ⟨y, hy⟩; simp at hy), if_neg (by rintro ⟨y, hy⟩; simp at hy), if_pos (List.prefix_append _ _)]; rfl
theorem starts_notblank {c : UInt8} {r : B} (h : starts c.toNat) : notblank (c :: r) := (starts_not h).1
theorem pv_word (n : Nat) (c : UInt8) (r : B) (d key) (h : starts c.toNat) (h1 : c.toNat = 110 ∨ c.toNat = 102 ∨ c.toNat = 116) : pv (n + 1) (c :: r) d key = wd (c :: r) d key := by
  have hn : notblank (c :: r) := starts_notblank h
  have hh : hd (c :: r) = c.toNat := hd_id hn
  rw [pv, hh, sk_id hn, if_neg (by omega), if_neg (by omega), if_neg (by omega), if_neg (by omega)]
theorem pv_num (n : Nat) (v : Int) (x : B) (d key) (h : I64 v) (hx : headok x) : pv (n + 1) (Lib.itoa v ++ x) d key = (0, x, [row d 4 key e0 v]) := by
  obtain ⟨c, r, h1, h2, h3⟩ := itoa_first v
  have hn : notblank (Lib.itoa v ++ x) := by rw [h1]; exact starts_notblank h2
  have hh : hd (Lib.itoa v ++ x) = c.toNat := by rw [hd_id hn, h1]; rfl
  have hl := nums_all (Lib.itoa v) x (itoa_numB v) hx
  rw [pv, hh, sk_id hn, if_neg (by omega), if_neg (by omega), if_neg (by omega), if_pos h3, hl, List.take_left, List.drop_left, rn_itoa v h, if_pos rfl]
theorem pv_str (n : Nat) (t : ByteArray) (x : B) (d key) (h : Lib.validD t.data.toList = true) : pv (n + 1) (quoted t.data.toList ++ x) d key = (0, x, [row d 5 key t 0]) := by
  have hn : notblank (quoted t.data.toList ++ x) := (rfl : blank 34 = false)
  have hh : hd (quoted t.data.toList ++ x) = 34 := by rw [hd_id hn]; rfl
  rw [pv, hh, sk_id hn, if_neg (by omega), if_neg (by omega), if_pos rfl, rq_quoted t h x, if_pos rfl]
theorem pk_quoted (key : ByteArray) (keys : List ByteArray) (x : B) (h : Lib.validD key.data.toList = true) (hn : key ∉ keys) : pk (quoted key.data.toList ++ (58 :: x)) keys = (key, x, 0) := by
  have hb : notblank (quoted key.data.toList ++ (58 :: x)) := (rfl : blank 34 = false)
  have hh : hd (quoted key.data.toList ++ (58 :: x)) = 34 := by rw [hd_id hb]; rfl
  have ht : tk1 (58 :: x) 58 = (true, x) := tk1_yes 58 x rfl
  have hk : ¬ hasB key keys = true := fun e => hn ((hasB_iff key keys).1 e)
  unfold pk
  rw [hh, if_pos rfl, sk_id hb, rq_quoted key h, if_pos rfl, if_neg hk, ht]; rfl
theorem pv_open (n : Nat) (x : B) (d : Nat) (key) (ob : Bool) (hd' : d < 64) (r : B) (rows : List S59) (h : pms n x d ob = (0, r, rows)) : pv (n + 1) ((if ob then 123 else 91) :: x) d key = (0, r, row d (kindOf ob) key e0 0 :: rows) := by
  cases ob with
  | true =>
    have hn : notblank (123 :: x) := (rfl : blank 123 = false)
    have hh : hd (123 :: x) = 123 := by rw [hd_id hn]; rfl
    rw [if_pos rfl, pv, hh, sk_id hn, if_neg (by omega), if_pos rfl, if_neg (by omega)]
    rw [show ((123 : UInt8) :: x).drop 1 = x from rfl, h]; rfl
  | false =>
    have hn : notblank (91 :: x) := (rfl : blank 91 = false)
    have hh : hd (91 :: x) = 91 := by rw [hd_id hn]; rfl
    rw [if_neg (by decide), pv, hh, sk_id hn, if_pos rfl, if_neg (by omega)]
    rw [show ((91 : UInt8) :: x).drop 1 = x from rfl, h]; rfl
def enB (ob : Bool) : UInt8 := if ob then 125 else 93
theorem enB_to (ob : Bool) : (enB ob).toNat = en ob := by cases ob <;> rfl
theorem enB_ok (ob : Bool) (x : B) : headok (enB ob :: x) := by cases ob <;> rfl
theorem tk1_end (ob : Bool) (x : B) : tk1 (enB ob :: x) (en ob) = (true, x) := by
  rw [← enB_to]
  exact tk1_yes _ _ (by cases ob <;> rfl)
/-- what the parser makes of a text that is a value's, or members' -/
def CP : Node → List S59 → B → Prop
  | .v d key, rows, t => d ≤ 64 → ∀ (rest : B) (n : Nat), headok rest → 3 * (t.length + rest.length) + 1 ≤ n → pv n (t ++ rest) d key = (0, rest, rows)
  | .m d ob keys fst, rows, t => d ≤ 64 → ∀ (rest : B) (n D : Nat), d = D + 1 →
    (fst = true → keys = [] → 3 * (t.length + rest.length) + 6 ≤ n → pms n (t ++ (enB ob :: rest)) D ob = (0, rest, rows)) ∧
    (fst = false → 3 * (t.length + rest.length) + 2 ≤ n → cont (fun x => pml n x D ob keys) (t ++ (enB ob :: rest)) ob = (0, rest, rows))
theorem cont_end (L : B → Int × B × List S59) (ob : Bool) (x : B) : cont L (enB ob :: x) ob = (0, x, []) := by
  unfold cont
  rw [tk1_end]; rfl
theorem cont_more (L : B → Int × B × List S59) (ob : Bool) (x : B) : cont L (44 :: x) ob = L x := by
  have h1 : tk1 (44 :: x) (en ob) = (false, 44 :: x) := tk1_no (44 :: x) (en ob) (rfl : blank 44 = false) (show (44 : Nat) ≠ en ob by cases ob <;> decide)
  have h2 : tk1 (44 :: x) 44 = (true, x) := tk1_yes 44 x rfl
  unfold cont
  rw [h1, if_neg Bool.false_ne_true]
  simp only
  rw [h2, if_pos rfl]
theorem pma_ok (L : B → Int × B × List S59) (ob : Bool) (x y : B) (rows rows' : List S59) (h : cont L x ob = (0, y, rows')) : pma L (0, x, rows) ob = (0, y, rows ++ rows') := by
  unfold pma
  rw [if_pos rfl]
  simp only
  rw [h]
theorem tail_ok {K : Node} {rows : List S59} {t : B} (h : JV K rows t) : match K with
    | .v _ _ => True
    | .m _ ob _ fst => fst = false → ∀ rest, headok (t ++ (enB ob :: rest)) := by
  have hf := h.first
  cases K with
  | v d key => trivial
  | m d ob keys fst =>
    rintro rfl rest
    rcases hf with rfl | ⟨_, r, rfl⟩ | ⟨e, _⟩
    · exact enB_ok ob rest
    · exact (rfl : numB 44 = false)
    · cases e
/-- one member and what is behind it, by the loop -/
theorem pml_elem (n D : Nat) (keys : List ByteArray) (t t' rest : B) (rows rows' : List S59) (hv : pv n (t ++ (t' ++ (93 :: rest))) (D + 1) e0 = (0, t' ++ (93 :: rest), rows)) (hm : cont (fun x => pml n x D false keys) (t' ++ (93 :: rest)) false = (0, rest, rows')) :
    pml (n + 1) (t ++ (t' ++ (93 :: rest))) D false keys = (0, rest, rows ++ rows') := by
  rw [pml, if_neg (by decide), hv]
  exact pma_ok _ _ _ _ _ _ hm
theorem pml_memb (n D : Nat) (keys : List ByteArray) (key : ByteArray) (hk : Lib.validD key.data.toList = true) (hn : key ∉ keys) (t t' rest : B) (rows rows' : List S59) (hv : pv n (t ++ (t' ++ (125 :: rest))) (D + 1) key = (0, t' ++ (125 :: rest), rows)) (hm : cont (fun x => pml n x D true (keys ++ [key])) (t' ++ (125 :: rest)) true = (0, rest, rows')) :
    pml (n + 1) (quoted key.data.toList ++ (58 :: (t ++ (t' ++ (125 :: rest))))) D true keys = (0, rest, rows ++ rows') := by
  rw [pml, if_pos rfl, pk_quoted key keys _ hk hn, if_pos rfl]
  simp only
  rw [hv]
  exact pma_ok _ _ _ _ _ _ hm
theorem sep_true (x : B) : sepa true ++ x = x := rfl
theorem sep_false (x : B) : sepa false ++ x = 44 :: x := rfl
theorem JV.parse {K : Node} {rows : List S59} {t : B} (h : JV K rows t) : CP K rows t := by
  induction h with
  | null d key =>
    intro _ rest n _ hn
    obtain ⟨n, rfl⟩ : ∃ m, n = m + 1 := ⟨n - 1, by omega⟩
    exact (pv_word n 110 _ d key (by unfold starts; decide) (by decide)).trans (wd_null rest d key)
  | fls d key =>
    intro _ rest n _ hn
    obtain ⟨n, rfl⟩ : ∃ m, n = m + 1 := ⟨n - 1, by omega⟩
    exact (pv_word n 102 _ d key (by unfold starts; decide) (by decide)).trans (wd_false rest d key)
  | tru d key =>
    intro _ rest n _ hn
    obtain ⟨n, rfl⟩ : ∃ m, n = m + 1 := ⟨n - 1, by omega⟩
    exact (pv_word n 116 _ d key (by unfold starts; decide) (by decide)).trans (wd_true rest d key)
  | num d key v h =>
    intro _ rest n hr hn
    obtain ⟨n, rfl⟩ : ∃ m, n = m + 1 := ⟨n - 1, by omega⟩
    exact pv_num n v rest d key h hr
  | str d key t h =>
    intro _ rest n hr hn
    obtain ⟨n, rfl⟩ : ∃ m, n = m + 1 := ⟨n - 1, by omega⟩
    exact pv_str n t rest d key h
  | arr d key rows t h hm im =>
    intro _ rest n hr hn
    simp only [List.length_cons, List.length_append, List.length_nil] at hn
    obtain ⟨n, rfl⟩ : ∃ m, n = m + 1 := ⟨n - 1, by omega⟩
    have h1 := (im (by omega) rest n d rfl).1 rfl rfl (by omega)
    have h2 := pv_open n (t ++ (93 :: rest)) d key false h rest rows h1
    rw [List.cons_append, List.append_assoc]
    exact h2
  | obj d key rows t h hm im =>
    intro _ rest n hr hn
    simp only [List.length_cons, List.length_append, List.length_nil] at hn
    obtain ⟨n, rfl⟩ : ∃ m, n = m + 1 := ⟨n - 1, by omega⟩
    have h1 := (im (by omega) rest n d rfl).1 rfl rfl (by omega)
    have h2 := pv_open n (t ++ (125 :: rest)) d key true h rest rows h1
    rw [List.cons_append, List.append_assoc]
    exact h2
  | none d ob keys fst =>
    intro _ rest n D hD
    refine ⟨fun _ _ hn => ?_, fun _ _ => cont_end _ ob rest⟩
    obtain ⟨n, rfl⟩ : ∃ m, n = m + 1 := ⟨n - 1, by omega⟩
    rw [List.nil_append, pms, tk1_end]; rfl
  | elem d keys fst rows t rows' t' hv hm iv im =>
    intro hd' rest n D hD
    subst hD
    have hf := hv.first
    obtain ⟨c, r, rfl, hc⟩ := hf
    have hc2 := starts_not hc
    refine ⟨fun hf hk hn => ?_, fun hf hn => ?_⟩
    · subst hf; subst hk
      rw [sep_true] at hn ⊢
      simp only [List.length_append] at hn
      obtain ⟨n, rfl⟩ : ∃ m, n = m + 1 + 1 := ⟨n - 2, by omega⟩
      rw [pms, List.append_assoc, tk1_no ((c :: r) ++ (t' ++ (enB false :: rest))) (en false) hc2.1 (show c.toNat ≠ en false from hc2.2.1), if_neg Bool.false_ne_true]
      have h1 := (im hd' rest n D rfl).2 rfl (by omega)
      have h2 := iv hd' (t' ++ (93 :: rest)) n (tail_ok hm rfl rest) (by simp only [List.length_append, List.length_cons] at *; omega)
      exact pml_elem n D [] (c :: r) t' rest rows rows' h2 h1
    · subst hf
      rw [sep_false] at hn ⊢
      simp only [List.length_append, List.length_cons] at hn
      obtain ⟨n, rfl⟩ : ∃ m, n = m + 1 := ⟨n - 1, by omega⟩
      rw [List.cons_append, cont_more]
      have h1 := (im hd' rest n D rfl).2 rfl (by omega)
      have h2 := iv hd' (t' ++ (93 :: rest)) n (tail_ok hm rfl rest) (by simp only [List.length_append, List.length_cons] at *; omega)
      rw [List.append_assoc]
      exact pml_elem n D keys (c :: r) t' rest rows rows' h2 h1
  | memb d keys fst key hk hn rows t rows' t' hv hm iv im =>
    intro hd' rest n D hD
    subst hD
    have e : (quoted key.data.toList ++ (58 :: (t ++ t'))) ++ (enB true :: rest) = quoted key.data.toList ++ (58 :: (t ++ (t' ++ (125 :: rest)))) := by
      show _ ++ (125 :: rest) = _
      simp
    have hq := quoted_len key.data.toList
    refine ⟨fun hf hk0 hn0 => ?_, fun hf hn0 => ?_⟩
    · subst hf; subst hk0
      rw [sep_true] at hn0 ⊢
      simp only [List.length_append, List.length_cons] at hn0
      obtain ⟨n, rfl⟩ : ∃ m, n = m + 1 + 1 := ⟨n - 2, by omega⟩
      rw [e, pms, tk1_no (quoted key.data.toList ++ (58 :: (t ++ (t' ++ (125 :: rest))))) (en true) (rfl : blank 34 = false) (show (34 : Nat) ≠ en true by decide), if_neg Bool.false_ne_true]
      have h1 := (im hd' rest n D rfl).2 rfl (by omega)
      have h2 := iv hd' (t' ++ (125 :: rest)) n (tail_ok hm rfl rest) (by simp only [List.length_append, List.length_cons]; omega)
      exact pml_memb n D [] key hk hn t t' rest rows rows' h2 h1
    · subst hf
      rw [sep_false] at hn0 ⊢
      simp only [List.length_append, List.length_cons] at hn0
      obtain ⟨n, rfl⟩ : ∃ m, n = m + 1 := ⟨n - 1, by omega⟩
      rw [List.cons_append, cont_more, e]
      have h1 := (im hd' rest n D rfl).2 rfl (by omega)
      have h2 := iv hd' (t' ++ (125 :: rest)) n (tail_ok hm rfl rest) (by simp only [List.length_append, List.length_cons]; omega)
      exact pml_memb n D keys key hk hn t t' rest rows rows' h2 h1
end Go.Proofs.YthhmmaihbjhhgaaDoor.Giv
namespace Go.Proofs.YthhmmaihbjhhgaaDoor.Giv
open Go.RowKit Go.Proofs.YthhmmaihbjhhgaaDoorW.PrintWords Go.Proofs.YthhmmaihbjhhgaaDoorW.PrintLast Go.Proofs.YthhmmaihbjhhgaaDoorW.PrintMore
open Go.Proofs.YthhmmaihbjhhgaaDoor.U1 Go.Proofs.YthhmmaihbjhhgaaDoor.Q1 Go.Proofs.YthhmmaihbjhhgaaDoor.J0 Go.Proofs.YthhmmaihbjhhgaaDoor.J1
theorem escL_err (l : B) : (escL l).2.2 = 0 ∨ (escL l).2.2 = 73 := by
  unfold escL
  repeat' split
  all_goals simp
theorem plainL_err (l : B) : (plainL l).2.2 = 0 ∨ (plainL l).2.2 = 74 := by
  unfold plainL
  split <;> simp
theorem oneL_err (l : B) : (oneL l).2.2 = 0 ∨ (oneL l).2.2 = 73 ∨ (oneL l).2.2 = 74 := by
  unfold oneL
  split
  · rcases escL_err l with h | h <;> simp [h]
  · rcases plainL_err l with h | h <;> simp [h]
def errs (e : Int) : Prop := e = 0 ∨ e = 71 ∨ e = 72 ∨ e = 73 ∨ e = 74
theorem readL_err : ∀ (n : Nat) (l : B) (r : B × Int × Int), readL n l = some r → errs r.2.2
  | 0, l, r, h => by simp [readL] at h
  | n + 1, l, r, h => by
    rw [readL] at h
    split at h
    · cases h; exact Or.inr (Or.inl rfl)
    · split at h
      · cases h; exact Or.inl rfl
      · split at h
        · cases h; exact Or.inr (Or.inr (Or.inl rfl))
        · split at h
          · obtain ⟨q, hq, h⟩ := Option.map_eq_some_iff.1 h
            have := readL_err n _ q hq
            split at h
            · cases h; exact Or.inl rfl
            · cases h; exact this
          · cases h
            rcases oneL_err l with e | e | e
            · exact Or.inl e
            · exact Or.inr (Or.inr (Or.inr (Or.inl e)))
            · exact Or.inr (Or.inr (Or.inr (Or.inr e)))
theorem rq_err (l : B) : errs (rq l).2.2 := by
  unfold rq
  split
  · rename_i q hq
    have := readL_err _ _ _ hq
    split
    · exact Or.inl rfl
    · exact this
  · exact Or.inr (Or.inl rfl)
theorem pk_err (l : B) (keys : List ByteArray) : errs (pk l keys).2.2 ∨ (pk l keys).2.2 = 80 ∨ (pk l keys).2.2 = 82 := by
  unfold pk
  split
  · split
    · split
      · exact Or.inr (Or.inr rfl)
      · split
        · exact Or.inl (Or.inl rfl)
        · exact Or.inr (Or.inl rfl)
    · exact Or.inl (rq_err _)
  · exact Or.inr (Or.inl rfl)
theorem wd_err (l : B) (d : Nat) (key : ByteArray) : (wd l d key).1 = 0 ∨ (wd l d key).1 = 80 := by
  unfold wd
  repeat' split
  all_goals simp
theorem errs_ne {e : Int} (h : errs e) : e ≠ -1 := by unfold errs at h; omega
theorem cont_total (L : B → Int × B × List S59) (l : B) (ob : Bool) (hL : ∀ x, x.length < l.length → (L x).1 ≠ -1) : (cont L l ob).1 ≠ -1 := by
  unfold cont
  have h1 := tk1_len l (en ob)
  have h2 := tk1_len (tk1 l (en ob)).2 44
  split
  · simp
  · split
    · rename_i c; have := h2.2 c; exact hL _ (by omega)
    · simp
theorem pma_total (L : B → Int × B × List S59) (V : Int × B × List S59) (ob : Bool) (m : Nat) (hV : V.1 ≠ -1) (hm : V.1 = 0 → V.2.1.length ≤ m) (hL : ∀ x, x.length < m → (L x).1 ≠ -1) : (pma L V ob).1 ≠ -1 := by
  unfold pma
  split
  · rename_i c
    exact cont_total L V.2.1 ob (fun x hx => hL x (by have := hm c; omega))
  · exact hV
/-- with fuel enough the parser ends -/
theorem p_total : ∀ n : Nat, (∀ l d key, 3 * l.length + 1 ≤ n → (pv n l d key).1 ≠ -1) ∧ (∀ l d ob, 3 * l.length + 3 ≤ n → (pms n l d ob).1 ≠ -1) ∧ (∀ l d ob keys, 3 * l.length + 2 ≤ n → (pml n l d ob keys).1 ≠ -1)
  | 0 => ⟨fun l d key h => by omega, fun l d ob h => by omega, fun l d ob keys h => by omega⟩
  | n + 1 => by
    obtain ⟨iv, im, il⟩ := p_total n
    refine ⟨fun l d key h => ?_, fun l d ob h => ?_, fun l d ob keys h => ?_⟩
    · have h0 := sk_len l
      rw [pv]
      by_cases c1 : hd l = 91
      · rw [if_pos c1]
        split
        · simp
        · have hne : (sk l).length ≠ 0 := fun e => hd_ne (l := l) (by omega) (List.eq_nil_of_length_eq_zero e)
          exact im _ _ _ (by rw [List.length_drop]; omega)
      · rw [if_neg c1]
        by_cases c2 : hd l = 123
        · rw [if_pos c2]
          split
          · simp
          · have hne : (sk l).length ≠ 0 := fun e => hd_ne (l := l) (by omega) (List.eq_nil_of_length_eq_zero e)
            exact im _ _ _ (by rw [List.length_drop]; omega)
        · rw [if_neg c2]
          split
          · split
            · simp
            · exact errs_ne (rq_err _)
          · split
            · split <;> simp
            · rcases wd_err (sk l) d key with e | e <;> rw [e] <;> decide
    · rw [pms]
      have h1 := tk1_len l (en ob)
      split
      · simp
      · exact il _ _ _ _ (by omega)
    · rw [pml]
      split
      · split
        · rename_i c
          have h1 := pk_len l keys c
          exact pma_total _ _ _ (pk l keys).2.1.length (iv _ _ _ (by omega)) (fun e => by have := (p_len n).1 _ _ _ e; omega) (fun x hx => il _ _ _ _ (by omega))
        · rename_i c
          rcases pk_err l keys with e | e | e
          · exact errs_ne e
          · rw [e]; decide
          · rw [e]; decide
      · refine pma_total _ _ _ l.length (iv _ _ _ (by omega)) (fun e => by have := (p_len n).1 _ _ _ e; omega) (fun x hx => il _ _ _ _ (by omega))
theorem rq_valid (l : B) (h : (rq l).2.2 = 0) : Lib.validD (rq l).1 = true := by
  unfold rq at h ⊢
  cases hq : readL (l.length + 1) (l.drop 1) with
  | none => rw [hq] at h; simp at h
  | some q =>
    rw [hq] at h
    simp only at h ⊢
    by_cases c : q.2.2 = 0
    · rw [if_pos c]
      obtain ⟨_, _, xs, h1, h2⟩ := readL_good _ _ _ hq c
      simp only
      rw [h2, valid_lets _ _ (Nat.le_refl _)]
      have := lets_encs [] xs h1
      rw [List.append_nil] at this
      rw [this, lets_nil]; rfl
    · rw [if_neg c] at h; exact absurd h c
theorem pk_valid (l : B) (keys : List ByteArray) (h : (pk l keys).2.2 = 0) : Lib.validD (pk l keys).1.data.toList = true ∧ (pk l keys).1 ∉ keys := by
  unfold pk at h ⊢
  split at h
  · rename_i c1
    rw [if_pos c1]
    split at h
    · rename_i c2
      rw [if_pos c2]
      split at h
      · simp at h
      · rename_i c3
        rw [if_neg c3]
        split at h
        · rename_i c4
          rw [if_pos c4]
          exact ⟨rq_valid _ c2, fun e => c3 ((hasB_iff _ _).2 e)⟩
        · simp at h
    · rename_i c2
      simp only at h; exact absurd h c2
  · simp at h
/-- what the parser reads is a value -/
theorem p_sound : ∀ n : Nat, (∀ l d key, d ≤ 64 → (pv n l d key).1 = 0 → ∃ t, JV (.v d key) (pv n l d key).2.2 t) ∧ (∀ l d ob, d < 64 → (pms n l d ob).1 = 0 → ∃ t, JV (.m (d + 1) ob [] true) (pms n l d ob).2.2 t) ∧ (∀ l d ob keys fst, d < 64 → (pml n l d ob keys).1 = 0 → ∃ t, JV (.m (d + 1) ob keys fst) (pml n l d ob keys).2.2 t)
  | 0 => ⟨fun l d key _ h => by simp [pv] at h, fun l d ob _ h => by simp [pms] at h, fun l d ob keys fst _ h => by simp [pml] at h⟩
  | n + 1 => by
    obtain ⟨iv, im, il⟩ := p_sound n
    have ic : ∀ l d ob keys, d < 64 → (cont (fun x => pml n x d ob keys) l ob).1 = 0 → ∃ t, JV (.m (d + 1) ob keys false) (cont (fun x => pml n x d ob keys) l ob).2.2 t := by
      intro l d ob keys hd' h
      unfold cont at h ⊢
      split at h
      · rename_i c
        rw [if_pos c]
        exact ⟨_, JV.none _ _ _ _⟩
      · rename_i c
        rw [if_neg c]
        split at h
        · rename_i c2
          rw [if_pos c2]
          exact il _ _ _ _ _ hd' h
        · simp at h
    refine ⟨fun l d key hd' h => ?_, fun l d ob hd' h => ?_, fun l d ob keys fst hd' h => ?_⟩
    · rw [pv] at h ⊢
      by_cases c1 : hd l = 91
      · rw [if_pos c1] at h ⊢
        by_cases c2 : 64 ≤ d
        · rw [if_pos c2] at h; simp at h
        · rw [if_neg c2] at h ⊢
          obtain ⟨t, ht⟩ := im _ _ _ (by omega) h
          exact ⟨_, JV.arr d key _ t (by omega) ht⟩
      · rw [if_neg c1] at h ⊢
        by_cases c3 : hd l = 123
        · rw [if_pos c3] at h ⊢
          by_cases c2 : 64 ≤ d
          · rw [if_pos c2] at h; simp at h
          · rw [if_neg c2] at h ⊢
            obtain ⟨t, ht⟩ := im _ _ _ (by omega) h
            exact ⟨_, JV.obj d key _ t (by omega) ht⟩
        · rw [if_neg c3] at h ⊢
          by_cases c4 : hd l = 34
          · rw [if_pos c4] at h ⊢
            by_cases c5 : (rq (sk l)).2.2 = 0
            · rw [if_pos c5]
              exact ⟨_, JV.str d key _ (rq_valid _ c5)⟩
            · rw [if_neg c5] at h; exact absurd h c5
          · rw [if_neg c4] at h ⊢
            split at h
            · rename_i c6
              rw [if_pos c6]
              split at h
              · rename_i c7
                rw [if_pos c7]
                exact ⟨_, JV.num d key _ (readN_yes _ c7).2⟩
              · simp at h
            · rename_i c6
              rw [if_neg c6]
              unfold wd at h ⊢
              split at h
              · rename_i c; rw [if_pos c]; exact ⟨_, JV.null _ _⟩
              · rename_i c; rw [if_neg c]
                split at h
                · rename_i c; rw [if_pos c]; exact ⟨_, JV.fls _ _⟩
                · rename_i c; rw [if_neg c]
                  split at h
                  · rename_i c; rw [if_pos c]; exact ⟨_, JV.tru _ _⟩
                  · simp at h
    · rw [pms] at h ⊢
      split at h
      · rename_i c
        rw [if_pos c]
        exact ⟨_, JV.none _ _ _ _⟩
      · rename_i c
        rw [if_neg c]
        exact il _ _ _ _ _ hd' h
    · rw [pml] at h ⊢
      cases ob with
      | true =>
        rw [if_pos rfl] at h ⊢
        split at h
        · rename_i c
          rw [if_pos c]
          unfold pma at h ⊢
          split at h
          · rename_i c2
            rw [if_pos c2]
            obtain ⟨t, ht⟩ := iv _ _ _ (by omega) c2
            obtain ⟨t', ht'⟩ := ic _ _ _ _ hd' h
            obtain ⟨k1, k2⟩ := pk_valid l keys c
            exact ⟨_, JV.memb (d + 1) keys fst _ k1 k2 _ t _ t' ht ht'⟩
          · rename_i c2; exact absurd h c2
        · rename_i c; exact absurd h c
      | false =>
        rw [if_neg (by decide)] at h ⊢
        unfold pma at h ⊢
        split at h
        · rename_i c2
          rw [if_pos c2]
          obtain ⟨t, ht⟩ := iv _ _ _ (by omega) c2
          obtain ⟨t', ht'⟩ := ic _ _ _ _ hd' h
          exact ⟨_, JV.elem (d + 1) keys fst _ t _ t' ht ht'⟩
        · rename_i c2; exact absurd h c2
end Go.Proofs.YthhmmaihbjhhgaaDoor.Giv
namespace Go.Proofs.YthhmmaihbjhhgaaDoor.Giv
open Go.RowKit Go.Proofs.YthhmmaihbjhhgaaDoorW.PrintWords Go.Proofs.YthhmmaihbjhhgaaDoorW.PrintLast Go.Proofs.YthhmmaihbjhhgaaDoorW.PrintMore
open Go.Proofs.YthhmmaihbjhhgaaDoor.U1 Go.Proofs.YthhmmaihbjhhgaaDoor.Q1 Go.Proofs.YthhmmaihbjhhgaaDoor.J0 Go.Proofs.YthhmmaihbjhhgaaDoor.J1
set_option linter.unusedSimpArgs false
set_option linter.unusedVariables false
theorem valid_fs (s : ByteArray) (h : s.size ≤ 9223372036854775807) : utf_Valid.f s = some (Lib.validD s.data.toList) := by
  unfold utf_Valid.f utf8_ValidString.f
  rw [if_pos h]; rfl
theorem valid_e0 : Lib.validD e0.data.toList = true := by decide +kernel
/-- what is behind begins no deeper than that -/
def shallow (l : List S59) (d : Nat) : Prop := ∀ x, l.head? = some x → x.f0 ≤ (d : Int)
theorem right_take (b : Bool) (st : List LvS) (l : List S59) (d : Nat) (h : shallow l d) (hd : d + 1 ≤ st.length) : rightF b st l = rightF b (st.take (d + 1)) l := by
  cases l with
  | nil => rw [rightF, rightF]
  | cons x l =>
    have hx : x.f0 ≤ (d : Int) := h x rfl
    have hlt : (st.take (d + 1)).length = d + 1 := by rw [List.length_take]; omega
    rw [rightF, rightF, hlt]
    by_cases c : x.f0 < 0
    · rw [if_pos (.inl c), if_pos (.inl c)]
    · obtain ⟨n, hn⟩ : ∃ n : Nat, x.f0 = n := ⟨x.f0.toNat, by omega⟩
      have hnd : n ≤ d := by omega
      have e1 : ¬ (st.length : Int) ≤ x.f0 := by omega
      have e2 : ¬ ((d + 1 : Nat) : Int) ≤ x.f0 := by omega
      have e3 : (st.take (d + 1)).getD x.f0.toNat (0, []) = st.getD x.f0.toNat (0, []) := by
        rw [hn, Int.toNat_natCast, List.getD_eq_getElem?_getD, List.getD_eq_getElem?_getD, List.getElem?_take, if_pos (by omega)]
      have e4 : (st.take (d + 1)).take x.f0.toNat = st.take x.f0.toNat := by
        rw [List.take_take, hn, Int.toNat_natCast, Nat.min_eq_left (by omega)]
      rw [e3, e4]
      simp only [c, e1, e2, false_or]
theorem same_refl (x : S59) : sameI x x = true := by
  unfold sameI
  simp
def memOK (k : Int) (keys : List ByteArray) (key : ByteArray) (keys2 : List ByteArray) : Prop := ∀ x : S59, x.f2 = key → memberF k keys x = some (true, keys2)
theorem mem_arr (keys : List ByteArray) : memOK 6 keys e0 keys := by
  intro x hx
  unfold memberF
  rw [if_neg (by decide), hx, Lib.toList_data]; rfl
theorem mem_obj (keys : List ByteArray) (key : ByteArray) (hk : Lib.validD key.data.toList = true) (hn : key ∉ keys) (hs : key.size ≤ 9223372036854775807) (hl : keys.length ≤ 1099511627776) : memOK 7 keys key (keys ++ [key]) := by
  intro x hx
  unfold memberF
  rw [if_pos rfl, hx, valid_fs key hs, hk, Option.bind_some, if_pos rfl, if_neg (fun e => hn ((hasB_iff key keys).1 e)), if_pos (by omega)]
/-- one item: not an opening one -/
theorem right_leaf (st : List LvS) (k : Int) (keys keys2 : List ByteArray) (x : S59) (d : Nat) (l : List S59) (hx0 : x.f0 = d) (hst : st.length = d) (hk1 : 1 ≤ x.f1) (hk5 : x.f1 ≤ 5) (hb : sameI x (bareI x) = true) (hv : utf_Valid.f x.f3 = some true) (hm : memberF k keys x = some (true, keys2)) :
    rightF (d == 0) (st ++ [(k, keys)]) (x :: l) = rightF false (st ++ [(k, keys2)]) l := by
  have hg : (st ++ [(k, keys)]).getD x.f0.toNat (0, []) = (k, keys) := by
    rw [hx0, Int.toNat_natCast, ← hst, List.getD_eq_getElem?_getD, List.getElem?_append_right (Nat.le_refl _), Nat.sub_self]; rfl
  have ht : (st ++ [(k, keys)]).take x.f0.toNat = st := by rw [hx0, Int.toNat_natCast, ← hst, List.take_left]
  have h0 : ((x.f0 == 0) != (d == 0)) = false := by rw [hx0]; cases d with
    | zero => rfl
    | succ d => rfl
  rw [rightF, hg, ht, if_neg (by rw [h0, List.length_append, hst, List.length_singleton]; rintro (a | a | a) <;> first | omega | cases a), if_neg (by rw [hb]; rintro (a | a | a) <;> first | omega | cases a), hv, Option.bind_some, if_neg (by decide), hm, Option.bind_some, if_neg (show ¬ true = false from Bool.noConfusion), if_neg (by unfold holdsI; simp; omega)]
/-- one item that opens -/
theorem right_open (st : List LvS) (k : Int) (keys keys2 : List ByteArray) (ob : Bool) (key : ByteArray) (d : Nat) (l : List S59) (hst : st.length = d) (hd : d < 64) (hm : memOK k keys key keys2) :
    rightF (d == 0) (st ++ [(k, keys)]) (row d (kindOf ob) key e0 0 :: l) = rightF false (st ++ [(k, keys2)] ++ [(kindOf ob, [])]) l := by
  have hg : (st ++ [(k, keys)]).getD ((d : Int)).toNat (0, []) = (k, keys) := by
    rw [Int.toNat_natCast, ← hst, List.getD_eq_getElem?_getD, List.getElem?_append_right (Nat.le_refl _), Nat.sub_self]; rfl
  have ht : (st ++ [(k, keys)]).take ((d : Int)).toNat = st := by rw [Int.toNat_natCast, ← hst, List.take_left]
  have h0 : (((d : Int) == 0) != (d == 0)) = false := by cases d with
    | zero => rfl
    | succ d => rfl
  have hm2 := hm (row d (kindOf ob) key e0 0) rfl
  unfold row at hm2 ⊢
  have hv : utf_Valid.f e0 = some true := by rw [valid_fs e0 (by decide), valid_e0]
  have hbare : sameI ⟨(d : Int), kindOf ob, key, e0, 0⟩ (bareI ⟨(d : Int), kindOf ob, key, e0, 0⟩) = true := by cases ob <;> exact same_refl _
  have hho : holdsI ⟨(d : Int), kindOf ob, key, e0, 0⟩ = true := by cases ob <;> rfl
  have hk : ¬ (kindOf ob < 1) ∧ ¬ (7 < kindOf ob) := by cases ob <;> decide
  rw [rightF]
  simp only
  rw [hg, ht, if_neg (by rw [h0, List.length_append, hst, List.length_singleton]; rintro (a | a | a) <;> first | omega | cases a), if_neg (by rw [hbare]; rintro (a | a | a) <;> first | exact hk.1 a | exact hk.2 a | cases a), hv, Option.bind_some, if_neg (by decide), hm2, Option.bind_some, if_neg (show ¬ true = false from Bool.noConfusion), if_pos hho, if_neg (by omega), List.append_assoc]
  rfl
/-- what Right makes of rows that are a value's, or members' -/
def RP : Node → List S59 → B → Prop
  | .v d key, rows, t => d ≤ 64 → ∀ (st : List LvS) (k : Int) (keys keys2 : List ByteArray) (l : List S59), st.length = d → memOK k keys key keys2 → shallow l d → rightF (d == 0) (st ++ [(k, keys)]) (rows ++ l) = rightF false (st ++ [(k, keys2)]) l
  | .m d ob keys _, rows, t => d ≤ 64 → 1 ≤ d → ∀ (st : List LvS) (l : List S59), st.length = d → keys.length + rows.length ≤ 1099511627776 → shallow l d → ∃ keys', rightF false (st ++ [(kindOf ob, keys)]) (rows ++ l) = rightF false (st ++ [(kindOf ob, keys')]) l
theorem JV.deep {K : Node} {rows : List S59} {t : B} (h : JV K rows t) : match K with
    | .v d _ => ∃ x l, rows = x :: l ∧ x.f0 = d
    | .m d _ _ _ => shallow rows d := by
  induction h with
  | null => exact ⟨_, _, rfl, rfl⟩
  | fls => exact ⟨_, _, rfl, rfl⟩
  | tru => exact ⟨_, _, rfl, rfl⟩
  | num => exact ⟨_, _, rfl, rfl⟩
  | str => exact ⟨_, _, rfl, rfl⟩
  | arr => exact ⟨_, _, rfl, rfl⟩
  | obj => exact ⟨_, _, rfl, rfl⟩
  | none => intro x hx; cases hx
  | elem d keys fst rows t rows' t' hv hm iv im =>
    obtain ⟨x, l, rfl, hx⟩ := iv
    intro y hy
    cases hy
    omega
  | memb d keys fst key hk hn rows t rows' t' hv hm iv im =>
    obtain ⟨x, l, rfl, hx⟩ := iv
    intro y hy
    cases hy
    omega
theorem shallow_app {a l : List S59} {d : Nat} (ha : shallow a d) (hl : shallow l d) : shallow (a ++ l) d := by
  cases a with
  | nil => exact hl
  | cons x a => exact fun y hy => ha y hy
theorem shallow_up {l : List S59} {d : Nat} (h : shallow l d) : shallow l (d + 1) := fun x hx => by have := h x hx; omega
theorem keyOf {d : Nat} {key : ByteArray} {rows : List S59} {t : B} (h : JV (.v d key) rows t) : ∃ x l, rows = x :: l ∧ x.f2 = key := by
  cases h with
  | null => exact ⟨_, _, rfl, rfl⟩
  | fls => exact ⟨_, _, rfl, rfl⟩
  | tru => exact ⟨_, _, rfl, rfl⟩
  | num => exact ⟨_, _, rfl, rfl⟩
  | str => exact ⟨_, _, rfl, rfl⟩
  | arr => exact ⟨_, _, rfl, rfl⟩
  | obj => exact ⟨_, _, rfl, rfl⟩
theorem JV.right {K : Node} {rows : List S59} {t : B} (h : JV K rows t) (hz : ∀ x ∈ rows, x.f2.size ≤ 1099511627776 ∧ x.f3.size ≤ 1099511627776) (hl : rows.length ≤ 1099511627776) : RP K rows t := by
  induction h with
  | null d key =>
    intro _ st k keys keys2 l hst hm _
    exact right_leaf st k keys keys2 _ d l rfl hst (show (1 : Int) ≤ 1 by decide) (show (1 : Int) ≤ 5 by decide) (same_refl _) (by rw [show (row d 1 key e0 0).f3 = e0 from rfl, valid_fs e0 (by decide), valid_e0]) (hm _ rfl)
  | fls d key =>
    intro _ st k keys keys2 l hst hm _
    exact right_leaf st k keys keys2 _ d l rfl hst (show (1 : Int) ≤ 2 by decide) (show (2 : Int) ≤ 5 by decide) (same_refl _) (by rw [show (row d 2 key e0 0).f3 = e0 from rfl, valid_fs e0 (by decide), valid_e0]) (hm _ rfl)
  | tru d key =>
    intro _ st k keys keys2 l hst hm _
    exact right_leaf st k keys keys2 _ d l rfl hst (show (1 : Int) ≤ 3 by decide) (show (3 : Int) ≤ 5 by decide) (same_refl _) (by rw [show (row d 3 key e0 0).f3 = e0 from rfl, valid_fs e0 (by decide), valid_e0]) (hm _ rfl)
  | num d key v hv =>
    intro _ st k keys keys2 l hst hm _
    exact right_leaf st k keys keys2 _ d l rfl hst (show (1 : Int) ≤ 4 by decide) (show (4 : Int) ≤ 5 by decide) (same_refl _) (by rw [show (row d 4 key e0 v).f3 = e0 from rfl, valid_fs e0 (by decide), valid_e0]) (hm _ rfl)
  | str d key s hs =>
    intro _ st k keys keys2 l hst hm _
    have := (hz _ List.mem_cons_self).2
    exact right_leaf st k keys keys2 _ d l rfl hst (show (1 : Int) ≤ 5 by decide) (show (5 : Int) ≤ 5 by decide) (same_refl _) (by rw [show (row d 5 key s 0).f3 = s from rfl, valid_fs s (by have h2 : s.size ≤ 1099511627776 := this; omega), hs]) (hm _ rfl)
  | arr d key rows t h hm im =>
    intro hd st k keys keys2 l hst hmk hsh
    have ihm := im (fun x hx => hz x (List.mem_cons_of_mem _ hx)) (by rw [List.length_cons] at hl; omega)
    rw [List.cons_append]
    refine (right_open st k keys keys2 false key d (rows ++ l) hst h hmk).trans ?_
    obtain ⟨keys', he⟩ := ihm (by omega) (by omega) (st ++ [(k, keys2)]) l (by rw [List.length_append, hst]; rfl) (by rw [List.length_cons] at hl; simp only [List.length_nil]; omega) (shallow_up hsh)
    refine he.trans ?_
    rw [right_take false _ l d hsh (by simp only [List.length_append, hst, List.length_singleton]; omega)]
    congr 1
    rw [List.take_append_of_le_length (by rw [List.length_append, hst, List.length_singleton]; omega), List.take_of_length_le (by rw [List.length_append, hst, List.length_singleton]; omega)]
  | obj d key rows t h hm im =>
    intro hd st k keys keys2 l hst hmk hsh
    have ihm := im (fun x hx => hz x (List.mem_cons_of_mem _ hx)) (by rw [List.length_cons] at hl; omega)
    rw [List.cons_append]
    refine (right_open st k keys keys2 true key d (rows ++ l) hst h hmk).trans ?_
    obtain ⟨keys', he⟩ := ihm (by omega) (by omega) (st ++ [(k, keys2)]) l (by rw [List.length_append, hst]; rfl) (by rw [List.length_cons] at hl; simp only [List.length_nil]; omega) (shallow_up hsh)
    refine he.trans ?_
    rw [right_take false _ l d hsh (by simp only [List.length_append, hst, List.length_singleton]; omega)]
    congr 1
    rw [List.take_append_of_le_length (by rw [List.length_append, hst, List.length_singleton]; omega), List.take_of_length_le (by rw [List.length_append, hst, List.length_singleton]; omega)]
  | none d ob keys fst =>
    intro _ _ st l _ _ _
    exact ⟨keys, rfl⟩
  | elem d keys fst rows t rows' t' hv hm iv im =>
    intro hd hd1 st l hst hkl hsh
    simp only [List.length_append] at hl hkl
    have ihv := iv (fun x hx => hz x (List.mem_append_left _ hx)) (by omega) hd st 6 keys keys (rows' ++ l) hst (mem_arr keys) (shallow_app hm.deep hsh)
    obtain ⟨keys', he⟩ := im (fun x hx => hz x (List.mem_append_right _ hx)) (by omega) hd hd1 st l hst (by omega) hsh
    refine ⟨keys', ?_⟩
    rw [List.append_assoc]
    rw [show (d == 0) = false by cases d with | zero => omega | succ d => rfl] at ihv
    exact ihv.trans he
  | memb d keys fst key hk hn rows t rows' t' hv hm iv im =>
    intro hd hd1 st l hst hkl hsh
    simp only [List.length_append] at hl hkl
    obtain ⟨x, xl, hx, _⟩ := hv.deep
    have hr1 : 1 ≤ rows.length := by rw [hx]; simp
    have hks : key.size ≤ 9223372036854775807 := by
      have := keyOf hv
      obtain ⟨y, yl, hy, hy2⟩ := this
      have h3 := (hz y (List.mem_append_left _ (by rw [hy]; exact List.mem_cons_self))).1
      rw [hy2] at h3; omega
    have ihv := iv (fun x hx => hz x (List.mem_append_left _ hx)) (by omega) hd st 7 keys (keys ++ [key]) (rows' ++ l) hst (mem_obj keys key hk hn hks (by omega)) (shallow_app hm.deep hsh)
    obtain ⟨keys', he⟩ := im (fun x hx => hz x (List.mem_append_right _ hx)) (by omega) hd hd1 st l hst (by rw [List.length_append, List.length_singleton]; omega) hsh
    refine ⟨keys', ?_⟩
    rw [List.append_assoc]
    rw [show (d == 0) = false by cases d with | zero => omega | succ d => rfl] at ihv
    exact ihv.trans he
end Go.Proofs.YthhmmaihbjhhgaaDoor.Giv
namespace Go.Proofs.YthhmmaihbjhhgaaDoor.Giv
open Go.RowKit Go.Proofs.YthhmmaihbjhhgaaDoorW.PrintWords Go.Proofs.YthhmmaihbjhhgaaDoorW.PrintLast Go.Proofs.YthhmmaihbjhhgaaDoorW.PrintMore
open Go.Proofs.YthhmmaihbjhhgaaDoor.U1 Go.Proofs.YthhmmaihbjhhgaaDoor.Q1 Go.Proofs.YthhmmaihbjhhgaaDoor.J0 Go.Proofs.YthhmmaihbjhhgaaDoor.J1
set_option linter.unusedSimpArgs false
set_option linter.unusedVariables false
theorem itoa_pos (n : Int) : 1 ≤ (Lib.itoa n).length := by
  obtain ⟨c, r, h, _⟩ := itoa_first n
  rw [h]; simp
theorem quoted_ge (s : ByteArray) : s.size + 2 ≤ (quoted s.data.toList).length := by
  rw [quoted_len]
  have := inner_ge s.data.toList
  rw [data_length] at this
  omega
/-- a text has at least a byte for each row; keys and texts are no longer than it -/
theorem JV.small {K : Node} {rows : List S59} {t : B} (h : JV K rows t) : rows.length ≤ t.length ∧ ∀ x ∈ rows, x.f3.size ≤ t.length ∧ x.f2.size ≤ t.length + (match K with | .v _ key => key.size | .m _ _ _ _ => 0) := by
  induction h with
  | null d key => exact ⟨(show (1 : Nat) ≤ 4 by decide), fun x hx => by obtain rfl := List.mem_singleton.1 hx; exact ⟨Nat.zero_le _, by show key.size ≤ _ + key.size; omega⟩⟩
  | fls d key => exact ⟨(show (1 : Nat) ≤ 5 by decide), fun x hx => by obtain rfl := List.mem_singleton.1 hx; exact ⟨Nat.zero_le _, by show key.size ≤ _ + key.size; omega⟩⟩
  | tru d key => exact ⟨(show (1 : Nat) ≤ 4 by decide), fun x hx => by obtain rfl := List.mem_singleton.1 hx; exact ⟨Nat.zero_le _, by show key.size ≤ _ + key.size; omega⟩⟩
  | num d key n h => exact ⟨itoa_pos n, fun x hx => by obtain rfl := List.mem_singleton.1 hx; exact ⟨Nat.zero_le _, by show key.size ≤ _ + key.size; omega⟩⟩
  | str d key s h => exact ⟨by have := quoted_ge s; rw [List.length_singleton]; omega, fun x hx => by obtain rfl := List.mem_singleton.1 hx; exact ⟨by have := quoted_ge s; show s.size ≤ _; omega, by show key.size ≤ _ + key.size; omega⟩⟩
  | arr d key rows t h hm im =>
    refine ⟨by have := im.1; simp only [List.length_cons, List.length_append, List.length_nil]; omega, fun x hx => ?_⟩
    rcases List.mem_cons.1 hx with rfl | hx
    · exact ⟨Nat.zero_le _, by show key.size ≤ _ + key.size; omega⟩
    · have := im.2 x hx
      simp only [List.length_cons, List.length_append, List.length_nil] at this ⊢; omega
  | obj d key rows t h hm im =>
    refine ⟨by have := im.1; simp only [List.length_cons, List.length_append, List.length_nil]; omega, fun x hx => ?_⟩
    rcases List.mem_cons.1 hx with rfl | hx
    · exact ⟨Nat.zero_le _, by show key.size ≤ _ + key.size; omega⟩
    · have := im.2 x hx
      simp only [List.length_cons, List.length_append, List.length_nil] at this ⊢; omega
  | none => exact ⟨Nat.le_refl _, fun x hx => by cases hx⟩
  | elem d keys fst rows t rows' t' hv hm iv im =>
    refine ⟨by have := iv.1; have := im.1; simp only [List.length_append]; omega, fun x hx => ?_⟩
    rcases List.mem_append.1 hx with hx | hx
    · have := iv.2 x hx
      have he : e0.size = 0 := rfl
      simp only [List.length_append, he] at this ⊢; omega
    · have := im.2 x hx
      simp only [List.length_append] at this ⊢; omega
  | memb d keys fst key hk hn rows t rows' t' hv hm iv im =>
    refine ⟨by have := iv.1; have := im.1; simp only [List.length_append, List.length_cons]; omega, fun x hx => ?_⟩
    have hq := quoted_ge key
    rcases List.mem_append.1 hx with hx | hx
    · have := iv.2 x hx
      simp only [List.length_append, List.length_cons] at this ⊢; omega
    · have := im.2 x hx
      simp only [List.length_append, List.length_cons] at this ⊢; omega
/-- what Print makes of rows that are a value's, or members' -/
def PP : Node → List S59 → B → Prop
  | .v d key, rows, t => ∀ (prev : Option Int) (bs ends : B) (l : List S59), d ≤ ends.length → key.size ≤ 1099511627776 → bs.length + ends.length + (commaB prev d).length + (keyB (ends.take d) key).length + t.length ≤ 1099511627776 → ∃ (p : Int) (bs' ends' : B), (d : Int) ≤ p ∧ printF prev bs ends (rows ++ l) = printF (some p) bs' ends' l ∧ d ≤ ends'.length ∧ ends'.take d = ends.take d ∧ bs' ++ (ends'.drop d).reverse = bs ++ (ends.drop d).reverse ++ commaB prev d ++ keyB (ends.take d) key ++ t
  | .m d ob keys fst, rows, t => ∀ (p : Int) (bs ends : B) (l : List S59), d ≤ ends.length → (ends.take d).getLast? = some (enB ob) → (if fst then p = d - 1 else d ≤ p) → bs.length + ends.length + t.length ≤ 1099511627776 → ∃ (p' : Int) (bs' ends' : B), (d : Int) - 1 ≤ p' ∧ printF (some p) bs ends (rows ++ l) = printF (some p') bs' ends' l ∧ d ≤ ends'.length ∧ ends'.take d = ends.take d ∧ bs' ++ (ends'.drop d).reverse = bs ++ (ends.drop d).reverse ++ t
/-- one item -/
theorem print_one (prev : Option Int) (bs ends : B) (x : S59) (l : List S59) (d : Nat) (hx : x.f0 = d) (hd : d ≤ ends.length) (hk : 1 ≤ x.f1 ∧ x.f1 ≤ 7) (h4 : I64 x.f4) (hl : bs.length + ends.length + sizeI x ≤ 140737488355328) :
    printF prev bs ends (x :: l) = printF (some (d : Int)) (bs ++ (ends.drop d).reverse ++ commaB prev d ++ keyB (ends.take d) x.f2 ++ valB x) (ends.take d ++ endB x) l := by
  rw [printF, if_pos ⟨by omega, by omega, hk.1, hk.2, h4, hl⟩, hx, Int.toNat_natCast]
theorem take_len (l : B) (d : Nat) (h : d ≤ l.length) : (l.take d).length = d := by rw [List.length_take]; omega
theorem pp_leaf (d : Nat) (key : ByteArray) (x : S59) (t : B) (hx : x.f0 = d) (hk : 1 ≤ x.f1 ∧ x.f1 ≤ 5) (h2 : x.f2 = key) (h4 : I64 x.f4) (h3 : x.f3.size ≤ t.length) (hv : valB x = t) : PP (.v d key) [x] t := by
  intro prev bs ends l hd hks hl
  have he : endB x = [] := by unfold endB; rw [if_neg (by omega), if_neg (by omega)]
  have ht := take_len ends d hd
  have hdr : (ends.take d).drop d = [] := List.drop_eq_nil_of_le (by omega)
  refine ⟨d, _, _, Int.le_refl _, print_one prev bs ends x l d hx hd ⟨hk.1, by omega⟩ h4 (by unfold sizeI; rw [h2]; omega), ?_, ?_, ?_⟩
  · rw [he, List.append_nil]; omega
  · rw [he, List.append_nil, List.take_take, Nat.min_self]
  · rw [he, List.append_nil, hv, h2, hdr, List.reverse_nil, List.append_nil]
theorem pp_open (d : Nat) (key : ByteArray) (ob : Bool) (rows : List S59) (t : B) (im : PP (.m (d + 1) ob [] true) rows t) : PP (.v d key) (row d (kindOf ob) key e0 0 :: rows) ((if ob then 123 else 91) :: (t ++ [enB ob])) := by
  intro prev bs ends l hd hks hl
  simp only [List.length_cons, List.length_append, List.length_nil] at hl
  have hkk : 1 ≤ (row d (kindOf ob) key e0 0).f1 ∧ (row d (kindOf ob) key e0 0).f1 ≤ 7 := by
    show 1 ≤ kindOf ob ∧ kindOf ob ≤ 7
    cases ob <;> decide
  have h1 := print_one prev bs ends (row d (kindOf ob) key e0 0) (rows ++ l) d rfl hd hkk (show I64 0 from ⟨by decide, by decide⟩) (by show _ + (6 * key.size + 6 * 0 + 200) ≤ _; omega)
  have hv : valB (row d (kindOf ob) key e0 0) = [if ob then 123 else 91] := by cases ob <;> rfl
  have he : endB (row d (kindOf ob) key e0 0) = [enB ob] := by cases ob <;> rfl
  rw [hv, he, show (row d (kindOf ob) key e0 0).f2 = key from rfl] at h1
  have hlt := take_len ends d hd
  have hlt2 : (ends.take d ++ [enB ob]).length = d + 1 := by rw [List.length_append, hlt, List.length_singleton]
  have htt : (ends.take d ++ [enB ob]).take (d + 1) = ends.take d ++ [enB ob] := List.take_of_length_le (by omega)
  have hdd0 : (ends.take d ++ [enB ob]).drop (d + 1) = [] := List.drop_eq_nil_of_le (by omega)
  obtain ⟨p', bs', ends', f0, f1, f2, f3, f4⟩ := im d (bs ++ (ends.drop d).reverse ++ commaB prev d ++ keyB (ends.take d) key ++ [if ob then 123 else 91]) (ends.take d ++ [enB ob]) l (by omega)
    (by rw [htt]; simp) (by rw [if_pos rfl]; omega) (by simp only [List.length_append, List.length_reverse, List.length_drop, hlt, List.length_singleton]; omega)
  rw [htt] at f3
  rw [hdd0, List.reverse_nil, List.append_nil] at f4
  have hsp : ends' = ends.take d ++ ([enB ob] ++ ends'.drop (d + 1)) := by
    have e1 := List.take_append_drop (d + 1) ends'
    rw [f3, List.append_assoc] at e1
    exact e1.symm
  have hdd : ends'.drop d = [enB ob] ++ ends'.drop (d + 1) := by
    have e2 := List.drop_left (l₁ := ends.take d) (l₂ := [enB ob] ++ ends'.drop (d + 1))
    rw [← hsp, hlt] at e2
    exact e2
  have htd : ends'.take d = ends.take d := by
    have e2 := List.take_left (l₁ := ends.take d) (l₂ := [enB ob] ++ ends'.drop (d + 1))
    rw [← hsp, hlt] at e2
    exact e2
  refine ⟨p', bs', ends', by omega, by rw [List.cons_append]; exact h1.trans f1, by omega, htd, ?_⟩
  rw [hdd, List.reverse_append, ← List.append_assoc, f4]
  simp
theorem JV.print {K : Node} {rows : List S59} {t : B} (h : JV K rows t) : PP K rows t := by
  induction h with
  | null d key => exact pp_leaf d key _ _ rfl ⟨show (1 : Int) ≤ 1 by decide, show (1 : Int) ≤ 5 by decide⟩ rfl (show I64 0 from ⟨by decide, by decide⟩) (Nat.zero_le _) rfl
  | fls d key => exact pp_leaf d key _ _ rfl ⟨show (1 : Int) ≤ 2 by decide, show (2 : Int) ≤ 5 by decide⟩ rfl (show I64 0 from ⟨by decide, by decide⟩) (Nat.zero_le _) rfl
  | tru d key => exact pp_leaf d key _ _ rfl ⟨show (1 : Int) ≤ 3 by decide, show (3 : Int) ≤ 5 by decide⟩ rfl (show I64 0 from ⟨by decide, by decide⟩) (Nat.zero_le _) rfl
  | num d key n h => exact pp_leaf d key _ _ rfl ⟨show (1 : Int) ≤ 4 by decide, show (4 : Int) ≤ 5 by decide⟩ rfl h (Nat.zero_le _) rfl
  | str d key s h =>
    refine pp_leaf d key _ _ rfl ⟨show (1 : Int) ≤ 5 by decide, show (5 : Int) ≤ 5 by decide⟩ rfl (show I64 0 from ⟨by decide, by decide⟩) (by have := quoted_ge s; show s.size ≤ _; omega) ?_
    show (writeS s).1.data.toList = _
    rw [writeS_yes s h]
  | arr d key rows t h hm im => exact pp_open d key false rows t im
  | obj d key rows t h hm im => exact pp_open d key true rows t im
  | none d ob keys fst =>
    intro p bs ends l hd _ hp _
    exact ⟨p, bs, ends, by cases fst <;> simp at hp <;> omega, rfl, hd, rfl, by rw [List.append_nil]⟩
  | elem d keys fst rows t rows' t' hv hm iv im =>
    intro p bs ends l hd hla hp hl
    have hc : commaB (some p) (d : Int) = sepa fst := by
      unfold commaB sepa
      cases fst with
      | true => rw [if_pos rfl] at hp; simp only; rw [if_neg (by omega)]; rfl
      | false => rw [if_neg (by decide)] at hp; simp only; rw [if_pos hp]; rfl
    have hk : keyB (ends.take d) e0 = [] := by unfold keyB; rw [hla, if_neg (by decide)]
    simp only [List.length_append] at hl
    obtain ⟨p1, b1, en1, f0, f1, f2, f3, f4⟩ := iv (some p) bs ends (rows' ++ l) hd (Nat.zero_le _) (by rw [hc, hk, List.length_nil]; omega)
    rw [hc, hk, List.append_nil] at f4
    have fl := congrArg List.length f4
    simp only [List.length_append, List.length_reverse, List.length_drop] at fl
    obtain ⟨p2, b2, en2, g0, g1, g2, g3, g4⟩ := im p1 b1 en1 l f2 (by rw [f3]; exact hla) (by rw [if_neg (by decide)]; exact f0) (by omega)
    refine ⟨p2, b2, en2, g0, by rw [List.append_assoc]; exact f1.trans g1, g2, g3.trans f3, ?_⟩
    rw [g4, f4]
    simp
  | memb d keys fst key hk0 hn rows t rows' t' hv hm iv im =>
    intro p bs ends l hd hla hp hl
    have hc : commaB (some p) (d : Int) = sepa fst := by
      unfold commaB sepa
      cases fst with
      | true => rw [if_pos rfl] at hp; simp only; rw [if_neg (by omega)]; rfl
      | false => rw [if_neg (by decide)] at hp; simp only; rw [if_pos hp]; rfl
    have hk : keyB (ends.take d) key = quoted key.data.toList ++ [58] := by unfold keyB; rw [hla, if_pos (show some (enB true) = some 125 from rfl), writeS_yes key hk0]
    have hq := quoted_ge key
    simp only [List.length_append, List.length_cons] at hl
    obtain ⟨p1, b1, en1, f0, f1, f2, f3, f4⟩ := iv (some p) bs ends (rows' ++ l) hd (by omega) (by rw [hc, hk, List.length_append, List.length_singleton]; omega)
    rw [hc, hk] at f4
    have fl := congrArg List.length f4
    simp only [List.length_append, List.length_reverse, List.length_drop, List.length_singleton] at fl
    obtain ⟨p2, b2, en2, g0, g1, g2, g3, g4⟩ := im p1 b1 en1 l f2 (by rw [f3]; exact hla) (by rw [if_neg (by decide)]; exact f0) (by omega)
    refine ⟨p2, b2, en2, g0, by rw [List.append_assoc]; exact f1.trans g1, g2, g3.trans f3, ?_⟩
    rw [g4, f4]
    simp
theorem JV.right_f {rows : List S59} {t : B} (h : JV (.v 0 e0) rows t) (hl : t.length ≤ 1099511627776) : json_Right.f rows = some true := by
  obtain ⟨h1, h2⟩ := h.small
  have hr := h.right (fun x hx => by have := h2 x hx; have he : e0.size = 0 := rfl; simp only [he] at this; omega) (by omega) (by omega) [] 6 [] [] [] rfl (mem_arr []) (fun x hx => by cases hx)
  rw [List.append_nil, List.nil_append] at hr
  obtain ⟨x, xl, hx, _⟩ := h.deep
  unfold json_Right.f
  rw [if_pos (by omega), show rightF true [(6, [])] rows = some true from hr.trans (by rw [rightF])]
  show some (true && decide (0 < rows.length)) = _
  rw [Bool.true_and, decide_eq_true (by rw [hx]; simp)]
theorem JV.ne {rows : List S59} {t : B} {d : Nat} {key : ByteArray} (h : JV (.v d key) rows t) : t ≠ [] := by
  obtain ⟨c, r, hc, _⟩ := h.first
  rw [hc]; simp
theorem JV.print_f {rows : List S59} {t : B} (h : JV (.v 0 e0) rows t) (hl : t.length ≤ 1099511627776) : json_Print.f rows = some ⟨t.toArray⟩ := by
  obtain ⟨p, bs', ends', _, h1, _, _, h2⟩ := h.print Option.none [] [] [] (Nat.le_refl _) (Nat.zero_le _) (by show 0 + 0 + 0 + 0 + _ ≤ _; omega)
  rw [List.append_nil] at h1
  have h3 : bs' ++ ends'.reverse = t := h2
  have h4 : printF Option.none [] [] rows = some t := by rw [h1, printF, h3]
  unfold json_Print.f
  rw [h.right_f hl, Option.bind_some, if_pos rfl, h4, Option.bind_some, if_pos ⟨h.ne, by omega⟩]
end Go.Proofs.YthhmmaihbjhhgaaDoor.Giv
namespace Go.Proofs.YthhmmaihbjhhgaaDoor.Giv
open Go.RowKit Go.Proofs.YthhmmaihbjhhgaaDoorW.PrintWords Go.Proofs.YthhmmaihbjhhgaaDoorW.PrintLast Go.Proofs.YthhmmaihbjhhgaaDoorW.PrintMore
open Go.Proofs.YthhmmaihbjhhgaaDoor.U1 Go.Proofs.YthhmmaihbjhhgaaDoor.Q1 Go.Proofs.YthhmmaihbjhhgaaDoor.J0 Go.Proofs.YthhmmaihbjhhgaaDoor.J1
theorem key_sim (s : ByteArray) (p : Nat) (l : B) (keys : List ByteArray) (h : s.data.toList.drop p = l) (hp : p ≤ s.size) (hs : s.size ≤ 1099511627776) (k : Nat) (hk : s.size + 20 < k) :
    ∃ t p', keyF k s p keys = some (t, (pk l keys).2.2, p') ∧ p' ≤ s.size ∧ ((pk l keys).2.2 = 0 → t = (pk l keys).1 ∧ s.data.toList.drop p' = (pk l keys).2.1) := by
  obtain ⟨h1, h2, h3, h4⟩ := drop_sk s p l h hp
  unfold keyF pk
  rw [h2]
  by_cases c1 : hd l = 34
  · rw [if_pos c1, if_pos c1]
    obtain ⟨r, hq, e1, e2, e3, e4⟩ := rq_sim s (skipP s p) (sk l) h1 h3 (by omega) c1 k hk
    rw [hq, Option.bind_some, if_pos ⟨e2, e3⟩, e1]
    by_cases c2 : (rq (sk l)).2.2 = 0
    · obtain ⟨f1, f2⟩ := e4 (e1.trans c2)
      obtain ⟨t1, t2, t3⟩ := takes_sim s (skipP s p + r.2.1.toNat) (rq (sk l)).2.1 58 f2 (by omega)
      rw [if_pos c2, if_pos c2, f1]
      by_cases c3 : hasB ⟨(rq (sk l)).1.toArray⟩ keys = true
      · rw [if_pos c3, if_pos c3]
        exact ⟨_, _, rfl, by omega, fun e => absurd e (by decide)⟩
      · rw [if_neg c3, if_neg c3, t1]
        by_cases c4 : (tk1 (rq (sk l)).2.1 58).1 = true
        · rw [if_pos c4, if_pos c4]
          exact ⟨_, _, rfl, t3, fun _ => ⟨rfl, t2⟩⟩
        · rw [if_neg c4, if_neg c4]
          exact ⟨_, _, rfl, t3, fun e => absurd e (by decide)⟩
    · rw [if_neg c2, if_neg c2]
      exact ⟨_, _, rfl, by omega, fun e => absurd e c2⟩
  · rw [if_neg c1, if_neg c1]
    exact ⟨_, _, rfl, h3, fun e => absurd e (by decide)⟩
/-- what a run of the program's parser says of the plain one's -/
def Sim (s : ByteArray) (out : List S59) (f : Option Res) (r : Int × B × List S59) : Prop :=
  ∃ p' o', f = some (r.1, p', o') ∧ p' ≤ s.size ∧ (r.1 = 0 → s.data.toList.drop p' = r.2.1 ∧ o' = out ++ r.2.2)
def SV (n C : Nat) (s : ByteArray) : Prop := ∀ l d key p out, s.data.toList.drop p = l → p ≤ s.size → d ≤ 64 → out.length + l.length ≤ 1099511627776 → (pv n l d key).1 ≠ -1 → Sim s out (valueF (n + C) s p out ⟨(d : Int), 0, key, ⟨#[]⟩, 0⟩) (pv n l d key)
def SM (n C : Nat) (s : ByteArray) : Prop := ∀ l d ob key p out, s.data.toList.drop p = l → p ≤ s.size → d < 64 → out.length + l.length ≤ 1099511627776 → (pms n l d ob).1 ≠ -1 → Sim s out (membersF (n + C) s p out ⟨(d : Int), kindOf ob, key, ⟨#[]⟩, 0⟩ (en ob)) (pms n l d ob)
def SL (n C : Nat) (s : ByteArray) : Prop := ∀ l d ob key keys p out, s.data.toList.drop p = l → p ≤ s.size → d < 64 → out.length + l.length ≤ 1099511627776 → keys.length + l.length ≤ 1099511627776 → (pml n l d ob keys).1 ≠ -1 → Sim s out (membersL (n + C) s p out ⟨(d : Int), kindOf ob, key, ⟨#[]⟩, 0⟩ (en ob) keys) (pml n l d ob keys)
theorem after_sim (n C : Nat) (s : ByteArray) (hV : SV n C s) (hL : SL n C s) (l : B) (d : Nat) (ob : Bool) (key0 key : ByteArray) (keys : List ByteArray) (p : Nat) (out : List S59) (h : s.data.toList.drop p = l) (hp : p ≤ s.size) (hd' : d < 64) (ho : out.length + l.length ≤ 1099511627776) (hk : keys.length + l.length ≤ 1099511627777)
    (hr : (pma (fun x => pml n x d ob keys) (pv n l (d + 1) key) ob).1 ≠ -1) :
    Sim s out (afterKey (fun p o y => valueF (n + C) s p o y) (fun p o ks => membersL (n + C) s p o ⟨(d : Int), kindOf ob, key0, ⟨#[]⟩, 0⟩ (en ob) ks) s ⟨(d : Int), kindOf ob, key0, ⟨#[]⟩, 0⟩ (en ob) p out keys key) (pma (fun x => pml n x d ob keys) (pv n l (d + 1) key) ob) := by
  have hv1 : (pv n l (d + 1) key).1 ≠ -1 := by
    intro e
    apply hr
    unfold pma
    rw [if_neg (by omega)]
    exact e
  obtain ⟨p1, o1, e1, e2, e3⟩ := hV l (d + 1) key p out h hp (by omega) ho hv1
  unfold afterKey
  simp only
  rw [show ((d : Int) + 1) = ((d + 1 : Nat) : Int) by omega, e1, Option.bind_some]
  simp only
  rw [if_pos e2]
  unfold pma at hr ⊢
  by_cases c1 : (pv n l (d + 1) key).1 = 0
  · rw [if_pos c1] at hr
    rw [if_pos c1, if_pos c1]
    obtain ⟨f1, rfl⟩ := e3 c1
    have hlen := (p_len n).1 l (d + 1) key c1
    obtain ⟨t1, t2, t3⟩ := takes_sim s p1 (pv n l (d + 1) key).2.1 (en ob) f1 e2
    obtain ⟨u1, u2, u3⟩ := takes_sim s (takesP s p1 (en ob)).2 (tk1 (pv n l (d + 1) key).2.1 (en ob)).2 44 t2 t3
    have g1 := tk1_len (pv n l (d + 1) key).2.1 (en ob)
    have g2 := tk1_len (tk1 (pv n l (d + 1) key).2.1 (en ob)).2 44
    unfold cont at hr ⊢
    rw [t1]
    by_cases c2 : (tk1 (pv n l (d + 1) key).2.1 (en ob)).1 = true
    · rw [if_pos c2, if_pos c2]
      exact ⟨_, _, rfl, t3, fun _ => ⟨t2, by simp⟩⟩
    · rw [if_neg c2] at hr
      rw [if_neg c2, if_neg c2, u1]
      by_cases c3 : (tk1 (tk1 (pv n l (d + 1) key).2.1 (en ob)).2 44).1 = true
      · rw [if_pos c3] at hr
        rw [if_pos c3, if_pos c3]
        have g3 := g2.2 c3
        obtain ⟨p2, o2, i1, i2, i3⟩ := hL (tk1 (tk1 (pv n l (d + 1) key).2.1 (en ob)).2 44).2 d ob key0 keys (takesP s (takesP s p1 (en ob)).2 44).2 (out ++ (pv n l (d + 1) key).2.2) u2 u3 hd' (by rw [List.length_append]; omega) (by omega) hr
        refine ⟨p2, o2, i1, i2, fun e => ?_⟩
        obtain ⟨j1, j2⟩ := i3 e
        exact ⟨j1, by rw [j2, List.append_assoc]⟩
      · rw [if_neg c3, if_neg c3]
        exact ⟨_, _, rfl, u3, fun e => absurd e (by simp)⟩
  · rw [if_neg c1, if_neg c1]
    exact ⟨_, _, rfl, e2, fun e => absurd e c1⟩
theorem sim_all (s : ByteArray) (hs : s.size ≤ 1099511627776) (C : Nat) (hC : s.size + 20 < C) : ∀ n : Nat, SV n C s ∧ SM n C s ∧ SL n C s
  | 0 => ⟨fun l d key p out _ _ _ _ h => absurd (by rw [pv]) h, fun l d ob key p out _ _ _ _ h => absurd (by rw [pms]) h, fun l d ob key keys p out _ _ _ _ _ h => absurd (by rw [pml]) h⟩
  | n + 1 => by
    obtain ⟨iv, im, il⟩ := sim_all s hs C hC n
    refine ⟨fun l d key p out h hp hd' ho hr => ?_, fun l d ob key p out h hp hd' ho hr => ?_, fun l d ob key keys p out h hp hd' ho hk hr => ?_⟩
    · obtain ⟨h1, h2, h3, h4⟩ := drop_sk s p l h hp
      have hlen : l.length + p = s.size := by rw [← h, List.length_drop, data_length]; omega
      have hsl := sk_len l
      rw [show n + 1 + C = (n + C) + 1 by omega, valueF, h2]
      rw [pv] at hr ⊢
      simp only
      by_cases c1 : hd l = 91
      · rw [if_pos c1] at hr ⊢
        rw [if_pos c1]
        by_cases c2 : 64 ≤ d
        · rw [if_pos c2, if_pos (by omega)]
          exact ⟨_, _, rfl, h3, fun e => absurd e (by decide)⟩
        · rw [if_neg c2] at hr ⊢
          have hne := hd_ne (l := l) (by omega)
          have hlt := h4.2 hne
          have hl0 : (sk l).length ≠ 0 := fun e => hne (List.eq_nil_of_length_eq_zero e)
          rw [if_neg (by omega), if_pos ⟨by omega, hlt⟩]
          obtain ⟨p1, o1, e1, e2, e3⟩ := im ((sk l).drop 1) d false key (skipP s p + 1) (out ++ [⟨(d : Int), 6, key, ⟨#[]⟩, 0⟩]) (by rw [← h1, List.drop_drop]) (by omega) (by omega) (by rw [List.length_append, List.length_drop, List.length_singleton]; omega) hr
          refine ⟨p1, o1, e1, e2, fun e => ?_⟩
          obtain ⟨f1, f2⟩ := e3 e
          exact ⟨f1, by rw [f2, List.append_assoc]; rfl⟩
      · rw [if_neg c1] at hr ⊢
        rw [if_neg c1]
        by_cases c3 : hd l = 123
        · rw [if_pos c3] at hr ⊢
          rw [if_pos c3]
          by_cases c2 : 64 ≤ d
          · rw [if_pos c2, if_pos (by omega)]
            exact ⟨_, _, rfl, h3, fun e => absurd e (by decide)⟩
          · rw [if_neg c2] at hr ⊢
            have hne := hd_ne (l := l) (by omega)
            have hlt := h4.2 hne
            have hl0 : (sk l).length ≠ 0 := fun e => hne (List.eq_nil_of_length_eq_zero e)
            rw [if_neg (by omega), if_pos ⟨by omega, hlt⟩]
            obtain ⟨p1, o1, e1, e2, e3⟩ := im ((sk l).drop 1) d true key (skipP s p + 1) (out ++ [⟨(d : Int), 7, key, ⟨#[]⟩, 0⟩]) (by rw [← h1, List.drop_drop]) (by omega) (by omega) (by rw [List.length_append, List.length_drop, List.length_singleton]; omega) hr
            refine ⟨p1, o1, e1, e2, fun e => ?_⟩
            obtain ⟨f1, f2⟩ := e3 e
            exact ⟨f1, by rw [f2, List.append_assoc]; rfl⟩
        · rw [if_neg c3] at hr ⊢
          rw [if_neg c3]
          by_cases c4 : hd l = 34
          · rw [if_pos c4] at hr ⊢
            rw [if_pos c4]
            obtain ⟨r, hq, e1, e2, e3, e4⟩ := rq_sim s (skipP s p) (sk l) h1 h3 (by omega) c4 (n + C) (by omega)
            rw [hq, Option.bind_some, if_pos ⟨e2, e3, by omega⟩, e1]
            by_cases c5 : (rq (sk l)).2.2 = 0
            · obtain ⟨f1, f2⟩ := e4 (e1.trans c5)
              rw [if_pos c5, if_pos c5]
              exact ⟨_, _, rfl, by omega, fun _ => ⟨f2, by rw [f1]; rfl⟩⟩
            · rw [if_neg c5, if_neg c5]
              exact ⟨_, _, rfl, by omega, fun e => absurd e c5⟩
          · rw [if_neg c4] at hr ⊢
            rw [if_neg c4, if_pos (by omega)]
            by_cases c6 : hd l = 45 ∨ (48 ≤ hd l ∧ hd l ≤ 57)
            · rw [if_pos c6] at hr ⊢
              rw [if_pos c6, num_sim s (skipP s p) (sk l) h1 h3]
              by_cases c7 : (rn ((sk l).take (numsL (sk l)))).2 = true
              · rw [if_pos c7, if_pos c7]
                have hn := nums_le (sk l)
                have hz : (sk l).length + skipP s p = s.size := by rw [← h1, List.length_drop, data_length]; omega
                exact ⟨_, _, rfl, by simp only; omega, fun _ => ⟨by rw [← h1, List.drop_drop], rfl⟩⟩
              · rw [if_neg c7, if_neg c7]
                exact ⟨_, _, rfl, h3, fun e => absurd e (by decide)⟩
            · rw [if_neg c6] at hr ⊢
              rw [if_neg c6]
              obtain ⟨p1, o1, e1, e2, e3⟩ := word_sim s (skipP s p) (sk l) h1 h3 out d key
              exact ⟨p1, o1, congrArg some e1, e2, e3⟩
    · rw [show n + 1 + C = (n + C) + 1 by omega, membersF]
      rw [pms] at hr ⊢
      obtain ⟨t1, t2, t3⟩ := takes_sim s p l (en ob) h hp
      have g1 := tk1_len l (en ob)
      rw [t1]
      by_cases c1 : (tk1 l (en ob)).1 = true
      · rw [if_pos c1, if_pos c1]
        exact ⟨_, _, rfl, t3, fun _ => ⟨t2, by simp⟩⟩
      · rw [if_neg c1] at hr ⊢
        rw [if_neg c1]
        exact il (tk1 l (en ob)).2 d ob key [] _ out t2 t3 hd' (by omega) (by simp; omega) hr
    · rw [show n + 1 + C = (n + C) + 1 by omega, membersL]
      rw [pml] at hr ⊢
      simp only
      rw [if_pos ⟨by omega, by omega⟩]
      cases ob with
      | true =>
        rw [if_pos rfl] at hr ⊢
        rw [if_pos (show kindOf true = 7 from rfl), if_pos (by omega)]
        obtain ⟨t, p1, e1, e2, e3⟩ := key_sim s p l keys h hp hs (n + C) (by omega)
        rw [e1, Option.bind_some]
        simp only
        rw [if_pos e2]
        by_cases c1 : (pk l keys).2.2 = 0
        · rw [if_pos c1] at hr ⊢
          rw [if_pos c1]
          obtain ⟨rfl, f2⟩ := e3 c1
          have hl := pk_len l keys c1
          exact after_sim n C s iv il (pk l keys).2.1 d true key (pk l keys).1 (keys ++ [(pk l keys).1]) p1 out f2 e2 hd' (by omega) (by rw [List.length_append, List.length_singleton]; omega) hr
        · rw [if_neg c1, if_neg c1]
          exact ⟨_, _, rfl, e2, fun e => absurd e c1⟩
      | false =>
        rw [if_neg (show ¬ false = true by decide)] at hr ⊢
        rw [if_neg (show ¬ kindOf false = 7 by decide)]
        exact after_sim n C s iv il l d false key e0 keys p out h hp hd' ho (by omega) hr
end Go.Proofs.YthhmmaihbjhhgaaDoor.Giv
namespace Go.Proofs.YthhmmaihbjhhgaaDoor.Giv
open Go.RowKit Go.Proofs.YthhmmaihbjhhgaaDoorW.PrintWords Go.Proofs.YthhmmaihbjhhgaaDoorW.PrintLast Go.Proofs.YthhmmaihbjhhgaaDoorW.PrintMore
open Go.Proofs.YthhmmaihbjhhgaaDoor.U1 Go.Proofs.YthhmmaihbjhhgaaDoor.Q1 Go.Proofs.YthhmmaihbjhhgaaDoor.J0 Go.Proofs.YthhmmaihbjhhgaaDoor.J1
set_option linter.unusedSimpArgs false
set_option linter.unusedVariables false
theorem readL_le : ∀ (n : Nat) (l : B) (r : B × Int × Int), readL n l = some r → r.2.2 = 0 → (r.1.length : Int) + 1 ≤ r.2.1
  | 0, l, r, h, _ => by simp [readL] at h
  | n + 1, l, r, h, he => by
    rw [readL] at h
    split at h
    · cases h; simp at he
    · split at h
      · cases h; simp
      · split at h
        · cases h; simp at he
        · split at h
          · rename_i c
            obtain ⟨q, hq, h⟩ := Option.map_eq_some_iff.1 h
            split at h
            · rename_i c2
              cases h
              have := readL_le n _ q hq c2
              have := one_le l c
              simp only [List.length_append]; omega
            · rename_i c2
              cases h
              exact absurd he c2
          · rename_i c
            cases h
            exact absurd he c
theorem rq_len2 (l : B) (h : (rq l).2.2 = 0) (hl : l ≠ []) : (rq l).1.length + (rq l).2.1.length + 2 ≤ l.length := by
  unfold rq at h ⊢
  have hl0 : l.length ≠ 0 := fun e => hl (List.eq_nil_of_length_eq_zero e)
  cases hq : readL (l.length + 1) (l.drop 1) with
  | none => rw [hq] at h; simp at h
  | some q =>
    rw [hq] at h
    simp only at h ⊢
    by_cases c : q.2.2 = 0
    · rw [if_pos c]
      have hg := readL_good _ _ _ hq c
      have h2 := readL_le _ _ _ hq c
      rw [List.length_drop] at hg
      simp only
      rw [List.length_drop]; omega
    · rw [if_neg c] at h; exact absurd h c
def wt : List S59 → Nat
  | [] => 0
  | x :: l => x.f2.size + x.f3.size + 1 + wt l
theorem wt_app : ∀ a b : List S59, wt (a ++ b) = wt a + wt b
  | [], b => by simp [wt]
  | x :: a, b => by rw [List.cons_append, wt, wt, wt_app a b]; omega
theorem pk_len2 (l : B) (keys : List ByteArray) (h : (pk l keys).2.2 = 0) : (pk l keys).1.size + (pk l keys).2.1.length < l.length := by
  unfold pk at h ⊢
  have h0 := sk_len l
  split at h
  · rename_i c1
    rw [if_pos c1]
    split at h
    · rename_i c2
      rw [if_pos c2]
      split at h
      · simp at h
      · rename_i c3
        rw [if_neg c3]
        split at h
        · rename_i c4
          rw [if_pos c4]
          have h1 := rq_len2 (sk l) c2 (hd_ne (by omega))
          have h2 := (tk1_len (rq (sk l)).2.1 58).1
          show (rq (sk l)).1.toArray.size + (tk1 (rq (sk l)).2.1 58).2.length < _
          rw [List.size_toArray]; omega
        · simp at h
    · rename_i c2
      simp only at h; exact absurd h c2
  · simp at h
theorem wd_wt (l : B) (d : Nat) (key : ByteArray) (h : (wd l d key).1 = 0) : wt (wd l d key).2.2 + (wd l d key).2.1.length ≤ l.length + key.size := by
  unfold wd at h ⊢
  split
  · rename_i c; have := c.length_le; simp at this; simp only [List.length_drop, wt, row]; show key.size + 0 + 1 + 0 + _ ≤ _; omega
  · rename_i c1
    rw [if_neg c1] at h
    split
    · rename_i c; have := c.length_le; simp at this; simp only [List.length_drop, wt, row]; show key.size + 0 + 1 + 0 + _ ≤ _; omega
    · rename_i c2
      rw [if_neg c2] at h
      split
      · rename_i c; have := c.length_le; simp at this; simp only [List.length_drop, wt, row]; show key.size + 0 + 1 + 0 + _ ≤ _; omega
      · rename_i c3
        rw [if_neg c3] at h; simp at h
theorem p_wt : ∀ n : Nat, (∀ l d key, (pv n l d key).1 = 0 → wt (pv n l d key).2.2 + (pv n l d key).2.1.length ≤ l.length + key.size) ∧ (∀ l d ob, (pms n l d ob).1 = 0 → wt (pms n l d ob).2.2 + (pms n l d ob).2.1.length ≤ l.length) ∧ (∀ l d ob keys, (pml n l d ob keys).1 = 0 → wt (pml n l d ob keys).2.2 + (pml n l d ob keys).2.1.length ≤ l.length)
  | 0 => ⟨fun l d key h => by simp [pv] at h, fun l d ob h => by simp [pms] at h, fun l d ob keys h => by simp [pml] at h⟩
  | n + 1 => by
    obtain ⟨iv, im, il⟩ := p_wt n
    have ic : ∀ l d ob keys, (cont (fun x => pml n x d ob keys) l ob).1 = 0 → wt (cont (fun x => pml n x d ob keys) l ob).2.2 + (cont (fun x => pml n x d ob keys) l ob).2.1.length ≤ l.length := by
      intro l d ob keys h
      unfold cont at h ⊢
      have h1 := tk1_len l (en ob)
      have h2 := tk1_len (tk1 l (en ob)).2 44
      split
      · simp only [wt]; omega
      · rename_i c
        rw [if_neg c] at h
        split
        · rename_i c2
          rw [if_pos c2] at h
          have h3 := il _ _ _ _ h
          have h4 : ((tk1 (tk1 l (en ob)).2 44).2).length ≤ l.length := by omega
          exact Nat.le_trans h3 h4
        · rename_i c2
          rw [if_neg c2] at h; simp at h
    have ia : ∀ (V : Int × B × List S59) d ob keys m, (V.1 = 0 → wt V.2.2 + V.2.1.length ≤ m) → (pma (fun x => pml n x d ob keys) V ob).1 = 0 → wt (pma (fun x => pml n x d ob keys) V ob).2.2 + (pma (fun x => pml n x d ob keys) V ob).2.1.length ≤ m := by
      intro V d ob keys m hV h
      unfold pma at h ⊢
      split
      · rename_i c
        rw [if_pos c] at h
        have h1 := hV c
        have := ic V.2.1 d ob keys h
        simp only [wt_app]; omega
      · rename_i c
        rw [if_neg c] at h; exact absurd h c
    refine ⟨fun l d key h => ?_, fun l d ob h => ?_, fun l d ob keys h => ?_⟩
    · have h0 := sk_len l
      have hw : ∀ (k : Int) (rows : List S59), wt (row d k key e0 0 :: rows) = key.size + 0 + 1 + wt rows := fun _ _ => rfl
      rw [pv] at h ⊢
      by_cases c1 : hd l = 91
      · rw [if_pos c1] at h ⊢
        by_cases c2 : 64 ≤ d
        · rw [if_pos c2] at h; simp at h
        · rw [if_neg c2] at h ⊢
          have := im _ _ _ h
          have hne : (sk l).length ≠ 0 := fun e => hd_ne (l := l) (by omega) (List.eq_nil_of_length_eq_zero e)
          rw [List.length_drop] at this
          simp only [hw]; omega
      · rw [if_neg c1] at h ⊢
        by_cases c3 : hd l = 123
        · rw [if_pos c3] at h ⊢
          by_cases c2 : 64 ≤ d
          · rw [if_pos c2] at h; simp at h
          · rw [if_neg c2] at h ⊢
            have := im _ _ _ h
            have hne : (sk l).length ≠ 0 := fun e => hd_ne (l := l) (by omega) (List.eq_nil_of_length_eq_zero e)
            rw [List.length_drop] at this
            simp only [hw]; omega
        · rw [if_neg c3] at h ⊢
          by_cases c4 : hd l = 34
          · rw [if_pos c4] at h ⊢
            by_cases c5 : (rq (sk l)).2.2 = 0
            · rw [if_pos c5]
              have := rq_len2 (sk l) c5 (hd_ne (by omega))
              show key.size + (rq (sk l)).1.toArray.size + 1 + 0 + _ ≤ _
              rw [List.size_toArray]; simp only; omega
            · rw [if_neg c5] at h; exact absurd h c5
          · rw [if_neg c4] at h ⊢
            split at h
            · rename_i c6
              rw [if_pos c6]
              split at h
              · rename_i c7
                rw [if_pos c7]
                have := nums_pos _ c7
                have h9 := nums_le (sk l)
                show key.size + 0 + 1 + 0 + _ ≤ _
                simp only [List.length_drop]; omega
              · simp at h
            · rename_i c6
              rw [if_neg c6]
              have := wd_wt (sk l) d key h
              omega
    · rw [pms] at h ⊢
      have h1 := tk1_len l (en ob)
      split at h
      · rename_i c
        rw [if_pos c]
        simp only [wt]; omega
      · rename_i c
        rw [if_neg c]
        have := il _ _ _ _ h
        omega
    · rw [pml] at h ⊢
      cases ob with
      | true =>
        rw [if_pos rfl] at h ⊢
        split at h
        · rename_i c
          rw [if_pos c]
          have h1 := pk_len2 l keys c
          have := ia _ d true _ (l.length) (fun e => by have := iv _ _ _ e; omega) h
          exact this
        · rename_i c; exact absurd h c
      | false =>
        rw [if_neg (by decide)] at h ⊢
        exact ia _ d false _ l.length (fun e => by have := iv _ _ _ e; have he : e0.size = 0 := rfl; omega) h
theorem JV.len {K : Node} {rows : List S59} {t : B} (h : JV K rows t) : match K with
    | .v _ key => t.length + 6 * key.size + 4 ≤ 30 * wt rows
    | .m _ _ _ _ => t.length ≤ 30 * wt rows := by
  induction h with
  | null d key => show 4 + 6 * key.size + 4 ≤ 30 * (key.size + 0 + 1 + 0); omega
  | fls d key => show 5 + 6 * key.size + 4 ≤ 30 * (key.size + 0 + 1 + 0); omega
  | tru d key => show 4 + 6 * key.size + 4 ≤ 30 * (key.size + 0 + 1 + 0); omega
  | num d key n h => have := itoa_len n h; show _ + 6 * key.size + 4 ≤ 30 * (key.size + 0 + 1 + 0); omega
  | str d key s h =>
    have := inner_size s
    show (quoted s.data.toList).length + 6 * key.size + 4 ≤ 30 * (key.size + s.size + 1 + 0)
    rw [quoted_len]; omega
  | arr d key rows t h hm im =>
    show (91 :: (t ++ [93])).length + 6 * key.size + 4 ≤ 30 * (key.size + 0 + 1 + wt rows)
    have : t.length ≤ 30 * wt rows := im
    simp only [List.length_cons, List.length_append, List.length_nil]; omega
  | obj d key rows t h hm im =>
    show (123 :: (t ++ [125])).length + 6 * key.size + 4 ≤ 30 * (key.size + 0 + 1 + wt rows)
    have : t.length ≤ 30 * wt rows := im
    simp only [List.length_cons, List.length_append, List.length_nil]; omega
  | none => exact Nat.zero_le _
  | elem d keys fst rows t rows' t' hv hm iv im =>
    have h1 : t.length + 6 * e0.size + 4 ≤ 30 * wt rows := iv
    have h2 : t'.length ≤ 30 * wt rows' := im
    have h3 : (sepa fst).length ≤ 1 := by cases fst <;> decide
    show (sepa fst ++ (t ++ t')).length ≤ 30 * wt (rows ++ rows')
    rw [wt_app]
    simp only [List.length_append]; omega
  | memb d keys fst key hk hn rows t rows' t' hv hm iv im =>
    have h1 : t.length + 6 * key.size + 4 ≤ 30 * wt rows := iv
    have h2 : t'.length ≤ 30 * wt rows' := im
    have h3 : (sepa fst).length ≤ 1 := by cases fst <;> decide
    have h4 := inner_size key
    have h5 := quoted_len key.data.toList
    show (sepa fst ++ (quoted key.data.toList ++ (58 :: (t ++ t')))).length ≤ 30 * wt (rows ++ rows')
    rw [wt_app]
    simp only [List.length_append, List.length_cons]; omega
/-- the whole parser -/
def topS (l : B) : List S59 × Int := if (pv (3 * l.length + 1) l 0 e0).1 = 0 then (if sk (pv (3 * l.length + 1) l 0 e0).2.1 ≠ [] then ([], 80) else ((pv (3 * l.length + 1) l 0 e0).2.2, 0)) else ([], (pv (3 * l.length + 1) l 0 e0).1)
theorem parse_top (s : ByteArray) (hs : s.size ≤ 1073741824) (k : Nat) (hk : 4 * s.size + 60 ≤ k) : json_Parse.f k s = some (topS s.data.toList) := by
  have hl := data_length s
  obtain ⟨C, hC⟩ : ∃ C, k = (3 * s.data.toList.length + 1) + C := ⟨k - (3 * s.data.toList.length + 1), by omega⟩
  obtain ⟨p', o', e1, e2, e3⟩ := (sim_all s (by omega) C (by omega) (3 * s.data.toList.length + 1)).1 s.data.toList 0 e0 0 [] List.drop_zero (Nat.zero_le _) (by omega) (by rw [List.length_nil]; omega) ((p_total _).1 _ _ _ (Nat.le_refl _))
  unfold json_Parse.f topS
  rw [if_pos (by omega), hC, show z0 = ⟨((0 : Nat) : Int), 0, e0, ⟨#[]⟩, 0⟩ from rfl, e1, Option.bind_some]
  simp only
  rw [if_pos e2]
  by_cases c : (pv (3 * s.data.toList.length + 1) s.data.toList 0 e0).1 = 0
  · rw [if_pos c, if_pos c]
    obtain ⟨f1, f2⟩ := e3 c
    obtain ⟨_, _, _, g4⟩ := drop_sk s p' _ f1 e2
    by_cases c2 : sk (pv (3 * s.data.toList.length + 1) s.data.toList 0 e0).2.1 ≠ []
    · rw [if_pos (g4.2 c2), if_pos c2]
    · rw [if_neg (fun x => c2 (g4.1 x)), if_neg c2, f2]; rfl
  · rw [if_neg c, if_neg c]
/-- what is read right is a value -/
theorem top_sound (l : B) (h : (topS l).2 = 0) : ∃ t, JV (.v 0 e0) (topS l).1 t ∧ t.length ≤ 30 * l.length := by
  unfold topS at h ⊢
  by_cases c : (pv (3 * l.length + 1) l 0 e0).1 = 0
  · rw [if_pos c] at h ⊢
    by_cases c2 : sk (pv (3 * l.length + 1) l 0 e0).2.1 ≠ []
    · rw [if_pos c2] at h; simp at h
    · rw [if_neg c2]
      obtain ⟨t, ht⟩ := (p_sound (3 * l.length + 1)).1 l 0 e0 (by omega) c
      refine ⟨t, ht, ?_⟩
      have h1 : t.length + 6 * e0.size + 4 ≤ 30 * wt (pv (3 * l.length + 1) l 0 e0).2.2 := ht.len
      have h2 := (p_wt (3 * l.length + 1)).1 l 0 e0 c
      have he : e0.size = 0 := rfl
      omega
  · rw [if_neg c] at h; exact absurd h c
theorem top_err (l : B) (h : (topS l).2 ≠ 0) : (topS l).1 = [] := by
  unfold topS at h ⊢
  split
  · rename_i c
    rw [if_pos c] at h
    split
    · rfl
    · rename_i c2
      rw [if_neg c2] at h; exact absurd rfl h
  · rfl
/-- a value's text is read as it -/
theorem top_text {rows : List S59} {t : B} (h : JV (.v 0 e0) rows t) : topS t = (rows, 0) := by
  have h1 : pv (3 * t.length + 1) (t ++ []) 0 e0 = (0, [], rows) := h.parse (by omega) [] (3 * t.length + 1) rfl (by simp)
  rw [List.append_nil] at h1
  unfold topS
  rw [h1, if_pos rfl, if_neg (by simp [sk])]
end Go.Proofs.YthhmmaihbjhhgaaDoor.Giv
namespace Go.Proofs.YthhmmaihbjhhgaaDoor.Giv
open Go.RowKit Go.Proofs.YthhmmaihbjhhgaaDoorW.PrintWords Go.Proofs.YthhmmaihbjhhgaaDoorW.PrintLast Go.Proofs.YthhmmaihbjhhgaaDoorW.PrintMore
open Go.Proofs.YthhmmaihbjhhgaaDoor.U1 Go.Proofs.YthhmmaihbjhhgaaDoor.Q1 Go.Proofs.YthhmmaihbjhhgaaDoor.J0 Go.Proofs.YthhmmaihbjhhgaaDoor.J1
set_option linter.unusedSimpArgs false
set_option linter.unusedVariables false
def toO (x : S59) : S81 := ⟨x.f0, x.f1, x.f2, x.f3, x.f4⟩
theorem take_T59 (l : List S59) (j : Nat) (h : j < l.length) : l.take (j + 1) = l.take j ++ [rd_T59 l (j : Int)] := by
  rw [List.take_add_one]
  congr 1
  simp [rd_T59, List.getD, h]
def cracknellaw08_Olds.f (l : List S59) : Option (List S81) := if l.length * 56 ≤ 140737488355328 then some (l.map toO) else none
set_option maxHeartbeats 4000000 in
set_option maxRecDepth 100000 in
theorem cracknellaw08_Olds.calls (A0 : Option Addr) (c0 : Nat) (l0 : List S59) (r : List S81) (w : World) (hr0 : Kd.C k59 w A0 l0.length l0) (hc0 : l0.length ≤ c0) (h : cracknellaw08_Olds.f l0 = some r) :
    Calls Tryd.prog 45 #[.slice A0 l0.length c0] w fun e w' => ∃ v0_ : Value, e = .returned v0_ ∧ Kd.R k81 81 w' w.heap.size (fun _ => True) v0_ r ∧ Below w.heap.size w w' := by
  unfold cracknellaw08_Olds.f at h
  by_cases hl : l0.length * 56 ≤ 140737488355328
  · rw [if_pos hl] at h
    cases h
    have HC := Aside0.mk hr0
    have HL := Aside0.mk hl
    have HN0 : Aside0 (Kd.R k81 81 w w.heap.size (fun _ => True) (.slice none 0 0) ((l0.take 0).map toO)) := ⟨Kd.R_nil _ _ _ _ _⟩
    clear hr0 hc0 hl
    go_enter Tryd.func45, Tryd.ntmps45
    go_wp2_with fail
    go_loopg [3, 8] l0.length (fun kq v3 v8 wr => ∃ j : Nat, kq = l0.length - j ∧ j ≤ l0.length ∧ v8 = .int .i64 (j : Int) ∧ Aside0 (Kd.R k81 81 wr w.heap.size (fun _ => True) v3 ((l0.take j).map toO)) ∧ Aside0 (Below w.heap.size w wr))
    case atStart => exact ⟨0, rfl, Nat.zero_le _, rfl, HN0, ⟨Below.refl _ _⟩⟩
    case round =>
      clear HN0
      obtain ⟨j, hkq, hjl, rfl, HR, HB⟩ := hrel
      have hgl : j < 9223372036854775807 := by have := HL.out; omega
      by_cases hlt : j < l0.length
      · obtain ⟨ad, hA, a0, a1, a2, a3, a4⟩ := at_T59 (Kd.C_below HC.out HB.out) (j : Int) (by omega) (by omega)
        subst hA
        have HX := Aside0.mk (take_T59 l0 j hlt)
        obtain ⟨⟨f0, f1, f2, f3, f4⟩, hx⟩ : ∃ x, rd_T59 l0 (j : Int) = x := ⟨_, rfl⟩
        rw [hx] at a0 a1 a2 a3 a4 HX
        simp only [Int.toNat_natCast] at a0 a1 a2 a3 a4
        clear hx
        have HW1 : Aside0 (Below wr.heap.size wr (wr.alloc (.cells #[.int .i64 f0, .int .i64 f1, .string f2, .string f3, .int .i64 f4] 59))) := ⟨below_alloc (Below.refl _ _) _⟩
        have HR1 := Aside0.mk (Kd.R_below HR.out HW1.out)
        have HB1 := Aside0.mk (below_step HB.out HW1.out)
        have HLn : Aside0 ((((l0.take j).map toO).length + 1) * 56 ≤ 140737488355328) := ⟨by rw [List.length_map, List.length_take]; have := HL.out; omega⟩
        obtain ⟨A3, c3, rfl⟩ := Kd.R_slice HR.out
        go_wp2_with ((at_builtin; refine Kd.R_append k81 (w0 := w) (W := wr.alloc (.cells #[.int .i64 f0, .int .i64 f1, .string f2, .string f3, .int .i64 f4] 59)) w.heap.size rfl (.tmp 12) (.tmp 14) 47 81 (.agg #[.int .i64 0, .int .i64 0, .string ⟨#[]⟩, .string ⟨#[]⟩, .int .i64 0]) 56 rfl Tryd.underlying47 info81 rfl (by decide) (by decide) _ ((l0.take j).map toO) ⟨f0, f1, f2, f3, f4⟩ [.int .i64 f0, .int .i64 f1, .string f2, .string f3, .int .i64 f4] (fun _ => True) (fun _ => False) rfl (congrArg (fun q => Value.slice (some ⟨q, 0, none⟩) 1 1) (alloc_size wr _).symm) (k81_mkM _ _ _ ⟨f0, f1, f2, f3, f4⟩) (fun _ h => h.elim) (fun _ _ => trivial) HR1.out HB1.out HB1.out.size HLn.out ?_; intro v9 w9 hO9 hB9 hg9 hA9; have HO9 := Aside0.mk hO9; have HB9 := Aside0.mk hB9; clear hO9 hB9 hg9 hA9))
        go_roundg (l0.length - (j + 1))
        case measure => omega
        case rel => exact ⟨j + 1, rfl, hlt, by go_num, ⟨by rw [HX.out, List.map_append]; exact HO9.out⟩, HB9⟩
      · obtain rfl : j = l0.length := by omega
        have HR2 := Aside0.mk HR.out
        have hjl3 : ¬ (l0.length : Int) < (l0.length : Int) := by omega
        go_wp2_with fail
        go_ret
        exact ⟨_, rfl, by have := HR.out; rw [List.take_length] at this; exact this, HB.out⟩
  · rw [if_neg hl] at h; cases h
end Go.Proofs.YthhmmaihbjhhgaaDoor.Giv
namespace Go.Proofs.YthhmmaihbjhhgaaDoor.J2
open Go.Proofs.YthhmmaihbjhhgaaDoor.Giv Go.Proofs.YthhmmaihbjhhgaaDoor.U1 Go.Proofs.YthhmmaihbjhhgaaDoor.Q1 Go.Proofs.YthhmmaihbjhhgaaDoor.J0 Go.Proofs.YthhmmaihbjhhgaaDoor.J1 Go.RowKit Go.Proofs.YthhmmaihbjhhgaaDoorW.PrintWords Go.Proofs.YthhmmaihbjhhgaaDoorW.PrintLast Go.Proofs.YthhmmaihbjhhgaaDoorW.PrintMore
attribute [local go_sem] max2_int min2_int max_two min_two max_three min_three max_four min_four   -- for this text's walks alone
set_option linter.unusedVariables false
set_option linter.unusedSimpArgs false
def errW : Option Int → Value
  | none => .nilIface
  | some c => .iface 0 (.int .i64 c)
theorem errW_none : errW none = .nilIface := rfl
theorem errW_some (c : Int) : errW (some c) = .iface 0 (.int .i64 c) := rfl
end Go.Proofs.YthhmmaihbjhhgaaDoor.J2
