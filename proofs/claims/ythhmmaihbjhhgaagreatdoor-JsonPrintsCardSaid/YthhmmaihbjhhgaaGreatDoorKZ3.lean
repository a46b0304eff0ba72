/- What the proof of JsonPrints stands on, part 3: cut and merged by a program out of this session's texts. -/
import Derived.Test.YthhmmaihbjhhgaaGreatDoorKZ2
import Derived.Lib.MapLaws
import Derived.Lib.Strings
import Derived.OpenShut
import Derived.Test.YthhmmaihbjhhgaaGreatDoorProg
import Derived.Below
import Derived.Deep.Draws
import Derived.Deep.AppendLies
import Derived.Maps.AppendAt
import Derived.OwnWalk
import Derived.Laws.BytesArg
import Derived.Laws.MakeOwn
import Derived.Laws.OwnMore
import Derived.Deep.OwnRows
import Derived.Tactics
import Derived.Lib.ConvBytes
import Derived.Laws.Slices
import Derived.WalkKit
import Derived.KernelRfl
import Derived.RowKit3
import Derived.Deep.LoopGhost
import Derived.Deep.QuietTactic
import Derived.BigQuiet
import Derived.WideLaws
import Derived.Deep.DeepCutAuto
import Derived.Deep.CutBlock
import Derived.Deep.RegionHeld3
import Derived.Laws.Rows
import Derived.Lib.AppendStr
import Derived.ArgAppend
import Derived.Laws.IdiomCopy
import Derived.OrdersHeld
import Derived.Laws.BitsLemmas
import Derived.RowKit
set_option linter.unusedVariables false
set_option linter.unusedSimpArgs false
namespace Go.Proofs.YthhmmaihbjhhgaaGreatDoor.Giv
open Go.RowKit Go.Proofs.YthhmmaihbjhhgaaGreatDoorW.PrintWords Go.Proofs.YthhmmaihbjhhgaaGreatDoorW.PrintLast Go.Proofs.YthhmmaihbjhhgaaGreatDoorW.PrintMore
open Go.Proofs.YthhmmaihbjhhgaaGreatDoor.U1
theorem w64 {x : Int} (h0 : -9223372036854775808 ≤ x) (h1 : x ≤ 9223372036854775807) : wrap64 x = x := by unfold wrap64; omega
theorem letter_iff (r : Int) : letterB r = true ↔ (0 ≤ r ∧ r ≤ 1114111 ∧ (r < 55296 ∨ 57343 < r)) := by unfold letterB; exact decide_eq_true_iff
abbrev enc (r : Int) : List UInt8 := Lib.encodeRune r
theorem strOfNums_list (xs : List Int) : (strOfNums xs).data.toList = xs.map fun n => UInt8.ofNat n.toNat := rfl
theorem ofList_eq {a b : ByteArray} (h : a.data.toList = b.data.toList) : a = b := by
 cases a; cases b; simp at h; congr
theorem encode_enc (r : Int) (h : letterB r = true) : Utf8.encode r = ⟨(enc r).toArray⟩ := by
 obtain ⟨h0, h1, h2⟩ := (letter_iff r).1 h
 obtain ⟨n, rfl⟩ : ∃ n : Nat, r = n := ⟨r.toNat, by omega⟩
 have hv : Utf8.valid (n : Int) = true := by unfold Utf8.valid; simp; omega
 unfold Utf8.encode enc Lib.encodeRune
 simp only [hv, if_true, Int.toNat_natCast]
 by_cases a : n < 128
 ·rw [if_pos a, Lib.encodeRuneZ, if_pos (by omega)]; simp [Nat.toUInt8]
 ·rw [if_neg a]
  by_cases b : n < 2048
  ·rw [if_pos b, Lib.encodeRuneZ, if_neg (by omega), if_pos (by omega)]
   have e1 : ((192 : Int) + (n : Int) / 64).toNat = 192 + n / 64 := by omega
   have e2 : ((128 : Int) + (n : Int) % 64).toNat = 128 + n % 64 := by omega
   simp only [List.map_cons, List.map_nil, e1, e2]
  ·rw [if_neg b]
   by_cases c : n < 65536
   ·rw [if_pos c, Lib.encodeRuneZ, if_neg (by omega), if_neg (by omega), if_pos (by omega)]
    have e1 : ((224 : Int) + (n : Int) / 4096).toNat = 224 + n / 4096 := by omega
    have e2 : ((128 : Int) + (n : Int) / 64 % 64).toNat = 128 + n / 64 % 64 := by omega
    have e3 : ((128 : Int) + (n : Int) % 64).toNat = 128 + n % 64 := by omega
    simp only [List.map_cons, List.map_nil, e1, e2, e3]
   ·rw [if_neg c, Lib.encodeRuneZ, if_neg (by omega), if_neg (by omega), if_neg (by omega), if_pos (by omega)]
    have e1 : ((240 : Int) + (n : Int) / 262144).toNat = 240 + n / 262144 := by omega
    have e2 : ((128 : Int) + (n : Int) / 4096 % 64).toNat = 128 + n / 4096 % 64 := by omega
    have e3 : ((128 : Int) + (n : Int) / 64 % 64).toNat = 128 + n / 64 % 64 := by omega
    have e4 : ((128 : Int) + (n : Int) % 64).toNat = 128 + n % 64 := by omega
    simp only [List.map_cons, List.map_nil, e1, e2, e3, e4]
def putS (r : Int) : ByteArray × Bool := if letterB r = true then (⟨(enc r).toArray⟩, true) else (⟨#[]⟩, false)
theorem put_S (k : Nat) (r : Int) (hk : 0 < k) : utf_Put.f k r = some (putS r) := by
 rw [put_f k r hk, putS]
 by_cases h : letterB r = true
 ·rw [if_pos h, if_pos h, encode_enc r h]
 ·rw [if_neg h, if_neg h]
theorem refLetter (r : Int) : cracknelref05_Letter.f r = some (letterB r) := by
 unfold cracknelref05_Letter.f letterB
 by_cases h0 : 0 ≤ r
 ·by_cases h1 : r ≤ 1114111
  ·by_cases h2 : r < 55296
   ·rw [if_pos h0, if_pos h1, if_pos h2, decide_eq_true ⟨h0, h1, .inl h2⟩]
   ·rw [if_pos h0, if_pos h1, if_neg h2]
    congr 1
    rw [decide_eq_decide]
    omega
  ·rw [if_pos h0, if_neg h1, decide_eq_false (by omega)]
 ·rw [if_neg h0, decide_eq_false (by omega)]
theorem refPut (r : Int) : cracknelref05_Put.f r = some (putS r) := by
 unfold cracknelref05_Put.f
 rw [refLetter]
 simp only [Option.bind_some]
 unfold putS
 by_cases h : letterB r = true
 ·rw [if_pos h, if_pos h]
  obtain ⟨h0, h1, h2⟩ := (letter_iff r).1 h
  rw [Int.tdiv_eq_ediv_of_nonneg h0, Int.tdiv_eq_ediv_of_nonneg h0, Int.tdiv_eq_ediv_of_nonneg h0, Int.tmod_eq_emod_of_nonneg h0]
  rw [w64 (x := r / 64) (by omega) (by omega), w64 (x := r / 4096) (by omega) (by omega), w64 (x := r / 262144) (by omega) (by omega)]
  rw [Int.tmod_eq_emod_of_nonneg (a := r / 64) (by omega), Int.tmod_eq_emod_of_nonneg (a := r / 4096) (by omega)]
  rw [w64 (x := 192 + r / 64) (by omega) (by omega), w64 (x := 128 + r % 64) (by omega) (by omega), w64 (x := 224 + r / 4096) (by omega) (by omega), w64 (x := 128 + r / 64 % 64) (by omega) (by omega), w64 (x := 240 + r / 262144) (by omega) (by omega), w64 (x := 128 + r / 4096 % 64) (by omega) (by omega)]
  have fin : ∀ xs : List Int, (xs = Lib.encodeRuneZ r) → some (strOfNums xs, true) = some ((⟨(enc r).toArray⟩ : ByteArray), true) := by
   intro xs e; subst e; congr 2
  by_cases a : r < 128
  ·rw [if_pos a]; exact fin _ (by rw [Lib.encodeRuneZ, if_pos (by omega)]; congr 1; omega)
  ·rw [if_neg a]
   by_cases b : r < 2048
   ·rw [if_pos b]; exact fin _ (by rw [Lib.encodeRuneZ, if_neg (by omega), if_pos (by omega)]; congr 1; omega; congr 1; omega)
   ·rw [if_neg b]
    by_cases c : r < 65536
    ·rw [if_pos c]; exact fin _ (by rw [Lib.encodeRuneZ, if_neg (by omega), if_neg (by omega), if_pos (by omega)]; congr 1; omega; congr 1; omega; congr 1; omega)
    ·rw [if_neg c]; exact fin _ (by rw [Lib.encodeRuneZ, if_neg (by omega), if_neg (by omega), if_neg (by omega), if_pos (by omega)]; congr 1; omega; congr 1; omega; congr 1; omega; congr 1; omega)
 ·rw [if_neg h, if_neg h]
theorem decodeGo_L (s : ByteArray) (h : s.data.toList ≠ []) : Lib.decodeGo s = Lib.decodeL s.data.toList := by
 unfold Lib.decodeGo
 have hs : s.size ≠ 0 := by
  intro e; apply h; apply List.eq_nil_of_length_eq_zero; rw [data_length]; exact e
 rw [if_neg hs, ← Lib.decodeL_drop s 0, List.drop_zero]
def tk (l : List UInt8) : Option (Nat × Nat) := if l = [] ∨ ((Lib.decodeL l).1 = 65533 ∧ (Lib.decodeL l).2 = 1) then none else some (Lib.decodeL l)
def takeS (s : ByteArray) : Int × Int × Bool := match tk s.data.toList with | none => (0, 0, false) | some (r, n) => ((r : Int), (n : Int), true)
theorem decodeL_hi (l : List UInt8) : (Lib.decodeL l).1 ≤ 2147483647 := by unfold Lib.decodeL; exact decode_le _ _
theorem take_S (s : ByteArray) : utf_Take.f s = some (takeS s) := by
 unfold utf_Take.f utf8_DecodeRuneInString.f takeS tk
 rw [Option.bind_some]
 by_cases hl : s.data.toList = []
 ·rw [if_pos (Or.inl hl)]
  have hs : s.size = 0 := by rw [← data_length, hl]; rfl
  unfold Lib.decodeGo
  rw [if_pos hs]; rfl
 ·rw [decodeGo_L s hl]
  have h1 := Lib.decodeL_width s.data.toList
  have h2 := decodeL_hi s.data.toList
  generalize Lib.decodeL s.data.toList = d at h1 h2
  obtain ⟨r, n⟩ := d
  simp only at h1 h2 ⊢
  by_cases a : r = 65533
  ·by_cases b : n = 1
   ·rw [if_pos (Or.inr ⟨a, b⟩), if_pos (by omega), if_pos (by omega)]
   ·rw [if_pos (show (r : Int) = 65533 by omega), if_neg (show ¬ (n : Int) < 2 by omega), if_neg (show ¬ (s.data.toList = [] ∨ (r = 65533 ∧ n = 1)) from fun hh => hh.elim hl (fun h => b h.2)), w64 (by omega) (by omega)]
  ·rw [if_neg (show ¬ (r : Int) = 65533 by omega), if_neg (show ¬ (s.data.toList = [] ∨ (r = 65533 ∧ n = 1)) from fun hh => hh.elim hl (fun h => a h.1)), w64 (by omega) (by omega)]
theorem u8 (n : Nat) (h : n < 256) : (n.toUInt8).toNat = n := by simp [Nat.toUInt8]; omega
theorem decode_enc (n : Nat) (h : letterB (n : Int) = true) (x : List UInt8) : Lib.decodeL (enc (n : Int) ++ x) = (n, (enc (n : Int)).length) := by
 obtain ⟨h0, h1, h2⟩ := (letter_iff _).1 h
 rw [Lib.decodeL_N]
 unfold enc Lib.encodeRune
 by_cases a : n < 128
 ·rw [Lib.encodeRuneZ, if_pos (by omega)]
  have e : ((n : Int).toNat.toUInt8).toNat = n := by rw [Int.toNat_natCast]; exact u8 n (by omega)
  simp only [List.map_cons, List.map_nil, List.cons_append, List.nil_append, List.getD_cons_zero, e]
  unfold Lib.decodeN
  rw [if_pos a]; rfl
 ·by_cases b : n < 2048
  ·rw [Lib.encodeRuneZ, if_neg (by omega), if_pos (by omega)]
   have e0 : (((192 : Int) + (n : Int) / 64).toNat.toUInt8).toNat = 192 + n / 64 := by rw [show ((192 : Int) + (n : Int) / 64).toNat = 192 + n / 64 by omega]; exact u8 _ (by omega)
   have e1 : (((128 : Int) + (n : Int) % 64).toNat.toUInt8).toNat = 128 + n % 64 := by rw [show ((128 : Int) + (n : Int) % 64).toNat = 128 + n % 64 by omega]; exact u8 _ (by omega)
   simp only [List.map_cons, List.map_nil, List.cons_append, List.nil_append, List.getD_cons_zero, List.getD_cons_succ, e0, e1, List.length_cons, List.length_nil]
   unfold Lib.decodeN
   rw [if_neg (by omega), if_pos (by omega), if_pos (by omega)]
   congr 1; omega
  ·by_cases c : n < 65536
   ·rw [Lib.encodeRuneZ, if_neg (by omega), if_neg (by omega), if_pos (by omega)]
    have e0 : (((224 : Int) + (n : Int) / 4096).toNat.toUInt8).toNat = 224 + n / 4096 := by rw [show ((224 : Int) + (n : Int) / 4096).toNat = 224 + n / 4096 by omega]; exact u8 _ (by omega)
    have e1 : (((128 : Int) + (n : Int) / 64 % 64).toNat.toUInt8).toNat = 128 + n / 64 % 64 := by rw [show ((128 : Int) + (n : Int) / 64 % 64).toNat = 128 + n / 64 % 64 by omega]; exact u8 _ (by omega)
    have e2 : (((128 : Int) + (n : Int) % 64).toNat.toUInt8).toNat = 128 + n % 64 := by rw [show ((128 : Int) + (n : Int) % 64).toNat = 128 + n % 64 by omega]; exact u8 _ (by omega)
    simp only [List.map_cons, List.map_nil, List.cons_append, List.nil_append, List.getD_cons_zero, List.getD_cons_succ, e0, e1, e2, List.length_cons, List.length_nil]
    unfold Lib.decodeN
    rw [if_neg (by omega), if_neg (by omega), if_pos (by omega), if_pos (by omega)]
    congr 1; omega
   ·rw [Lib.encodeRuneZ, if_neg (by omega), if_neg (by omega), if_neg (by omega), if_pos (by omega)]
    have e0 : (((240 : Int) + (n : Int) / 262144).toNat.toUInt8).toNat = 240 + n / 262144 := by rw [show ((240 : Int) + (n : Int) / 262144).toNat = 240 + n / 262144 by omega]; exact u8 _ (by omega)
    have e1 : (((128 : Int) + (n : Int) / 4096 % 64).toNat.toUInt8).toNat = 128 + n / 4096 % 64 := by rw [show ((128 : Int) + (n : Int) / 4096 % 64).toNat = 128 + n / 4096 % 64 by omega]; exact u8 _ (by omega)
    have e2 : (((128 : Int) + (n : Int) / 64 % 64).toNat.toUInt8).toNat = 128 + n / 64 % 64 := by rw [show ((128 : Int) + (n : Int) / 64 % 64).toNat = 128 + n / 64 % 64 by omega]; exact u8 _ (by omega)
    have e3 : (((128 : Int) + (n : Int) % 64).toNat.toUInt8).toNat = 128 + n % 64 := by rw [show ((128 : Int) + (n : Int) % 64).toNat = 128 + n % 64 by omega]; exact u8 _ (by omega)
    simp only [List.map_cons, List.map_nil, List.cons_append, List.nil_append, List.getD_cons_zero, List.getD_cons_succ, e0, e1, e2, e3, List.length_cons, List.length_nil]
    unfold Lib.decodeN
    rw [if_neg (by omega), if_neg (by omega), if_neg (by omega), if_pos (by omega), if_pos (by omega)]
    congr 1; omega
theorem enc_len_pos (r : Int) : 1 ≤ (enc r).length := by
 unfold enc Lib.encodeRune Lib.encodeRuneZ
 rw [List.length_map]
 repeat' split
 all_goals simp
theorem enc_ne (r : Int) : enc r ≠ [] := fun e => by have := enc_len_pos r; rw [e] at this; simp at this
theorem enc_len3 (r : Int) (h : 2048 ≤ r) : 3 ≤ (enc r).length := by
 unfold enc Lib.encodeRune Lib.encodeRuneZ
 rw [List.length_map]
 repeat' split
 all_goals first | (simp; done) | omega
theorem tk_enc (n : Nat) (h : letterB (n : Int) = true) (x : List UInt8) : tk (enc (n : Int) ++ x) = some (n, (enc (n : Int)).length) := by
 unfold tk
 rw [decode_enc n h x, if_neg]
 rintro (e | ⟨e1, e2⟩)
 ·exact enc_ne _ (List.append_eq_nil_iff.1 e).1
 ·simp only at e1 e2
  have := enc_len3 (n : Int) (by omega)
  omega
theorem tk_some {l : List UInt8} {r n : Nat} (h : tk l = some (r, n)) : letterB (r : Int) = true ∧ enc (r : Int) = l.take n ∧ n ≤ l.length ∧ 1 ≤ n := by
 unfold tk at h
 split at h
 ·cases h
 ·rename_i hc
  have hne : l ≠ [] := fun e => hc (.inl e)
  have hv : ¬ ((Lib.decodeL l).1 = 65533 ∧ (Lib.decodeL l).2 = 1) := fun e => hc (.inr e)
  have he := Lib.encode_decode l hne hv
  have hle := Lib.decodeL_le l hne
  have hw := Lib.decodeL_width l
  have hd := Option.some.inj h
  rw [hd] at he hle hw hv
  refine ⟨?_, he, hle, hw⟩
  rw [letter_iff]
  rw [Lib.decodeL_N] at hd
  rcases Lib.decodeN_shape l.length (l.getD 0 0).toNat (l.getD 1 0).toNat (l.getD 2 0).toNat (l.getD 3 0).toNat with ⟨c, e⟩ | ⟨c1, c2, c3, cv, e⟩ | ⟨c1, c2, c3, c4, cv, cs, e⟩ | ⟨c1, c2, c3, c4, c5, cv, cs, e⟩ | e
  all_goals rw [e] at hd; simp only [Prod.mk.injEq] at hd; obtain ⟨rfl, rfl⟩ := hd
  ·omega
  ·omega
  ·omega
  ·omega
  ·exact absurd ⟨rfl, rfl⟩ hv
theorem tk_of {l : List UInt8} {r : Nat} (hr : letterB (r : Int) = true) {n : Nat} (h : enc (r : Int) = l.take n) (hn : n ≤ l.length) : tk l = some (r, n) := by
 have h2 := tk_enc r hr (l.drop n)
 rw [h, List.take_append_drop] at h2
 rw [h2, List.length_take]
 congr 2; omega
theorem btL (s : ByteArray) (i : Nat) : bt s (i : Int) = (((s.data.toList.getD i 0).toNat : Nat) : Int) := by
 unfold bt
 split
 ·rename_i h
  rw [Int.toNat_natCast] at h
  have hl : i < s.data.toList.length := by rw [data_length]; exact h
  rw [List.getD_eq_getElem?_getD, List.getElem?_eq_getElem hl]; simp; rfl
 ·rename_i h
  rw [Int.toNat_natCast] at h
  have hl : s.data.toList.length ≤ i := by rw [data_length]; omega
  rw [List.getD_eq_getElem?_getD, List.getElem?_eq_none hl]; rfl
def finR (s : ByteArray) (n : Int) (long : Nat) : Int × Int × Bool := if letterB n = true ∧ enc n = s.data.toList.take long then (n, (long : Int), true) else (0, 0, false)
theorem l0_done (k : Nat) (s : ByteArray) (long : Nat) (n i : Int) (hk : 0 < k) (hi : (long : Int) ≤ i) (hl : long ≤ s.size) : cracknelref05_Take.l0 k s (long : Int) n i = some (finR s n long) := by
 obtain ⟨k, rfl⟩ : ∃ m, k = m + 1 := ⟨k - 1, by omega⟩
 simp only [cracknelref05_Take.l0]
 rw [if_neg (by omega), refPut, Option.bind_some]
 unfold putS finR
 by_cases h : letterB n = true
 ·rw [if_pos h, if_pos (show ((⟨(enc n).toArray⟩ : ByteArray), true).2 = true from rfl), if_pos (by omega), if_pos (by omega), Int.toNat_natCast]
  have e : (s.extract 0 long).toList = s.data.toList.take long := by
   rw [Lib.toList_data, ByteArray.data_extract, Array.toList_extract]; simp
  rw [e]
  show (if (⟨(enc n).toArray⟩ : ByteArray).toList = _ then _ else _) = _
  rw [Lib.toList_data]
  by_cases h2 : enc n = s.data.toList.take long
  ·rw [if_pos h2, if_pos ⟨h, h2⟩]
  ·rw [if_neg h2, if_neg (fun hh => h2 hh.2)]
 ·rw [if_neg h, if_neg (by decide), if_neg (fun hh => h hh.1)]
theorem l0_step (k : Nat) (s : ByteArray) (long i m : Nat) (hi : i < long) (hl : long ≤ s.size) (hs : long ≤ 4) (hm : m < 1048576000000) :
  cracknelref05_Take.l0 (k + 1) s (long : Int) (m : Int) (i : Int) = cracknelref05_Take.l0 k s (long : Int) ((64 * m + (s.data.toList.getD i 0).toNat % 64 : Nat) : Int) ((i + 1 : Nat) : Int) := by
 have hb := UInt8.toNat_lt (s.data.toList.getD i 0)
 rw [cracknelref05_Take.l0, if_pos (by omega), if_pos (by omega), if_pos (by omega), btL, w64 (x := (((s.data.toList.getD i 0).toNat : Nat) : Int)) (by omega) (by omega), Int.tmod_eq_emod_of_nonneg (by omega), w64 (x := 64 * (m : Int)) (by omega) (by omega), w64 (by omega) (by omega), w64 (by omega) (by omega)]
 congr 1
def fstR (b : Nat) : Nat × Nat := if b < 128 then (1, b) else if 192 ≤ b ∧ b < 224 then (2, b - 192) else if 224 ≤ b ∧ b < 240 then (3, b - 224) else if 240 ≤ b ∧ b < 248 then (4, b - 240) else (0, 0)
theorem first_R (k b : Nat) (hk : 2 < k) (hb : b < 256) : cracknelref05_first.f k (b : Int) = some (((fstR b).1 : Int), ((fstR b).2 : Int)) := by
 obtain ⟨k, rfl⟩ : ∃ m, k = m + 1 + 1 := ⟨k - 2, by omega⟩
 unfold cracknelref05_first.f fstR
 by_cases a : b < 128
 ·rw [if_pos (by omega), if_pos a]; rfl
 ·rw [if_neg (show ¬ (b : Int) < 128 by omega), if_neg a]
  by_cases c : 192 ≤ b ∧ b < 224
  ·rw [if_pos (show (b : Int) ≥ 192 by omega), decide_eq_true (show (b : Int) < 224 by omega), if_pos c, cracknelref05_first.j0, if_pos rfl, w64 (by omega) (by omega)]
   congr 2; omega
  ·rw [if_neg c]
   by_cases d : 224 ≤ b ∧ b < 240
   ·rw [if_pos (show (b : Int) ≥ 192 by omega), decide_eq_false (show ¬ (b : Int) < 224 by omega), if_pos d, cracknelref05_first.j0, if_neg (by decide), if_pos (show (b : Int) ≥ 224 by omega), decide_eq_true (show (b : Int) < 240 by omega), cracknelref05_first.j1, if_pos rfl, w64 (by omega) (by omega)]
    congr 2; omega
   ·rw [if_neg d]
    by_cases e : 240 ≤ b ∧ b < 248
    ·rw [if_pos (show (b : Int) ≥ 192 by omega), decide_eq_false (show ¬ (b : Int) < 224 by omega), if_pos e, cracknelref05_first.j0, if_neg (by decide), if_pos (show (b : Int) ≥ 224 by omega), decide_eq_false (show ¬ (b : Int) < 240 by omega), cracknelref05_first.j1, if_neg (by decide), if_pos (show (b : Int) ≥ 240 by omega), if_pos (show (b : Int) < 248 by omega), w64 (by omega) (by omega)]
     congr 2; omega
    ·rw [if_neg e]
     by_cases f : 192 ≤ b
     ·rw [if_pos (show (b : Int) ≥ 192 by omega), decide_eq_false (show ¬ (b : Int) < 224 by omega), cracknelref05_first.j0, if_neg (by decide), if_pos (show (b : Int) ≥ 224 by omega), decide_eq_false (show ¬ (b : Int) < 240 by omega), cracknelref05_first.j1, if_neg (by decide), if_pos (show (b : Int) ≥ 240 by omega), if_neg (show ¬ (b : Int) < 248 by omega)]; rfl
     ·rw [if_neg (show ¬ (b : Int) ≥ 192 by omega), cracknelref05_first.j0, if_neg (by decide), if_neg (show ¬ (b : Int) ≥ 224 by omega), cracknelref05_first.j1, if_neg (by decide), if_neg (show ¬ (b : Int) ≥ 240 by omega)]; rfl
def acc (l : List UInt8) : Nat → Nat → Nat
 | 2, n => 64 * n + (l.getD 1 0).toNat % 64
 | 3, n => 64 * (64 * n + (l.getD 1 0).toNat % 64) + (l.getD 2 0).toNat % 64
 | 4, n => 64 * (64 * (64 * n + (l.getD 1 0).toNat % 64) + (l.getD 2 0).toNat % 64) + (l.getD 3 0).toNat % 64
 | _, n => n
def refTakeS (s : ByteArray) : Int × Int × Bool :=
 let d := fstR (s.data.toList.getD 0 0).toNat
 if s.size = 0 ∨ d.1 = 0 ∨ s.size < d.1 then (0, 0, false) else finR s ((acc s.data.toList d.1 d.2 : Nat) : Int) d.1
theorem fst_bd (b : Nat) (hb : b < 256) : (fstR b).1 ≤ 4 ∧ (fstR b).2 < 256 := by
 unfold fstR; repeat' split
 all_goals simp only; omega
theorem refTake (k : Nat) (s : ByteArray) (hk : 10 < k) : cracknelref05_Take.f k s = some (refTakeS s) := by
 obtain ⟨k, rfl⟩ : ∃ m, k = m + 1 + 1 + 1 + 1 + 1 := ⟨k - 5, by omega⟩
 have hb := UInt8.toNat_lt (s.data.toList.getD 0 0)
 unfold cracknelref05_Take.f refTakeS
 by_cases h0 : s.size = 0
 ·rw [if_pos (show (s.size : Int) = 0 by omega), if_pos (Or.inl h0)]
 ·rw [if_neg (show ¬ (s.size : Int) = 0 by omega), if_pos (show 0 < (s.size : Int) by omega), show (0 : Int) = ((0 : Nat) : Int) by rfl, btL, w64 (by omega) (by omega), first_R _ _ (by omega) hb, Option.bind_some]
  have hbd := fst_bd _ hb
  obtain ⟨⟨L, n⟩, hd⟩ : ∃ d, fstR (s.data.toList.getD 0 0).toNat = d := ⟨_, rfl⟩
  rw [hd] at hbd
  rw [hd]
  simp only at hbd ⊢
  by_cases h1 : L = 0
  ·rw [if_pos (show (L : Int) = ((0 : Nat) : Int) by omega), if_pos (Or.inr (Or.inl h1)), cracknelref05_Take.j0, if_pos rfl]; rfl
  ·rw [if_neg (show ¬ (L : Int) = ((0 : Nat) : Int) by omega), cracknelref05_Take.j0]
   by_cases h2 : s.size < L
   ·rw [if_pos (decide_eq_true (show (L : Int) > (s.size : Int) by omega)), if_pos (Or.inr (Or.inr h2))]; rfl
   ·rw [if_neg (show ¬ decide ((L : Int) > (s.size : Int)) = true by rw [decide_eq_true_iff]; omega), if_neg (show ¬ (s.size = 0 ∨ L = 0 ∨ s.size < L) by omega)]
    have hc1 := UInt8.toNat_lt (s.data.toList.getD 1 0)
    have hc2 := UInt8.toNat_lt (s.data.toList.getD 2 0)
    have hc : L = 1 ∨ L = 2 ∨ L = 3 ∨ L = 4 := by omega
    rw [show (1 : Int) = ((1 : Nat) : Int) by rfl]
    rcases hc with rfl | rfl | rfl | rfl
    ·rw [l0_done _ s 1 _ _ (by omega) (by omega) (by omega)]; rfl
    ·rw [l0_step _ s 2 1 n (by omega) (by omega) (by omega) (by omega), l0_done _ s 2 _ _ (by omega) (by omega) (by omega)]; rfl
    ·rw [l0_step _ s 3 1 n (by omega) (by omega) (by omega) (by omega), l0_step _ s 3 2 _ (by omega) (by omega) (by omega) (by omega), l0_done _ s 3 _ _ (by omega) (by omega) (by omega)]; rfl
    ·rw [l0_step _ s 4 1 n (by omega) (by omega) (by omega) (by omega), l0_step _ s 4 2 _ (by omega) (by omega) (by omega) (by omega), l0_step _ s 4 3 _ (by omega) (by omega) (by omega) (by omega), l0_done _ s 4 _ _ (by omega) (by omega) (by omega)]; rfl
theorem getD_app (a x : List UInt8) (i : Nat) (h : i < a.length) : (a ++ x).getD i 0 = a.getD i 0 := by
 rw [List.getD_eq_getElem?_getD, List.getD_eq_getElem?_getD, List.getElem?_append_left h]
theorem fst_enc (n : Nat) (h : letterB (n : Int) = true) (x : List UInt8) : (fstR ((enc (n : Int) ++ x).getD 0 0).toNat).1 = (enc (n : Int)).length ∧ acc (enc (n : Int) ++ x) (enc (n : Int)).length (fstR ((enc (n : Int) ++ x).getD 0 0).toNat).2 = n := by
 obtain ⟨h0, h1, h2⟩ := (letter_iff _).1 h
 unfold enc Lib.encodeRune
 by_cases a : n < 128
 ·rw [Lib.encodeRuneZ, if_pos (by omega)]
  have e : ((n : Int).toNat.toUInt8).toNat = n := by rw [Int.toNat_natCast]; exact u8 n (by omega)
  simp only [List.map_cons, List.map_nil, List.cons_append, List.nil_append, List.getD_cons_zero, e, List.length_cons, List.length_nil]
  unfold fstR; rw [if_pos a]; exact ⟨rfl, rfl⟩
 ·by_cases b : n < 2048
  ·rw [Lib.encodeRuneZ, if_neg (by omega), if_pos (by omega)]
   have e0 : (((192 : Int) + (n : Int) / 64).toNat.toUInt8).toNat = 192 + n / 64 := by rw [show ((192 : Int) + (n : Int) / 64).toNat = 192 + n / 64 by omega]; exact u8 _ (by omega)
   have e1 : (((128 : Int) + (n : Int) % 64).toNat.toUInt8).toNat = 128 + n % 64 := by rw [show ((128 : Int) + (n : Int) % 64).toNat = 128 + n % 64 by omega]; exact u8 _ (by omega)
   simp only [List.map_cons, List.map_nil, List.cons_append, List.nil_append, List.getD_cons_zero, List.getD_cons_succ, e0, List.length_cons, List.length_nil, acc]
   unfold fstR
   rw [if_neg (by omega), if_pos (by omega)]
   refine ⟨rfl, ?_⟩
   simp only [e1]; omega
  ·by_cases c : n < 65536
   ·rw [Lib.encodeRuneZ, if_neg (by omega), if_neg (by omega), if_pos (by omega)]
    have e0 : (((224 : Int) + (n : Int) / 4096).toNat.toUInt8).toNat = 224 + n / 4096 := by rw [show ((224 : Int) + (n : Int) / 4096).toNat = 224 + n / 4096 by omega]; exact u8 _ (by omega)
    have e1 : (((128 : Int) + (n : Int) / 64 % 64).toNat.toUInt8).toNat = 128 + n / 64 % 64 := by rw [show ((128 : Int) + (n : Int) / 64 % 64).toNat = 128 + n / 64 % 64 by omega]; exact u8 _ (by omega)
    have e2 : (((128 : Int) + (n : Int) % 64).toNat.toUInt8).toNat = 128 + n % 64 := by rw [show ((128 : Int) + (n : Int) % 64).toNat = 128 + n % 64 by omega]; exact u8 _ (by omega)
    simp only [List.map_cons, List.map_nil, List.cons_append, List.nil_append, List.getD_cons_zero, List.getD_cons_succ, e0, List.length_cons, List.length_nil, acc]
    unfold fstR
    rw [if_neg (by omega), if_neg (by omega), if_pos (by omega)]
    refine ⟨rfl, ?_⟩
    simp only [e1, e2]; omega
   ·rw [Lib.encodeRuneZ, if_neg (by omega), if_neg (by omega), if_neg (by omega), if_pos (by omega)]
    have e0 : (((240 : Int) + (n : Int) / 262144).toNat.toUInt8).toNat = 240 + n / 262144 := by rw [show ((240 : Int) + (n : Int) / 262144).toNat = 240 + n / 262144 by omega]; exact u8 _ (by omega)
    have e1 : (((128 : Int) + (n : Int) / 4096 % 64).toNat.toUInt8).toNat = 128 + n / 4096 % 64 := by rw [show ((128 : Int) + (n : Int) / 4096 % 64).toNat = 128 + n / 4096 % 64 by omega]; exact u8 _ (by omega)
    have e2 : (((128 : Int) + (n : Int) / 64 % 64).toNat.toUInt8).toNat = 128 + n / 64 % 64 := by rw [show ((128 : Int) + (n : Int) / 64 % 64).toNat = 128 + n / 64 % 64 by omega]; exact u8 _ (by omega)
    have e3 : (((128 : Int) + (n : Int) % 64).toNat.toUInt8).toNat = 128 + n % 64 := by rw [show ((128 : Int) + (n : Int) % 64).toNat = 128 + n % 64 by omega]; exact u8 _ (by omega)
    simp only [List.map_cons, List.map_nil, List.cons_append, List.nil_append, List.getD_cons_zero, List.getD_cons_succ, e0, List.length_cons, List.length_nil, acc]
    unfold fstR
    rw [if_neg (by omega), if_neg (by omega), if_neg (by omega), if_pos (by omega)]
    refine ⟨rfl, ?_⟩
    simp only [e1, e2, e3]; omega
theorem refTakeS_eq (s : ByteArray) : refTakeS s = takeS s := by
 have hsz : s.data.toList.length = s.size := data_length s
 unfold takeS
 cases ht : tk s.data.toList with
 | some d =>
  obtain ⟨r, n⟩ := d
  obtain ⟨hl, he, hn, h1⟩ := tk_some ht
  have hx : s.data.toList = enc (r : Int) ++ s.data.toList.drop n := by rw [he, List.take_append_drop]
  have hlen : (enc (r : Int)).length = n := by rw [he, List.length_take]; omega
  have hf := fst_enc r hl (s.data.toList.drop n)
  rw [← hx, hlen] at hf
  unfold refTakeS
  simp only
  rw [hf.1, if_neg (by omega), hf.2]
  unfold finR
  rw [if_pos ⟨hl, he⟩]
 | none =>
  unfold refTakeS
  simp only
  split
  ·rfl
  ·rename_i hc
   unfold finR
   split
   ·rename_i hh
    have := tk_of hh.1 hh.2 (by omega)
    rw [ht] at this; cases this
   ·rfl
def encN (n : Nat) : List Nat :=
 if n < 128 then [n] else if n < 2048 then [192 + n / 64, 128 + n % 64] else if n < 65536 then [224 + n / 4096, 128 + n / 64 % 64, 128 + n % 64] else [240 + n / 262144, 128 + n / 4096 % 64, 128 + n / 64 % 64, 128 + n % 64]
theorem enc_N (n : Nat) (h : letterB (n : Int) = true) : enc (n : Int) = (encN n).map Nat.toUInt8 ∧ ∀ x ∈ encN n, x < 256 := by
 obtain ⟨h0, h1, h2⟩ := (letter_iff _).1 h
 unfold enc Lib.encodeRune encN
 by_cases a : n < 128
 ·rw [Lib.encodeRuneZ, if_pos (by omega), if_pos a]
  exact ⟨by simp, by intro x hx; simp at hx; omega⟩
 ·by_cases b : n < 2048
  ·rw [Lib.encodeRuneZ, if_neg (by omega), if_pos (by omega), if_neg a, if_pos b]
   have e0 : ((192 : Int) + (n : Int) / 64).toNat = 192 + n / 64 := by omega
   have e1 : ((128 : Int) + (n : Int) % 64).toNat = 128 + n % 64 := by omega
   exact ⟨by simp only [List.map_cons, List.map_nil, e0, e1], by intro x hx; simp at hx; omega⟩
  ·by_cases c : n < 65536
   ·rw [Lib.encodeRuneZ, if_neg (by omega), if_neg (by omega), if_pos (by omega), if_neg a, if_neg b, if_pos c]
    have e0 : ((224 : Int) + (n : Int) / 4096).toNat = 224 + n / 4096 := by omega
    have e1 : ((128 : Int) + (n : Int) / 64 % 64).toNat = 128 + n / 64 % 64 := by omega
    have e2 : ((128 : Int) + (n : Int) % 64).toNat = 128 + n % 64 := by omega
    exact ⟨by simp only [List.map_cons, List.map_nil, e0, e1, e2], by intro x hx; simp at hx; omega⟩
   ·rw [Lib.encodeRuneZ, if_neg (by omega), if_neg (by omega), if_neg (by omega), if_pos (by omega), if_neg a, if_neg b, if_neg c]
    have e0 : ((240 : Int) + (n : Int) / 262144).toNat = 240 + n / 262144 := by omega
    have e1 : ((128 : Int) + (n : Int) / 4096 % 64).toNat = 128 + n / 4096 % 64 := by omega
    have e2 : ((128 : Int) + (n : Int) / 64 % 64).toNat = 128 + n / 64 % 64 := by omega
    have e3 : ((128 : Int) + (n : Int) % 64).toNat = 128 + n % 64 := by omega
    exact ⟨by simp only [List.map_cons, List.map_nil, e0, e1, e2, e3], by intro x hx; simp at hx; omega⟩
def letsN : Nat → List UInt8 → Option (List Int)
 | 0, _ => some []
 | n + 1, l => if l = [] then some [] else match tk l with | none => none | some (r, m) => (letsN n (l.drop m)).map fun x => (r : Int) :: x
def lets (l : List UInt8) : Option (List Int) := letsN l.length l
theorem letsN_of : ∀ (a b : Nat) (l : List UInt8), l.length ≤ a → l.length ≤ b → letsN a l = letsN b l
 | 0, b, l, ha, hb => by
  have : l = [] := List.eq_nil_of_length_eq_zero (by omega)
  subst this
  cases b <;> simp [letsN]
 | a + 1, 0, l, ha, hb => by
  have : l = [] := List.eq_nil_of_length_eq_zero (by omega)
  subst this
  simp [letsN]
 | a + 1, b + 1, l, ha, hb => by
  simp only [letsN]
  split
  ·rfl
  ·rename_i hne
   cases ht : tk l with
   | none => rfl
   | some d =>
    obtain ⟨r, m⟩ := d
    obtain ⟨_, _, h1, h2⟩ := tk_some ht
    simp only
    rw [letsN_of a b (l.drop m) (by rw [List.length_drop]; omega) (by rw [List.length_drop]; omega)]
theorem lets_nil : lets [] = some [] := rfl
theorem lets_none {l : List UInt8} (hne : l ≠ []) (ht : tk l = none) : lets l = none := by
 unfold lets
 cases l with
 | nil => exact absurd rfl hne
 | cons b t => simp only [List.length_cons, letsN]; rw [if_neg hne, ht]
theorem lets_some {l : List UInt8} {r m : Nat} (hne : l ≠ []) (ht : tk l = some (r, m)) : lets l = (lets (l.drop m)).map fun x => (r : Int) :: x := by
 obtain ⟨_, _, h1, h2⟩ := tk_some ht
 unfold lets
 cases l with
 | nil => exact absurd rfl hne
 | cons b t =>
  simp only [List.length_cons, letsN]; rw [if_neg hne, ht]
  simp only
  rw [letsN_of t.length _ _ (by rw [List.length_drop, List.length_cons]; omega) (Nat.le_refl _)]
theorem tk_none {l : List UInt8} (hne : l ≠ []) : tk l = none ↔ ((Lib.decodeL l).1 = 65533 ∧ (Lib.decodeL l).2 = 1) := by
 unfold tk
 constructor
 ·intro h; split at h
  ·rename_i hc; exact hc.elim (fun e => absurd e hne) id
  ·cases h
 ·intro h; rw [if_pos (Or.inr h)]
theorem tk_dec {l : List UInt8} {r m : Nat} (ht : tk l = some (r, m)) : l ≠ [] ∧ Lib.decodeL l = (r, m) := by
 unfold tk at ht
 split at ht
 ·cases ht
 ·rename_i hc
  exact ⟨fun e => hc (.inl e), Option.some.inj ht⟩
theorem valid_lets : ∀ (n : Nat) (l : List UInt8), l.length ≤ n → Lib.validD l = (lets l).isSome
 | 0, l, h => by
  have : l = [] := List.eq_nil_of_length_eq_zero (by omega)
  subst this; rfl
 | n + 1, l, h => by
  by_cases hne : l = []
  ·subst hne; rfl
  ·rw [Lib.validD_step l hne]
   cases ht : tk l with
   | none => rw [if_pos ((tk_none hne).1 ht), lets_none hne ht]; rfl
   | some d =>
    obtain ⟨r, m⟩ := d
    obtain ⟨_, hd⟩ := tk_dec ht
    obtain ⟨_, _, h1, h2⟩ := tk_some ht
    rw [if_neg (fun e => by have := (tk_none hne).2 e; rw [ht] at this; cases this), lets_some hne ht, hd, valid_lets n (l.drop m) (by rw [List.length_drop]; omega), Option.isSome_map]
theorem runesP_lets (s : ByteArray) : ∀ (n p : Nat) (xs : List Int), s.size - p ≤ n → lets (s.data.toList.drop p) = some xs → runesP s n p = xs
 | 0, p, xs, hn, h => by
  have : s.data.toList.drop p = [] := List.drop_eq_nil_of_le (by rw [data_length]; omega)
  rw [this, lets_nil] at h
  exact (Option.some.inj h)
 | n + 1, p, xs, hn, h => by
  rw [runesP]
  by_cases hp : p < s.size
  ·rw [if_pos hp]
   have hne : s.data.toList.drop p ≠ [] := by
    intro e
    have := congrArg List.length e
    rw [List.length_drop, data_length] at this
    simp at this; omega
   cases ht : tk (s.data.toList.drop p) with
   | none => rw [lets_none hne ht] at h; cases h
   | some d =>
    obtain ⟨r, m⟩ := d
    obtain ⟨_, hd⟩ := tk_dec ht
    obtain ⟨_, _, h1, h2⟩ := tk_some ht
    rw [lets_some hne ht, List.drop_drop] at h
    rw [← Lib.decodeL_drop s p, hd]
    cases hx : lets (s.data.toList.drop (p + m)) with
    | none => rw [hx] at h; cases h
    | some ys =>
     rw [hx] at h
     rw [runesP_lets s n (p + m) ys (by omega) hx]
     exact Option.some.inj h
  ·rw [if_neg hp]
   have : s.data.toList.drop p = [] := List.drop_eq_nil_of_le (by rw [data_length]; omega)
   rw [this, lets_nil] at h
   exact (Option.some.inj h)
theorem runes_lets (s : ByteArray) : runesS s = match lets s.data.toList with | none => ([], false) | some xs => (xs, true) := by
 unfold runesS
 rw [valid_lets _ _ (Nat.le_refl _)]
 cases h : lets s.data.toList with
 | none => rfl
 | some xs =>
  rw [if_pos (show (some xs).isSome = true from rfl), runesP_lets s s.size 0 xs (by omega) (by rw [List.drop_zero]; exact h)]
def encs : List Int → List UInt8
 | [] => []
 | r :: l => enc r ++ encs l
theorem of_lets : ∀ (n : Nat) (l : List UInt8) (xs : List Int), l.length ≤ n → lets l = some xs → (∀ x ∈ xs, letterB x = true) ∧ encs xs = l
 | 0, l, xs, hn, h => by
  have : l = [] := List.eq_nil_of_length_eq_zero (by omega)
  subst this
  cases h
  exact ⟨by simp, rfl⟩
 | n + 1, l, xs, hn, h => by
  by_cases hne : l = []
  ·subst hne; cases h; exact ⟨by simp, rfl⟩
  ·cases ht : tk l with
   | none => rw [lets_none hne ht] at h; cases h
   | some d =>
    obtain ⟨r, m⟩ := d
    obtain ⟨hl, he, h1, h2⟩ := tk_some ht
    rw [lets_some hne ht] at h
    cases hx : lets (l.drop m) with
    | none => rw [hx] at h; cases h
    | some ys =>
     rw [hx] at h
     obtain ⟨a, b⟩ := of_lets n (l.drop m) ys (by rw [List.length_drop]; omega) hx
     have := (Option.some.inj h).symm
     subst this
     refine ⟨?_, ?_⟩
     ·intro x hx'
      rcases List.mem_cons.1 hx' with rfl | hx'
      ·exact hl
      ·exact a x hx'
     ·rw [encs, he, b, List.take_append_drop]
theorem encs_len : ∀ l : List Int, (encs l).length ≤ 4 * l.length
 | [] => Nat.le_refl _
 | r :: l => by
  have := encs_len l
  have h2 : (enc r).length ≤ 4 := by
   unfold enc Lib.encodeRune Lib.encodeRuneZ
   rw [List.length_map]
   repeat' split
   all_goals simp
  rw [encs, List.length_append, List.length_cons]; omega
theorem refRunes_l0 : ∀ (n k : Nat) (s : ByteArray) (o : List Int), s.size ≤ n → n + 12 < k → o.length + n ≤ 1073741824 →
  cracknelref05_Runes.l0 k s o = some (match lets s.data.toList with | none => ([], false) | some xs => (o ++ xs, true))
 | n, k, s, o, h1, h2, h3 => by
  obtain ⟨k, rfl⟩ : ∃ m, k = m + 1 := ⟨k - 1, by omega⟩
  simp only [cracknelref05_Runes.l0]
  have hsz : s.data.toList.length = s.size := data_length s
  by_cases h0 : s.size = 0
  ·have e : s.data.toList = [] := List.eq_nil_of_length_eq_zero (by omega)
   rw [if_neg (by omega), e, lets_nil]
   simp
  ·have hne : s.data.toList ≠ [] := fun e => h0 (by rw [← hsz, e]; rfl)
   rw [if_pos (by omega), refTake k s (by omega), refTakeS_eq, Option.bind_some]
   unfold takeS
   cases ht : tk s.data.toList with
   | none =>
    simp only
    rw [if_neg (by decide), lets_none hne ht]
   | some d =>
    obtain ⟨r, m⟩ := d
    obtain ⟨_, _, q1, q2⟩ := tk_some ht
    simp only
    rw [if_pos trivial, if_pos (by omega), if_pos (by omega), if_pos (by omega), Int.toNat_natCast]
    have e : (s.extract m s.size).data.toList = s.data.toList.drop m := by
     rw [ByteArray.data_extract, Array.toList_extract]
     simp
     rw [List.take_of_length_le (by rw [List.length_drop]; omega)]
    have hs2 : (s.extract m s.size).size = s.size - m := by rw [← data_length, e, List.length_drop, hsz]
    obtain ⟨n, rfl⟩ : ∃ z, n = z + 1 := ⟨n - 1, by omega⟩
    rw [refRunes_l0 n k _ _ (by omega) (by omega) (by rw [List.length_append, List.length_singleton]; omega), e, lets_some hne ht]
    cases lets (s.data.toList.drop m) with
    | none => rfl
    | some xs => simp
theorem refRunes (k : Nat) (s : ByteArray) (hk : s.size + 12 < k) (hs : s.size ≤ 1073741824) : cracknelref05_Runes.f k s = some (runesS s) := by
 unfold cracknelref05_Runes.f
 rw [refRunes_l0 s.size k s [] (by omega) hk (by simp; omega), runes_lets]
 congr 1
end Go.Proofs.YthhmmaihbjhhgaaGreatDoor.Giv
namespace Go.Proofs.YthhmmaihbjhhgaaGreatDoor.Giv
open Go.RowKit Go.Proofs.YthhmmaihbjhhgaaGreatDoorW.PrintWords Go.Proofs.YthhmmaihbjhhgaaGreatDoorW.PrintLast Go.Proofs.YthhmmaihbjhhgaaGreatDoorW.PrintMore
open Go.Proofs.YthhmmaihbjhhgaaGreatDoor.U1 Go.Proofs.YthhmmaihbjhhgaaGreatDoor.Q1
abbrev Rd (W : World) (g : Nat) (s : ByteArray) (p : Nat) (v : Value) : Prop := W.heap[g]? = some (.cells #[.string s, .int .i64 (p : Int), v] 58 (0, 0))
def blank (n : Nat) : Bool := n = 32 || n = 9 || n = 10 || n = 13
def skips : List UInt8 → Nat
 | [] => 0
 | c :: l => if blank c.toNat = true then skips l + 1 else 0
def skipP (s : ByteArray) (p : Nat) : Nat := p + skips (s.data.toList.drop p)
def nextC (s : ByteArray) (p : Nat) : Nat := (s.data.toList.getD (skipP s p) 0).toNat
theorem dropB (s : ByteArray) (i : Nat) (hi : i < s.size) : s.data.toList.drop i = s.data.toList.getD i 0 :: s.data.toList.drop (i + 1) := by
 have hl : i < s.data.toList.length := by rw [data_length]; exact hi
 rw [List.drop_eq_getElem_cons hl]
 congr 1
 rw [List.getD_eq_getElem?_getD, List.getElem?_eq_getElem hl]; rfl
theorem skip_end (s : ByteArray) (p : Nat) (h : s.size ≤ p) : skipP s p = p := by
 unfold skipP
 rw [List.drop_eq_nil_of_le (by rw [data_length]; exact h)]; rfl
theorem skip_blank (s : ByteArray) (p : Nat) (h : p < s.size) (hb : blank (s.data.toList.getD p 0).toNat = true) : skipP s p = skipP s (p + 1) := by
 unfold skipP
 rw [dropB s p h, skips, if_pos hb]; omega
theorem skip_not (s : ByteArray) (p : Nat) (h : p < s.size) (hb : ¬ blank (s.data.toList.getD p 0).toNat = true) : skipP s p = p := by
 unfold skipP
 rw [dropB s p h, skips, if_neg hb]; rfl
set_option maxRecDepth 100000 in
theorem blank_index : ∀ n : Nat, n < 256 → decide (0 ≤ Lib.indexByte [32, 9, 10, 13] n.toUInt8) = blank n := by decide +kernel
set_option maxHeartbeats 4000000 in
set_option maxRecDepth 100000 in
theorem next_calls (w0 W : World) (g : Nat) (s : ByteArray) (p : Nat) (v : Value) (hR : Rd W g s p v) (hB : Below w0.heap.size w0 W) (hg : w0.heap.size ≤ g) (hp : p ≤ s.size) (hs : s.size ≤ 4611686018427387904) :
  Calls Tryz.prog 23 #[.pointer (some ⟨g, 0, none⟩)] W fun e W' => e = .returned (.int .u8 (nextC s p)) ∧ Rd W' g s (skipP s p) v ∧ Below w0.heap.size w0 W' ∧ KeepBut W W' g none := by
 have HR := Aside0.mk hR
 have HB := Aside0.mk hB
 have HG := Aside0.mk hg
 have HS := Aside0.mk hs
 have HK := Aside0.mk (KeepBut.refl W g none)
 clear hR hB hg hs
 go_enter Tryz.func23, Tryz.ntmps23
 go_wp2
 repeat (go_quiet (fail); try go_wp2)
 go_loopg [] (s.size - p) (fun kq wr => ∃ q : Nat, q ≤ s.size ∧ kq = s.size - q ∧ Aside0 (skipP s q = skipP s p) ∧ Aside0 (Rd wr g s q v) ∧ Aside0 (KeepBut W wr g none) ∧ Aside0 (Below w0.heap.size w0 wr))
 case atStart => exact ⟨p, hp, rfl, ⟨rfl⟩, HR, HK, HB⟩
 case round =>
  obtain ⟨q, hq, hgk, HP, HR, HK, HB⟩ := hrel
  have hc0 : wr.cell? ⟨g, 0, none⟩ = some (.string s) := (blk_cell HR.out 0).trans rfl
  have hc1 : wr.cell? ⟨g, 1, none⟩ = some (.int .i64 (q : Int)) := (blk_cell HR.out 1).trans rfl
  have hf0 := blk_frozen HR.out 0
  have hf1 := blk_frozen HR.out 1
  have hx : ∀ h : q < s.size, ((s[q]'h).toNat : Int) = bt s (q : Int) := fun h => bt_at s (q : Int) h
  have q0 : (0 ≤ (q : Int)) = True := eq_true (by omega)
  by_cases hlt : q < s.size
  ·have d1 : decide ((q : Int) < (s.size : Int)) = true := decide_eq_true (by omega)
   have d2 : ((q : Int) == (s.size : Int)) = false := beq_eq_false_iff_ne.mpr (by omega)
   have q1 : ((q : Int) < (s.size : Int)) = True := eq_true (by omega)
   have hn := UInt8.toNat_lt (s.data.toList.getD q 0)
   have hbt := btL s q
   have hidx : decide (0 ≤ Lib.indexByte [32, 9, 10, 13] ((bt s (q : Int)).toNat.toUInt8)) = blank (s.data.toList.getD q 0).toNat := by
    rw [hbt, Int.toNat_natCast]; exact blank_index _ hn
   by_cases hb : blank (s.data.toList.getD q 0).toNat = true
   ·rw [hb] at hidx
    have HN : Aside0 (skipP s (q + 1) = skipP s p) := ⟨by rw [← skip_blank s q hlt hb]; exact HP.out⟩
    have HW : Aside0 (wrap64 ((q : Int) + 1) = ((q + 1 : Nat) : Int)) := ⟨by have := HS.out; unfold wrap64; omega⟩
    clear hbt hn hb d2
    obtain ⟨kk, rfl⟩ : ∃ kk, gk = kk + 1 := ⟨gk - 1, by omega⟩
    go_wp2_with ((go_at_call 44; (with_reducible refine (strings_IndexByte.calls (⟨#[32, 9, 10, 13]⟩ : ByteArray) (bt s (q : Int)) _ _ (rfl : strings_IndexByte.f _ _ = some (Lib.indexByte [32, 9, 10, 13] ((bt s (q : Int)).toNat.toUInt8)))).mono ?_); rintro e w' ⟨rfl, ⟨nd, rfl⟩⟩; (try first | exact ⟨rfl, _, World.drewN_drewN _ _ _⟩ | exact ⟨rfl, _, Eq.trans (World.drewN_drewN _ _ _) (congrArg (World.drewN _) (Nat.add_assoc _ _ _))⟩)))
    repeat (go_quiet ((go_at_call 44; (with_reducible refine (strings_IndexByte.calls (⟨#[32, 9, 10, 13]⟩ : ByteArray) (bt s (q : Int)) _ _ (rfl : strings_IndexByte.f _ _ = some (Lib.indexByte [32, 9, 10, 13] ((bt s (q : Int)).toNat.toUInt8)))).mono ?_); rintro e w' ⟨rfl, ⟨nd, rfl⟩⟩; (try first | exact ⟨rfl, _, World.drewN_drewN _ _ _⟩ | exact ⟨rfl, _, Eq.trans (World.drewN_drewN _ _ _) (congrArg (World.drewN _) (Nat.add_assoc _ _ _))⟩))); try go_wp2_with ((go_at_call 44; (with_reducible refine (strings_IndexByte.calls (⟨#[32, 9, 10, 13]⟩ : ByteArray) (bt s (q : Int)) _ _ (rfl : strings_IndexByte.f _ _ = some (Lib.indexByte [32, 9, 10, 13] ((bt s (q : Int)).toNat.toUInt8)))).mono ?_); rintro e w' ⟨rfl, ⟨nd, rfl⟩⟩; (try first | exact ⟨rfl, _, World.drewN_drewN _ _ _⟩ | exact ⟨rfl, _, Eq.trans (World.drewN_drewN _ _ _) (congrArg (World.drewN _) (Nat.add_assoc _ _ _))⟩))))
    go_roundg kk
    case measure => omega
    case rel =>
     refine ⟨q + 1, by omega, by omega, HN, ⟨?_⟩, ⟨KeepBut.set_ (keep_drewN HK.out _) 1 _⟩, ⟨below_set (pw_below_drewN HB.out _) HG.out⟩⟩
     rw [HW.out]
     exact blk_set (w := wr.drewN _) HR.out 1 _
   ·have hb' : blank (s.data.toList.getD q 0).toNat = false := Bool.eq_false_iff.2 hb
    rw [hb'] at hidx
    have HE := Aside0.mk (skip_not s q hlt hb)
    have HBT := Aside0.mk hbt
    clear hbt hn hb hb'
    go_wp2_with ((go_at_call 44; (with_reducible refine (strings_IndexByte.calls (⟨#[32, 9, 10, 13]⟩ : ByteArray) (bt s (q : Int)) _ _ (rfl : strings_IndexByte.f _ _ = some (Lib.indexByte [32, 9, 10, 13] ((bt s (q : Int)).toNat.toUInt8)))).mono ?_); rintro e w' ⟨rfl, ⟨nd, rfl⟩⟩; (try first | exact ⟨rfl, _, World.drewN_drewN _ _ _⟩ | exact ⟨rfl, _, Eq.trans (World.drewN_drewN _ _ _) (congrArg (World.drewN _) (Nat.add_assoc _ _ _))⟩)))
    repeat (go_quiet ((go_at_call 44; (with_reducible refine (strings_IndexByte.calls (⟨#[32, 9, 10, 13]⟩ : ByteArray) (bt s (q : Int)) _ _ (rfl : strings_IndexByte.f _ _ = some (Lib.indexByte [32, 9, 10, 13] ((bt s (q : Int)).toNat.toUInt8)))).mono ?_); rintro e w' ⟨rfl, ⟨nd, rfl⟩⟩; (try first | exact ⟨rfl, _, World.drewN_drewN _ _ _⟩ | exact ⟨rfl, _, Eq.trans (World.drewN_drewN _ _ _) (congrArg (World.drewN _) (Nat.add_assoc _ _ _))⟩))); try go_wp2_with ((go_at_call 44; (with_reducible refine (strings_IndexByte.calls (⟨#[32, 9, 10, 13]⟩ : ByteArray) (bt s (q : Int)) _ _ (rfl : strings_IndexByte.f _ _ = some (Lib.indexByte [32, 9, 10, 13] ((bt s (q : Int)).toNat.toUInt8)))).mono ?_); rintro e w' ⟨rfl, ⟨nd, rfl⟩⟩; (try first | exact ⟨rfl, _, World.drewN_drewN _ _ _⟩ | exact ⟨rfl, _, Eq.trans (World.drewN_drewN _ _ _) (congrArg (World.drewN _) (Nat.add_assoc _ _ _))⟩))))
    go_ret
    refine ⟨?_, ?_, by repeat (first | exact HB.out | apply pw_below_drewN), HK.out⟩
    ·unfold nextC; rw [← HP.out, HE.out, HBT.out]; rfl
    ·rw [← HP.out, HE.out]; exact HR.out
  ·obtain rfl : q = s.size := by omega
   have d1 : decide ((s.size : Int) < (s.size : Int)) = false := decide_eq_false (by omega)
   have d2 : ((s.size : Int) == (s.size : Int)) = true := beq_self_eq_true _
   go_wp2_with ((go_at_call 44; (with_reducible refine (strings_IndexByte.calls (⟨#[32, 9, 10, 13]⟩ : ByteArray) (bt s (q : Int)) _ _ (rfl : strings_IndexByte.f _ _ = some (Lib.indexByte [32, 9, 10, 13] ((bt s (q : Int)).toNat.toUInt8)))).mono ?_); rintro e w' ⟨rfl, ⟨nd, rfl⟩⟩; (try first | exact ⟨rfl, _, World.drewN_drewN _ _ _⟩ | exact ⟨rfl, _, Eq.trans (World.drewN_drewN _ _ _) (congrArg (World.drewN _) (Nat.add_assoc _ _ _))⟩)))
   repeat (go_quiet ((go_at_call 44; (with_reducible refine (strings_IndexByte.calls (⟨#[32, 9, 10, 13]⟩ : ByteArray) (bt s (q : Int)) _ _ (rfl : strings_IndexByte.f _ _ = some (Lib.indexByte [32, 9, 10, 13] ((bt s (q : Int)).toNat.toUInt8)))).mono ?_); rintro e w' ⟨rfl, ⟨nd, rfl⟩⟩; (try first | exact ⟨rfl, _, World.drewN_drewN _ _ _⟩ | exact ⟨rfl, _, Eq.trans (World.drewN_drewN _ _ _) (congrArg (World.drewN _) (Nat.add_assoc _ _ _))⟩))); try go_wp2_with ((go_at_call 44; (with_reducible refine (strings_IndexByte.calls (⟨#[32, 9, 10, 13]⟩ : ByteArray) (bt s (q : Int)) _ _ (rfl : strings_IndexByte.f _ _ = some (Lib.indexByte [32, 9, 10, 13] ((bt s (q : Int)).toNat.toUInt8)))).mono ?_); rintro e w' ⟨rfl, ⟨nd, rfl⟩⟩; (try first | exact ⟨rfl, _, World.drewN_drewN _ _ _⟩ | exact ⟨rfl, _, Eq.trans (World.drewN_drewN _ _ _) (congrArg (World.drewN _) (Nat.add_assoc _ _ _))⟩))))
   go_ret
   have he := skip_end s s.size (Nat.le_refl _)
   refine ⟨?_, ?_, by repeat (first | exact HB.out | apply pw_below_drewN), HK.out⟩
   ·unfold nextC
    rw [← HP.out, he, List.getD_eq_getElem?_getD, List.getElem?_eq_none (by rw [data_length]; exact Nat.le_refl _)]; rfl
   ·rw [← HP.out, he]; exact HR.out
end Go.Proofs.YthhmmaihbjhhgaaGreatDoor.Giv
namespace Go.Proofs.YthhmmaihbjhhgaaGreatDoor.Giv
open Go.RowKit Go.Proofs.YthhmmaihbjhhgaaGreatDoorW.PrintWords Go.Proofs.YthhmmaihbjhhgaaGreatDoorW.PrintLast Go.Proofs.YthhmmaihbjhhgaaGreatDoorW.PrintMore
open Go.Proofs.YthhmmaihbjhhgaaGreatDoor.U1 Go.Proofs.YthhmmaihbjhhgaaGreatDoor.Q1
set_option linter.unusedSimpArgs false
theorem skip_le (s : ByteArray) (p : Nat) (hp : p ≤ s.size) : skipP s p ≤ s.size := by
 have g : ∀ l : List UInt8, skips l ≤ l.length := by
  intro l
  induction l with
  | nil => exact Nat.le_refl _
  | cons c l ih =>
   rw [skips, List.length_cons]; split
   ·omega
   ·omega
 have := g (s.data.toList.drop p)
 rw [List.length_drop, data_length] at this
 unfold skipP; omega
def takesP (s : ByteArray) (p : Nat) (c : Nat) : Bool × Nat := if nextC s p = c ∧ skipP s p < s.size then (true, skipP s p + 1) else (false, skipP s p)
set_option maxHeartbeats 4000000 in
set_option maxRecDepth 100000 in
theorem takes_not (w0 W : World) (g : Nat) (s : ByteArray) (p : Nat) (v : Value) (c : Nat) (hR : Rd W g s p v) (hB : Below w0.heap.size w0 W) (hg : w0.heap.size ≤ g) (hp : p ≤ s.size) (hs : s.size ≤ 4611686018427387904) (hc : nextC s p ≠ c) :
  Calls Tryz.prog 60 #[.pointer (some ⟨g, 0, none⟩), .int .u8 (c : Int)] W fun e W' => e = .returned (.bool false) ∧ Rd W' g s (skipP s p) v ∧ Below w0.heap.size w0 W' ∧ KeepBut W W' g none := by
 have HR := Aside0.mk hR
 have HB := Aside0.mk hB
 have HG := Aside0.mk hg
 have HS := Aside0.mk hs
 have HP := Aside0.mk hp
 have hc0 : W.drew.cell? ⟨g, 0, none⟩ = some (.string s) := (blk_cell hR 0).trans rfl
 have n1 : ((nextC s p : Int) == (c : Int)) = false := beq_eq_false_iff_ne.mpr (by omega)
 have n2 : ((nextC s p : Int) != (c : Int)) = true := bne_iff_ne.mpr (by omega)
 clear hc
 clear hR hB hg hs hp
 go_enter Tryz.func60, Tryz.ntmps60
 go_wp2_with fail
 refine wp_region_held_drew (S := fun w' => w'.cell? ⟨g, 0, none⟩ = some (.string s)) (by kernel_rfl) hc0 (fun hHeld => ?_)
 refine wpAnyH_take (i := 0) (oi := { dst := some 5, op := _, type := _, pos := _, after := _, guard := _ }) (v := ?_) rfl (by kernel_rfl) (by kernel_rfl) (by kernel_rfl) (fun _ _ _ h => h) (Or.inl ⟨by rfl, ?_⟩) (by assumption) ?_
 rotate_left
 ·intro w hSw
  (try dsimp only at hSw)
  go_simp
  (try with_reducible rfl)
 (try simp only [Act.put, qA, qB, qC])
 refine wpAnyH_take (i := 2) (oi := { dst := some 7, op := _, type := _, pos := _, after := _, guard := _ }) (v := ?_) rfl (by kernel_rfl) (by kernel_rfl) (by kernel_rfl) (fun _ _ _ h => h) (Or.inl ⟨by rfl, ?_⟩) (by assumption) ?_
 rotate_left
 ·intro w hSw
  (try dsimp only at hSw)
  go_simp
  (try with_reducible rfl)
 (try simp only [Act.put, qA, qB, qC])
 refine wpAnyH_ready (rs := [1]) (by kernel_rfl) (by simp) ?_
 refine AllReadyH.cons (o := { dst := some 6, op := _, type := _, pos := _, after := _, guard := _ }) rfl (fun K hK => ?_) AllReadyH.nil
 go_simp
 (go_at_call 23; refine (next_calls w0 W.drew g s p v HR.out (by repeat (first | exact HB.out | apply below_drew1)) HG.out HP.out HS.out).mono ?_; rintro e w1 ⟨rfl, hR1, hB1, hK1⟩)
 have HR := Aside0.mk hR1
 have HB := Aside0.mk hB1
 have HK := Aside0.mk hK1
 have hd0 : w1.cell? ⟨g, 0, none⟩ = some (.string s) := (blk_cell hR1 0).trans rfl
 have hd1 : w1.cell? ⟨g, 1, none⟩ = some (.int .i64 (skipP s p : Nat)) := (blk_cell hR1 1).trans rfl
 have hf1 := blk_frozen hR1 1
 clear hR1 hB1 hK1
 go_wp2_with fail
 refine hK.out _ _ ?_ (fun hHeld => ?_)
 ·exact hd0
 clear hK K
 (try simp only [Act.put, qA, qB, qC])
 refine wpAnyH_take (i := 3) (oi := { dst := some 8, op := _, type := _, pos := _, after := _, guard := _ }) (v := ?_) rfl (by kernel_rfl) (by kernel_rfl) (by kernel_rfl) (fun _ _ _ h => h) (Or.inl ⟨by rfl, ?_⟩) (by assumption) ?_
 rotate_left
 ·intro w hSw
  (try dsimp only at hSw)
  go_simp
  (try with_reducible rfl)
 (try simp only [Act.put, qA, qB, qC])
 refine wpAnyH_take (i := 4) (oi := { dst := some 9, op := _, type := _, pos := _, after := _, guard := _ }) (v := ?_) rfl (by kernel_rfl) (by kernel_rfl) (by kernel_rfl) (fun _ _ _ h => h) (Or.inl ⟨by rfl, ?_⟩) (by assumption) ?_
 rotate_left
 ·intro w hSw
  (try dsimp only at hSw)
  go_simp
  (try with_reducible rfl)
 (try simp only [Act.put, qA, qB, qC])
 refine wpAnyH_take (i := 5) (oi := { dst := some 10, op := _, type := _, pos := _, after := _, guard := _ }) (v := undef) rfl (by kernel_rfl) (by kernel_rfl) (by kernel_rfl) (fun _ _ _ h => h) (Or.inr ⟨by rfl, rfl⟩) (by assumption) ?_
 (try simp only [Act.put, qA, qB, qC])
 refine wpAnyH_take (i := 6) (oi := { dst := some 11, op := _, type := _, pos := _, after := _, guard := _ }) (v := undef) rfl (by kernel_rfl) (by kernel_rfl) (by kernel_rfl) (fun _ _ _ h => h) (Or.inr ⟨by rfl, rfl⟩) (by assumption) ?_
 (try simp only [Act.put, qA, qB, qC])
 refine wpAnyH_take (i := 7) (oi := { dst := some 12, op := _, type := _, pos := _, after := _, guard := _ }) (v := undef) rfl (by kernel_rfl) (by kernel_rfl) (by kernel_rfl) (fun _ _ _ h => h) (Or.inr ⟨by rfl, rfl⟩) (by assumption) ?_
 (try simp only [Act.put, qA, qB, qC])
 refine wpAnyH_take (i := 8) (oi := { dst := some 13, op := _, type := _, pos := _, after := _, guard := _ }) (v := undef) rfl (by kernel_rfl) (by kernel_rfl) (by kernel_rfl) (fun _ _ _ h => h) (Or.inr ⟨by rfl, rfl⟩) (by assumption) ?_
 (try simp only [Act.put, qA, qB, qC])
 refine wpAnyH_take (i := 9) (oi := { dst := some 14, op := _, type := _, pos := _, after := _, guard := _ }) (v := undef) rfl (by kernel_rfl) (by kernel_rfl) (by kernel_rfl) (fun _ _ _ h => h) (Or.inr ⟨by rfl, rfl⟩) (by assumption) ?_
 (try simp only [Act.put, qA, qB, qC])
 refine wpAnyH_take (i := 10) (oi := { dst := some 15, op := _, type := _, pos := _, after := _, guard := _ }) (v := undef) rfl (by kernel_rfl) (by kernel_rfl) (by kernel_rfl) (fun _ _ _ h => h) (Or.inr ⟨by rfl, rfl⟩) (by assumption) ?_
 (try simp only [Act.put, qA, qB, qC])
 refine wpAnyH_take (i := 11) (oi := { dst := some 16, op := _, type := _, pos := _, after := _, guard := _ }) (v := undef) rfl (by kernel_rfl) (by kernel_rfl) (by kernel_rfl) (fun _ _ _ h => h) (Or.inr ⟨by rfl, rfl⟩) (by assumption) ?_
 (try simp only [Act.put, qA, qB, qC])
 refine wpAnyH_take (i := 12) (oi := { dst := some 17, op := _, type := _, pos := _, after := _, guard := _ }) (v := undef) rfl (by kernel_rfl) (by kernel_rfl) (by kernel_rfl) (fun _ _ _ h => h) (Or.inr ⟨by rfl, rfl⟩) (by assumption) ?_
 (try simp only [Act.put, qA, qB, qC])
 refine wpAnyH_take (i := 13) (oi := { dst := some 18, op := _, type := _, pos := _, after := _, guard := _ }) (v := undef) rfl (by kernel_rfl) (by kernel_rfl) (by kernel_rfl) (fun _ _ _ h => h) (Or.inr ⟨by rfl, rfl⟩) (by assumption) ?_
 (try simp only [Act.put, qA, qB, qC])
 refine wpAnyH_take (i := 14) (oi := { dst := some 19, op := _, type := _, pos := _, after := _, guard := _ }) (v := undef) rfl (by kernel_rfl) (by kernel_rfl) (by kernel_rfl) (fun _ _ _ h => h) (Or.inr ⟨by rfl, rfl⟩) (by assumption) ?_
 (try simp only [Act.put, qA, qB, qC])
 refine wpAnyH_take (i := 15) (oi := { dst := some 20, op := _, type := _, pos := _, after := _, guard := _ }) (v := ?_) rfl (by kernel_rfl) (by kernel_rfl) (by kernel_rfl) (fun _ _ _ h => h) (Or.inl ⟨by rfl, ?_⟩) (by assumption) ?_
 rotate_left
 ·intro w hSw
  (try dsimp only at hSw)
  go_simp
  (try with_reducible rfl)
 (try simp only [Act.put, qA, qB, qC])
 refine wpAnyH_done (by kernel_rfl) ?_ _
 go_wp2_with fail
 go_ret
 exact ⟨rfl, HR.out, HB.out, HK.out⟩
set_option maxHeartbeats 4000000 in
set_option maxRecDepth 100000 in
theorem takes_end (w0 W : World) (g : Nat) (s : ByteArray) (p : Nat) (v : Value) (c : Nat) (hR : Rd W g s p v) (hB : Below w0.heap.size w0 W) (hg : w0.heap.size ≤ g) (hp : p ≤ s.size) (hs : s.size ≤ 4611686018427387904) (hc : nextC s p = c) (he : skipP s p = s.size) :
  Calls Tryz.prog 60 #[.pointer (some ⟨g, 0, none⟩), .int .u8 (c : Int)] W fun e W' => e = .returned (.bool false) ∧ Rd W' g s (skipP s p) v ∧ Below w0.heap.size w0 W' ∧ KeepBut W W' g none := by
 have HR := Aside0.mk hR
 have HB := Aside0.mk hB
 have HG := Aside0.mk hg
 have HS := Aside0.mk hs
 have HP := Aside0.mk hp
 have hc0 : W.drew.cell? ⟨g, 0, none⟩ = some (.string s) := (blk_cell hR 0).trans rfl
 have n1 : ((nextC s p : Int) == (c : Int)) = true := beq_iff_eq.mpr (by omega)
 have n2 : ((nextC s p : Int) != (c : Int)) = false := bne_eq_false_iff_eq.mpr (by omega)
 have n3 : ((skipP s p : Int) == (s.size : Int)) = true := beq_iff_eq.mpr (by omega)
 clear hc he
 clear hR hB hg hs hp
 go_enter Tryz.func60, Tryz.ntmps60
 go_wp2_with fail
 refine wp_region_held_drew (S := fun w' => w'.cell? ⟨g, 0, none⟩ = some (.string s)) (by kernel_rfl) hc0 (fun hHeld => ?_)
 refine wpAnyH_take (i := 0) (oi := { dst := some 5, op := _, type := _, pos := _, after := _, guard := _ }) (v := ?_) rfl (by kernel_rfl) (by kernel_rfl) (by kernel_rfl) (fun _ _ _ h => h) (Or.inl ⟨by rfl, ?_⟩) (by assumption) ?_
 rotate_left
 ·intro w hSw
  (try dsimp only at hSw)
  go_simp
  (try with_reducible rfl)
 (try simp only [Act.put, qA, qB, qC])
 refine wpAnyH_take (i := 2) (oi := { dst := some 7, op := _, type := _, pos := _, after := _, guard := _ }) (v := ?_) rfl (by kernel_rfl) (by kernel_rfl) (by kernel_rfl) (fun _ _ _ h => h) (Or.inl ⟨by rfl, ?_⟩) (by assumption) ?_
 rotate_left
 ·intro w hSw
  (try dsimp only at hSw)
  go_simp
  (try with_reducible rfl)
 (try simp only [Act.put, qA, qB, qC])
 refine wpAnyH_ready (rs := [1]) (by kernel_rfl) (by simp) ?_
 refine AllReadyH.cons (o := { dst := some 6, op := _, type := _, pos := _, after := _, guard := _ }) rfl (fun K hK => ?_) AllReadyH.nil
 go_simp
 (go_at_call 23; refine (next_calls w0 W.drew g s p v HR.out (by repeat (first | exact HB.out | apply below_drew1)) HG.out HP.out HS.out).mono ?_; rintro e w1 ⟨rfl, hR1, hB1, hK1⟩)
 have HR := Aside0.mk hR1
 have HB := Aside0.mk hB1
 have HK := Aside0.mk hK1
 have hd0 : w1.cell? ⟨g, 0, none⟩ = some (.string s) := (blk_cell hR1 0).trans rfl
 have hd1 : w1.cell? ⟨g, 1, none⟩ = some (.int .i64 (skipP s p : Nat)) := (blk_cell hR1 1).trans rfl
 have hf1 := blk_frozen hR1 1
 clear hR1 hB1 hK1
 go_wp2_with fail
 refine hK.out _ _ ?_ (fun hHeld => ?_)
 ·exact hd0
 clear hK K
 (try simp only [Act.put, qA, qB, qC])
 refine wpAnyH_take (i := 3) (oi := { dst := some 8, op := _, type := _, pos := _, after := _, guard := _ }) (v := ?_) rfl (by kernel_rfl) (by kernel_rfl) (by kernel_rfl) (fun _ _ _ h => h) (Or.inl ⟨by rfl, ?_⟩) (by assumption) ?_
 rotate_left
 ·intro w hSw
  (try dsimp only at hSw)
  go_simp
  (try with_reducible rfl)
 (try simp only [Act.put, qA, qB, qC])
 refine wpAnyH_take (i := 4) (oi := { dst := some 9, op := _, type := _, pos := _, after := _, guard := _ }) (v := ?_) rfl (by kernel_rfl) (by kernel_rfl) (by kernel_rfl) (fun _ _ _ h => h) (Or.inl ⟨by rfl, ?_⟩) (by assumption) ?_
 rotate_left
 ·intro w hSw
  (try dsimp only at hSw)
  go_simp
  (try with_reducible rfl)
 (try simp only [Act.put, qA, qB, qC])
 refine wpAnyH_take (i := 5) (oi := { dst := some 10, op := _, type := _, pos := _, after := _, guard := _ }) (v := ?_) rfl (by kernel_rfl) (by kernel_rfl) (by kernel_rfl) (fun _ _ _ h => h) (Or.inl ⟨by rfl, ?_⟩) (by assumption) ?_
 rotate_left
 ·intro w hSw
  (try dsimp only at hSw)
  go_simp
  (try with_reducible rfl)
 (try simp only [Act.put, qA, qB, qC])
 refine wpAnyH_take (i := 6) (oi := { dst := some 11, op := _, type := _, pos := _, after := _, guard := _ }) (v := ?_) rfl (by kernel_rfl) (by kernel_rfl) (by kernel_rfl) (fun _ _ _ h => h) (Or.inl ⟨by rfl, ?_⟩) (by assumption) ?_
 rotate_left
 ·intro w hSw
  (try dsimp only at hSw)
  go_simp
  (try with_reducible rfl)
 (try simp only [Act.put, qA, qB, qC])
 refine wpAnyH_take (i := 7) (oi := { dst := some 12, op := _, type := _, pos := _, after := _, guard := _ }) (v := ?_) rfl (by kernel_rfl) (by kernel_rfl) (by kernel_rfl) (fun _ _ _ h => h) (Or.inl ⟨by rfl, ?_⟩) (by assumption) ?_
 rotate_left
 ·intro w hSw
  (try dsimp only at hSw)
  go_simp
  (try with_reducible rfl)
 (try simp only [Act.put, qA, qB, qC])
 refine wpAnyH_take (i := 9) (oi := { dst := some 14, op := _, type := _, pos := _, after := _, guard := _ }) (v := ?_) rfl (by kernel_rfl) (by kernel_rfl) (by kernel_rfl) (fun _ _ _ h => h) (Or.inl ⟨by rfl, ?_⟩) (by assumption) ?_
 rotate_left
 ·intro w hSw
  (try dsimp only at hSw)
  go_simp
  (try with_reducible rfl)
 (try simp only [Act.put, qA, qB, qC])
 refine wpAnyH_take (i := 10) (oi := { dst := some 15, op := _, type := _, pos := _, after := _, guard := _ }) (v := ?_) rfl (by kernel_rfl) (by kernel_rfl) (by kernel_rfl) (fun _ _ _ h => h) (Or.inl ⟨by rfl, ?_⟩) (by assumption) ?_
 rotate_left
 ·intro w hSw
  (try dsimp only at hSw)
  go_simp
  (try with_reducible rfl)
 (try simp only [Act.put, qA, qB, qC])
 refine wpAnyH_take (i := 11) (oi := { dst := some 16, op := _, type := _, pos := _, after := _, guard := _ }) (v := ?_) rfl (by kernel_rfl) (by kernel_rfl) (by kernel_rfl) (fun _ _ _ h => h) (Or.inl ⟨by rfl, ?_⟩) (by assumption) ?_
 rotate_left
 ·intro w hSw
  (try dsimp only at hSw)
  go_simp
  (try with_reducible rfl)
 (try simp only [Act.put, qA, qB, qC])
 refine wpAnyH_take (i := 12) (oi := { dst := some 17, op := _, type := _, pos := _, after := _, guard := _ }) (v := ?_) rfl (by kernel_rfl) (by kernel_rfl) (by kernel_rfl) (fun _ _ _ h => h) (Or.inl ⟨by rfl, ?_⟩) (by assumption) ?_
 rotate_left
 ·intro w hSw
  (try dsimp only at hSw)
  go_simp
  (try with_reducible rfl)
 (try simp only [Act.put, qA, qB, qC])
 refine wpAnyH_take (i := 13) (oi := { dst := some 18, op := _, type := _, pos := _, after := _, guard := _ }) (v := ?_) rfl (by kernel_rfl) (by kernel_rfl) (by kernel_rfl) (fun _ _ _ h => h) (Or.inl ⟨by rfl, ?_⟩) (by assumption) ?_
 rotate_left
 ·intro w hSw
  (try dsimp only at hSw)
  go_simp
  (try with_reducible rfl)
 (try simp only [Act.put, qA, qB, qC])
 refine wpAnyH_ready (rs := [8]) (by kernel_rfl) (by simp) ?_
 refine AllReadyH.cons (o := { dst := some 13, op := _, type := _, pos := _, after := _, guard := _ }) rfl (fun K hK => ?_) AllReadyH.nil
 go_simp
 go_wp2_with fail
 refine hK.out _ _ ?_ (fun hHeld => ?_)
 ·exact hd0
 clear hK K
 (try simp only [Act.put, qA, qB, qC])
 refine wpAnyH_take (i := 14) (oi := { dst := some 19, op := _, type := _, pos := _, after := _, guard := _ }) (v := ?_) rfl (by kernel_rfl) (by kernel_rfl) (by kernel_rfl) (fun _ _ _ h => h) (Or.inl ⟨by rfl, ?_⟩) (by assumption) ?_
 rotate_left
 ·intro w hSw
  (try dsimp only at hSw)
  go_simp
  (try with_reducible rfl)
 (try simp only [Act.put, qA, qB, qC])
 refine wpAnyH_take (i := 15) (oi := { dst := some 20, op := _, type := _, pos := _, after := _, guard := _ }) (v := ?_) rfl (by kernel_rfl) (by kernel_rfl) (by kernel_rfl) (fun _ _ _ h => h) (Or.inl ⟨by rfl, ?_⟩) (by assumption) ?_
 rotate_left
 ·intro w hSw
  (try dsimp only at hSw)
  go_simp
  (try with_reducible rfl)
 (try simp only [Act.put, qA, qB, qC])
 refine wpAnyH_done (by kernel_rfl) ?_ _
 go_wp2_with fail
 go_ret
 exact ⟨rfl, HR.out, HB.out, HK.out⟩
set_option maxHeartbeats 4000000 in
set_option maxRecDepth 100000 in
theorem takes_yes (w0 W : World) (g : Nat) (s : ByteArray) (p : Nat) (v : Value) (c : Nat) (hR : Rd W g s p v) (hB : Below w0.heap.size w0 W) (hg : w0.heap.size ≤ g) (hp : p ≤ s.size) (hs : s.size ≤ 4611686018427387904) (hc : nextC s p = c) (he : skipP s p < s.size) :
  Calls Tryz.prog 60 #[.pointer (some ⟨g, 0, none⟩), .int .u8 (c : Int)] W fun e W' => e = .returned (.bool true) ∧ Rd W' g s (skipP s p + 1) v ∧ Below w0.heap.size w0 W' ∧ KeepBut W W' g none := by
 have HR := Aside0.mk hR
 have HB := Aside0.mk hB
 have HG := Aside0.mk hg
 have HS := Aside0.mk hs
 have HP := Aside0.mk hp
 have hc0 : W.drew.cell? ⟨g, 0, none⟩ = some (.string s) := (blk_cell hR 0).trans rfl
 have n1 : ((nextC s p : Int) == (c : Int)) = true := beq_iff_eq.mpr (by omega)
 have n2 : ((nextC s p : Int) != (c : Int)) = false := bne_eq_false_iff_eq.mpr (by omega)
 have n3 : ((skipP s p : Int) == (s.size : Int)) = false := beq_eq_false_iff_ne.mpr (by omega)
 have HW : Aside0 (wrap64 ((skipP s p : Int) + 1) = ((skipP s p + 1 : Nat) : Int)) := ⟨by unfold wrap64; omega⟩
 clear hc he
 clear hR hB hg hs hp
 go_enter Tryz.func60, Tryz.ntmps60
 go_wp2_with fail
 refine wp_region_held_drew (S := fun w' => w'.cell? ⟨g, 0, none⟩ = some (.string s)) (by kernel_rfl) hc0 (fun hHeld => ?_)
 refine wpAnyH_take (i := 0) (oi := { dst := some 5, op := _, type := _, pos := _, after := _, guard := _ }) (v := ?_) rfl (by kernel_rfl) (by kernel_rfl) (by kernel_rfl) (fun _ _ _ h => h) (Or.inl ⟨by rfl, ?_⟩) (by assumption) ?_
 rotate_left
 ·intro w hSw
  (try dsimp only at hSw)
  go_simp
  (try with_reducible rfl)
 (try simp only [Act.put, qA, qB, qC])
 refine wpAnyH_take (i := 2) (oi := { dst := some 7, op := _, type := _, pos := _, after := _, guard := _ }) (v := ?_) rfl (by kernel_rfl) (by kernel_rfl) (by kernel_rfl) (fun _ _ _ h => h) (Or.inl ⟨by rfl, ?_⟩) (by assumption) ?_
 rotate_left
 ·intro w hSw
  (try dsimp only at hSw)
  go_simp
  (try with_reducible rfl)
 (try simp only [Act.put, qA, qB, qC])
 refine wpAnyH_ready (rs := [1]) (by kernel_rfl) (by simp) ?_
 refine AllReadyH.cons (o := { dst := some 6, op := _, type := _, pos := _, after := _, guard := _ }) rfl (fun K hK => ?_) AllReadyH.nil
 go_simp
 (go_at_call 23; refine (next_calls w0 W.drew g s p v HR.out (by repeat (first | exact HB.out | apply below_drew1)) HG.out HP.out HS.out).mono ?_; rintro e w1 ⟨rfl, hR1, hB1, hK1⟩)
 have HR := Aside0.mk hR1
 have HB := Aside0.mk hB1
 have HK := Aside0.mk hK1
 have hd0 : w1.cell? ⟨g, 0, none⟩ = some (.string s) := (blk_cell hR1 0).trans rfl
 have hd1 : w1.cell? ⟨g, 1, none⟩ = some (.int .i64 (skipP s p : Nat)) := (blk_cell hR1 1).trans rfl
 have hf1 := blk_frozen hR1 1
 clear hR1 hB1 hK1
 go_wp2_with fail
 refine hK.out _ _ ?_ (fun hHeld => ?_)
 ·exact hd0
 clear hK K
 (try simp only [Act.put, qA, qB, qC])
 refine wpAnyH_take (i := 3) (oi := { dst := some 8, op := _, type := _, pos := _, after := _, guard := _ }) (v := ?_) rfl (by kernel_rfl) (by kernel_rfl) (by kernel_rfl) (fun _ _ _ h => h) (Or.inl ⟨by rfl, ?_⟩) (by assumption) ?_
 rotate_left
 ·intro w hSw
  (try dsimp only at hSw)
  go_simp
  (try with_reducible rfl)
 (try simp only [Act.put, qA, qB, qC])
 refine wpAnyH_take (i := 4) (oi := { dst := some 9, op := _, type := _, pos := _, after := _, guard := _ }) (v := ?_) rfl (by kernel_rfl) (by kernel_rfl) (by kernel_rfl) (fun _ _ _ h => h) (Or.inl ⟨by rfl, ?_⟩) (by assumption) ?_
 rotate_left
 ·intro w hSw
  (try dsimp only at hSw)
  go_simp
  (try with_reducible rfl)
 (try simp only [Act.put, qA, qB, qC])
 refine wpAnyH_take (i := 5) (oi := { dst := some 10, op := _, type := _, pos := _, after := _, guard := _ }) (v := ?_) rfl (by kernel_rfl) (by kernel_rfl) (by kernel_rfl) (fun _ _ _ h => h) (Or.inl ⟨by rfl, ?_⟩) (by assumption) ?_
 rotate_left
 ·intro w hSw
  (try dsimp only at hSw)
  go_simp
  (try with_reducible rfl)
 (try simp only [Act.put, qA, qB, qC])
 refine wpAnyH_take (i := 6) (oi := { dst := some 11, op := _, type := _, pos := _, after := _, guard := _ }) (v := ?_) rfl (by kernel_rfl) (by kernel_rfl) (by kernel_rfl) (fun _ _ _ h => h) (Or.inl ⟨by rfl, ?_⟩) (by assumption) ?_
 rotate_left
 ·intro w hSw
  (try dsimp only at hSw)
  go_simp
  (try with_reducible rfl)
 (try simp only [Act.put, qA, qB, qC])
 refine wpAnyH_take (i := 7) (oi := { dst := some 12, op := _, type := _, pos := _, after := _, guard := _ }) (v := ?_) rfl (by kernel_rfl) (by kernel_rfl) (by kernel_rfl) (fun _ _ _ h => h) (Or.inl ⟨by rfl, ?_⟩) (by assumption) ?_
 rotate_left
 ·intro w hSw
  (try dsimp only at hSw)
  go_simp
  (try with_reducible rfl)
 (try simp only [Act.put, qA, qB, qC])
 refine wpAnyH_take (i := 9) (oi := { dst := some 14, op := _, type := _, pos := _, after := _, guard := _ }) (v := ?_) rfl (by kernel_rfl) (by kernel_rfl) (by kernel_rfl) (fun _ _ _ h => h) (Or.inl ⟨by rfl, ?_⟩) (by assumption) ?_
 rotate_left
 ·intro w hSw
  (try dsimp only at hSw)
  go_simp
  (try with_reducible rfl)
 (try simp only [Act.put, qA, qB, qC])
 refine wpAnyH_take (i := 10) (oi := { dst := some 15, op := _, type := _, pos := _, after := _, guard := _ }) (v := ?_) rfl (by kernel_rfl) (by kernel_rfl) (by kernel_rfl) (fun _ _ _ h => h) (Or.inl ⟨by rfl, ?_⟩) (by assumption) ?_
 rotate_left
 ·intro w hSw
  (try dsimp only at hSw)
  go_simp
  (try with_reducible rfl)
 (try simp only [Act.put, qA, qB, qC])
 refine wpAnyH_take (i := 11) (oi := { dst := some 16, op := _, type := _, pos := _, after := _, guard := _ }) (v := ?_) rfl (by kernel_rfl) (by kernel_rfl) (by kernel_rfl) (fun _ _ _ h => h) (Or.inl ⟨by rfl, ?_⟩) (by assumption) ?_
 rotate_left
 ·intro w hSw
  (try dsimp only at hSw)
  go_simp
  (try with_reducible rfl)
 (try simp only [Act.put, qA, qB, qC])
 refine wpAnyH_take (i := 12) (oi := { dst := some 17, op := _, type := _, pos := _, after := _, guard := _ }) (v := ?_) rfl (by kernel_rfl) (by kernel_rfl) (by kernel_rfl) (fun _ _ _ h => h) (Or.inl ⟨by rfl, ?_⟩) (by assumption) ?_
 rotate_left
 ·intro w hSw
  (try dsimp only at hSw)
  go_simp
  (try with_reducible rfl)
 (try simp only [Act.put, qA, qB, qC])
 refine wpAnyH_take (i := 13) (oi := { dst := some 18, op := _, type := _, pos := _, after := _, guard := _ }) (v := ?_) rfl (by kernel_rfl) (by kernel_rfl) (by kernel_rfl) (fun _ _ _ h => h) (Or.inl ⟨by rfl, ?_⟩) (by assumption) ?_
 rotate_left
 ·intro w hSw
  (try dsimp only at hSw)
  go_simp
  (try with_reducible rfl)
 (try simp only [Act.put, qA, qB, qC])
 refine wpAnyH_ready (rs := [8]) (by kernel_rfl) (by simp) ?_
 refine AllReadyH.cons (o := { dst := some 13, op := _, type := _, pos := _, after := _, guard := _ }) rfl (fun K hK => ?_) AllReadyH.nil
 go_simp
 go_wp2_with fail
 refine hK.out _ _ ?_ (fun hHeld => ?_)
 ·exact hd0
 clear hK K
 (try simp only [Act.put, qA, qB, qC])
 refine wpAnyH_take (i := 14) (oi := { dst := some 19, op := _, type := _, pos := _, after := _, guard := _ }) (v := ?_) rfl (by kernel_rfl) (by kernel_rfl) (by kernel_rfl) (fun _ _ _ h => h) (Or.inl ⟨by rfl, ?_⟩) (by assumption) ?_
 rotate_left
 ·intro w hSw
  (try dsimp only at hSw)
  go_simp
  (try with_reducible rfl)
 (try simp only [Act.put, qA, qB, qC])
 refine wpAnyH_take (i := 15) (oi := { dst := some 20, op := _, type := _, pos := _, after := _, guard := _ }) (v := ?_) rfl (by kernel_rfl) (by kernel_rfl) (by kernel_rfl) (fun _ _ _ h => h) (Or.inl ⟨by rfl, ?_⟩) (by assumption) ?_
 rotate_left
 ·intro w hSw
  (try dsimp only at hSw)
  go_simp
  (try with_reducible rfl)
 (try simp only [Act.put, qA, qB, qC])
 refine wpAnyH_done (by kernel_rfl) ?_ _
 go_wp2_with fail
 go_ret
 refine ⟨rfl, ?_, below_set HB.out HG.out, KeepBut.set_ HK.out 1 _⟩
 rw [HW.out]
 exact blk_set HR.out 1 _
theorem takes_calls (w0 W : World) (g : Nat) (s : ByteArray) (p : Nat) (v : Value) (c : Nat) (hR : Rd W g s p v) (hB : Below w0.heap.size w0 W) (hg : w0.heap.size ≤ g) (hp : p ≤ s.size) (hs : s.size ≤ 4611686018427387904) :
  Calls Tryz.prog 60 #[.pointer (some ⟨g, 0, none⟩), .int .u8 (c : Int)] W fun e W' => e = .returned (.bool (takesP s p c).1) ∧ Rd W' g s (takesP s p c).2 v ∧ Below w0.heap.size w0 W' ∧ KeepBut W W' g none := by
 have hl := skip_le s p hp
 unfold takesP
 by_cases hc : nextC s p = c
 ·by_cases he : skipP s p < s.size
  ·rw [if_pos ⟨hc, he⟩]
   exact takes_yes w0 W g s p v c hR hB hg hp hs hc he
  ·rw [if_neg (fun h => he h.2)]
   exact takes_end w0 W g s p v c hR hB hg hp hs hc (by omega)
 ·rw [if_neg (fun h => hc h.1)]
  exact takes_not w0 W g s p v c hR hB hg hp hs hc
end Go.Proofs.YthhmmaihbjhhgaaGreatDoor.Giv
namespace Go.Proofs.YthhmmaihbjhhgaaGreatDoor.Giv
open Go.RowKit Go.Proofs.YthhmmaihbjhhgaaGreatDoorW.PrintWords Go.Proofs.YthhmmaihbjhhgaaGreatDoorW.PrintLast Go.Proofs.YthhmmaihbjhhgaaGreatDoorW.PrintMore
open Go.Proofs.YthhmmaihbjhhgaaGreatDoor.U1 Go.Proofs.YthhmmaihbjhhgaaGreatDoor.Q1
set_option linter.unusedSimpArgs false
theorem rd_below {W W' : World} {g p : Nat} {s : ByteArray} {v : Value} (h : Rd W g s p v) (hb : Below W.heap.size W W') : Rd W' g s p v := (hb.block g (blk_lt h)).trans h
theorem rd_cell0 {W : World} {g p : Nat} {s : ByteArray} {v : Value} (h : Rd W g s p v) : W.cell? ⟨g, 0, none⟩ = some (.string s) := (blk_cell h 0).trans rfl
theorem rd_cell1 {W : World} {g p : Nat} {s : ByteArray} {v : Value} (h : Rd W g s p v) : W.cell? ⟨g, 1, none⟩ = some (.int .i64 (p : Int)) := (blk_cell h 1).trans rfl
theorem rd_cell2 {W : World} {g p : Nat} {s : ByteArray} {v : Value} (h : Rd W g s p v) : W.cell? ⟨g, 2, none⟩ = some v := (blk_cell h 2).trans rfl
theorem rd_set1 {W : World} {g p q : Nat} {s : ByteArray} {v : Value} (h : Rd W g s p v) {x : Int} (hx : x = (q : Int)) : Rd (W.setCell ⟨g, 1, none⟩ (.int .i64 x)) g s q v := by
 subst hx; exact blk_set h 1 _
theorem rd_set2 {W : World} {g p : Nat} {s : ByteArray} {v : Value} (h : Rd W g s p v) (u : Value) : Rd (W.setCell ⟨g, 2, none⟩ u) g s p u := blk_set h 2 _
set_option maxHeartbeats 4000000 in
set_option maxRecDepth 100000 in
theorem text_calls (k : Nat) (w0 W : World) (g : Nat) (s : ByteArray) (p : Nat) (v : Value) (t : ByteArray) (m : Nat) (er : Int) (hR : Rd W g s p v) (hB : Below w0.heap.size w0 W) (hg : w0.heap.size ≤ g) (hp : p ≤ s.size) (hs : s.size ≤ 4611686018427387904) (hj : JTabs w0)
  (h : quote_Read.f k (s.extract p s.size) = some (t, (m : Int), er)) (hm : p + m ≤ s.size) :
  Calls Tryz.prog 41 #[.pointer (some ⟨g, 0, none⟩)] W fun e W' => e = .returned (.tuple #[.string t, .int .i64 er]) ∧ Rd W' g s (p + m) v ∧ Below w0.heap.size w0 W' ∧ KeepBut W W' g none := by
 have HR := Aside0.mk hR
 have HB := Aside0.mk hB
 have HG := Aside0.mk hg
 have FR := Aside0.mk h
 have JT := Aside0.mk hj
 have HW : Aside0 (wrap64 ((p : Int) + (m : Int)) = ((p + m : Nat) : Int)) := ⟨by unfold wrap64; omega⟩
 have hc0 := rd_cell0 hR
 have hc1 := rd_cell1 hR
 have q0 : (0 ≤ (p : Int)) = True := eq_true (by omega)
 have q1 : ((p : Int) ≤ (s.size : Int)) = True := eq_true (by omega)
 have q2 : (p ≤ s.size) = True := eq_true (by omega)
 clear hR hB hg h hj hs hm
 go_enter Tryz.func41, Tryz.ntmps41
 go_wp2_with fail
 refine wp_region_held_drew (S := fun w' => Below w0.heap.size w0 w' ∧ Rd w' g s p v ∧ KeepBut W w' g none) (by kernel_rfl) ⟨below_drew1 HB.out, HR.out, KeepBut.refl W g none⟩ (fun hHeld => ?_)
 refine wpAnyH_take (i := 0) (oi := { dst := some 8, op := _, type := _, pos := _, after := _, guard := _ }) (v := ?_) rfl (by kernel_rfl) (by kernel_rfl) (by kernel_rfl) (fun _ _ _ h => h) (Or.inl ⟨by rfl, ?_⟩) (by assumption) ?_
 rotate_left
 ·intro w hSw
  (try dsimp only at hSw)
  have hl0 := rd_cell0 hSw.2.1
  have hl1 := rd_cell1 hSw.2.1
  clear hSw
  go_simp
  (try with_reducible rfl)
 (try simp only [Act.put, qA, qB, qC])
 refine wpAnyH_take (i := 1) (oi := { dst := some 9, op := _, type := _, pos := _, after := _, guard := _ }) (v := ?_) rfl (by kernel_rfl) (by kernel_rfl) (by kernel_rfl) (fun _ _ _ h => h) (Or.inl ⟨by rfl, ?_⟩) (by assumption) ?_
 rotate_left
 ·intro w hSw
  (try dsimp only at hSw)
  have hl0 := rd_cell0 hSw.2.1
  have hl1 := rd_cell1 hSw.2.1
  clear hSw
  go_simp
  (try with_reducible rfl)
 (try simp only [Act.put, qA, qB, qC])
 refine wpAnyH_take (i := 2) (oi := { dst := some 10, op := _, type := _, pos := _, after := _, guard := _ }) (v := ?_) rfl (by kernel_rfl) (by kernel_rfl) (by kernel_rfl) (fun _ _ _ h => h) (Or.inl ⟨by rfl, ?_⟩) (by assumption) ?_
 rotate_left
 ·intro w hSw
  (try dsimp only at hSw)
  have hl0 := rd_cell0 hSw.2.1
  have hl1 := rd_cell1 hSw.2.1
  clear hSw
  go_simp
  (try with_reducible rfl)
 (try simp only [Act.put, qA, qB, qC])
 refine wpAnyH_take (i := 3) (oi := { dst := some 11, op := _, type := _, pos := _, after := _, guard := _ }) (v := ?_) rfl (by kernel_rfl) (by kernel_rfl) (by kernel_rfl) (fun _ _ _ h => h) (Or.inl ⟨by rfl, ?_⟩) (by assumption) ?_
 rotate_left
 ·intro w hSw
  (try dsimp only at hSw)
  have hl0 := rd_cell0 hSw.2.1
  have hl1 := rd_cell1 hSw.2.1
  clear hSw
  go_simp
  (try with_reducible rfl)
 (try simp only [Act.put, qA, qB, qC])
 refine wpAnyH_take (i := 4) (oi := { dst := some 12, op := _, type := _, pos := _, after := _, guard := _ }) (v := ?_) rfl (by kernel_rfl) (by kernel_rfl) (by kernel_rfl) (fun _ _ _ h => h) (Or.inl ⟨by rfl, ?_⟩) (by assumption) ?_
 rotate_left
 ·intro w hSw
  (try dsimp only at hSw)
  have hl0 := rd_cell0 hSw.2.1
  have hl1 := rd_cell1 hSw.2.1
  clear hSw
  go_simp
  (try with_reducible rfl)
 (try simp only [Act.put, qA, qB, qC])
 refine wpAnyH_take (i := 5) (oi := { dst := some 13, op := _, type := _, pos := _, after := _, guard := _ }) (v := ?_) rfl (by kernel_rfl) (by kernel_rfl) (by kernel_rfl) (fun _ _ _ h => h) (Or.inl ⟨by rfl, ?_⟩) (by assumption) ?_
 rotate_left
 ·intro w hSw
  (try dsimp only at hSw)
  have hl0 := rd_cell0 hSw.2.1
  have hl1 := rd_cell1 hSw.2.1
  clear hSw
  go_simp
  (try with_reducible rfl)
 (try simp only [Act.put, qA, qB, qC])
 refine wpAnyH_take (i := 6) (oi := { dst := some 14, op := _, type := _, pos := _, after := _, guard := _ }) (v := ?_) rfl (by kernel_rfl) (by kernel_rfl) (by kernel_rfl) (fun _ _ _ h => h) (Or.inl ⟨by rfl, ?_⟩) (by assumption) ?_
 rotate_left
 ·intro w hSw
  (try dsimp only at hSw)
  have hl0 := rd_cell0 hSw.2.1
  have hl1 := rd_cell1 hSw.2.1
  clear hSw
  go_simp
  (try with_reducible rfl)
 (try simp only [Act.put, qA, qB, qC])
 refine wpAnyH_take (i := 7) (oi := { dst := some 15, op := _, type := _, pos := _, after := _, guard := _ }) (v := ?_) rfl (by kernel_rfl) (by kernel_rfl) (by kernel_rfl) (fun _ _ _ h => h) (Or.inl ⟨by rfl, ?_⟩) (by assumption) ?_
 rotate_left
 ·intro w hSw
  (try dsimp only at hSw)
  have hl0 := rd_cell0 hSw.2.1
  have hl1 := rd_cell1 hSw.2.1
  clear hSw
  go_simp
  (try with_reducible rfl)
 (try simp only [Act.put, qA, qB, qC])
 refine wpAnyH_take (i := 8) (oi := { dst := some 16, op := _, type := _, pos := _, after := _, guard := _ }) (v := ?_) rfl (by kernel_rfl) (by kernel_rfl) (by kernel_rfl) (fun _ _ _ h => h) (Or.inl ⟨by rfl, ?_⟩) (by assumption) ?_
 rotate_left
 ·intro w hSw
  (try dsimp only at hSw)
  have hl0 := rd_cell0 hSw.2.1
  have hl1 := rd_cell1 hSw.2.1
  clear hSw
  go_simp
  (try with_reducible rfl)
 (try simp only [Act.put, qA, qB, qC])
 refine wpAnyH_ready (rs := [9]) (by kernel_rfl) (by simp) ?_
 refine AllReadyH.cons (o := { dst := some 17, op := _, type := _, pos := _, after := _, guard := _ }) rfl (fun K hK => ?_) AllReadyH.nil
 go_simp
 (go_at_call 62; refine (quote_Read.calls k _ _ _ _ _ FR.out (JT.out.step hHeld.1).tabs).mono ?_; rintro e w1 ⟨rfl, hb⟩)
 go_wp2_with fail
 refine hK.out _ _ ?_ (fun hHeld => ?_)
 ·exact ⟨hHeld.1.trans (hb.mono hHeld.1.size), rd_below hHeld.2.1 hb, hHeld.2.2.trans (KeepBut.of_below hb g none) (.inl rfl)⟩
 clear hK K
 (try simp only [Act.put, qA, qB, qC])
 refine wpAnyH_take (i := 10) (oi := { dst := some 7, op := _, type := _, pos := _, after := _, guard := _ }) (v := ?_) rfl (by kernel_rfl) (by kernel_rfl) (by kernel_rfl) (fun _ _ _ h => h) (Or.inl ⟨by rfl, ?_⟩) (by assumption) ?_
 rotate_left
 ·intro w hSw
  (try dsimp only at hSw)
  have hl0 := rd_cell0 hSw.2.1
  have hl1 := rd_cell1 hSw.2.1
  clear hSw
  go_simp
  (try with_reducible rfl)
 (try simp only [Act.put, qA, qB, qC])
 refine wpAnyH_take (i := 11) (oi := { dst := some 18, op := _, type := _, pos := _, after := _, guard := _ }) (v := ?_) rfl (by kernel_rfl) (by kernel_rfl) (by kernel_rfl) (fun _ _ _ h => h) (Or.inl ⟨by rfl, ?_⟩) (by assumption) ?_
 rotate_left
 ·intro w hSw
  (try dsimp only at hSw)
  have hl0 := rd_cell0 hSw.2.1
  have hl1 := rd_cell1 hSw.2.1
  clear hSw
  go_simp
  (try with_reducible rfl)
 (try simp only [Act.put, qA, qB, qC])
 refine wpAnyH_take (i := 12) (oi := { dst := some 19, op := _, type := _, pos := _, after := _, guard := _ }) (v := ?_) rfl (by kernel_rfl) (by kernel_rfl) (by kernel_rfl) (fun _ _ _ h => h) (Or.inl ⟨by rfl, ?_⟩) (by assumption) ?_
 rotate_left
 ·intro w hSw
  (try dsimp only at hSw)
  have hl0 := rd_cell0 hSw.2.1
  have hl1 := rd_cell1 hSw.2.1
  clear hSw
  go_simp
  (try with_reducible rfl)
 (try simp only [Act.put, qA, qB, qC])
 refine wpAnyH_take (i := 13) (oi := { dst := some 20, op := _, type := _, pos := _, after := _, guard := _ }) (v := ?_) rfl (by kernel_rfl) (by kernel_rfl) (by kernel_rfl) (fun _ _ _ h => h) (Or.inl ⟨by rfl, ?_⟩) (by assumption) ?_
 rotate_left
 ·intro w hSw
  (try dsimp only at hSw)
  have hl0 := rd_cell0 hSw.2.1
  have hl1 := rd_cell1 hSw.2.1
  clear hSw
  go_simp
  (try with_reducible rfl)
 (try simp only [Act.put, qA, qB, qC])
 refine wpAnyH_take (i := 14) (oi := { dst := some 4, op := _, type := _, pos := _, after := _, guard := _ }) (v := ?_) rfl (by kernel_rfl) (by kernel_rfl) (by kernel_rfl) (fun _ _ _ h => h) (Or.inl ⟨by rfl, ?_⟩) (by assumption) ?_
 rotate_left
 ·intro w hSw
  (try dsimp only at hSw)
  have hl0 := rd_cell0 hSw.2.1
  have hl1 := rd_cell1 hSw.2.1
  clear hSw
  go_simp
  (try with_reducible rfl)
 (try simp only [Act.put, qA, qB, qC])
 refine wpAnyH_take (i := 15) (oi := { dst := some 5, op := _, type := _, pos := _, after := _, guard := _ }) (v := ?_) rfl (by kernel_rfl) (by kernel_rfl) (by kernel_rfl) (fun _ _ _ h => h) (Or.inl ⟨by rfl, ?_⟩) (by assumption) ?_
 rotate_left
 ·intro w hSw
  (try dsimp only at hSw)
  have hl0 := rd_cell0 hSw.2.1
  have hl1 := rd_cell1 hSw.2.1
  clear hSw
  go_simp
  (try with_reducible rfl)
 (try simp only [Act.put, qA, qB, qC])
 refine wpAnyH_take (i := 16) (oi := { dst := some 6, op := _, type := _, pos := _, after := _, guard := _ }) (v := ?_) rfl (by kernel_rfl) (by kernel_rfl) (by kernel_rfl) (fun _ _ _ h => h) (Or.inl ⟨by rfl, ?_⟩) (by assumption) ?_
 rotate_left
 ·intro w hSw
  (try dsimp only at hSw)
  have hl0 := rd_cell0 hSw.2.1
  have hl1 := rd_cell1 hSw.2.1
  clear hSw
  go_simp
  (try with_reducible rfl)
 (try simp only [Act.put, qA, qB, qC])
 refine wpAnyH_done (by kernel_rfl) ?_ _
 have HR1 := Aside0.mk hHeld.2.1
 have HB1 := Aside0.mk hHeld.1
 have HK1 := Aside0.mk hHeld.2.2
 have hd1 := rd_cell1 hHeld.2.1
 have hf1 := blk_frozen hHeld.2.1 1
 clear hHeld hc0 hc1
 go_wp2_with fail
 go_ret2
 exact ⟨rfl, rd_set1 HR1.out HW.out, below_set HB1.out HG.out, KeepBut.set_ HK1.out 1 _⟩
end Go.Proofs.YthhmmaihbjhhgaaGreatDoor.Giv
namespace Go.Proofs.YthhmmaihbjhhgaaGreatDoor.Giv
open Go.RowKit Go.Proofs.YthhmmaihbjhhgaaGreatDoorW.PrintWords Go.Proofs.YthhmmaihbjhhgaaGreatDoorW.PrintLast Go.Proofs.YthhmmaihbjhhgaaGreatDoorW.PrintMore
open Go.Proofs.YthhmmaihbjhhgaaGreatDoor.U1 Go.Proofs.YthhmmaihbjhhgaaGreatDoor.Q1
set_option linter.unusedSimpArgs false
def numB (n : Nat) : Bool := n = 43 || n = 45 || n = 46 || n = 69 || n = 101 || (48 ≤ n && n ≤ 57)
def numsL : List UInt8 → Nat
 | [] => 0
 | c :: l => if numB c.toNat = true then numsL l + 1 else 0
def numP (s : ByteArray) (p : Nat) : Nat := p + numsL (s.data.toList.drop p)
theorem num_end (s : ByteArray) (p : Nat) (h : s.size ≤ p) : numP s p = p := by
 unfold numP
 rw [List.drop_eq_nil_of_le (by rw [data_length]; exact h)]; rfl
theorem num_yes (s : ByteArray) (p : Nat) (h : p < s.size) (hb : numB (s.data.toList.getD p 0).toNat = true) : numP s p = numP s (p + 1) := by
 unfold numP
 rw [dropB s p h, numsL, if_pos hb]; omega
theorem num_not (s : ByteArray) (p : Nat) (h : p < s.size) (hb : ¬ numB (s.data.toList.getD p 0).toNat = true) : numP s p = p := by
 unfold numP
 rw [dropB s p h, numsL, if_neg hb]; rfl
set_option maxRecDepth 100000 in
theorem num_index : ∀ n : Nat, n < 256 → decide (0 ≤ Lib.indexByte [43, 45, 46, 69, 101, 48, 49, 50, 51, 52, 53, 54, 55, 56, 57] n.toUInt8) = numB n := by decide +kernel
def numberS (s : ByteArray) (p : Nat) : Int × Int × Nat := if (readN (s.extract p (numP s p))).2 = true then ((readN (s.extract p (numP s p))).1, 0, numP s p) else (0, 83, p)
set_option maxHeartbeats 4000000 in
set_option maxRecDepth 100000 in
theorem number_calls (w0 W : World) (g : Nat) (s : ByteArray) (p : Nat) (v : Value) (hR : Rd W g s p v) (hB : Below w0.heap.size w0 W) (hg : w0.heap.size ≤ g) (hp : p ≤ s.size) (hs : s.size ≤ 4611686018427387904) (hj : JTabs w0) :
  Calls Tryz.prog 42 #[.pointer (some ⟨g, 0, none⟩)] W fun e W' => e = .returned (.tuple #[.int .i64 (numberS s p).1, .int .i64 (numberS s p).2.1]) ∧ Rd W' g s (numberS s p).2.2 v ∧ Below w0.heap.size w0 W' ∧ KeepBut W W' g none := by
 have HR := Aside0.mk hR
 have HB := Aside0.mk hB
 have HG := Aside0.mk hg
 have HS := Aside0.mk hs
 have JT := Aside0.mk hj
 have HK := Aside0.mk (KeepBut.refl W g none)
 have hc0 := rd_cell0 hR
 have hc1 := rd_cell1 hR
 clear hR hB hg hs hj
 go_enter Tryz.func42, Tryz.ntmps42
 go_wp2_with fail
 clear hc0 hc1
 go_loopg [4] (s.size - p) (fun kq v4 wr => ∃ q : Nat, v4 = .int .i64 q ∧ p ≤ q ∧ q ≤ s.size ∧ kq = s.size - q ∧ Aside0 (numP s q = numP s p) ∧ Aside0 (Rd wr g s p v) ∧ Aside0 (KeepBut W wr g none) ∧ Aside0 (Below w0.heap.size w0 wr))
 case atStart => exact ⟨p, rfl, Nat.le_refl _, hp, rfl, ⟨rfl⟩, HR, HK, HB⟩
 case round =>
  obtain ⟨q, rfl, hpq, hq, hgk, HP, HR, HK, HB⟩ := hrel
  have hc0 := rd_cell0 HR.out
  have hc1 := rd_cell1 HR.out
  have hx : ∀ h : q < s.size, ((s[q]'h).toNat : Int) = bt s (q : Int) := fun h => bt_at s (q : Int) h
  have q0 : (0 ≤ (q : Int)) = True := eq_true (by omega)
  have p0 : (0 ≤ (p : Int)) = True := eq_true (by omega)
  have p1 : ((p : Int) ≤ (q : Int)) = True := eq_true (by omega)
  have p2 : ((q : Int) ≤ (s.size : Int)) = True := eq_true (by omega)
  have p3 : (p ≤ q) = True := eq_true hpq
  have p4 : (q ≤ s.size) = True := eq_true hq
  by_cases hlt : q < s.size
  ·have d1 : decide ((q : Int) < (s.size : Int)) = true := decide_eq_true (by omega)
   have q1 : ((q : Int) < (s.size : Int)) = True := eq_true (by omega)
   have hn := UInt8.toNat_lt (s.data.toList.getD q 0)
   have hbt := btL s q
   have hidx : decide (0 ≤ Lib.indexByte [43, 45, 46, 69, 101, 48, 49, 50, 51, 52, 53, 54, 55, 56, 57] ((bt s (q : Int)).toNat.toUInt8)) = numB (s.data.toList.getD q 0).toNat := by
    rw [hbt, Int.toNat_natCast]; exact num_index _ hn
   by_cases hb : numB (s.data.toList.getD q 0).toNat = true
   ·rw [hb] at hidx
    have HN : Aside0 (numP s (q + 1) = numP s p) := ⟨by rw [← num_yes s q hlt hb]; exact HP.out⟩
    have HW : Aside0 (wrap64 ((q : Int) + 1) = ((q + 1 : Nat) : Int)) := ⟨by have := HS.out; unfold wrap64; omega⟩
    clear hbt hn hb
    obtain ⟨kk, rfl⟩ : ∃ kk, gk = kk + 1 := ⟨gk - 1, by omega⟩
    go_wp2_with (go_at_call 44; (with_reducible refine (strings_IndexByte.calls (⟨#[43, 45, 46, 69, 101, 48, 49, 50, 51, 52, 53, 54, 55, 56, 57]⟩ : ByteArray) (bt s (q : Int)) _ _ (rfl : strings_IndexByte.f _ _ = some (Lib.indexByte [43, 45, 46, 69, 101, 48, 49, 50, 51, 52, 53, 54, 55, 56, 57] ((bt s (q : Int)).toNat.toUInt8)))).mono ?_); rintro e w' ⟨rfl, ⟨nd, rfl⟩⟩)
    go_roundg kk
    case measure => omega
    case rel => exact ⟨q + 1, by rw [HW.out], by omega, by omega, by omega, HN, HR, HK, ⟨by repeat (first | exact HB.out | apply pw_below_drewN)⟩⟩
   ·have hb' : numB (s.data.toList.getD q 0).toNat = false := Bool.eq_false_iff.2 hb
    rw [hb'] at hidx
    have HE : Aside0 (numP s p = q) := ⟨by rw [← HP.out]; exact num_not s q hlt hb⟩
    clear hbt hn hb hb'
    go_wp2_with (go_at_call 44; (with_reducible refine (strings_IndexByte.calls (⟨#[43, 45, 46, 69, 101, 48, 49, 50, 51, 52, 53, 54, 55, 56, 57]⟩ : ByteArray) (bt s (q : Int)) _ _ (rfl : strings_IndexByte.f _ _ = some (Lib.indexByte [43, 45, 46, 69, 101, 48, 49, 50, 51, 52, 53, 54, 55, 56, 57] ((bt s (q : Int)).toNat.toUInt8)))).mono ?_); rintro e w' ⟨rfl, ⟨nd, rfl⟩⟩)
    refine wp_region_held_drew (S := fun w' => Below w0.heap.size w0 w' ∧ Rd w' g s p v ∧ KeepBut W w' g none) (by kernel_rfl) ⟨by repeat (first | exact HB.out | apply pw_below_drewN | apply below_drew1), HR.out, HK.out⟩ (fun hHeld => ?_)
    refine wpAnyH_take (i := 0) (oi := { dst := some 31, op := _, type := _, pos := _, after := _, guard := _ }) (v := ?_) rfl (by kernel_rfl) (by kernel_rfl) (by kernel_rfl) (fun _ _ _ h => h) (Or.inl ⟨by rfl, ?_⟩) (by assumption) ?_
    rotate_left
    ·intro w hSw
     (try dsimp only at hSw)
     have hl0 := rd_cell0 hSw.2.1
     have hl1 := rd_cell1 hSw.2.1
     clear hSw
     go_simp
     (try with_reducible rfl)
    (try simp only [Act.put, qA, qB, qC])
    refine wpAnyH_take (i := 1) (oi := { dst := some 32, op := _, type := _, pos := _, after := _, guard := _ }) (v := ?_) rfl (by kernel_rfl) (by kernel_rfl) (by kernel_rfl) (fun _ _ _ h => h) (Or.inl ⟨by rfl, ?_⟩) (by assumption) ?_
    rotate_left
    ·intro w hSw
     (try dsimp only at hSw)
     have hl0 := rd_cell0 hSw.2.1
     have hl1 := rd_cell1 hSw.2.1
     clear hSw
     go_simp
     (try with_reducible rfl)
    (try simp only [Act.put, qA, qB, qC])
    refine wpAnyH_take (i := 2) (oi := { dst := some 33, op := _, type := _, pos := _, after := _, guard := _ }) (v := ?_) rfl (by kernel_rfl) (by kernel_rfl) (by kernel_rfl) (fun _ _ _ h => h) (Or.inl ⟨by rfl, ?_⟩) (by assumption) ?_
    rotate_left
    ·intro w hSw
     (try dsimp only at hSw)
     have hl0 := rd_cell0 hSw.2.1
     have hl1 := rd_cell1 hSw.2.1
     clear hSw
     go_simp
     (try with_reducible rfl)
    (try simp only [Act.put, qA, qB, qC])
    refine wpAnyH_take (i := 3) (oi := { dst := some 34, op := _, type := _, pos := _, after := _, guard := _ }) (v := ?_) rfl (by kernel_rfl) (by kernel_rfl) (by kernel_rfl) (fun _ _ _ h => h) (Or.inl ⟨by rfl, ?_⟩) (by assumption) ?_
    rotate_left
    ·intro w hSw
     (try dsimp only at hSw)
     have hl0 := rd_cell0 hSw.2.1
     have hl1 := rd_cell1 hSw.2.1
     clear hSw
     go_simp
     (try with_reducible rfl)
    (try simp only [Act.put, qA, qB, qC])
    refine wpAnyH_take (i := 4) (oi := { dst := some 35, op := _, type := _, pos := _, after := _, guard := _ }) (v := ?_) rfl (by kernel_rfl) (by kernel_rfl) (by kernel_rfl) (fun _ _ _ h => h) (Or.inl ⟨by rfl, ?_⟩) (by assumption) ?_
    rotate_left
    ·intro w hSw
     (try dsimp only at hSw)
     have hl0 := rd_cell0 hSw.2.1
     have hl1 := rd_cell1 hSw.2.1
     clear hSw
     go_simp
     (try with_reducible rfl)
    (try simp only [Act.put, qA, qB, qC])
    refine wpAnyH_take (i := 5) (oi := { dst := some 36, op := _, type := _, pos := _, after := _, guard := _ }) (v := ?_) rfl (by kernel_rfl) (by kernel_rfl) (by kernel_rfl) (fun _ _ _ h => h) (Or.inl ⟨by rfl, ?_⟩) (by assumption) ?_
    rotate_left
    ·intro w hSw
     (try dsimp only at hSw)
     have hl0 := rd_cell0 hSw.2.1
     have hl1 := rd_cell1 hSw.2.1
     clear hSw
     go_simp
     (try with_reducible rfl)
    (try simp only [Act.put, qA, qB, qC])
    refine wpAnyH_take (i := 6) (oi := { dst := some 37, op := _, type := _, pos := _, after := _, guard := _ }) (v := ?_) rfl (by kernel_rfl) (by kernel_rfl) (by kernel_rfl) (fun _ _ _ h => h) (Or.inl ⟨by rfl, ?_⟩) (by assumption) ?_
    rotate_left
    ·intro w hSw
     (try dsimp only at hSw)
     have hl0 := rd_cell0 hSw.2.1
     have hl1 := rd_cell1 hSw.2.1
     clear hSw
     go_simp
     (try with_reducible rfl)
    (try simp only [Act.put, qA, qB, qC])
    refine wpAnyH_take (i := 7) (oi := { dst := some 38, op := _, type := _, pos := _, after := _, guard := _ }) (v := ?_) rfl (by kernel_rfl) (by kernel_rfl) (by kernel_rfl) (fun _ _ _ h => h) (Or.inl ⟨by rfl, ?_⟩) (by assumption) ?_
    rotate_left
    ·intro w hSw
     (try dsimp only at hSw)
     have hl0 := rd_cell0 hSw.2.1
     have hl1 := rd_cell1 hSw.2.1
     clear hSw
     go_simp
     (try with_reducible rfl)
    (try simp only [Act.put, qA, qB, qC])
    refine wpAnyH_take (i := 8) (oi := { dst := some 39, op := _, type := _, pos := _, after := _, guard := _ }) (v := ?_) rfl (by kernel_rfl) (by kernel_rfl) (by kernel_rfl) (fun _ _ _ h => h) (Or.inl ⟨by rfl, ?_⟩) (by assumption) ?_
    rotate_left
    ·intro w hSw
     (try dsimp only at hSw)
     have hl0 := rd_cell0 hSw.2.1
     have hl1 := rd_cell1 hSw.2.1
     clear hSw
     go_simp
     (try with_reducible rfl)
    (try simp only [Act.put, qA, qB, qC])
    refine wpAnyH_take (i := 9) (oi := { dst := some 40, op := _, type := _, pos := _, after := _, guard := _ }) (v := ?_) rfl (by kernel_rfl) (by kernel_rfl) (by kernel_rfl) (fun _ _ _ h => h) (Or.inl ⟨by rfl, ?_⟩) (by assumption) ?_
    rotate_left
    ·intro w hSw
     (try dsimp only at hSw)
     have hl0 := rd_cell0 hSw.2.1
     have hl1 := rd_cell1 hSw.2.1
     clear hSw
     go_simp
     (try with_reducible rfl)
    (try simp only [Act.put, qA, qB, qC])
    refine wpAnyH_ready (rs := [10]) (by kernel_rfl) (by simp) ?_
    refine AllReadyH.cons (o := { dst := some 41, op := _, type := _, pos := _, after := _, guard := _ }) rfl (fun K hK => ?_) AllReadyH.nil
    go_simp
    (go_at_call 63; refine (readdec_calls _ _ (JT.out.step hHeld.1)).mono ?_; rintro e w1 ⟨rfl, hb⟩); go_wp2_with fail
    refine hK.out _ _ ?_ (fun hHeld => ?_)
    ·exact ⟨hHeld.1.trans (hb.mono hHeld.1.size), rd_below hHeld.2.1 hb, hHeld.2.2.trans (KeepBut.of_below hb g none) (.inl rfl)⟩
    clear hK K
    (try simp only [Act.put, qA, qB, qC])
    refine wpAnyH_take (i := 11) (oi := { dst := some 30, op := _, type := _, pos := _, after := _, guard := _ }) (v := ?_) rfl (by kernel_rfl) (by kernel_rfl) (by kernel_rfl) (fun _ _ _ h => h) (Or.inl ⟨by rfl, ?_⟩) (by assumption) ?_
    rotate_left
    ·intro w hSw
     (try dsimp only at hSw)
     have hl0 := rd_cell0 hSw.2.1
     have hl1 := rd_cell1 hSw.2.1
     clear hSw
     go_simp
     (try with_reducible rfl)
    (try simp only [Act.put, qA, qB, qC])
    refine wpAnyH_take (i := 12) (oi := { dst := some 42, op := _, type := _, pos := _, after := _, guard := _ }) (v := ?_) rfl (by kernel_rfl) (by kernel_rfl) (by kernel_rfl) (fun _ _ _ h => h) (Or.inl ⟨by rfl, ?_⟩) (by assumption) ?_
    rotate_left
    ·intro w hSw
     (try dsimp only at hSw)
     have hl0 := rd_cell0 hSw.2.1
     have hl1 := rd_cell1 hSw.2.1
     clear hSw
     go_simp
     (try with_reducible rfl)
    (try simp only [Act.put, qA, qB, qC])
    refine wpAnyH_take (i := 13) (oi := { dst := some 43, op := _, type := _, pos := _, after := _, guard := _ }) (v := ?_) rfl (by kernel_rfl) (by kernel_rfl) (by kernel_rfl) (fun _ _ _ h => h) (Or.inl ⟨by rfl, ?_⟩) (by assumption) ?_
    rotate_left
    ·intro w hSw
     (try dsimp only at hSw)
     have hl0 := rd_cell0 hSw.2.1
     have hl1 := rd_cell1 hSw.2.1
     clear hSw
     go_simp
     (try with_reducible rfl)
    (try simp only [Act.put, qA, qB, qC])
    refine wpAnyH_take (i := 14) (oi := { dst := some 5, op := _, type := _, pos := _, after := _, guard := _ }) (v := ?_) rfl (by kernel_rfl) (by kernel_rfl) (by kernel_rfl) (fun _ _ _ h => h) (Or.inl ⟨by rfl, ?_⟩) (by assumption) ?_
    rotate_left
    ·intro w hSw
     (try dsimp only at hSw)
     have hl0 := rd_cell0 hSw.2.1
     have hl1 := rd_cell1 hSw.2.1
     clear hSw
     go_simp
     (try with_reducible rfl)
    (try simp only [Act.put, qA, qB, qC])
    refine wpAnyH_take (i := 15) (oi := { dst := some 6, op := _, type := _, pos := _, after := _, guard := _ }) (v := ?_) rfl (by kernel_rfl) (by kernel_rfl) (by kernel_rfl) (fun _ _ _ h => h) (Or.inl ⟨by rfl, ?_⟩) (by assumption) ?_
    rotate_left
    ·intro w hSw
     (try dsimp only at hSw)
     have hl0 := rd_cell0 hSw.2.1
     have hl1 := rd_cell1 hSw.2.1
     clear hSw
     go_simp
     (try with_reducible rfl)
    (try simp only [Act.put, qA, qB, qC])
    refine wpAnyH_done (by kernel_rfl) ?_ _
    have HR1 := Aside0.mk hHeld.2.1
    have HB1 := Aside0.mk hHeld.1
    have HK1 := Aside0.mk hHeld.2.2
    have hd1 := rd_cell1 hHeld.2.1
    have hf1 := blk_frozen hHeld.2.1 1
    clear hHeld hc0 hc1
    obtain ⟨rr, hrr⟩ : ∃ rr, readN (s.extract p q) = rr := ⟨_, rfl⟩
    rw [hrr]
    have HRR := Aside0.mk hrr
    clear hrr
    obtain ⟨ri, rb⟩ := rr
    cases rb with
    | true =>
     go_wp2_with fail
     go_ret2
     refine ⟨?_, ?_, below_set HB1.out HG.out, KeepBut.set_ HK1.out 1 _⟩
     ·unfold numberS; rw [HE.out, HRR.out, if_pos rfl]; rfl
     ·unfold numberS; rw [HE.out, HRR.out, if_pos rfl]; exact rd_set1 HR1.out rfl
    | false =>
     go_wp2_with fail
     go_ret2
     refine ⟨?_, ?_, HB1.out, HK1.out⟩
     ·unfold numberS; rw [HE.out, HRR.out, if_neg (by simp)]; rfl
     ·unfold numberS; rw [HE.out, HRR.out, if_neg (by simp)]; exact HR1.out
  ·obtain rfl : q = s.size := by omega
   have d1 : decide ((s.size : Int) < (s.size : Int)) = false := decide_eq_false (by omega)
   have HE : Aside0 (numP s p = s.size) := ⟨by rw [← HP.out]; exact num_end s _ (Nat.le_refl _)⟩
   go_wp2_with fail
   refine wp_region_held_drew (S := fun w' => Below w0.heap.size w0 w' ∧ Rd w' g s p v ∧ KeepBut W w' g none) (by kernel_rfl) ⟨by repeat (first | exact HB.out | apply pw_below_drewN | apply below_drew1), HR.out, HK.out⟩ (fun hHeld => ?_)
   refine wpAnyH_take (i := 0) (oi := { dst := some 31, op := _, type := _, pos := _, after := _, guard := _ }) (v := ?_) rfl (by kernel_rfl) (by kernel_rfl) (by kernel_rfl) (fun _ _ _ h => h) (Or.inl ⟨by rfl, ?_⟩) (by assumption) ?_
   rotate_left
   ·intro w hSw
    (try dsimp only at hSw)
    have hl0 := rd_cell0 hSw.2.1
    have hl1 := rd_cell1 hSw.2.1
    clear hSw
    go_simp
    (try with_reducible rfl)
   (try simp only [Act.put, qA, qB, qC])
   refine wpAnyH_take (i := 1) (oi := { dst := some 32, op := _, type := _, pos := _, after := _, guard := _ }) (v := ?_) rfl (by kernel_rfl) (by kernel_rfl) (by kernel_rfl) (fun _ _ _ h => h) (Or.inl ⟨by rfl, ?_⟩) (by assumption) ?_
   rotate_left
   ·intro w hSw
    (try dsimp only at hSw)
    have hl0 := rd_cell0 hSw.2.1
    have hl1 := rd_cell1 hSw.2.1
    clear hSw
    go_simp
    (try with_reducible rfl)
   (try simp only [Act.put, qA, qB, qC])
   refine wpAnyH_take (i := 2) (oi := { dst := some 33, op := _, type := _, pos := _, after := _, guard := _ }) (v := ?_) rfl (by kernel_rfl) (by kernel_rfl) (by kernel_rfl) (fun _ _ _ h => h) (Or.inl ⟨by rfl, ?_⟩) (by assumption) ?_
   rotate_left
   ·intro w hSw
    (try dsimp only at hSw)
    have hl0 := rd_cell0 hSw.2.1
    have hl1 := rd_cell1 hSw.2.1
    clear hSw
    go_simp
    (try with_reducible rfl)
   (try simp only [Act.put, qA, qB, qC])
   refine wpAnyH_take (i := 3) (oi := { dst := some 34, op := _, type := _, pos := _, after := _, guard := _ }) (v := ?_) rfl (by kernel_rfl) (by kernel_rfl) (by kernel_rfl) (fun _ _ _ h => h) (Or.inl ⟨by rfl, ?_⟩) (by assumption) ?_
   rotate_left
   ·intro w hSw
    (try dsimp only at hSw)
    have hl0 := rd_cell0 hSw.2.1
    have hl1 := rd_cell1 hSw.2.1
    clear hSw
    go_simp
    (try with_reducible rfl)
   (try simp only [Act.put, qA, qB, qC])
   refine wpAnyH_take (i := 4) (oi := { dst := some 35, op := _, type := _, pos := _, after := _, guard := _ }) (v := ?_) rfl (by kernel_rfl) (by kernel_rfl) (by kernel_rfl) (fun _ _ _ h => h) (Or.inl ⟨by rfl, ?_⟩) (by assumption) ?_
   rotate_left
   ·intro w hSw
    (try dsimp only at hSw)
    have hl0 := rd_cell0 hSw.2.1
    have hl1 := rd_cell1 hSw.2.1
    clear hSw
    go_simp
    (try with_reducible rfl)
   (try simp only [Act.put, qA, qB, qC])
   refine wpAnyH_take (i := 5) (oi := { dst := some 36, op := _, type := _, pos := _, after := _, guard := _ }) (v := ?_) rfl (by kernel_rfl) (by kernel_rfl) (by kernel_rfl) (fun _ _ _ h => h) (Or.inl ⟨by rfl, ?_⟩) (by assumption) ?_
   rotate_left
   ·intro w hSw
    (try dsimp only at hSw)
    have hl0 := rd_cell0 hSw.2.1
    have hl1 := rd_cell1 hSw.2.1
    clear hSw
    go_simp
    (try with_reducible rfl)
   (try simp only [Act.put, qA, qB, qC])
   refine wpAnyH_take (i := 6) (oi := { dst := some 37, op := _, type := _, pos := _, after := _, guard := _ }) (v := ?_) rfl (by kernel_rfl) (by kernel_rfl) (by kernel_rfl) (fun _ _ _ h => h) (Or.inl ⟨by rfl, ?_⟩) (by assumption) ?_
   rotate_left
   ·intro w hSw
    (try dsimp only at hSw)
    have hl0 := rd_cell0 hSw.2.1
    have hl1 := rd_cell1 hSw.2.1
    clear hSw
    go_simp
    (try with_reducible rfl)
   (try simp only [Act.put, qA, qB, qC])
   refine wpAnyH_take (i := 7) (oi := { dst := some 38, op := _, type := _, pos := _, after := _, guard := _ }) (v := ?_) rfl (by kernel_rfl) (by kernel_rfl) (by kernel_rfl) (fun _ _ _ h => h) (Or.inl ⟨by rfl, ?_⟩) (by assumption) ?_
   rotate_left
   ·intro w hSw
    (try dsimp only at hSw)
    have hl0 := rd_cell0 hSw.2.1
    have hl1 := rd_cell1 hSw.2.1
    clear hSw
    go_simp
    (try with_reducible rfl)
   (try simp only [Act.put, qA, qB, qC])
   refine wpAnyH_take (i := 8) (oi := { dst := some 39, op := _, type := _, pos := _, after := _, guard := _ }) (v := ?_) rfl (by kernel_rfl) (by kernel_rfl) (by kernel_rfl) (fun _ _ _ h => h) (Or.inl ⟨by rfl, ?_⟩) (by assumption) ?_
   rotate_left
   ·intro w hSw
    (try dsimp only at hSw)
    have hl0 := rd_cell0 hSw.2.1
    have hl1 := rd_cell1 hSw.2.1
    clear hSw
    go_simp
    (try with_reducible rfl)
   (try simp only [Act.put, qA, qB, qC])
   refine wpAnyH_take (i := 9) (oi := { dst := some 40, op := _, type := _, pos := _, after := _, guard := _ }) (v := ?_) rfl (by kernel_rfl) (by kernel_rfl) (by kernel_rfl) (fun _ _ _ h => h) (Or.inl ⟨by rfl, ?_⟩) (by assumption) ?_
   rotate_left
   ·intro w hSw
    (try dsimp only at hSw)
    have hl0 := rd_cell0 hSw.2.1
    have hl1 := rd_cell1 hSw.2.1
    clear hSw
    go_simp
    (try with_reducible rfl)
   (try simp only [Act.put, qA, qB, qC])
   refine wpAnyH_ready (rs := [10]) (by kernel_rfl) (by simp) ?_
   refine AllReadyH.cons (o := { dst := some 41, op := _, type := _, pos := _, after := _, guard := _ }) rfl (fun K hK => ?_) AllReadyH.nil
   go_simp
   (go_at_call 63; refine (readdec_calls _ _ (JT.out.step hHeld.1)).mono ?_; rintro e w1 ⟨rfl, hb⟩); go_wp2_with fail
   refine hK.out _ _ ?_ (fun hHeld => ?_)
   ·exact ⟨hHeld.1.trans (hb.mono hHeld.1.size), rd_below hHeld.2.1 hb, hHeld.2.2.trans (KeepBut.of_below hb g none) (.inl rfl)⟩
   clear hK K
   (try simp only [Act.put, qA, qB, qC])
   refine wpAnyH_take (i := 11) (oi := { dst := some 30, op := _, type := _, pos := _, after := _, guard := _ }) (v := ?_) rfl (by kernel_rfl) (by kernel_rfl) (by kernel_rfl) (fun _ _ _ h => h) (Or.inl ⟨by rfl, ?_⟩) (by assumption) ?_
   rotate_left
   ·intro w hSw
    (try dsimp only at hSw)
    have hl0 := rd_cell0 hSw.2.1
    have hl1 := rd_cell1 hSw.2.1
    clear hSw
    go_simp
    (try with_reducible rfl)
   (try simp only [Act.put, qA, qB, qC])
   refine wpAnyH_take (i := 12) (oi := { dst := some 42, op := _, type := _, pos := _, after := _, guard := _ }) (v := ?_) rfl (by kernel_rfl) (by kernel_rfl) (by kernel_rfl) (fun _ _ _ h => h) (Or.inl ⟨by rfl, ?_⟩) (by assumption) ?_
   rotate_left
   ·intro w hSw
    (try dsimp only at hSw)
    have hl0 := rd_cell0 hSw.2.1
    have hl1 := rd_cell1 hSw.2.1
    clear hSw
    go_simp
    (try with_reducible rfl)
   (try simp only [Act.put, qA, qB, qC])
   refine wpAnyH_take (i := 13) (oi := { dst := some 43, op := _, type := _, pos := _, after := _, guard := _ }) (v := ?_) rfl (by kernel_rfl) (by kernel_rfl) (by kernel_rfl) (fun _ _ _ h => h) (Or.inl ⟨by rfl, ?_⟩) (by assumption) ?_
   rotate_left
   ·intro w hSw
    (try dsimp only at hSw)
    have hl0 := rd_cell0 hSw.2.1
    have hl1 := rd_cell1 hSw.2.1
    clear hSw
    go_simp
    (try with_reducible rfl)
   (try simp only [Act.put, qA, qB, qC])
   refine wpAnyH_take (i := 14) (oi := { dst := some 5, op := _, type := _, pos := _, after := _, guard := _ }) (v := ?_) rfl (by kernel_rfl) (by kernel_rfl) (by kernel_rfl) (fun _ _ _ h => h) (Or.inl ⟨by rfl, ?_⟩) (by assumption) ?_
   rotate_left
   ·intro w hSw
    (try dsimp only at hSw)
    have hl0 := rd_cell0 hSw.2.1
    have hl1 := rd_cell1 hSw.2.1
    clear hSw
    go_simp
    (try with_reducible rfl)
   (try simp only [Act.put, qA, qB, qC])
   refine wpAnyH_take (i := 15) (oi := { dst := some 6, op := _, type := _, pos := _, after := _, guard := _ }) (v := ?_) rfl (by kernel_rfl) (by kernel_rfl) (by kernel_rfl) (fun _ _ _ h => h) (Or.inl ⟨by rfl, ?_⟩) (by assumption) ?_
   rotate_left
   ·intro w hSw
    (try dsimp only at hSw)
    have hl0 := rd_cell0 hSw.2.1
    have hl1 := rd_cell1 hSw.2.1
    clear hSw
    go_simp
    (try with_reducible rfl)
   (try simp only [Act.put, qA, qB, qC])
   refine wpAnyH_done (by kernel_rfl) ?_ _
   have HR1 := Aside0.mk hHeld.2.1
   have HB1 := Aside0.mk hHeld.1
   have HK1 := Aside0.mk hHeld.2.2
   have hd1 := rd_cell1 hHeld.2.1
   have hf1 := blk_frozen hHeld.2.1 1
   clear hHeld hc0 hc1
   obtain ⟨rr, hrr⟩ : ∃ rr, readN (s.extract p s.size) = rr := ⟨_, rfl⟩
   rw [hrr]
   have HRR := Aside0.mk hrr
   clear hrr
   obtain ⟨ri, rb⟩ := rr
   cases rb with
   | true =>
    go_wp2_with fail
    go_ret2
    refine ⟨?_, ?_, below_set HB1.out HG.out, KeepBut.set_ HK1.out 1 _⟩
    ·unfold numberS; rw [HE.out, HRR.out, if_pos rfl]; rfl
    ·unfold numberS; rw [HE.out, HRR.out, if_pos rfl]; exact rd_set1 HR1.out rfl
   | false =>
    go_wp2_with fail
    go_ret2
    refine ⟨?_, ?_, HB1.out, HK1.out⟩
    ·unfold numberS; rw [HE.out, HRR.out, if_neg (by simp)]; rfl
    ·unfold numberS; rw [HE.out, HRR.out, if_neg (by simp)]; exact HR1.out
end Go.Proofs.YthhmmaihbjhhgaaGreatDoor.Giv
namespace Go.Proofs.YthhmmaihbjhhgaaGreatDoor.J0
open Go.RowKit Go.Proofs.YthhmmaihbjhhgaaGreatDoorW.PrintWords Go.Proofs.YthhmmaihbjhhgaaGreatDoorW.PrintLast Go.Proofs.YthhmmaihbjhhgaaGreatDoorW.PrintMore
attribute [local go_sem] max2_int min2_int max_two min_two max_three min_three max_four min_four
set_option linter.unusedVariables false
set_option linter.unusedSimpArgs false
def errW : Option Int → Value
 | none => .nilIface
 | some c => .iface 0 (.int .i64 c)
theorem errW_none : errW none = .nilIface := rfl
theorem errW_some (c : Int) : errW (some c) = .iface 0 (.int .i64 c) := rfl
end Go.Proofs.YthhmmaihbjhhgaaGreatDoor.J0
namespace Go.Proofs.YthhmmaihbjhhgaaGreatDoor.J0
open Go.RowKit Go.Proofs.YthhmmaihbjhhgaaGreatDoorW.PrintWords Go.Proofs.YthhmmaihbjhhgaaGreatDoorW.PrintLast Go.Proofs.YthhmmaihbjhhgaaGreatDoorW.PrintMore
attribute [local go_sem] max2_int min2_int max_two min_two max_three min_three max_four min_four
set_option linter.unusedVariables false
set_option linter.unusedSimpArgs false
def slices_Index_string_string.l0 : Nat → List ByteArray → ByteArray → Int → Int → Option (Int)
 | 0, _, _, _, _ => none
 | k + 1, x0, x1, x7, x8 => if x8 < x7 then (if 0 ≤ x8 then (if x8 < (x0.length : Int) then (if x1.toList = (rdOf ByteArray.empty x0 x8).toList then (some x8) else (slices_Index_string_string.l0 k x0 x1 x7 (wrap64 (x8 + 1)))) else (none)) else (none)) else (some (-1))
def slices_Index_string_string.f (k : Nat) (l0 : List ByteArray) (a1 : ByteArray) : Option (Int) := slices_Index_string_string.l0 k l0 a1 (l0.length : Int) 0
set_option maxHeartbeats 8000000 in
set_option maxRecDepth 100000 in
theorem slices_Index_string_string.calls (k : Nat) (A0 : Option Addr) (c0 : Nat) (l0 : List ByteArray) (a1 : ByteArray) (r : Int) (w : World) (hr0 : Kd.C Kd.string w A0 l0.length l0) (hc0 : l0.length ≤ c0) (h : slices_Index_string_string.f k l0 a1 = some r) :
  Calls Tryz.prog 71 #[.slice A0 l0.length c0, .string a1] w fun e w' => e = .returned (.int .i64 r) ∧ Drawn0 w w' := by
 have HR0 := Aside0.mk hr0
 have HC0 := Aside0.mk hc0
 clear hr0 hc0
 have H : (slices_Index_string_string.l0 k l0 a1 (l0.length : Int) 0) = some r := h
 clear h
 have H' := Aside0.mk H
 clear H
 go_enter Tryz.func71, Tryz.ntmps71
 go_wp2
 go_loopg [8] k (fun kq v8 w' => ∃ (x8_1 : Int), v8 = .int .i64 x8_1 ∧ Aside0 (slices_Index_string_string.l0 kq l0 a1 (l0.length : Int) x8_1 = some r) ∧ Aside0 (kq ≤ k) ∧ Drawn0 w w')
 case atStart => exact ⟨(0), (by first | rfl | (simp; done) | (simp [*]; done)), H', ⟨Nat.le_refl _⟩, by repeat (first | exact Drawn0.refl _ | apply Drawn0.step)⟩
 case round =>
  clear H'
  try clear c1
  try clear p2
  obtain ⟨x8_1, rfl, HA, HK1, ⟨m1, rfl⟩⟩ := hrel
  cases gk with
  | zero => exact absurd HA.out (by simp [slices_Index_string_string.l0])
  | succ k1 =>
   have H := HA.out
   clear HA
   simp only [slices_Index_string_string.l0] at H
   by_cases c3 : x8_1 < (l0.length : Int)
   ·rw [if_pos c3] at H
    have c3b0 : decide (x8_1 < (l0.length : Int)) = true := decide_eq_true c3
    clear c3
    by_cases c4 : 0 ≤ x8_1
    ·rw [if_pos c4] at H
     have c4b0 : decide (0 ≤ x8_1) = true := decide_eq_true c4
     clear c4
     by_cases c5 : x8_1 < (l0.length : Int)
     ·rw [if_pos c5] at H
      have c5b0 : decide (x8_1 < (l0.length : Int)) = true := decide_eq_true c5
      clear c5
      by_cases c6 : a1.toList = (rdOf ByteArray.empty l0 x8_1).toList
      ·rw [if_pos c6] at H
       have c6b0 : (a1.toList == (rdOf ByteArray.empty l0 x8_1).toList) = true := beq_iff_eq.mpr c6
       have c6b1 : (a1.toList != (rdOf ByteArray.empty l0 x8_1).toList) = false := bne_eq_false_iff_eq.mpr c6
       clear c6
       obtain rfl := Option.some.inj H
       have p101 : 0 ≤ (x8_1 : Int) := of_decide_eq_true (by first | (with_reducible assumption) | assumption)
       have q101 : x8_1 < (l0.length : Int) := of_decide_eq_true (by first | (with_reducible assumption) | assumption)
       obtain ⟨ad101, e101, hx101_0⟩ := Kd.at_string HR0.out x8_1 p101 q101
       cases e101
       replace p101 := eq_true p101
       replace q101 := eq_true q101
       go_wp2
       go_ret
       exact ⟨by first | rfl | (simp; done) | (simp [*]; done), by repeat (first | exact Drawn0.refl _ | apply Drawn0.step)⟩
      ·rw [if_neg c6] at H
       have c6b0 : (a1.toList == (rdOf ByteArray.empty l0 x8_1).toList) = false := beq_eq_false_iff_ne.mpr c6
       have c6b1 : (a1.toList != (rdOf ByteArray.empty l0 x8_1).toList) = true := bne_iff_ne.mpr c6
       have H' := Aside0.mk H
       clear H
       have p101 : 0 ≤ (x8_1 : Int) := of_decide_eq_true (by first | (with_reducible assumption) | assumption)
       have q101 : x8_1 < (l0.length : Int) := of_decide_eq_true (by first | (with_reducible assumption) | assumption)
       obtain ⟨ad101, e101, hx101_0⟩ := Kd.at_string HR0.out x8_1 p101 q101
       cases e101
       replace p101 := eq_true p101
       replace q101 := eq_true q101
       go_wp2
       go_roundg k1
       case measure => have := HK1.out; omega
       case rel => exact ⟨(wrap64 (x8_1 + 1)), (by first | rfl | (simp; done) | (simp [*]; done)), H', ⟨by have := HK1.out; omega⟩, by repeat (first | exact Drawn0.refl _ | apply Drawn0.step)⟩
     ·rw [if_neg c5] at H
      exact absurd H (by simp)
    ·rw [if_neg c4] at H
     exact absurd H (by simp)
   ·rw [if_neg c3] at H
    have c3b0 : decide (x8_1 < (l0.length : Int)) = false := decide_eq_false c3
    clear c3
    obtain rfl := Option.some.inj H
    go_wp2
    go_ret
    exact ⟨by first | rfl | (simp; done) | (simp [*]; done), by repeat (first | exact Drawn0.refl _ | apply Drawn0.step)⟩
def slices_Contains_string_string.f (k : Nat) (l0 : List ByteArray) (a1 : ByteArray) : Option (Bool) := (slices_Index_string_string.f k l0 a1).bind fun t102 => (some (decide (t102 ≥ 0)))
set_option maxHeartbeats 8000000 in
set_option maxRecDepth 100000 in
theorem slices_Contains_string_string.calls (k : Nat) (A0 : Option Addr) (c0 : Nat) (l0 : List ByteArray) (a1 : ByteArray) (r : Bool) (w : World) (hr0 : Kd.C Kd.string w A0 l0.length l0) (hc0 : l0.length ≤ c0) (h : slices_Contains_string_string.f k l0 a1 = some r) :
  Calls Tryz.prog 53 #[.slice A0 l0.length c0, .string a1] w fun e w' => e = .returned (.bool r) ∧ Drawn0 w w' := by
 have HR0 := Aside0.mk hr0
 have HC0 := Aside0.mk hc0
 clear hr0 hc0
 have H : ((slices_Index_string_string.f k l0 a1).bind fun t102 => (some (decide (t102 ≥ 0)))) = some r := h
 clear h
 replace H := Option.bind_eq_some_iff.mp H
 obtain ⟨t102, A30, H⟩ := H
 replace H : (some (decide (t102 ≥ 0))) = some r := H
 have A3 := Aside0.mk A30
 clear A30
 obtain rfl := Option.some.inj H
 go_enter Tryz.func53, Tryz.ntmps53
 go_wp2_with (first | ((with_reducible refine gate_callee (f := 71) rfl ?_); refine goesL_ (some 7) rfl rfl Tryz.func71 (by kernel_rfl) rfl #[.slice A0 l0.length c0, .string a1] rfl (by (try simp only [List.map_toArray, List.map_cons, List.map_nil]); first | done | rfl | (simp only [List.length_drop, List.length_take]; rfl)) ?_; (with_reducible refine (slices_Index_string_string.calls k _ _ l0 a1 t102 _ ?side1 ?side2 A3.out).mono ?_); (case side1 => repeat (first | exact HR0.out | (with_reducible refine Kd.C_alloc ?_ _) | (with_reducible refine Kd.C_drewN ?_ _) | (with_reducible refine Kd.C_drew ?_))); (case side2 => exact HC0.out); rintro e w' ⟨rfl, ⟨nd, rfl⟩⟩; refine ⟨_, rfl, ?_⟩))
 go_ret
 exact ⟨by first | rfl | (simp; done) | (simp [*]; done), by repeat (first | exact Drawn0.refl _ | apply Drawn0.step)⟩
def stringslite_HasPrefix.f (a0 : ByteArray) (a1 : ByteArray) : Option (Bool) := if (a0.size : Int) ≥ (a1.size : Int) then (if 0 ≤ (a1.size : Int) then (if (a1.size : Int) ≤ (a0.size : Int) then (some ((a0.extract 0 ((a1.size : Int) : Int).toNat).toList == a1.toList)) else (none)) else (none)) else (some false)
set_option maxHeartbeats 8000000 in
set_option maxRecDepth 100000 in
theorem stringslite_HasPrefix.calls (a0 : ByteArray) (a1 : ByteArray) (r : Bool) (w : World) (h : stringslite_HasPrefix.f a0 a1 = some r) :
  Calls Tryz.prog 75 #[.string a0, .string a1] w fun e w' => e = .returned (.bool r) ∧ Drawn0 w w' := by
 have H : (if (a0.size : Int) ≥ (a1.size : Int) then (if 0 ≤ (a1.size : Int) then (if (a1.size : Int) ≤ (a0.size : Int) then (some ((a0.extract 0 ((a1.size : Int) : Int).toNat).toList == a1.toList)) else (none)) else (none)) else (some false)) = some r := h
 clear h
 by_cases c3 : (a0.size : Int) ≥ (a1.size : Int)
 ·rw [if_pos c3] at H
  have c3b0 : decide ((a1.size : Int) ≤ (a0.size : Int)) = true := decide_eq_true c3
  have c3b1 : decide (a1.size ≤ a0.size) = true := decide_eq_true (Int.ofNat_le.mp c3)
  clear c3
  by_cases c4 : 0 ≤ (a1.size : Int)
  ·rw [if_pos c4] at H
   have c4b0 := eq_true c4
   have c4b1 : decide (0 ≤ (a1.size : Int)) = true := decide_eq_true c4
   clear c4
   by_cases c5 : (a1.size : Int) ≤ (a0.size : Int)
   ·rw [if_pos c5] at H
    have c5b0 := eq_true c5
    have c5b1 : decide ((a1.size : Int) ≤ (a0.size : Int)) = true := decide_eq_true c5
    clear c5
    obtain rfl := Option.some.inj H
    go_enter Tryz.func75, Tryz.ntmps75
    go_wp2
    go_ret
    exact ⟨by first | rfl | (simp; done) | (simp [*]; done), by repeat (first | exact Drawn0.refl _ | apply Drawn0.step)⟩
   ·rw [if_neg c5] at H
    exact absurd H (by simp)
  ·rw [if_neg c4] at H
   exact absurd H (by simp)
 ·rw [if_neg c3] at H
  have c3b0 : decide ((a1.size : Int) ≤ (a0.size : Int)) = false := decide_eq_false c3
  have c3b1 : decide (a1.size ≤ a0.size) = false := decide_eq_false (fun h => c3 (Int.ofNat_le.mpr h))
  clear c3
  obtain rfl := Option.some.inj H
  go_enter Tryz.func75, Tryz.ntmps75
  go_wp2
  go_ret
  exact ⟨by first | rfl | (simp; done) | (simp [*]; done), by repeat (first | exact Drawn0.refl _ | apply Drawn0.step)⟩
def strings_HasPrefix.f (a0 : ByteArray) (a1 : ByteArray) : Option (Bool) := (stringslite_HasPrefix.f a0 a1).bind fun t103 => (some t103)
set_option maxHeartbeats 8000000 in
set_option maxRecDepth 100000 in
theorem strings_HasPrefix.calls (a0 : ByteArray) (a1 : ByteArray) (r : Bool) (w : World) (h : strings_HasPrefix.f a0 a1 = some r) :
  Calls Tryz.prog 64 #[.string a0, .string a1] w fun e w' => e = .returned (.bool r) ∧ Drawn0 w w' := by
 have H : ((stringslite_HasPrefix.f a0 a1).bind fun t103 => (some t103)) = some r := h
 clear h
 replace H := Option.bind_eq_some_iff.mp H
 obtain ⟨t103, A30, H⟩ := H
 replace H : (some t103) = some r := H
 have A3 := Aside0.mk A30
 clear A30
 obtain rfl := Option.some.inj H
 go_enter Tryz.func64, Tryz.ntmps64
 go_wp2_with (first | ((with_reducible refine gate_callee (f := 75) rfl ?_); refine goesL_ (some 7) rfl rfl Tryz.func75 (by kernel_rfl) rfl #[.string a0, .string a1] rfl (by (try simp only [List.map_toArray, List.map_cons, List.map_nil]); first | done | rfl | (simp only [List.length_drop, List.length_take]; rfl)) ?_; (with_reducible refine (stringslite_HasPrefix.calls a0 a1 t103 _ A3.out).mono ?_); rintro e w' ⟨rfl, ⟨nd, rfl⟩⟩; refine ⟨_, rfl, ?_⟩))
 go_ret
 exact ⟨by first | rfl | (simp; done) | (simp [*]; done), by repeat (first | exact Drawn0.refl _ | apply Drawn0.step)⟩
end Go.Proofs.YthhmmaihbjhhgaaGreatDoor.J0
namespace Go.Proofs.YthhmmaihbjhhgaaGreatDoor.Giv
open Go.RowKit Go.Proofs.YthhmmaihbjhhgaaGreatDoorW.PrintWords Go.Proofs.YthhmmaihbjhhgaaGreatDoorW.PrintLast Go.Proofs.YthhmmaihbjhhgaaGreatDoorW.PrintMore
open Go.Proofs.YthhmmaihbjhhgaaGreatDoor.U1 Go.Proofs.YthhmmaihbjhhgaaGreatDoor.Q1 Go.Proofs.YthhmmaihbjhhgaaGreatDoor.J0
set_option linter.unusedSimpArgs false
theorem str_eq (a b : ByteArray) : a.toList = b.toList ↔ a = b := by
 rw [Lib.toList_data, Lib.toList_data]
 constructor
 ·intro h
  cases a; cases b
  simp at h
  rw [h]
 ·intro h; rw [h]
def idxB (a : ByteArray) : List ByteArray → Nat → Int
 | [], _ => -1
 | x :: l, i => if a = x then (i : Int) else idxB a l (i + 1)
def hasB (a : ByteArray) : List ByteArray → Bool
 | [] => false
 | x :: l => if a = x then true else hasB a l
theorem idx_has (a : ByteArray) : ∀ (l : List ByteArray) (i : Nat), decide (idxB a l i ≥ 0) = hasB a l
 | [], _ => rfl
 | x :: l, i => by
  unfold idxB hasB
  by_cases c : a = x
  ·rw [if_pos c, if_pos c]; exact decide_eq_true (by omega)
  ·rw [if_neg c, if_neg c]; exact idx_has a l (i + 1)
theorem hasB_iff (a : ByteArray) : ∀ l : List ByteArray, hasB a l = true ↔ a ∈ l
 | [] => by simp [hasB]
 | x :: l => by
  unfold hasB
  by_cases c : a = x
  ·rw [if_pos c]; subst c; simp
  ·rw [if_neg c, hasB_iff a l]; simp [c]
theorem index_l0 (l : List ByteArray) (a : ByteArray) (hl : l.length ≤ 9223372036854775807) : ∀ (n k i : Nat), l.length - i = n → i ≤ l.length → n < k → slices_Index_string_string.l0 k l a (l.length : Int) (i : Int) = some (idxB a (l.drop i) i)
 | 0, k, i, h1, h2, h3 => by
  obtain ⟨k, rfl⟩ : ∃ m, k = m + 1 := ⟨k - 1, by omega⟩
  simp only [slices_Index_string_string.l0]
  rw [if_neg (by omega), List.drop_eq_nil_of_le (by omega)]
  rfl
 | n + 1, k, i, h1, h2, h3 => by
  obtain ⟨k, rfl⟩ : ∃ m, k = m + 1 := ⟨k - 1, by omega⟩
  have hi : i < l.length := by omega
  have hd : l.drop i = l[i] :: l.drop (i + 1) := List.drop_eq_getElem_cons hi
  have hr : rdOf ByteArray.empty l (i : Int) = l[i] := by
   unfold rdOf
   rw [Int.toNat_natCast, List.getD_eq_getElem?_getD, List.getElem?_eq_getElem hi]; rfl
  simp only [slices_Index_string_string.l0]
  rw [if_pos (by omega), if_pos (by omega), if_pos (by omega), hr, hd, idxB]
  by_cases c : a = l[i]
  ·rw [if_pos ((str_eq _ _).2 c), if_pos c]
  ·rw [if_neg (fun h => c ((str_eq _ _).1 h)), if_neg c, show wrap64 ((i : Int) + 1) = ((i + 1 : Nat) : Int) by unfold wrap64; omega, index_l0 l a hl n k (i + 1) (by omega) (by omega) (by omega)]
theorem contains_f (k : Nat) (l : List ByteArray) (a : ByteArray) (hk : l.length < k) (hl : l.length ≤ 9223372036854775807) : slices_Contains_string_string.f k l a = some (hasB a l) := by
 unfold slices_Contains_string_string.f slices_Index_string_string.f
 have h := index_l0 l a hl l.length k 0 (by omega) (by omega) hk
 rw [List.drop_zero] at h
 rw [show (0 : Int) = ((0 : Nat) : Int) from rfl, h, Option.bind_some]
 congr 1
 exact idx_has a l 0
def keyF (k : Nat) (s : ByteArray) (p : Nat) (others : List ByteArray) : Option (ByteArray × Int × Nat) :=
 if nextC s p = 34 then (quote_Read.f k (s.extract (skipP s p) s.size)).bind fun r => if 0 ≤ r.2.1 ∧ (skipP s p : Int) + r.2.1 ≤ s.size then
  (if r.2.2 = 0 then (if hasB r.1 others = true then some (⟨#[]⟩, 82, skipP s p + r.2.1.toNat) else if (takesP s (skipP s p + r.2.1.toNat) 58).1 = true then some (r.1, 0, (takesP s (skipP s p + r.2.1.toNat) 58).2) else some (⟨#[]⟩, 80, (takesP s (skipP s p + r.2.1.toNat) 58).2))
   else some (⟨#[]⟩, r.2.2, skipP s p + r.2.1.toNat)) else none
 else some (⟨#[]⟩, 80, skipP s p)
theorem takes_le (s : ByteArray) (p c : Nat) (hp : p ≤ s.size) : (takesP s p c).2 ≤ s.size := by
 have := skip_le s p hp
 unfold takesP; split
 ·rename_i h; exact h.2
 ·exact this
section
variable (w0 W : World) (g : Nat) (s : ByteArray) (p : Nat) (v : Value)
set_option maxHeartbeats 4000000 in
set_option maxRecDepth 100000 in
theorem key_none (kv : Value) (hR : Rd W g s p v) (hB : Below w0.heap.size w0 W) (hg : w0.heap.size ≤ g) (hp : p ≤ s.size) (hs : s.size ≤ 4611686018427387904) (hn : nextC s p ≠ 34) :
  Calls Tryz.prog 61 #[.pointer (some ⟨g, 0, none⟩), kv] W fun e W' => e = .returned (.tuple #[.string ⟨#[]⟩, .int .i64 80]) ∧ Rd W' g s (skipP s p) v ∧ Below w0.heap.size w0 W' ∧ KeepBut W W' g none := by
 have HR := Aside0.mk hR
 have HB := Aside0.mk hB
 have HG := Aside0.mk hg
 have HS := Aside0.mk hs
 have HP := Aside0.mk hp
 have n1 : ((nextC s p : Int) == 34) = false := beq_eq_false_iff_ne.mpr (by omega)
 have n2 : ((nextC s p : Int) != 34) = true := bne_iff_ne.mpr (by omega)
 clear hR hB hg hs hp hn
 go_enter Tryz.func61, Tryz.ntmps61
 go_wp2_with (first
  | (go_at_call 23; refine (next_calls w0 W g s p v HR.out HB.out HG.out HP.out HS.out).mono ?_; rintro e w1 ⟨rfl, hR1, hB1, hK1⟩; have HR1 := Aside0.mk hR1; have HB1 := Aside0.mk hB1; have HK1 := Aside0.mk hK1; clear hR1 hB1 hK1))
 go_ret2
 exact ⟨rfl, HR1.out, HB1.out, HK1.out⟩
set_option maxHeartbeats 4000000 in
set_option maxRecDepth 100000 in
theorem key_err (k : Nat) (t : ByteArray) (m : Nat) (er : Int) (A : Option Addr) (c : Nat) (others : List ByteArray) (hR : Rd W g s p v) (hB : Below w0.heap.size w0 W) (hg : w0.heap.size ≤ g) (hp : p ≤ s.size) (hs : s.size ≤ 4611686018427387904) (hj : JTabs w0) (hn : nextC s p = 34)
  (hr : quote_Read.f k (s.extract (skipP s p) s.size) = some (t, (m : Int), er)) (hm : skipP s p + m ≤ s.size) (ho : Kd.R Kd.string 9 W w0.heap.size (fun j => j ≠ g) (.slice A others.length c) others) (he : er ≠ 0) :
  Calls Tryz.prog 61 #[.pointer (some ⟨g, 0, none⟩), .slice A others.length c] W fun e W' => e = .returned (.tuple #[.string ⟨#[]⟩, .int .i64 er]) ∧ Rd W' g s (skipP s p + m) v ∧ Below w0.heap.size w0 W' ∧ KeepBut W W' g none := by
 have HR := Aside0.mk hR
 have HB := Aside0.mk hB
 have HG := Aside0.mk hg
 have HS := Aside0.mk hs
 have HP := Aside0.mk hp
 have JT := Aside0.mk hj
 have FR := Aside0.mk hr
 have HM := Aside0.mk hm
 have HO := Aside0.mk ho
 have HC := Aside0.mk (Kd.R_reads' ho).2.1
 have HL := Aside0.mk (Kd.R_reads' ho).2.2.2.1
 have n1 : ((nextC s p : Int) == 34) = true := beq_iff_eq.mpr (by omega)
 have n2 : ((nextC s p : Int) != 34) = false := bne_eq_false_iff_eq.mpr (by omega)
 have n3 : (er == 0) = false := beq_eq_false_iff_ne.mpr he
 have n4 : (er != 0) = true := bne_iff_ne.mpr he
 clear he
 clear hR hB hg hs hp hn hr hm ho hj
 go_enter Tryz.func61, Tryz.ntmps61
 go_wp2_with (first
  | (go_at_call 23; refine (next_calls w0 W g s p v HR.out HB.out HG.out HP.out HS.out).mono ?_; rintro e w1 ⟨rfl, hR1, hB1, hK1⟩; have HR1 := Aside0.mk hR1; have HB1 := Aside0.mk hB1; have HK1 := Aside0.mk hK1; clear hR1 hB1 hK1)
  | (go_at_call 41; refine (text_calls k w0 w1 g s (skipP s p) v t m _ HR1.out HB1.out HG.out (skip_le s p HP.out) HS.out JT.out FR.out HM.out).mono ?_; rintro e w2 ⟨rfl, hR2, hB2, hK2⟩; have HR2 := Aside0.mk hR2; have HB2 := Aside0.mk hB2; have HK2 := Aside0.mk (HK1.out.trans hK2 (.inl rfl)); clear hR2 hB2 hK2))
 go_ret2
 exact ⟨rfl, HR2.out, HB2.out, HK2.out⟩
set_option maxHeartbeats 4000000 in
set_option maxRecDepth 100000 in
theorem key_twice (k : Nat) (t : ByteArray) (m : Nat) (er : Int) (A : Option Addr) (c : Nat) (others : List ByteArray) (hR : Rd W g s p v) (hB : Below w0.heap.size w0 W) (hg : w0.heap.size ≤ g) (hp : p ≤ s.size) (hs : s.size ≤ 4611686018427387904) (hj : JTabs w0) (hn : nextC s p = 34)
  (hr : quote_Read.f k (s.extract (skipP s p) s.size) = some (t, (m : Int), er)) (hm : skipP s p + m ≤ s.size) (ho : Kd.R Kd.string 9 W w0.heap.size (fun j => j ≠ g) (.slice A others.length c) others) (he : er = 0) (hh : hasB t others = true) :
  Calls Tryz.prog 61 #[.pointer (some ⟨g, 0, none⟩), .slice A others.length c] W fun e W' => e = .returned (.tuple #[.string ⟨#[]⟩, .int .i64 82]) ∧ Rd W' g s (skipP s p + m) v ∧ Below w0.heap.size w0 W' ∧ KeepBut W W' g none := by
 have HR := Aside0.mk hR
 have HB := Aside0.mk hB
 have HG := Aside0.mk hg
 have HS := Aside0.mk hs
 have HP := Aside0.mk hp
 have JT := Aside0.mk hj
 have FR := Aside0.mk hr
 have HM := Aside0.mk hm
 have HO := Aside0.mk ho
 have HC := Aside0.mk (Kd.R_reads' ho).2.1
 have HL := Aside0.mk (Kd.R_reads' ho).2.2.2.1
 have n1 : ((nextC s p : Int) == 34) = true := beq_iff_eq.mpr (by omega)
 have n2 : ((nextC s p : Int) != 34) = false := bne_eq_false_iff_eq.mpr (by omega)
 subst he
 have FC : Aside0 (slices_Contains_string_string.f (others.length + 1) others t = some true) := ⟨by rw [contains_f _ _ _ (by omega) HL.out, hh]⟩
 clear hh
 clear hR hB hg hs hp hn hr hm ho hj
 go_enter Tryz.func61, Tryz.ntmps61
 go_wp2_with (first
  | (go_at_call 23; refine (next_calls w0 W g s p v HR.out HB.out HG.out HP.out HS.out).mono ?_; rintro e w1 ⟨rfl, hR1, hB1, hK1⟩; have HR1 := Aside0.mk hR1; have HB1 := Aside0.mk hB1; have HK1 := Aside0.mk hK1; clear hR1 hB1 hK1)
  | (go_at_call 41; refine (text_calls k w0 w1 g s (skipP s p) v t m _ HR1.out HB1.out HG.out (skip_le s p HP.out) HS.out JT.out FR.out HM.out).mono ?_; rintro e w2 ⟨rfl, hR2, hB2, hK2⟩; have HR2 := Aside0.mk hR2; have HB2 := Aside0.mk hB2; have HK2 := Aside0.mk (HK1.out.trans hK2 (.inl rfl)); clear hR2 hB2 hK2)
  | (go_at_call 53; refine (slices_Contains_string_string.calls (others.length + 1) A c others t _ w2 (Kd.R_reads' (Kd.R_keep HO.out HK2.out (fun _ h => h))).2.2 HC.out FC.out).mono ?_; rintro e w3 ⟨rfl, ⟨nd, rfl⟩⟩))
 go_ret2
 exact ⟨rfl, HR2.out, pw_below_drewN HB2.out _, keep_drewN HK2.out _⟩
set_option maxHeartbeats 4000000 in
set_option maxRecDepth 100000 in
theorem key_colon (k : Nat) (t : ByteArray) (m : Nat) (er : Int) (A : Option Addr) (c : Nat) (others : List ByteArray) (hR : Rd W g s p v) (hB : Below w0.heap.size w0 W) (hg : w0.heap.size ≤ g) (hp : p ≤ s.size) (hs : s.size ≤ 4611686018427387904) (hj : JTabs w0) (hn : nextC s p = 34)
  (hr : quote_Read.f k (s.extract (skipP s p) s.size) = some (t, (m : Int), er)) (hm : skipP s p + m ≤ s.size) (ho : Kd.R Kd.string 9 W w0.heap.size (fun j => j ≠ g) (.slice A others.length c) others) (he : er = 0) (hh : hasB t others = false) (ht : (takesP s (skipP s p + m) 58).1 = false) :
  Calls Tryz.prog 61 #[.pointer (some ⟨g, 0, none⟩), .slice A others.length c] W fun e W' => e = .returned (.tuple #[.string ⟨#[]⟩, .int .i64 80]) ∧ Rd W' g s (takesP s (skipP s p + m) 58).2 v ∧ Below w0.heap.size w0 W' ∧ KeepBut W W' g none := by
 have HR := Aside0.mk hR
 have HB := Aside0.mk hB
 have HG := Aside0.mk hg
 have HS := Aside0.mk hs
 have HP := Aside0.mk hp
 have JT := Aside0.mk hj
 have FR := Aside0.mk hr
 have HM := Aside0.mk hm
 have HO := Aside0.mk ho
 have HC := Aside0.mk (Kd.R_reads' ho).2.1
 have HL := Aside0.mk (Kd.R_reads' ho).2.2.2.1
 have n1 : ((nextC s p : Int) == 34) = true := beq_iff_eq.mpr (by omega)
 have n2 : ((nextC s p : Int) != 34) = false := bne_eq_false_iff_eq.mpr (by omega)
 subst he
 have FC : Aside0 (slices_Contains_string_string.f (others.length + 1) others t = some false) := ⟨by rw [contains_f _ _ _ (by omega) HL.out, hh]⟩
 clear hh
 have n5 : (takesP s (skipP s p + m) 58).1 = false := ht
 clear ht
 clear hR hB hg hs hp hn hr hm ho hj
 go_enter Tryz.func61, Tryz.ntmps61
 go_wp2_with (first
  | (go_at_call 23; refine (next_calls w0 W g s p v HR.out HB.out HG.out HP.out HS.out).mono ?_; rintro e w1 ⟨rfl, hR1, hB1, hK1⟩; have HR1 := Aside0.mk hR1; have HB1 := Aside0.mk hB1; have HK1 := Aside0.mk hK1; clear hR1 hB1 hK1)
  | (go_at_call 41; refine (text_calls k w0 w1 g s (skipP s p) v t m _ HR1.out HB1.out HG.out (skip_le s p HP.out) HS.out JT.out FR.out HM.out).mono ?_; rintro e w2 ⟨rfl, hR2, hB2, hK2⟩; have HR2 := Aside0.mk hR2; have HB2 := Aside0.mk hB2; have HK2 := Aside0.mk (HK1.out.trans hK2 (.inl rfl)); clear hR2 hB2 hK2)
  | (go_at_call 53; refine (slices_Contains_string_string.calls (others.length + 1) A c others t _ w2 (Kd.R_reads' (Kd.R_keep HO.out HK2.out (fun _ h => h))).2.2 HC.out FC.out).mono ?_; rintro e w3 ⟨rfl, ⟨nd, rfl⟩⟩)
  | (go_at_call 60; refine (takes_calls w0 (w2.drewN nd) g s (skipP s p + m) v 58 HR2.out (pw_below_drewN HB2.out _) HG.out HM.out HS.out).mono ?_; rintro e w4 ⟨rfl, hR4, hB4, hK4⟩; have HR4 := Aside0.mk hR4; have HB4 := Aside0.mk hB4; have HK4 := Aside0.mk ((keep_drewN HK2.out nd).trans hK4 (.inl rfl)); clear hR4 hB4 hK4))
 go_ret2
 exact ⟨rfl, HR4.out, HB4.out, HK4.out⟩
set_option maxHeartbeats 4000000 in
set_option maxRecDepth 100000 in
theorem key_yes (k : Nat) (t : ByteArray) (m : Nat) (er : Int) (A : Option Addr) (c : Nat) (others : List ByteArray) (hR : Rd W g s p v) (hB : Below w0.heap.size w0 W) (hg : w0.heap.size ≤ g) (hp : p ≤ s.size) (hs : s.size ≤ 4611686018427387904) (hj : JTabs w0) (hn : nextC s p = 34)
  (hr : quote_Read.f k (s.extract (skipP s p) s.size) = some (t, (m : Int), er)) (hm : skipP s p + m ≤ s.size) (ho : Kd.R Kd.string 9 W w0.heap.size (fun j => j ≠ g) (.slice A others.length c) others) (he : er = 0) (hh : hasB t others = false) (ht : (takesP s (skipP s p + m) 58).1 = true) :
  Calls Tryz.prog 61 #[.pointer (some ⟨g, 0, none⟩), .slice A others.length c] W fun e W' => e = .returned (.tuple #[.string t, .int .i64 0]) ∧ Rd W' g s (takesP s (skipP s p + m) 58).2 v ∧ Below w0.heap.size w0 W' ∧ KeepBut W W' g none := by
 have HR := Aside0.mk hR
 have HB := Aside0.mk hB
 have HG := Aside0.mk hg
 have HS := Aside0.mk hs
 have HP := Aside0.mk hp
 have JT := Aside0.mk hj
 have FR := Aside0.mk hr
 have HM := Aside0.mk hm
 have HO := Aside0.mk ho
 have HC := Aside0.mk (Kd.R_reads' ho).2.1
 have HL := Aside0.mk (Kd.R_reads' ho).2.2.2.1
 have n1 : ((nextC s p : Int) == 34) = true := beq_iff_eq.mpr (by omega)
 have n2 : ((nextC s p : Int) != 34) = false := bne_eq_false_iff_eq.mpr (by omega)
 subst he
 have FC : Aside0 (slices_Contains_string_string.f (others.length + 1) others t = some false) := ⟨by rw [contains_f _ _ _ (by omega) HL.out, hh]⟩
 clear hh
 have n5 : (takesP s (skipP s p + m) 58).1 = true := ht
 clear ht
 clear hR hB hg hs hp hn hr hm ho hj
 go_enter Tryz.func61, Tryz.ntmps61
 go_wp2_with (first
  | (go_at_call 23; refine (next_calls w0 W g s p v HR.out HB.out HG.out HP.out HS.out).mono ?_; rintro e w1 ⟨rfl, hR1, hB1, hK1⟩; have HR1 := Aside0.mk hR1; have HB1 := Aside0.mk hB1; have HK1 := Aside0.mk hK1; clear hR1 hB1 hK1)
  | (go_at_call 41; refine (text_calls k w0 w1 g s (skipP s p) v t m _ HR1.out HB1.out HG.out (skip_le s p HP.out) HS.out JT.out FR.out HM.out).mono ?_; rintro e w2 ⟨rfl, hR2, hB2, hK2⟩; have HR2 := Aside0.mk hR2; have HB2 := Aside0.mk hB2; have HK2 := Aside0.mk (HK1.out.trans hK2 (.inl rfl)); clear hR2 hB2 hK2)
  | (go_at_call 53; refine (slices_Contains_string_string.calls (others.length + 1) A c others t _ w2 (Kd.R_reads' (Kd.R_keep HO.out HK2.out (fun _ h => h))).2.2 HC.out FC.out).mono ?_; rintro e w3 ⟨rfl, ⟨nd, rfl⟩⟩)
  | (go_at_call 60; refine (takes_calls w0 (w2.drewN nd) g s (skipP s p + m) v 58 HR2.out (pw_below_drewN HB2.out _) HG.out HM.out HS.out).mono ?_; rintro e w4 ⟨rfl, hR4, hB4, hK4⟩; have HR4 := Aside0.mk hR4; have HB4 := Aside0.mk hB4; have HK4 := Aside0.mk ((keep_drewN HK2.out nd).trans hK4 (.inl rfl)); clear hR4 hB4 hK4))
 go_ret2
 exact ⟨rfl, HR4.out, HB4.out, HK4.out⟩
theorem key_calls (k : Nat) (others : List ByteArray) (t : ByteArray) (er : Int) (q : Nat) (A : Option Addr) (c : Nat) (h : keyF k s p others = some (t, er, q)) (hR : Rd W g s p v) (hB : Below w0.heap.size w0 W) (hg : w0.heap.size ≤ g) (hp : p ≤ s.size) (hs : s.size ≤ 4611686018427387904) (hj : JTabs w0)
  (ho : Kd.R Kd.string 9 W w0.heap.size (fun j => j ≠ g) (.slice A others.length c) others) :
  Calls Tryz.prog 61 #[.pointer (some ⟨g, 0, none⟩), .slice A others.length c] W fun e W' => e = .returned (.tuple #[.string t, .int .i64 er]) ∧ Rd W' g s q v ∧ Below w0.heap.size w0 W' ∧ KeepBut W W' g none := by
 unfold keyF at h
 by_cases hn : nextC s p = 34
 ·rw [if_pos hn] at h
  obtain ⟨⟨t1, m1, e1⟩, hr, h⟩ := Option.bind_eq_some_iff.1 h
  simp only at h
  by_cases hm : 0 ≤ m1 ∧ (skipP s p : Int) + m1 ≤ s.size
  ·rw [if_pos hm] at h
   obtain ⟨m, rfl⟩ : ∃ m : Nat, m1 = m := ⟨m1.toNat, by omega⟩
   rw [Int.toNat_natCast] at h
   by_cases he : e1 = 0
   ·rw [if_pos he] at h
    by_cases hh : hasB t1 others = true
    ·rw [if_pos hh] at h
     cases h
     exact key_twice w0 W g s p v k t1 m e1 A c others hR hB hg hp hs hj hn hr (by omega) ho he hh
    ·rw [if_neg hh] at h
     by_cases ht : (takesP s (skipP s p + m) 58).1 = true
     ·rw [if_pos ht] at h
      cases h
      exact key_yes w0 W g s p v k t m e1 A c others hR hB hg hp hs hj hn hr (by omega) ho he (Bool.eq_false_iff.2 hh) ht
     ·rw [if_neg ht] at h
      cases h
      exact key_colon w0 W g s p v k t1 m e1 A c others hR hB hg hp hs hj hn hr (by omega) ho he (Bool.eq_false_iff.2 hh) (Bool.eq_false_iff.2 ht)
   ·rw [if_neg he] at h
    cases h
    exact key_err w0 W g s p v k t1 m er A c others hR hB hg hp hs hj hn hr (by omega) ho he
  ·rw [if_neg hm] at h; cases h
 ·rw [if_neg hn] at h
  cases h
  exact key_none w0 W g s p v _ hR hB hg hp hs hn
end
end Go.Proofs.YthhmmaihbjhhgaaGreatDoor.Giv
namespace Go.Proofs.YthhmmaihbjhhgaaGreatDoor.J1
open Go.Proofs.YthhmmaihbjhhgaaGreatDoor.Giv Go.Proofs.YthhmmaihbjhhgaaGreatDoor.U1 Go.Proofs.YthhmmaihbjhhgaaGreatDoor.Q1 Go.RowKit Go.Proofs.YthhmmaihbjhhgaaGreatDoorW.PrintWords Go.Proofs.YthhmmaihbjhhgaaGreatDoorW.PrintLast Go.Proofs.YthhmmaihbjhhgaaGreatDoorW.PrintMore
attribute [local go_sem] max2_int min2_int max_two min_two max_three min_three max_four min_four
set_option linter.unusedVariables false
set_option linter.unusedSimpArgs false
def errW : Option Int → Value
 | none => .nilIface
 | some c => .iface 0 (.int .i64 c)
theorem errW_none : errW none = .nilIface := rfl
theorem errW_some (c : Int) : errW (some c) = .iface 0 (.int .i64 c) := rfl
theorem info40 : (Tryz.prog.info? 40).map (fun i => (i.zero, i.size, i.bytes)) = some (some (.agg #[(.int .i64 0), (.int .i64 0), (.string ⟨#[]⟩), (.string ⟨#[]⟩), (.int .i64 0)]), 5, 56) := by kernel_rfl
theorem info39 : (Tryz.prog.info? 39).map (fun i => (i.zero, i.size, i.bytes)) = some (some (.agg #[(.int .i64 0), (.int .i64 0), (.string ⟨#[]⟩), (.string ⟨#[]⟩), (.int .i64 0)]), 5, 56) := by kernel_rfl
structure S39 where
 f0 : Int
 f1 : Int
 f2 : ByteArray
 f3 : ByteArray
 f4 : Int
def z39 : S39 := ⟨(0 : Int), (0 : Int), (⟨#[]⟩ : ByteArray), (⟨#[]⟩ : ByteArray), (0 : Int)⟩
def k39 : Kd S39 := Kd.iso (Kd.pair (Kd.int .i64) (Kd.pair (Kd.int .i64) (Kd.pair Kd.string (Kd.pair Kd.string (Kd.int .i64))))) (fun x : S39 => (x.f0, x.f1, x.f2, x.f3, x.f4))
theorem k39_open {w : World} {x : S39} {cs : List Value} (h : k39.K w x cs) : cs = [.int .i64 x.f0, .int .i64 x.f1, .string x.f2, .string x.f3, .int .i64 x.f4] := by
 obtain ⟨_, _, rfl, rfl, ⟨_, _, rfl, rfl, ⟨_, _, rfl, rfl, ⟨_, _, rfl, rfl, rfl⟩⟩⟩⟩ := h
 exact rfl
theorem k39_mk (w : World) (x : S39)  : k39.K w x [.int .i64 x.f0, .int .i64 x.f1, .string x.f2, .string x.f3, .int .i64 x.f4] := ⟨[.int .i64 x.f0], [.int .i64 x.f1, .string x.f2, .string x.f3, .int .i64 x.f4], rfl, rfl, ⟨[.int .i64 x.f1], [.string x.f2, .string x.f3, .int .i64 x.f4], rfl, rfl, ⟨[.string x.f2], [.string x.f3, .int .i64 x.f4], rfl, rfl, ⟨[.string x.f3], [.int .i64 x.f4], rfl, rfl, rfl⟩⟩⟩⟩
theorem k39_mkM (w : World) (base : Nat) (ok : Nat → Prop) (x : S39)  : k39.M w base ok x [.int .i64 x.f0, .int .i64 x.f1, .string x.f2, .string x.f3, .int .i64 x.f4] := ⟨[.int .i64 x.f0], [.int .i64 x.f1, .string x.f2, .string x.f3, .int .i64 x.f4], rfl, rfl, ⟨[.int .i64 x.f1], [.string x.f2, .string x.f3, .int .i64 x.f4], rfl, rfl, ⟨[.string x.f2], [.string x.f3, .int .i64 x.f4], rfl, rfl, ⟨[.string x.f3], [.int .i64 x.f4], rfl, rfl, rfl⟩⟩⟩⟩
def rd_T39 (xs : List S39) (i : Int) : S39 := xs.getD i.toNat z39
theorem at_T39 {w : World} {A : Option Addr} {n : Nat} {xs : List S39} (h : Kd.C k39 w A n xs) (i : Int) (h0 : 0 ≤ i) (h1 : i < n) : ∃ ad , A = some ad ∧ w.cell? (ad.add (i.toNat * 5)) = some (.int .i64 (rd_T39 xs i).f0) ∧ w.cell? ⟨(ad.add (i.toNat * 5)).block, (ad.add (i.toNat * 5)).off + 1, none⟩ = some (.int .i64 (rd_T39 xs i).f1) ∧ w.cell? ⟨(ad.add (i.toNat * 5)).block, (ad.add (i.toNat * 5)).off + 2, none⟩ = some (.string (rd_T39 xs i).f2) ∧ w.cell? ⟨(ad.add (i.toNat * 5)).block, (ad.add (i.toNat * 5)).off + 3, none⟩ = some (.string (rd_T39 xs i).f3) ∧ w.cell? ⟨(ad.add (i.toNat * 5)).block, (ad.add (i.toNat * 5)).off + 4, none⟩ = some (.int .i64 (rd_T39 xs i).f4) := by
 obtain ⟨ad, c, e, _, hK, hc0⟩ := Kd.C_get h z39 i h0 h1
 have hc : ∀ j u, c[j]? = some u → w.cell? (ad.add (i.toNat * 5 + j)) = some u := hc0
 obtain rfl := k39_open hK
 exact ⟨ad, e, hc 0 _ rfl, by rw [← add_field _ _ 1 (by omega)]; exact hc 1 _ rfl, by rw [← add_field _ _ 2 (by omega)]; exact hc 2 _ rfl, by rw [← add_field _ _ 3 (by omega)]; exact hc 3 _ rfl, by rw [← add_field _ _ 4 (by omega)]; exact hc 4 _ rfl⟩
structure S40 where
 f0 : Int
 f1 : Int
 f2 : ByteArray
 f3 : ByteArray
 f4 : Int
def z40 : S40 := ⟨(0 : Int), (0 : Int), (⟨#[]⟩ : ByteArray), (⟨#[]⟩ : ByteArray), (0 : Int)⟩
def k40 : Kd S40 := Kd.iso (Kd.pair (Kd.int .i64) (Kd.pair (Kd.int .i64) (Kd.pair Kd.string (Kd.pair Kd.string (Kd.int .i64))))) (fun x : S40 => (x.f0, x.f1, x.f2, x.f3, x.f4))
theorem k40_open {w : World} {x : S40} {cs : List Value} (h : k40.K w x cs) : cs = [.int .i64 x.f0, .int .i64 x.f1, .string x.f2, .string x.f3, .int .i64 x.f4] := by
 obtain ⟨_, _, rfl, rfl, ⟨_, _, rfl, rfl, ⟨_, _, rfl, rfl, ⟨_, _, rfl, rfl, rfl⟩⟩⟩⟩ := h
 exact rfl
theorem k40_mkM (w : World) (base : Nat) (ok : Nat → Prop) (x : S40)  : k40.M w base ok x [.int .i64 x.f0, .int .i64 x.f1, .string x.f2, .string x.f3, .int .i64 x.f4] := ⟨[.int .i64 x.f0], [.int .i64 x.f1, .string x.f2, .string x.f3, .int .i64 x.f4], rfl, rfl, ⟨[.int .i64 x.f1], [.string x.f2, .string x.f3, .int .i64 x.f4], rfl, rfl, ⟨[.string x.f2], [.string x.f3, .int .i64 x.f4], rfl, rfl, ⟨[.string x.f3], [.int .i64 x.f4], rfl, rfl, rfl⟩⟩⟩⟩
def rd_T40 (xs : List S40) (i : Int) : S40 := xs.getD i.toNat z40
theorem at_T40 {w : World} {A : Option Addr} {n : Nat} {xs : List S40} (h : Kd.C k40 w A n xs) (i : Int) (h0 : 0 ≤ i) (h1 : i < n) : ∃ ad , A = some ad ∧ w.cell? (ad.add (i.toNat * 5)) = some (.int .i64 (rd_T40 xs i).f0) ∧ w.cell? ⟨(ad.add (i.toNat * 5)).block, (ad.add (i.toNat * 5)).off + 1, none⟩ = some (.int .i64 (rd_T40 xs i).f1) ∧ w.cell? ⟨(ad.add (i.toNat * 5)).block, (ad.add (i.toNat * 5)).off + 2, none⟩ = some (.string (rd_T40 xs i).f2) ∧ w.cell? ⟨(ad.add (i.toNat * 5)).block, (ad.add (i.toNat * 5)).off + 3, none⟩ = some (.string (rd_T40 xs i).f3) ∧ w.cell? ⟨(ad.add (i.toNat * 5)).block, (ad.add (i.toNat * 5)).off + 4, none⟩ = some (.int .i64 (rd_T40 xs i).f4) := by
 obtain ⟨ad, c, e, _, hK, hc0⟩ := Kd.C_get h z40 i h0 h1
 have hc : ∀ j u, c[j]? = some u → w.cell? (ad.add (i.toNat * 5 + j)) = some u := hc0
 obtain rfl := k40_open hK
 exact ⟨ad, e, hc 0 _ rfl, by rw [← add_field _ _ 1 (by omega)]; exact hc 1 _ rfl, by rw [← add_field _ _ 2 (by omega)]; exact hc 2 _ rfl, by rw [← add_field _ _ 3 (by omega)]; exact hc 3 _ rfl, by rw [← add_field _ _ 4 (by omega)]; exact hc 4 _ rfl⟩
end Go.Proofs.YthhmmaihbjhhgaaGreatDoor.J1
namespace Go.Proofs.YthhmmaihbjhhgaaGreatDoor.Giv
open Go.RowKit Go.Proofs.YthhmmaihbjhhgaaGreatDoorW.PrintWords Go.Proofs.YthhmmaihbjhhgaaGreatDoorW.PrintLast Go.Proofs.YthhmmaihbjhhgaaGreatDoorW.PrintMore
open Go.Proofs.YthhmmaihbjhhgaaGreatDoor.U1 Go.Proofs.YthhmmaihbjhhgaaGreatDoor.Q1 Go.Proofs.YthhmmaihbjhhgaaGreatDoor.J0 Go.Proofs.YthhmmaihbjhhgaaGreatDoor.J1
set_option linter.unusedSimpArgs false
abbrev Out (w0 W : World) (g : Nat) (v : Value) (out : List S40) : Prop := Kd.R k40 40 W w0.heap.size (fun j => j ≠ g) v out
structure Left (w0 W W' : World) (g : Nat) (s : ByteArray) (p' : Nat) (v : Value) (out' : List S40) : Prop where
 left : ∃ v', Rd W' g s p' v' ∧ Out w0 W' g v' out' ∧ (v'.ownBlock = v.ownBlock ∨ ∃ b, v'.ownBlock = some b ∧ W.heap.size ≤ b)
 below : Below w0.heap.size w0 W'
 keep : KeepBut W W' g v.ownBlock
def itemV (x : S40) : Value := .agg #[.int .i64 x.f0, .int .i64 x.f1, .string x.f2, .string x.f3, .int .i64 x.f4]
abbrev Itm (W : World) (b : Nat) (x : S40) : Prop := W.heap[b]? = some (.cells #[.int .i64 x.f0, .int .i64 x.f1, .string x.f2, .string x.f3, .int .i64 x.f4] 40 (0, 0))
theorem keep_wide {W W' : World} {g : Nat} {row : Option Nat} (h : KeepBut W W' g none) : KeepBut W W' g row := ⟨h.1, fun i hi hg _ => h.2 i hi hg (by simp)⟩
theorem prefix_f (s : ByteArray) (p : Nat) (t : List UInt8)  : strings_HasPrefix.f (s.extract p s.size) ⟨t.toArray⟩ = some (decide (t <+: s.data.toList.drop p)) := by
 have hz : (⟨t.toArray⟩ : ByteArray).size = t.length := by show t.toArray.size = _; rw [List.size_toArray]
 have hd : (s.extract p s.size).data.toList = s.data.toList.drop p := by
  rw [ByteArray.data_extract, Array.toList_extract]
  simp
  rw [List.take_of_length_le (by rw [List.length_drop, data_length]; exact Nat.le_refl _)]
 have hl : (s.extract p s.size).size = (s.data.toList.drop p).length := by rw [← hd, data_length]
 unfold strings_HasPrefix.f stringslite_HasPrefix.f
 by_cases c : t.length ≤ (s.data.toList.drop p).length
 ·rw [if_pos (by omega), if_pos (by omega), if_pos (by omega), Option.bind_some, hz]
  congr 1
  rw [Lib.toList_data, Lib.toList_data, ByteArray.data_extract, Array.toList_extract, hd]
  rw [Bool.eq_iff_iff, beq_iff_eq, decide_eq_true_iff, List.prefix_iff_eq_take]
  simp
  constructor
  ·intro h; exact h.symm
  ·intro h; exact h.symm
 ·rw [if_neg (by omega), Option.bind_some]
  congr 1
  symm
  rw [decide_eq_false_iff_not]
  intro h
  exact c (List.IsPrefix.length_le h)
theorem Left.pre {w0 W w1 W' : World} {g q : Nat} {s : ByteArray} {v : Value} {out : List S40} (hk : KeepBut W w1 g none) (h : Left w0 w1 W' g s q v out) : Left w0 W W' g s q v out :=
 ⟨by obtain ⟨v', a, b, c⟩ := h.left; exact ⟨v', a, b, c.imp id (fun ⟨k, e, hk2⟩ => ⟨k, e, Nat.le_trans hk.1 hk2⟩)⟩, h.below, (keep_wide hk).trans h.keep (.inl rfl)⟩
theorem push_append {ops : Array Oper} {o : Oper} {a : Act} {Kc : Act → World → Prop} {Q : Exit → Act → World → Prop} (sl xl : Operand) {w0 W : World} {g b : Nat} {s : ByteArray} {p : Nat} {v : Value} {x : S40} {out : List S40}
  (hw : Region.wanted o (yielded ops a.tmps) = true) (ho : o.op = .call { callee := .builtin .append, args := #[sl, xl], argTypes := #[26, 26] }) (hs : a.eval sl = v) (hx : a.eval xl = .slice (some ⟨W.heap.size, 0, none⟩) 1 1)
  (hR : Rd W g s p v) (hI : Itm W b x) (hO : Kd.R k40 40 W w0.heap.size (fun j => j ≠ g ∧ j ≠ b) v out) (hB : Below w0.heap.size w0 W) (hg : w0.heap.size ≤ g) (hl : (out.length + 1) * 56 ≤ 140737488355328)
  (h : ∀ (As : Option Addr) (N2 cc : Nat) (w2 : World), Rd w2 g s p v → Left w0 W (w2.setCell ⟨g, 2, none⟩ (.slice As N2 cc)) g s p v (out ++ [x]) → Kc (a.put o.dst (.slice As N2 cc)) w2) :
  if Region.wanted o (yielded ops a.tmps) = true then Oper.wp Tryz.prog o a (W.drew.alloc (.cells #[.int .i64 x.f0, .int .i64 x.f1, .string x.f2, .string x.f3, .int .i64 x.f4] 40)) Kc Q else Kc (a.put o.dst undef) (W.drew.alloc (.cells #[.int .i64 x.f0, .int .i64 x.f1, .string x.f2, .string x.f3, .int .i64 x.f4] 40)) := by
 have h1 := blk_lt hR
 have h2 := blk_lt hI
 have hO' : Kd.R k40 40 W.drew w0.heap.size (fun j => j ≠ g ∧ j ≠ b) v out := Kd.R_move hO (fun _ _ => rfl)
 refine Kd.R_append_step k40 (w0 := w0) (W := W.drew) w0.heap.size hw sl xl 26 40 (.agg #[(.int .i64 0), (.int .i64 0), (.string ⟨#[]⟩), (.string ⟨#[]⟩), (.int .i64 0)]) 56 ho Tryz.underlying26 info40 rfl (by decide) (by decide) v out x [.int .i64 x.f0, .int .i64 x.f1, .string x.f2, .string x.f3, .int .i64 x.f4] (fun j => j ≠ g ∧ j ≠ b) (fun _ => False) hs hx (k40_mkM _ _ _ x) (fun _ h => h.elim) (fun k hk => ?_) hO' (below_drew1 hB) hB.size hl ?_
 ·have hk3 : W.heap.size ≤ k := hk
  omega
 intro v2 w2 hO2 hB2 hG2 hA2
 obtain ⟨As, cc, hv2⟩ := Kd.R_slice hO2
 subst hv2
 have hR2 : Rd w2 g s p v := (hG2.block g h1 (fun e => (hO.1 g e.symm).1 rfl)).trans hR
 refine h _ _ _ _ hR2 ⟨⟨_, rd_set2 hR2 _, Kd.R_far (Kd.R_mono hO2 (fun _ h => h.1)) (fun _ h => h) _, hA2⟩, below_set hB2 hg, KeepBut.set_ (KeepBut.of_grown (w := W) ⟨hG2.os, hG2.tape, hG2.output, hG2.size, hG2.block⟩ g) 2 _⟩
theorem keep_push {w1 : World} {g b : Nat} {s : ByteArray} {p : Nat} {v : Value} {x : S40} (hR : Rd w1 g s p v) (hI : Itm w1 b x) (o : Obj) :
  (w1.drew.alloc o).cell? ⟨g, 2, none⟩ = some v ∧ (w1.drew.alloc o).heap[b]? = some (.cells #[.int .i64 x.f0, .int .i64 x.f1, .string x.f2, .string x.f3, .int .i64 x.f4] 40 (0, 0)) := by
 have h1 : g < w1.drew.heap.size := blk_lt hR
 have h2 : b < w1.drew.heap.size := blk_lt hI
 exact ⟨(World.cell?_alloc_lt w1.drew o ⟨g, 2, none⟩ h1).trans (rd_cell2 hR), (Below.heap_alloc w1.drew o b h2).trans hI⟩
theorem ix136_0 (w : World) : (Instr.index 104 (.agg #[.string ⟨#[110, 117, 108, 108]⟩, .string ⟨#[102, 97, 108, 115, 101]⟩, .string ⟨#[116, 114, 117, 101]⟩]) (.int .i64 0)).run Tryz.prog w = .ok (.string ⟨#[110, 117, 108, 108]⟩) w := by kernel_rfl
theorem ix136_1 (w : World) : (Instr.index 104 (.agg #[.string ⟨#[110, 117, 108, 108]⟩, .string ⟨#[102, 97, 108, 115, 101]⟩, .string ⟨#[116, 114, 117, 101]⟩]) (.int .i64 1)).run Tryz.prog w = .ok (.string ⟨#[102, 97, 108, 115, 101]⟩) w := by kernel_rfl
theorem ix136_2 (w : World) : (Instr.index 104 (.agg #[.string ⟨#[110, 117, 108, 108]⟩, .string ⟨#[102, 97, 108, 115, 101]⟩, .string ⟨#[116, 114, 117, 101]⟩]) (.int .i64 2)).run Tryz.prog w = .ok (.string ⟨#[116, 114, 117, 101]⟩) w := by kernel_rfl
set_option maxHeartbeats 8000000 in
set_option maxRecDepth 100000 in
theorem word_walk (w0 W : World) (g : Nat) (s : ByteArray) (p : Nat) (v : Value) (out : List S40) (x : S40) (hR : Rd W g s p v) (hO : Out w0 W g v out) (hB : Below w0.heap.size w0 W) (hg : w0.heap.size ≤ g) (hp : p ≤ s.size) (hs : s.size ≤ 4611686018427387904) (hl : (out.length + 1) * 56 ≤ 140737488355328)
  (b0 b1 b2 : Bool) (h0 : strings_HasPrefix.f (s.extract p s.size) ⟨#[110, 117, 108, 108]⟩ = some b0) (h1 : strings_HasPrefix.f (s.extract p s.size) ⟨#[102, 97, 108, 115, 101]⟩ = some b1) (h2 : strings_HasPrefix.f (s.extract p s.size) ⟨#[116, 114, 117, 101]⟩ = some b2)
  (n0 : b0 = true → p + 4 ≤ s.size) (n1 : b1 = true → p + 5 ≤ s.size) (n2 : b2 = true → p + 4 ≤ s.size) :
  Calls Tryz.prog 43 #[.pointer (some ⟨g, 0, none⟩), itemV x] W fun e W' => e = .returned (.int .i64 (if b0 || b1 || b2 then 0 else 80)) ∧ Left w0 W W' g s (if b0 then p + 4 else if b1 then p + 5 else if b2 then p + 4 else p) v (if b0 then out ++ [⟨x.f0, 1, x.f2, x.f3, x.f4⟩] else if b1 then out ++ [⟨x.f0, 2, x.f2, x.f3, x.f4⟩] else if b2 then out ++ [⟨x.f0, 3, x.f2, x.f3, x.f4⟩] else out) := by
 have HR := Aside0.mk hR
 have HO := Aside0.mk hO
 have HB := Aside0.mk hB
 have HG := Aside0.mk hg
 have HL := Aside0.mk hl
 have HS := Aside0.mk hs
 have F0 := Aside0.mk h0
 have F1 := Aside0.mk h1
 have F2 := Aside0.mk h2
 have HN0 := Aside0.mk n0
 have HN1 := Aside0.mk n1
 have HN2 := Aside0.mk n2
 have q0 : (0 ≤ (p : Int)) = True := eq_true (by omega)
 have q1 : ((p : Int) ≤ (s.size : Int)) = True := eq_true (by omega)
 have q2 : (p ≤ s.size) = True := eq_true (by omega)
 clear hR hB hg hs hO hl h0 h1 h2 n0 n1 n2
 unfold itemV
 go_enter Tryz.func43, Tryz.ntmps43
 go_wp2_with fail
 obtain ⟨b, hb⟩ : ∃ b, W.heap.size = b := ⟨_, rfl⟩
 have hgW := blk_lt HR.out
 have HA : Aside0 (Below W.heap.size W (W.alloc (.cells #[.int .i64 x.f0, .int .i64 x.f1, .string x.f2, .string x.f3, .int .i64 x.f4] 40))) := ⟨below_alloc (Below.refl _ _) _⟩
 have HI : Aside0 (Itm (W.alloc (.cells #[.int .i64 x.f0, .int .i64 x.f1, .string x.f2, .string x.f3, .int .i64 x.f4] 40)) b x) := ⟨by rw [← hb]; exact heap_alloc_new _ _⟩
 have HR := Aside0.mk (rd_below HR.out HA.out)
 have HO : Aside0 (Kd.R k40 40 (W.alloc (.cells #[.int .i64 x.f0, .int .i64 x.f1, .string x.f2, .string x.f3, .int .i64 x.f4] 40)) w0.heap.size (fun j => j ≠ g ∧ j ≠ b) v out) := ⟨Kd.R_below (Kd.R_mono (Kd.R_bound HO.out) (fun k hk => ⟨hk.1, by have := hk.2.2.1; omega⟩)) HA.out⟩
 have HK := Aside0.mk (KeepBut.of_below HA.out g none)
 have HBo := HB
 have HB := Aside0.mk (below_step HB.out HA.out)
 have HB0 : Aside0 (w0.heap.size ≤ W.heap.size) := ⟨HBo.out.size⟩
 have HBG : Aside0 (W.heap.size ≤ b) := ⟨by omega⟩
 have hne1 : ¬ b = g := by omega
 have hne2 : ¬ g = b := by omega
 rw [hb]
 generalize W.alloc (.cells #[.int .i64 x.f0, .int .i64 x.f1, .string x.f2, .string x.f3, .int .i64 x.f4] 40) = W1 at HA HI HR HO HK HB ⊢
 clear HA hb
 go_loopg [8] 3 (fun kq v8 wr => (v8 = .int .i64 0 ∧ kq = 3 ∨ v8 = .int .i64 1 ∧ kq = 2 ∧ b0 = false ∨ v8 = .int .i64 2 ∧ kq = 1 ∧ b0 = false ∧ b1 = false ∨ v8 = .int .i64 3 ∧ kq = 0 ∧ b0 = false ∧ b1 = false ∧ b2 = false) ∧ Aside0 (Rd wr g s p v) ∧ Aside0 (Kd.R k40 40 wr w0.heap.size (fun j => j ≠ g ∧ j ≠ b) v out) ∧ Aside0 (Itm wr b x) ∧ Aside0 (KeepBut W wr g none) ∧ Aside0 (Below w0.heap.size w0 wr))
 case atStart => exact ⟨.inl ⟨rfl, rfl⟩, HR, HO, HI, HK, HB⟩
 case round =>
  obtain ⟨hk, HR, HO, HI, HK, HB⟩ := hrel
  have hc0 := rd_cell0 HR.out
  have hc1 := rd_cell1 HR.out
  rcases hk with ⟨rfl, hgk⟩ | ⟨rfl, hgk, rfl⟩ | ⟨rfl, hgk, rfl, rfl⟩ | ⟨rfl, hgk, rfl, rfl, rfl⟩
  ·-- word 0
   cases b0 with
   | true =>
    have HW : Aside0 (wrap64 ((p : Int) + 4) = ((p + 4 : Nat) : Int)) := ⟨by have := HS.out; have := HN0.out rfl; unfold wrap64; omega⟩
    have hc1 := rd_cell1 HR.out
    have hf1 := blk_frozen HR.out 1
    have hi1 : wr.cell? ⟨b, 1, none⟩ = some (.int .i64 x.f1) := (blk_cell HI.out 1).trans rfl
    have hif1 := blk_frozen HI.out 1
    have hix := ix136_0
    go_wp2_with ((go_at_call 64; (with_reducible refine (strings_HasPrefix.calls (s.extract p s.size) (⟨#[110, 117, 108, 108]⟩ : ByteArray) _ _ (F0.out)).mono ?_); rintro e w' ⟨rfl, ⟨nd, rfl⟩⟩; (try first | exact ⟨rfl, _, World.drewN_drewN _ _ _⟩ | exact ⟨rfl, _, Eq.trans (World.drewN_drewN _ _ _) (congrArg (World.drewN _) (Nat.add_assoc _ _ _))⟩)))
    repeat (go_quiet ((go_at_call 64; (with_reducible refine (strings_HasPrefix.calls (s.extract p s.size) (⟨#[110, 117, 108, 108]⟩ : ByteArray) _ _ (F0.out)).mono ?_); rintro e w' ⟨rfl, ⟨nd, rfl⟩⟩; (try first | exact ⟨rfl, _, World.drewN_drewN _ _ _⟩ | exact ⟨rfl, _, Eq.trans (World.drewN_drewN _ _ _) (congrArg (World.drewN _) (Nat.add_assoc _ _ _))⟩))); try go_wp2_with ((go_at_call 64; (with_reducible refine (strings_HasPrefix.calls (s.extract p s.size) (⟨#[110, 117, 108, 108]⟩ : ByteArray) _ _ (F0.out)).mono ?_); rintro e w' ⟨rfl, ⟨nd, rfl⟩⟩; (try first | exact ⟨rfl, _, World.drewN_drewN _ _ _⟩ | exact ⟨rfl, _, Eq.trans (World.drewN_drewN _ _ _) (congrArg (World.drewN _) (Nat.add_assoc _ _ _))⟩))))
    have HRa := Aside0.mk (blk_far (rd_set1 (W := wr.drewN nq) HR.out HW.out) (p := ⟨b, 1, none⟩) hne2 (.int .i64 1))
    have HIa : Aside0 (Itm (((wr.drewN nq).setCell ⟨g, 1, none⟩ (.int .i64 (wrap64 ((p : Int) + 4)))).setCell ⟨b, 1, none⟩ (.int .i64 1)) b (⟨x.f0, 1, x.f2, x.f3, x.f4⟩ : S40)) := ⟨blk_set (blk_far (w := wr.drewN nq) HI.out (p := ⟨g, 1, none⟩) hne1 _) 1 _⟩
    have HOa := Aside0.mk (Kd.R_far (Kd.R_far (w := wr.drewN nq) HO.out (p := ⟨g, 1, none⟩) (fun _ h => h.1) (.int .i64 (wrap64 ((p : Int) + 4)))) (p := ⟨b, 1, none⟩) (fun _ h => h.2) (.int .i64 1))
    have HKa := Aside0.mk (keep_far (KeepBut.set_ (keep_drewN HK.out nq) 1 (.int .i64 (wrap64 ((p : Int) + 4)))) (p := ⟨b, 1, none⟩) HBG.out (.int .i64 1))
    have HBa := Aside0.mk (below_set (j := 1) (below_set (j := 1) (v := .int .i64 (wrap64 ((p : Int) + 4))) (pw_below_drewN HB.out nq) HG.out) (v := .int .i64 1) (g := b) (Nat.le_trans HB0.out HBG.out))
    generalize ((wr.drewN nq).setCell ⟨g, 1, none⟩ (.int .i64 (wrap64 ((p : Int) + 4)))).setCell ⟨b, 1, none⟩ (.int .i64 1) = w1 at HRa HIa HOa HKa HBa ⊢
    clear hc0 hc1 hf1 hi1 hif1
    refine start_ (n := 11) (S := fun w' => w'.cell? ⟨g, 2, none⟩ = some v ∧ w'.heap[b]? = some (.cells #[.int .i64 ((⟨x.f0, 1, x.f2, x.f3, x.f4⟩ : S40)).f0, .int .i64 ((⟨x.f0, 1, x.f2, x.f3, x.f4⟩ : S40)).f1, .string ((⟨x.f0, 1, x.f2, x.f3, x.f4⟩ : S40)).f2, .string ((⟨x.f0, 1, x.f2, x.f3, x.f4⟩ : S40)).f3, .int .i64 ((⟨x.f0, 1, x.f2, x.f3, x.f4⟩ : S40)).f4] 40 (0, 0))) (ds := [7, 10]) #[false, false, false, false, false, false, false, false, false, false, false] (by kernel_rfl) rfl rfl ⟨rd_cell2 HRa.out, HIa.out⟩ (fun hHeld => ?_)
    refine pure_ (i := 0) (N := some 35) (v := ?_) (a' := ?_) #[true, false, false, false, false, false, false, false, false, false, false] rfl rfl (by kernel_rfl) (fun _ _ _ h => h) (Or.inl ⟨by rfl, ?_⟩) ?_ ?_
    rotate_left
    ·intro w'
     go_simp
     (try with_reducible rfl)
    rotate_left
    ·simp only [Act.put, qA, qB, qC]
     rfl
    refine pure_ (i := 1) (N := some 36) (v := ?_) (a' := ?_) #[true, true, false, false, false, false, false, false, false, false, false] rfl rfl (by kernel_rfl) (fun _ _ _ h => h) (Or.inl ⟨by rfl, ?_⟩) ?_ ?_
    rotate_left
    ·intro w'
     go_simp
     (try with_reducible rfl)
    rotate_left
    ·simp only [Act.put, qA, qB, qC]
     rfl
    refine pure_ (i := 2) (N := some 37) (v := ?_) (a' := ?_) #[true, true, true, false, false, false, false, false, false, false, false] rfl rfl (by kernel_rfl) (fun _ _ _ h => h) (Or.inl ⟨by rfl, ?_⟩) ?_ ?_
    rotate_left
    ·intro w'
     go_simp
     (try with_reducible rfl)
    rotate_left
    ·simp only [Act.put, qA, qB, qC]
     rfl
    refine pure_ (i := 3) (N := some 38) (v := ?_) (a' := ?_) #[true, true, true, true, false, false, false, false, false, false, false] rfl rfl (by kernel_rfl) (fun _ _ _ h => h) (Or.inl ⟨by rfl, ?_⟩) ?_ ?_
    rotate_left
    ·intro w'
     go_simp
     (try with_reducible rfl)
    rotate_left
    ·simp only [Act.put, qA, qB, qC]
     rfl
    refine take_ (i := 4) (N := some 39) (v := ?_) (a' := ?_) #[true, true, true, true, true, false, false, false, false, false, false] rfl rfl (by kernel_rfl) (fun _ _ _ h => h) (Or.inl ⟨by rfl, ?_⟩) (by assumption) ?_ ?_
    rotate_left
    ·intro w hSw
     obtain ⟨hl0, hl1⟩ := hSw
     go_simp
     (try with_reducible rfl)
    rotate_left
    ·simp only [Act.put, qA, qB, qC]
     rfl
    refine take_ (i := 5) (N := some 40) (v := ?_) (a' := ?_) #[true, true, true, true, true, true, false, false, false, false, false] rfl rfl (by kernel_rfl) (fun _ _ _ h => h) (Or.inl ⟨by rfl, ?_⟩) (by assumption) ?_ ?_
    rotate_left
    ·intro w hSw
     obtain ⟨hl0, hl1⟩ := hSw
     have hm0 : w.cell? ⟨b, 0, none⟩ = some (.int .i64 ((⟨x.f0, 1, x.f2, x.f3, x.f4⟩ : S40)).f0) := (blk_cell hl1 0).trans rfl
     have hm1 : w.cell? ⟨b, 1, none⟩ = some (.int .i64 ((⟨x.f0, 1, x.f2, x.f3, x.f4⟩ : S40)).f1) := (blk_cell hl1 1).trans rfl
     have hm2 : w.cell? ⟨b, 2, none⟩ = some (.string ((⟨x.f0, 1, x.f2, x.f3, x.f4⟩ : S40)).f2) := (blk_cell hl1 2).trans rfl
     have hm3 : w.cell? ⟨b, 3, none⟩ = some (.string ((⟨x.f0, 1, x.f2, x.f3, x.f4⟩ : S40)).f3) := (blk_cell hl1 3).trans rfl
     have hm4 : w.cell? ⟨b, 4, none⟩ = some (.int .i64 ((⟨x.f0, 1, x.f2, x.f3, x.f4⟩ : S40)).f4) := (blk_cell hl1 4).trans rfl
     clear hl1
     go_simp
     (try with_reducible rfl)
    rotate_left
    ·simp only [Act.put, qA, qB, qC]
     rfl
    refine one_ (i := 6) (N := some 41) #[true, true, true, true, true, true, true, false, false, false, false] rfl rfl (by kernel_rfl) (by decide) (fun K hK => ?_)
    refine event_step (W := w1.drew) (v := .slice (some ⟨w1.heap.size, 0, none⟩) 1 1) (w1 := w1.drew.alloc (.cells #[.int .i64 ((⟨x.f0, 1, x.f2, x.f3, x.f4⟩ : S40)).f0, .int .i64 ((⟨x.f0, 1, x.f2, x.f3, x.f4⟩ : S40)).f1, .string ((⟨x.f0, 1, x.f2, x.f3, x.f4⟩ : S40)).f2, .string ((⟨x.f0, 1, x.f2, x.f3, x.f4⟩ : S40)).f3, .int .i64 ((⟨x.f0, 1, x.f2, x.f3, x.f4⟩ : S40)).f4] 40)) (by rfl) (by kernel_rfl) ?_
    refine hK.out _ _ ?_ (fun hHeld => ?_)
    ·exact keep_push HRa.out HIa.out _
    clear hK K
    (try simp only [Act.put, qA, qB, qC])
    refine last_ (i := 7) (N := some 42) #[true, true, true, true, true, true, true, true, false, false, false] rfl rfl (by kernel_rfl) (by decide) (fun K hK => ?_)
    refine push_append (.tmp 39) (.tmp 41) (by rfl) rfl rfl rfl HRa.out HIa.out HOa.out HBa.out HG.out HL.out ?_
    intro As N2 cc w2 hR2 hP2
    have hc2a := rd_cell2 hR2
    have hf2a := blk_frozen hR2 2
    have HPa := Aside0.mk hP2
    clear hR2 hP2
    refine hK.out _ _ ?_
    clear hK K
    (try simp only [Act.put, qA, qB, qC])
    refine pure_ (i := 8) (N := some 43) (v := ?_) (a' := ?_) #[true, true, true, true, true, true, true, true, true, false, false] rfl rfl (by kernel_rfl) (fun _ _ _ h => h) (Or.inl ⟨by rfl, ?_⟩) ?_ ?_
    rotate_left
    ·intro w'
     go_simp
     (try with_reducible rfl)
    rotate_left
    ·simp only [Act.put, qA, qB, qC]
     rfl
    refine pure_ (i := 9) (N := some 44) (v := ?_) (a' := ?_) #[true, true, true, true, true, true, true, true, true, true, false] rfl rfl (by kernel_rfl) (fun _ _ _ h => h) (Or.inl ⟨by rfl, ?_⟩) ?_ ?_
    rotate_left
    ·intro w'
     go_simp
     (try with_reducible rfl)
    rotate_left
    ·simp only [Act.put, qA, qB, qC]
     rfl
    refine last_ (i := 10) (N := none) #[true, true, true, true, true, true, true, true, true, true, true] rfl rfl (by kernel_rfl) (by decide) (fun K hK => ?_)
    go_simp
    refine hK.out _ _ ?_
    clear hK K
    (try simp only [Act.put, qA, qB, qC])
    refine done_ (by kernel_rfl) ?_
    go_wp2_with fail
    go_ret
    exact ⟨rfl, Left.pre HKa.out HPa.out⟩
   | false =>
    subst hgk
    have hix := ix136_0
    go_wp2_with ((go_at_call 64; (with_reducible refine (strings_HasPrefix.calls (s.extract p s.size) (⟨#[110, 117, 108, 108]⟩ : ByteArray) _ _ (F0.out)).mono ?_); rintro e w' ⟨rfl, ⟨nd, rfl⟩⟩; (try first | exact ⟨rfl, _, World.drewN_drewN _ _ _⟩ | exact ⟨rfl, _, Eq.trans (World.drewN_drewN _ _ _) (congrArg (World.drewN _) (Nat.add_assoc _ _ _))⟩)))
    repeat (go_quiet ((go_at_call 64; (with_reducible refine (strings_HasPrefix.calls (s.extract p s.size) (⟨#[110, 117, 108, 108]⟩ : ByteArray) _ _ (F0.out)).mono ?_); rintro e w' ⟨rfl, ⟨nd, rfl⟩⟩; (try first | exact ⟨rfl, _, World.drewN_drewN _ _ _⟩ | exact ⟨rfl, _, Eq.trans (World.drewN_drewN _ _ _) (congrArg (World.drewN _) (Nat.add_assoc _ _ _))⟩))); try go_wp2_with ((go_at_call 64; (with_reducible refine (strings_HasPrefix.calls (s.extract p s.size) (⟨#[110, 117, 108, 108]⟩ : ByteArray) _ _ (F0.out)).mono ?_); rintro e w' ⟨rfl, ⟨nd, rfl⟩⟩; (try first | exact ⟨rfl, _, World.drewN_drewN _ _ _⟩ | exact ⟨rfl, _, Eq.trans (World.drewN_drewN _ _ _) (congrArg (World.drewN _) (Nat.add_assoc _ _ _))⟩))))
    go_roundg 2
    case measure => omega
    case rel => exact ⟨by simp, HR, HO, HI, HK, ⟨pw_below_drewN HB.out _⟩⟩
  ·-- word 1
   cases b1 with
   | true =>
    have HW : Aside0 (wrap64 ((p : Int) + 5) = ((p + 5 : Nat) : Int)) := ⟨by have := HS.out; have := HN1.out rfl; unfold wrap64; omega⟩
    have hc1 := rd_cell1 HR.out
    have hf1 := blk_frozen HR.out 1
    have hi1 : wr.cell? ⟨b, 1, none⟩ = some (.int .i64 x.f1) := (blk_cell HI.out 1).trans rfl
    have hif1 := blk_frozen HI.out 1
    have hix := ix136_1
    go_wp2_with ((go_at_call 64; (with_reducible refine (strings_HasPrefix.calls (s.extract p s.size) (⟨#[102, 97, 108, 115, 101]⟩ : ByteArray) _ _ (F1.out)).mono ?_); rintro e w' ⟨rfl, ⟨nd, rfl⟩⟩; (try first | exact ⟨rfl, _, World.drewN_drewN _ _ _⟩ | exact ⟨rfl, _, Eq.trans (World.drewN_drewN _ _ _) (congrArg (World.drewN _) (Nat.add_assoc _ _ _))⟩)))
    repeat (go_quiet ((go_at_call 64; (with_reducible refine (strings_HasPrefix.calls (s.extract p s.size) (⟨#[102, 97, 108, 115, 101]⟩ : ByteArray) _ _ (F1.out)).mono ?_); rintro e w' ⟨rfl, ⟨nd, rfl⟩⟩; (try first | exact ⟨rfl, _, World.drewN_drewN _ _ _⟩ | exact ⟨rfl, _, Eq.trans (World.drewN_drewN _ _ _) (congrArg (World.drewN _) (Nat.add_assoc _ _ _))⟩))); try go_wp2_with ((go_at_call 64; (with_reducible refine (strings_HasPrefix.calls (s.extract p s.size) (⟨#[102, 97, 108, 115, 101]⟩ : ByteArray) _ _ (F1.out)).mono ?_); rintro e w' ⟨rfl, ⟨nd, rfl⟩⟩; (try first | exact ⟨rfl, _, World.drewN_drewN _ _ _⟩ | exact ⟨rfl, _, Eq.trans (World.drewN_drewN _ _ _) (congrArg (World.drewN _) (Nat.add_assoc _ _ _))⟩))))
    have HRa := Aside0.mk (blk_far (rd_set1 (W := wr.drewN nq) HR.out HW.out) (p := ⟨b, 1, none⟩) hne2 (.int .i64 2))
    have HIa : Aside0 (Itm (((wr.drewN nq).setCell ⟨g, 1, none⟩ (.int .i64 (wrap64 ((p : Int) + 5)))).setCell ⟨b, 1, none⟩ (.int .i64 2)) b (⟨x.f0, 2, x.f2, x.f3, x.f4⟩ : S40)) := ⟨blk_set (blk_far (w := wr.drewN nq) HI.out (p := ⟨g, 1, none⟩) hne1 _) 1 _⟩
    have HOa := Aside0.mk (Kd.R_far (Kd.R_far (w := wr.drewN nq) HO.out (p := ⟨g, 1, none⟩) (fun _ h => h.1) (.int .i64 (wrap64 ((p : Int) + 5)))) (p := ⟨b, 1, none⟩) (fun _ h => h.2) (.int .i64 2))
    have HKa := Aside0.mk (keep_far (KeepBut.set_ (keep_drewN HK.out nq) 1 (.int .i64 (wrap64 ((p : Int) + 5)))) (p := ⟨b, 1, none⟩) HBG.out (.int .i64 2))
    have HBa := Aside0.mk (below_set (j := 1) (below_set (j := 1) (v := .int .i64 (wrap64 ((p : Int) + 5))) (pw_below_drewN HB.out nq) HG.out) (v := .int .i64 2) (g := b) (Nat.le_trans HB0.out HBG.out))
    generalize ((wr.drewN nq).setCell ⟨g, 1, none⟩ (.int .i64 (wrap64 ((p : Int) + 5)))).setCell ⟨b, 1, none⟩ (.int .i64 2) = w1 at HRa HIa HOa HKa HBa ⊢
    clear hc0 hc1 hf1 hi1 hif1
    refine start_ (n := 11) (S := fun w' => w'.cell? ⟨g, 2, none⟩ = some v ∧ w'.heap[b]? = some (.cells #[.int .i64 ((⟨x.f0, 2, x.f2, x.f3, x.f4⟩ : S40)).f0, .int .i64 ((⟨x.f0, 2, x.f2, x.f3, x.f4⟩ : S40)).f1, .string ((⟨x.f0, 2, x.f2, x.f3, x.f4⟩ : S40)).f2, .string ((⟨x.f0, 2, x.f2, x.f3, x.f4⟩ : S40)).f3, .int .i64 ((⟨x.f0, 2, x.f2, x.f3, x.f4⟩ : S40)).f4] 40 (0, 0))) (ds := [7, 10]) #[false, false, false, false, false, false, false, false, false, false, false] (by kernel_rfl) rfl rfl ⟨rd_cell2 HRa.out, HIa.out⟩ (fun hHeld => ?_)
    refine pure_ (i := 0) (N := some 35) (v := ?_) (a' := ?_) #[true, false, false, false, false, false, false, false, false, false, false] rfl rfl (by kernel_rfl) (fun _ _ _ h => h) (Or.inl ⟨by rfl, ?_⟩) ?_ ?_
    rotate_left
    ·intro w'
     go_simp
     (try with_reducible rfl)
    rotate_left
    ·simp only [Act.put, qA, qB, qC]
     rfl
    refine pure_ (i := 1) (N := some 36) (v := ?_) (a' := ?_) #[true, true, false, false, false, false, false, false, false, false, false] rfl rfl (by kernel_rfl) (fun _ _ _ h => h) (Or.inl ⟨by rfl, ?_⟩) ?_ ?_
    rotate_left
    ·intro w'
     go_simp
     (try with_reducible rfl)
    rotate_left
    ·simp only [Act.put, qA, qB, qC]
     rfl
    refine pure_ (i := 2) (N := some 37) (v := ?_) (a' := ?_) #[true, true, true, false, false, false, false, false, false, false, false] rfl rfl (by kernel_rfl) (fun _ _ _ h => h) (Or.inl ⟨by rfl, ?_⟩) ?_ ?_
    rotate_left
    ·intro w'
     go_simp
     (try with_reducible rfl)
    rotate_left
    ·simp only [Act.put, qA, qB, qC]
     rfl
    refine pure_ (i := 3) (N := some 38) (v := ?_) (a' := ?_) #[true, true, true, true, false, false, false, false, false, false, false] rfl rfl (by kernel_rfl) (fun _ _ _ h => h) (Or.inl ⟨by rfl, ?_⟩) ?_ ?_
    rotate_left
    ·intro w'
     go_simp
     (try with_reducible rfl)
    rotate_left
    ·simp only [Act.put, qA, qB, qC]
     rfl
    refine take_ (i := 4) (N := some 39) (v := ?_) (a' := ?_) #[true, true, true, true, true, false, false, false, false, false, false] rfl rfl (by kernel_rfl) (fun _ _ _ h => h) (Or.inl ⟨by rfl, ?_⟩) (by assumption) ?_ ?_
    rotate_left
    ·intro w hSw
     obtain ⟨hl0, hl1⟩ := hSw
     go_simp
     (try with_reducible rfl)
    rotate_left
    ·simp only [Act.put, qA, qB, qC]
     rfl
    refine take_ (i := 5) (N := some 40) (v := ?_) (a' := ?_) #[true, true, true, true, true, true, false, false, false, false, false] rfl rfl (by kernel_rfl) (fun _ _ _ h => h) (Or.inl ⟨by rfl, ?_⟩) (by assumption) ?_ ?_
    rotate_left
    ·intro w hSw
     obtain ⟨hl0, hl1⟩ := hSw
     have hm0 : w.cell? ⟨b, 0, none⟩ = some (.int .i64 ((⟨x.f0, 2, x.f2, x.f3, x.f4⟩ : S40)).f0) := (blk_cell hl1 0).trans rfl
     have hm1 : w.cell? ⟨b, 1, none⟩ = some (.int .i64 ((⟨x.f0, 2, x.f2, x.f3, x.f4⟩ : S40)).f1) := (blk_cell hl1 1).trans rfl
     have hm2 : w.cell? ⟨b, 2, none⟩ = some (.string ((⟨x.f0, 2, x.f2, x.f3, x.f4⟩ : S40)).f2) := (blk_cell hl1 2).trans rfl
     have hm3 : w.cell? ⟨b, 3, none⟩ = some (.string ((⟨x.f0, 2, x.f2, x.f3, x.f4⟩ : S40)).f3) := (blk_cell hl1 3).trans rfl
     have hm4 : w.cell? ⟨b, 4, none⟩ = some (.int .i64 ((⟨x.f0, 2, x.f2, x.f3, x.f4⟩ : S40)).f4) := (blk_cell hl1 4).trans rfl
     clear hl1
     go_simp
     (try with_reducible rfl)
    rotate_left
    ·simp only [Act.put, qA, qB, qC]
     rfl
    refine one_ (i := 6) (N := some 41) #[true, true, true, true, true, true, true, false, false, false, false] rfl rfl (by kernel_rfl) (by decide) (fun K hK => ?_)
    refine event_step (W := w1.drew) (v := .slice (some ⟨w1.heap.size, 0, none⟩) 1 1) (w1 := w1.drew.alloc (.cells #[.int .i64 ((⟨x.f0, 2, x.f2, x.f3, x.f4⟩ : S40)).f0, .int .i64 ((⟨x.f0, 2, x.f2, x.f3, x.f4⟩ : S40)).f1, .string ((⟨x.f0, 2, x.f2, x.f3, x.f4⟩ : S40)).f2, .string ((⟨x.f0, 2, x.f2, x.f3, x.f4⟩ : S40)).f3, .int .i64 ((⟨x.f0, 2, x.f2, x.f3, x.f4⟩ : S40)).f4] 40)) (by rfl) (by kernel_rfl) ?_
    refine hK.out _ _ ?_ (fun hHeld => ?_)
    ·exact keep_push HRa.out HIa.out _
    clear hK K
    (try simp only [Act.put, qA, qB, qC])
    refine last_ (i := 7) (N := some 42) #[true, true, true, true, true, true, true, true, false, false, false] rfl rfl (by kernel_rfl) (by decide) (fun K hK => ?_)
    refine push_append (.tmp 39) (.tmp 41) (by rfl) rfl rfl rfl HRa.out HIa.out HOa.out HBa.out HG.out HL.out ?_
    intro As N2 cc w2 hR2 hP2
    have hc2a := rd_cell2 hR2
    have hf2a := blk_frozen hR2 2
    have HPa := Aside0.mk hP2
    clear hR2 hP2
    refine hK.out _ _ ?_
    clear hK K
    (try simp only [Act.put, qA, qB, qC])
    refine pure_ (i := 8) (N := some 43) (v := ?_) (a' := ?_) #[true, true, true, true, true, true, true, true, true, false, false] rfl rfl (by kernel_rfl) (fun _ _ _ h => h) (Or.inl ⟨by rfl, ?_⟩) ?_ ?_
    rotate_left
    ·intro w'
     go_simp
     (try with_reducible rfl)
    rotate_left
    ·simp only [Act.put, qA, qB, qC]
     rfl
    refine pure_ (i := 9) (N := some 44) (v := ?_) (a' := ?_) #[true, true, true, true, true, true, true, true, true, true, false] rfl rfl (by kernel_rfl) (fun _ _ _ h => h) (Or.inl ⟨by rfl, ?_⟩) ?_ ?_
    rotate_left
    ·intro w'
     go_simp
     (try with_reducible rfl)
    rotate_left
    ·simp only [Act.put, qA, qB, qC]
     rfl
    refine last_ (i := 10) (N := none) #[true, true, true, true, true, true, true, true, true, true, true] rfl rfl (by kernel_rfl) (by decide) (fun K hK => ?_)
    go_simp
    refine hK.out _ _ ?_
    clear hK K
    (try simp only [Act.put, qA, qB, qC])
    refine done_ (by kernel_rfl) ?_
    go_wp2_with fail
    go_ret
    exact ⟨rfl, Left.pre HKa.out HPa.out⟩
   | false =>
    subst hgk
    have hix := ix136_1
    go_wp2_with ((go_at_call 64; (with_reducible refine (strings_HasPrefix.calls (s.extract p s.size) (⟨#[102, 97, 108, 115, 101]⟩ : ByteArray) _ _ (F1.out)).mono ?_); rintro e w' ⟨rfl, ⟨nd, rfl⟩⟩; (try first | exact ⟨rfl, _, World.drewN_drewN _ _ _⟩ | exact ⟨rfl, _, Eq.trans (World.drewN_drewN _ _ _) (congrArg (World.drewN _) (Nat.add_assoc _ _ _))⟩)))
    repeat (go_quiet ((go_at_call 64; (with_reducible refine (strings_HasPrefix.calls (s.extract p s.size) (⟨#[102, 97, 108, 115, 101]⟩ : ByteArray) _ _ (F1.out)).mono ?_); rintro e w' ⟨rfl, ⟨nd, rfl⟩⟩; (try first | exact ⟨rfl, _, World.drewN_drewN _ _ _⟩ | exact ⟨rfl, _, Eq.trans (World.drewN_drewN _ _ _) (congrArg (World.drewN _) (Nat.add_assoc _ _ _))⟩))); try go_wp2_with ((go_at_call 64; (with_reducible refine (strings_HasPrefix.calls (s.extract p s.size) (⟨#[102, 97, 108, 115, 101]⟩ : ByteArray) _ _ (F1.out)).mono ?_); rintro e w' ⟨rfl, ⟨nd, rfl⟩⟩; (try first | exact ⟨rfl, _, World.drewN_drewN _ _ _⟩ | exact ⟨rfl, _, Eq.trans (World.drewN_drewN _ _ _) (congrArg (World.drewN _) (Nat.add_assoc _ _ _))⟩))))
    go_roundg 1
    case measure => omega
    case rel => exact ⟨by simp, HR, HO, HI, HK, ⟨pw_below_drewN HB.out _⟩⟩
  ·-- word 2
   cases b2 with
   | true =>
    have HW : Aside0 (wrap64 ((p : Int) + 4) = ((p + 4 : Nat) : Int)) := ⟨by have := HS.out; have := HN2.out rfl; unfold wrap64; omega⟩
    have hc1 := rd_cell1 HR.out
    have hf1 := blk_frozen HR.out 1
    have hi1 : wr.cell? ⟨b, 1, none⟩ = some (.int .i64 x.f1) := (blk_cell HI.out 1).trans rfl
    have hif1 := blk_frozen HI.out 1
    have hix := ix136_2
    go_wp2_with ((go_at_call 64; (with_reducible refine (strings_HasPrefix.calls (s.extract p s.size) (⟨#[116, 114, 117, 101]⟩ : ByteArray) _ _ (F2.out)).mono ?_); rintro e w' ⟨rfl, ⟨nd, rfl⟩⟩; (try first | exact ⟨rfl, _, World.drewN_drewN _ _ _⟩ | exact ⟨rfl, _, Eq.trans (World.drewN_drewN _ _ _) (congrArg (World.drewN _) (Nat.add_assoc _ _ _))⟩)))
    repeat (go_quiet ((go_at_call 64; (with_reducible refine (strings_HasPrefix.calls (s.extract p s.size) (⟨#[116, 114, 117, 101]⟩ : ByteArray) _ _ (F2.out)).mono ?_); rintro e w' ⟨rfl, ⟨nd, rfl⟩⟩; (try first | exact ⟨rfl, _, World.drewN_drewN _ _ _⟩ | exact ⟨rfl, _, Eq.trans (World.drewN_drewN _ _ _) (congrArg (World.drewN _) (Nat.add_assoc _ _ _))⟩))); try go_wp2_with ((go_at_call 64; (with_reducible refine (strings_HasPrefix.calls (s.extract p s.size) (⟨#[116, 114, 117, 101]⟩ : ByteArray) _ _ (F2.out)).mono ?_); rintro e w' ⟨rfl, ⟨nd, rfl⟩⟩; (try first | exact ⟨rfl, _, World.drewN_drewN _ _ _⟩ | exact ⟨rfl, _, Eq.trans (World.drewN_drewN _ _ _) (congrArg (World.drewN _) (Nat.add_assoc _ _ _))⟩))))
    have HRa := Aside0.mk (blk_far (rd_set1 (W := wr.drewN nq) HR.out HW.out) (p := ⟨b, 1, none⟩) hne2 (.int .i64 3))
    have HIa : Aside0 (Itm (((wr.drewN nq).setCell ⟨g, 1, none⟩ (.int .i64 (wrap64 ((p : Int) + 4)))).setCell ⟨b, 1, none⟩ (.int .i64 3)) b (⟨x.f0, 3, x.f2, x.f3, x.f4⟩ : S40)) := ⟨blk_set (blk_far (w := wr.drewN nq) HI.out (p := ⟨g, 1, none⟩) hne1 _) 1 _⟩
    have HOa := Aside0.mk (Kd.R_far (Kd.R_far (w := wr.drewN nq) HO.out (p := ⟨g, 1, none⟩) (fun _ h => h.1) (.int .i64 (wrap64 ((p : Int) + 4)))) (p := ⟨b, 1, none⟩) (fun _ h => h.2) (.int .i64 3))
    have HKa := Aside0.mk (keep_far (KeepBut.set_ (keep_drewN HK.out nq) 1 (.int .i64 (wrap64 ((p : Int) + 4)))) (p := ⟨b, 1, none⟩) HBG.out (.int .i64 3))
    have HBa := Aside0.mk (below_set (j := 1) (below_set (j := 1) (v := .int .i64 (wrap64 ((p : Int) + 4))) (pw_below_drewN HB.out nq) HG.out) (v := .int .i64 3) (g := b) (Nat.le_trans HB0.out HBG.out))
    generalize ((wr.drewN nq).setCell ⟨g, 1, none⟩ (.int .i64 (wrap64 ((p : Int) + 4)))).setCell ⟨b, 1, none⟩ (.int .i64 3) = w1 at HRa HIa HOa HKa HBa ⊢
    clear hc0 hc1 hf1 hi1 hif1
    refine start_ (n := 11) (S := fun w' => w'.cell? ⟨g, 2, none⟩ = some v ∧ w'.heap[b]? = some (.cells #[.int .i64 ((⟨x.f0, 3, x.f2, x.f3, x.f4⟩ : S40)).f0, .int .i64 ((⟨x.f0, 3, x.f2, x.f3, x.f4⟩ : S40)).f1, .string ((⟨x.f0, 3, x.f2, x.f3, x.f4⟩ : S40)).f2, .string ((⟨x.f0, 3, x.f2, x.f3, x.f4⟩ : S40)).f3, .int .i64 ((⟨x.f0, 3, x.f2, x.f3, x.f4⟩ : S40)).f4] 40 (0, 0))) (ds := [7, 10]) #[false, false, false, false, false, false, false, false, false, false, false] (by kernel_rfl) rfl rfl ⟨rd_cell2 HRa.out, HIa.out⟩ (fun hHeld => ?_)
    refine pure_ (i := 0) (N := some 35) (v := ?_) (a' := ?_) #[true, false, false, false, false, false, false, false, false, false, false] rfl rfl (by kernel_rfl) (fun _ _ _ h => h) (Or.inl ⟨by rfl, ?_⟩) ?_ ?_
    rotate_left
    ·intro w'
     go_simp
     (try with_reducible rfl)
    rotate_left
    ·simp only [Act.put, qA, qB, qC]
     rfl
    refine pure_ (i := 1) (N := some 36) (v := ?_) (a' := ?_) #[true, true, false, false, false, false, false, false, false, false, false] rfl rfl (by kernel_rfl) (fun _ _ _ h => h) (Or.inl ⟨by rfl, ?_⟩) ?_ ?_
    rotate_left
    ·intro w'
     go_simp
     (try with_reducible rfl)
    rotate_left
    ·simp only [Act.put, qA, qB, qC]
     rfl
    refine pure_ (i := 2) (N := some 37) (v := ?_) (a' := ?_) #[true, true, true, false, false, false, false, false, false, false, false] rfl rfl (by kernel_rfl) (fun _ _ _ h => h) (Or.inl ⟨by rfl, ?_⟩) ?_ ?_
    rotate_left
    ·intro w'
     go_simp
     (try with_reducible rfl)
    rotate_left
    ·simp only [Act.put, qA, qB, qC]
     rfl
    refine pure_ (i := 3) (N := some 38) (v := ?_) (a' := ?_) #[true, true, true, true, false, false, false, false, false, false, false] rfl rfl (by kernel_rfl) (fun _ _ _ h => h) (Or.inl ⟨by rfl, ?_⟩) ?_ ?_
    rotate_left
    ·intro w'
     go_simp
     (try with_reducible rfl)
    rotate_left
    ·simp only [Act.put, qA, qB, qC]
     rfl
    refine take_ (i := 4) (N := some 39) (v := ?_) (a' := ?_) #[true, true, true, true, true, false, false, false, false, false, false] rfl rfl (by kernel_rfl) (fun _ _ _ h => h) (Or.inl ⟨by rfl, ?_⟩) (by assumption) ?_ ?_
    rotate_left
    ·intro w hSw
     obtain ⟨hl0, hl1⟩ := hSw
     go_simp
     (try with_reducible rfl)
    rotate_left
    ·simp only [Act.put, qA, qB, qC]
     rfl
    refine take_ (i := 5) (N := some 40) (v := ?_) (a' := ?_) #[true, true, true, true, true, true, false, false, false, false, false] rfl rfl (by kernel_rfl) (fun _ _ _ h => h) (Or.inl ⟨by rfl, ?_⟩) (by assumption) ?_ ?_
    rotate_left
    ·intro w hSw
     obtain ⟨hl0, hl1⟩ := hSw
     have hm0 : w.cell? ⟨b, 0, none⟩ = some (.int .i64 ((⟨x.f0, 3, x.f2, x.f3, x.f4⟩ : S40)).f0) := (blk_cell hl1 0).trans rfl
     have hm1 : w.cell? ⟨b, 1, none⟩ = some (.int .i64 ((⟨x.f0, 3, x.f2, x.f3, x.f4⟩ : S40)).f1) := (blk_cell hl1 1).trans rfl
     have hm2 : w.cell? ⟨b, 2, none⟩ = some (.string ((⟨x.f0, 3, x.f2, x.f3, x.f4⟩ : S40)).f2) := (blk_cell hl1 2).trans rfl
     have hm3 : w.cell? ⟨b, 3, none⟩ = some (.string ((⟨x.f0, 3, x.f2, x.f3, x.f4⟩ : S40)).f3) := (blk_cell hl1 3).trans rfl
     have hm4 : w.cell? ⟨b, 4, none⟩ = some (.int .i64 ((⟨x.f0, 3, x.f2, x.f3, x.f4⟩ : S40)).f4) := (blk_cell hl1 4).trans rfl
     clear hl1
     go_simp
     (try with_reducible rfl)
    rotate_left
    ·simp only [Act.put, qA, qB, qC]
     rfl
    refine one_ (i := 6) (N := some 41) #[true, true, true, true, true, true, true, false, false, false, false] rfl rfl (by kernel_rfl) (by decide) (fun K hK => ?_)
    refine event_step (W := w1.drew) (v := .slice (some ⟨w1.heap.size, 0, none⟩) 1 1) (w1 := w1.drew.alloc (.cells #[.int .i64 ((⟨x.f0, 3, x.f2, x.f3, x.f4⟩ : S40)).f0, .int .i64 ((⟨x.f0, 3, x.f2, x.f3, x.f4⟩ : S40)).f1, .string ((⟨x.f0, 3, x.f2, x.f3, x.f4⟩ : S40)).f2, .string ((⟨x.f0, 3, x.f2, x.f3, x.f4⟩ : S40)).f3, .int .i64 ((⟨x.f0, 3, x.f2, x.f3, x.f4⟩ : S40)).f4] 40)) (by rfl) (by kernel_rfl) ?_
    refine hK.out _ _ ?_ (fun hHeld => ?_)
    ·exact keep_push HRa.out HIa.out _
    clear hK K
    (try simp only [Act.put, qA, qB, qC])
    refine last_ (i := 7) (N := some 42) #[true, true, true, true, true, true, true, true, false, false, false] rfl rfl (by kernel_rfl) (by decide) (fun K hK => ?_)
    refine push_append (.tmp 39) (.tmp 41) (by rfl) rfl rfl rfl HRa.out HIa.out HOa.out HBa.out HG.out HL.out ?_
    intro As N2 cc w2 hR2 hP2
    have hc2a := rd_cell2 hR2
    have hf2a := blk_frozen hR2 2
    have HPa := Aside0.mk hP2
    clear hR2 hP2
    refine hK.out _ _ ?_
    clear hK K
    (try simp only [Act.put, qA, qB, qC])
    refine pure_ (i := 8) (N := some 43) (v := ?_) (a' := ?_) #[true, true, true, true, true, true, true, true, true, false, false] rfl rfl (by kernel_rfl) (fun _ _ _ h => h) (Or.inl ⟨by rfl, ?_⟩) ?_ ?_
    rotate_left
    ·intro w'
     go_simp
     (try with_reducible rfl)
    rotate_left
    ·simp only [Act.put, qA, qB, qC]
     rfl
    refine pure_ (i := 9) (N := some 44) (v := ?_) (a' := ?_) #[true, true, true, true, true, true, true, true, true, true, false] rfl rfl (by kernel_rfl) (fun _ _ _ h => h) (Or.inl ⟨by rfl, ?_⟩) ?_ ?_
    rotate_left
    ·intro w'
     go_simp
     (try with_reducible rfl)
    rotate_left
    ·simp only [Act.put, qA, qB, qC]
     rfl
    refine last_ (i := 10) (N := none) #[true, true, true, true, true, true, true, true, true, true, true] rfl rfl (by kernel_rfl) (by decide) (fun K hK => ?_)
    go_simp
    refine hK.out _ _ ?_
    clear hK K
    (try simp only [Act.put, qA, qB, qC])
    refine done_ (by kernel_rfl) ?_
    go_wp2_with fail
    go_ret
    exact ⟨rfl, Left.pre HKa.out HPa.out⟩
   | false =>
    subst hgk
    have hix := ix136_2
    go_wp2_with ((go_at_call 64; (with_reducible refine (strings_HasPrefix.calls (s.extract p s.size) (⟨#[116, 114, 117, 101]⟩ : ByteArray) _ _ (F2.out)).mono ?_); rintro e w' ⟨rfl, ⟨nd, rfl⟩⟩; (try first | exact ⟨rfl, _, World.drewN_drewN _ _ _⟩ | exact ⟨rfl, _, Eq.trans (World.drewN_drewN _ _ _) (congrArg (World.drewN _) (Nat.add_assoc _ _ _))⟩)))
    repeat (go_quiet ((go_at_call 64; (with_reducible refine (strings_HasPrefix.calls (s.extract p s.size) (⟨#[116, 114, 117, 101]⟩ : ByteArray) _ _ (F2.out)).mono ?_); rintro e w' ⟨rfl, ⟨nd, rfl⟩⟩; (try first | exact ⟨rfl, _, World.drewN_drewN _ _ _⟩ | exact ⟨rfl, _, Eq.trans (World.drewN_drewN _ _ _) (congrArg (World.drewN _) (Nat.add_assoc _ _ _))⟩))); try go_wp2_with ((go_at_call 64; (with_reducible refine (strings_HasPrefix.calls (s.extract p s.size) (⟨#[116, 114, 117, 101]⟩ : ByteArray) _ _ (F2.out)).mono ?_); rintro e w' ⟨rfl, ⟨nd, rfl⟩⟩; (try first | exact ⟨rfl, _, World.drewN_drewN _ _ _⟩ | exact ⟨rfl, _, Eq.trans (World.drewN_drewN _ _ _) (congrArg (World.drewN _) (Nat.add_assoc _ _ _))⟩))))
    go_roundg 0
    case measure => omega
    case rel => exact ⟨by simp, HR, HO, HI, HK, ⟨pw_below_drewN HB.out _⟩⟩
  ·subst hgk
   go_wp2_with fail
   go_ret
   exact ⟨rfl, ⟨v, HR.out, Kd.R_mono HO.out (fun _ h => h.1), .inl rfl⟩, HB.out, keep_wide HK.out⟩
end Go.Proofs.YthhmmaihbjhhgaaGreatDoor.Giv
