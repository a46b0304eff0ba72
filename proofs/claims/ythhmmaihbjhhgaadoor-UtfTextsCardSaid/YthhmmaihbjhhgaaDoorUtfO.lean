/- The reference's taking of a letter is the program's; UtfTakes in plain bytes. -/
import Derived.Test.YthhmmaihbjhhgaaDoorUtfN
import Derived.Test.YthhmmaihbjhhgaaDoorU2x2
namespace Go.Proofs.YthhmmaihbjhhgaaDoor.Giv
open Go.RowKit Go.Proofs.YthhmmaihbjhhgaaDoorW.PrintWords Go.Proofs.YthhmmaihbjhhgaaDoorW.PrintLast Go.Proofs.YthhmmaihbjhhgaaDoorW.PrintMore
open Go.Proofs.YthhmmaihbjhhgaaDoor.U1 Go.Proofs.YthhmmaihbjhhgaaDoor.U2

/-- what is taken is written so -/
theorem tk_some {l : List UInt8} {r n : Nat} (h : tk l = some (r, n)) : letterB (r : Int) = true ∧ enc (r : Int) = l.take n ∧ n ≤ l.length ∧ 1 ≤ n := by
  unfold tk at h
  split at h
  · cases h
  · rename_i hc
    have hne : l ≠ [] := fun e => hc (.inl e)
    have hv : ¬ ((Lib.decodeL l).1 = 65533 ∧ (Lib.decodeL l).2 = 1) := fun e => hc (.inr e)
    have he := Lib.encode_decode l hne hv
    have hle := Lib.decodeL_le l hne
    have hw := Lib.decodeL_width l
    have hd := Option.some.inj h
    rw [hd] at he hle hw hv
    refine ⟨?_, he, hle, hw⟩
    rw [letter_iff]
    rw [Lib.decodeL_N] at hd
    rcases Lib.decodeN_shape l.length (l.getD 0 0).toNat (l.getD 1 0).toNat (l.getD 2 0).toNat (l.getD 3 0).toNat with ⟨c, e⟩ | ⟨c1, c2, c3, cv, e⟩ | ⟨c1, c2, c3, c4, cv, cs, e⟩ | ⟨c1, c2, c3, c4, c5, cv, cs, e⟩ | e
    all_goals rw [e] at hd; simp only [Prod.mk.injEq] at hd; obtain ⟨rfl, rfl⟩ := hd
    · omega
    · omega
    · omega
    · omega
    · exact absurd ⟨rfl, rfl⟩ hv
theorem tk_of {l : List UInt8} {r : Nat} (hr : letterB (r : Int) = true) {n : Nat} (h : enc (r : Int) = l.take n) (hn : n ≤ l.length) : tk l = some (r, n) := by
  have h2 := tk_enc r hr (l.drop n)
  rw [h, List.take_append_drop] at h2
  rw [h2, List.length_take]
  congr 2; omega

theorem btL (s : ByteArray) (i : Nat) : bt s (i : Int) = (((s.data.toList.getD i 0).toNat : Nat) : Int) := by
  unfold bt
  split
  · rename_i h
    rw [Int.toNat_natCast] at h
    have hl : i < s.data.toList.length := by rw [data_length]; exact h
    rw [List.getD_eq_getElem?_getD, List.getElem?_eq_getElem hl]; simp; rfl
  · rename_i h
    rw [Int.toNat_natCast] at h
    have hl : s.data.toList.length ≤ i := by rw [data_length]; omega
    rw [List.getD_eq_getElem?_getD, List.getElem?_eq_none hl]; rfl
/-- what the reference answers behind the bytes -/
def finR (s : ByteArray) (n : Int) (long : Nat) : Int × Int × Bool := if letterB n = true ∧ enc n = s.data.toList.take long then (n, (long : Int), true) else (0, 0, false)
theorem l0_done (k : Nat) (s : ByteArray) (long : Nat) (n i : Int) (hk : 0 < k) (hi : (long : Int) ≤ i) (hl : long ≤ s.size) : cracknelref05_Take.l0 k s (long : Int) n i = some (finR s n long) := by
  obtain ⟨k, rfl⟩ : ∃ m, k = m + 1 := ⟨k - 1, by omega⟩
  simp only [cracknelref05_Take.l0]
  rw [if_neg (by omega), refPut, Option.bind_some]
  unfold putS finR
  by_cases h : letterB n = true
  · rw [if_pos h, if_pos (show ((⟨(enc n).toArray⟩ : ByteArray), true).2 = true from rfl), if_pos (by omega), if_pos (by omega), Int.toNat_natCast]
    have e : (s.extract 0 long).toList = s.data.toList.take long := by
      rw [Lib.toList_data, ByteArray.data_extract, Array.toList_extract]; simp
    rw [e]
    show (if (⟨(enc n).toArray⟩ : ByteArray).toList = _ then _ else _) = _
    rw [Lib.toList_data]
    by_cases h2 : enc n = s.data.toList.take long
    · rw [if_pos h2, if_pos ⟨h, h2⟩]
    · rw [if_neg h2, if_neg (fun hh => h2 hh.2)]
  · rw [if_neg h, if_neg (by decide), if_neg (fun hh => h hh.1)]
theorem l0_step (k : Nat) (s : ByteArray) (long i m : Nat) (hi : i < long) (hl : long ≤ s.size) (hs : long ≤ 4) (hm : m < 1048576000000) :
    cracknelref05_Take.l0 (k + 1) s (long : Int) (m : Int) (i : Int) = cracknelref05_Take.l0 k s (long : Int) ((64 * m + (s.data.toList.getD i 0).toNat % 64 : Nat) : Int) ((i + 1 : Nat) : Int) := by
  have hb := UInt8.toNat_lt (s.data.toList.getD i 0)
  rw [cracknelref05_Take.l0, if_pos (by omega), if_pos (by omega), if_pos (by omega), btL, w64 (x := (((s.data.toList.getD i 0).toNat : Nat) : Int)) (by omega) (by omega), Int.tmod_eq_emod_of_nonneg (by omega), w64 (x := 64 * (m : Int)) (by omega) (by omega), w64 (by omega) (by omega), w64 (by omega) (by omega)]
  congr 1
/-- the first byte's part -/
def fstR (b : Nat) : Nat × Nat := if b < 128 then (1, b) else if 192 ≤ b ∧ b < 224 then (2, b - 192) else if 224 ≤ b ∧ b < 240 then (3, b - 224) else if 240 ≤ b ∧ b < 248 then (4, b - 240) else (0, 0)
theorem first_R (k b : Nat) (hk : 2 < k) (hb : b < 256) : cracknelref05_first.f k (b : Int) = some (((fstR b).1 : Int), ((fstR b).2 : Int)) := by
  obtain ⟨k, rfl⟩ : ∃ m, k = m + 1 + 1 := ⟨k - 2, by omega⟩
  unfold cracknelref05_first.f fstR
  by_cases a : b < 128
  · rw [if_pos (by omega), if_pos a]; rfl
  · rw [if_neg (show ¬ (b : Int) < 128 by omega), if_neg a]
    by_cases c : 192 ≤ b ∧ b < 224
    · rw [if_pos (show (b : Int) ≥ 192 by omega), decide_eq_true (show (b : Int) < 224 by omega), if_pos c, cracknelref05_first.j0, if_pos rfl, w64 (by omega) (by omega)]
      congr 2; omega
    · rw [if_neg c]
      by_cases d : 224 ≤ b ∧ b < 240
      · rw [if_pos (show (b : Int) ≥ 192 by omega), decide_eq_false (show ¬ (b : Int) < 224 by omega), if_pos d, cracknelref05_first.j0, if_neg (by decide), if_pos (show (b : Int) ≥ 224 by omega), decide_eq_true (show (b : Int) < 240 by omega), cracknelref05_first.j1, if_pos rfl, w64 (by omega) (by omega)]
        congr 2; omega
      · rw [if_neg d]
        by_cases e : 240 ≤ b ∧ b < 248
        · rw [if_pos (show (b : Int) ≥ 192 by omega), decide_eq_false (show ¬ (b : Int) < 224 by omega), if_pos e, cracknelref05_first.j0, if_neg (by decide), if_pos (show (b : Int) ≥ 224 by omega), decide_eq_false (show ¬ (b : Int) < 240 by omega), cracknelref05_first.j1, if_neg (by decide), if_pos (show (b : Int) ≥ 240 by omega), if_pos (show (b : Int) < 248 by omega), w64 (by omega) (by omega)]
          congr 2; omega
        · rw [if_neg e]
          by_cases f : 192 ≤ b
          · rw [if_pos (show (b : Int) ≥ 192 by omega), decide_eq_false (show ¬ (b : Int) < 224 by omega), cracknelref05_first.j0, if_neg (by decide), if_pos (show (b : Int) ≥ 224 by omega), decide_eq_false (show ¬ (b : Int) < 240 by omega), cracknelref05_first.j1, if_neg (by decide), if_pos (show (b : Int) ≥ 240 by omega), if_neg (show ¬ (b : Int) < 248 by omega)]; rfl
          · rw [if_neg (show ¬ (b : Int) ≥ 192 by omega), cracknelref05_first.j0, if_neg (by decide), if_neg (show ¬ (b : Int) ≥ 224 by omega), cracknelref05_first.j1, if_neg (by decide), if_neg (show ¬ (b : Int) ≥ 240 by omega)]; rfl
/-- all of the bytes told -/
def acc (l : List UInt8) : Nat → Nat → Nat
  | 2, n => 64 * n + (l.getD 1 0).toNat % 64
  | 3, n => 64 * (64 * n + (l.getD 1 0).toNat % 64) + (l.getD 2 0).toNat % 64
  | 4, n => 64 * (64 * (64 * n + (l.getD 1 0).toNat % 64) + (l.getD 2 0).toNat % 64) + (l.getD 3 0).toNat % 64
  | _, n => n
def refTakeS (s : ByteArray) : Int × Int × Bool :=
  let d := fstR (s.data.toList.getD 0 0).toNat
  if s.size = 0 ∨ d.1 = 0 ∨ s.size < d.1 then (0, 0, false) else finR s ((acc s.data.toList d.1 d.2 : Nat) : Int) d.1
theorem fst_bd (b : Nat) (hb : b < 256) : (fstR b).1 ≤ 4 ∧ (fstR b).2 < 256 := by
  unfold fstR; repeat' split
  all_goals simp only; omega
theorem refTake (k : Nat) (s : ByteArray) (hk : 10 < k) : cracknelref05_Take.f k s = some (refTakeS s) := by
  obtain ⟨k, rfl⟩ : ∃ m, k = m + 1 + 1 + 1 + 1 + 1 := ⟨k - 5, by omega⟩
  have hb := UInt8.toNat_lt (s.data.toList.getD 0 0)
  unfold cracknelref05_Take.f refTakeS
  by_cases h0 : s.size = 0
  · rw [if_pos (show (s.size : Int) = 0 by omega), if_pos (Or.inl h0)]
  · rw [if_neg (show ¬ (s.size : Int) = 0 by omega), if_pos (show 0 < (s.size : Int) by omega), show (0 : Int) = ((0 : Nat) : Int) by rfl, btL, w64 (by omega) (by omega), first_R _ _ (by omega) hb, Option.bind_some]
    have hbd := fst_bd _ hb
    obtain ⟨⟨L, n⟩, hd⟩ : ∃ d, fstR (s.data.toList.getD 0 0).toNat = d := ⟨_, rfl⟩
    rw [hd] at hbd
    rw [hd]
    simp only at hbd ⊢
    by_cases h1 : L = 0
    · rw [if_pos (show (L : Int) = ((0 : Nat) : Int) by omega), if_pos (Or.inr (Or.inl h1)), cracknelref05_Take.j0, if_pos rfl]; rfl
    · rw [if_neg (show ¬ (L : Int) = ((0 : Nat) : Int) by omega), cracknelref05_Take.j0]
      by_cases h2 : s.size < L
      · rw [if_pos (decide_eq_true (show (L : Int) > (s.size : Int) by omega)), if_pos (Or.inr (Or.inr h2))]; rfl
      · rw [if_neg (show ¬ decide ((L : Int) > (s.size : Int)) = true by rw [decide_eq_true_iff]; omega), if_neg (show ¬ (s.size = 0 ∨ L = 0 ∨ s.size < L) by omega)]
        have hc1 := UInt8.toNat_lt (s.data.toList.getD 1 0)
        have hc2 := UInt8.toNat_lt (s.data.toList.getD 2 0)
        have hc : L = 1 ∨ L = 2 ∨ L = 3 ∨ L = 4 := by omega
        rw [show (1 : Int) = ((1 : Nat) : Int) by rfl]
        rcases hc with rfl | rfl | rfl | rfl
        · rw [l0_done _ s 1 _ _ (by omega) (by omega) (by omega)]; rfl
        · rw [l0_step _ s 2 1 n (by omega) (by omega) (by omega) (by omega), l0_done _ s 2 _ _ (by omega) (by omega) (by omega)]; rfl
        · rw [l0_step _ s 3 1 n (by omega) (by omega) (by omega) (by omega), l0_step _ s 3 2 _ (by omega) (by omega) (by omega) (by omega), l0_done _ s 3 _ _ (by omega) (by omega) (by omega)]; rfl
        · rw [l0_step _ s 4 1 n (by omega) (by omega) (by omega) (by omega), l0_step _ s 4 2 _ (by omega) (by omega) (by omega) (by omega), l0_step _ s 4 3 _ (by omega) (by omega) (by omega) (by omega), l0_done _ s 4 _ _ (by omega) (by omega) (by omega)]; rfl
theorem getD_app (a x : List UInt8) (i : Nat) (h : i < a.length) : (a ++ x).getD i 0 = a.getD i 0 := by
  rw [List.getD_eq_getElem?_getD, List.getD_eq_getElem?_getD, List.getElem?_append_left h]
/-- the reference's first byte and the rest tell a letter's number -/
theorem fst_enc (n : Nat) (h : letterB (n : Int) = true) (x : List UInt8) : (fstR ((enc (n : Int) ++ x).getD 0 0).toNat).1 = (enc (n : Int)).length ∧ acc (enc (n : Int) ++ x) (enc (n : Int)).length (fstR ((enc (n : Int) ++ x).getD 0 0).toNat).2 = n := by
  obtain ⟨h0, h1, h2⟩ := (letter_iff _).1 h
  unfold enc Lib.encodeRune
  by_cases a : n < 128
  · rw [Lib.encodeRuneZ, if_pos (by omega)]
    have e : ((n : Int).toNat.toUInt8).toNat = n := by rw [Int.toNat_natCast]; exact u8 n (by omega)
    simp only [List.map_cons, List.map_nil, List.cons_append, List.nil_append, List.getD_cons_zero, e, List.length_cons, List.length_nil]
    unfold fstR; rw [if_pos a]; exact ⟨rfl, rfl⟩
  · by_cases b : n < 2048
    · rw [Lib.encodeRuneZ, if_neg (by omega), if_pos (by omega)]
      have e0 : (((192 : Int) + (n : Int) / 64).toNat.toUInt8).toNat = 192 + n / 64 := by rw [show ((192 : Int) + (n : Int) / 64).toNat = 192 + n / 64 by omega]; exact u8 _ (by omega)
      have e1 : (((128 : Int) + (n : Int) % 64).toNat.toUInt8).toNat = 128 + n % 64 := by rw [show ((128 : Int) + (n : Int) % 64).toNat = 128 + n % 64 by omega]; exact u8 _ (by omega)
      simp only [List.map_cons, List.map_nil, List.cons_append, List.nil_append, List.getD_cons_zero, List.getD_cons_succ, e0, List.length_cons, List.length_nil, acc]
      unfold fstR
      rw [if_neg (by omega), if_pos (by omega)]
      refine ⟨rfl, ?_⟩
      simp only [e1]; omega
    · by_cases c : n < 65536
      · rw [Lib.encodeRuneZ, if_neg (by omega), if_neg (by omega), if_pos (by omega)]
        have e0 : (((224 : Int) + (n : Int) / 4096).toNat.toUInt8).toNat = 224 + n / 4096 := by rw [show ((224 : Int) + (n : Int) / 4096).toNat = 224 + n / 4096 by omega]; exact u8 _ (by omega)
        have e1 : (((128 : Int) + (n : Int) / 64 % 64).toNat.toUInt8).toNat = 128 + n / 64 % 64 := by rw [show ((128 : Int) + (n : Int) / 64 % 64).toNat = 128 + n / 64 % 64 by omega]; exact u8 _ (by omega)
        have e2 : (((128 : Int) + (n : Int) % 64).toNat.toUInt8).toNat = 128 + n % 64 := by rw [show ((128 : Int) + (n : Int) % 64).toNat = 128 + n % 64 by omega]; exact u8 _ (by omega)
        simp only [List.map_cons, List.map_nil, List.cons_append, List.nil_append, List.getD_cons_zero, List.getD_cons_succ, e0, List.length_cons, List.length_nil, acc]
        unfold fstR
        rw [if_neg (by omega), if_neg (by omega), if_pos (by omega)]
        refine ⟨rfl, ?_⟩
        simp only [e1, e2]; omega
      · rw [Lib.encodeRuneZ, if_neg (by omega), if_neg (by omega), if_neg (by omega), if_pos (by omega)]
        have e0 : (((240 : Int) + (n : Int) / 262144).toNat.toUInt8).toNat = 240 + n / 262144 := by rw [show ((240 : Int) + (n : Int) / 262144).toNat = 240 + n / 262144 by omega]; exact u8 _ (by omega)
        have e1 : (((128 : Int) + (n : Int) / 4096 % 64).toNat.toUInt8).toNat = 128 + n / 4096 % 64 := by rw [show ((128 : Int) + (n : Int) / 4096 % 64).toNat = 128 + n / 4096 % 64 by omega]; exact u8 _ (by omega)
        have e2 : (((128 : Int) + (n : Int) / 64 % 64).toNat.toUInt8).toNat = 128 + n / 64 % 64 := by rw [show ((128 : Int) + (n : Int) / 64 % 64).toNat = 128 + n / 64 % 64 by omega]; exact u8 _ (by omega)
        have e3 : (((128 : Int) + (n : Int) % 64).toNat.toUInt8).toNat = 128 + n % 64 := by rw [show ((128 : Int) + (n : Int) % 64).toNat = 128 + n % 64 by omega]; exact u8 _ (by omega)
        simp only [List.map_cons, List.map_nil, List.cons_append, List.nil_append, List.getD_cons_zero, List.getD_cons_succ, e0, List.length_cons, List.length_nil, acc]
        unfold fstR
        rw [if_neg (by omega), if_neg (by omega), if_neg (by omega), if_pos (by omega)]
        refine ⟨rfl, ?_⟩
        simp only [e1, e2, e3]; omega
theorem refTakeS_eq (s : ByteArray) : refTakeS s = takeS s := by
  have hsz : s.data.toList.length = s.size := data_length s
  unfold takeS
  cases ht : tk s.data.toList with
  | some d =>
    obtain ⟨r, n⟩ := d
    obtain ⟨hl, he, hn, h1⟩ := tk_some ht
    have hx : s.data.toList = enc (r : Int) ++ s.data.toList.drop n := by rw [he, List.take_append_drop]
    have hlen : (enc (r : Int)).length = n := by rw [he, List.length_take]; omega
    have hf := fst_enc r hl (s.data.toList.drop n)
    rw [← hx, hlen] at hf
    unfold refTakeS
    simp only
    rw [hf.1, if_neg (by omega), hf.2]
    unfold finR
    rw [if_pos ⟨hl, he⟩]
  | none =>
    unfold refTakeS
    simp only
    split
    · rfl
    · rename_i hc
      unfold finR
      split
      · rename_i hh
        have := tk_of hh.1 hh.2 (by omega)
        rw [ht] at this; cases this
      · rfl
theorem UtfTakes : cracknellaw05_UtfTakes.Pure := by
  intro s hs
  refine ⟨12, ?_⟩
  unfold cracknellaw05_UtfTakes.f
  rw [take_S, refTake 12 s (by decide), refTakeS_eq, Option.bind_some, Option.bind_some, if_pos rfl, if_pos rfl, cracknellaw05_UtfTakes.j0]
  rw [if_neg (by simp), put_S 11 _ (by decide), Option.bind_some, alive05 11 (by decide), Option.bind_some, if_pos rfl]
  unfold takeS
  cases ht : tk s.data.toList with
  | none => rfl
  | some d =>
    obtain ⟨r, n⟩ := d
    obtain ⟨hl, he, hn, h1⟩ := tk_some ht
    have hp : putS (r : Int) = (⟨(enc (r : Int)).toArray⟩, true) := by unfold putS; rw [if_pos hl]
    have hsz : s.data.toList.length = s.size := data_length s
    simp only
    rw [hp, if_pos rfl, if_pos trivial, if_pos (by omega), if_pos (by omega), Int.toNat_natCast, Lib.toList_data, Lib.toList_data]
    congr 1
    rw [beq_iff_eq]
    show enc (r : Int) = _
    rw [he, ByteArray.data_extract, Array.toList_extract]; simp
end Go.Proofs.YthhmmaihbjhhgaaDoor.Giv
