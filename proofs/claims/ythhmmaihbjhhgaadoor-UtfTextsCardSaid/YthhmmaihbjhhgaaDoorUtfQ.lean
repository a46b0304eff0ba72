/- Texts and their letters: UtfTexts and UtfRunes in plain bytes. -/
import Derived.Test.YthhmmaihbjhhgaaDoorUtfO
namespace Go.Proofs.YthhmmaihbjhhgaaDoor.Giv
open Go.RowKit Go.Proofs.YthhmmaihbjhhgaaDoorW.PrintWords Go.Proofs.YthhmmaihbjhhgaaDoorW.PrintLast Go.Proofs.YthhmmaihbjhhgaaDoorW.PrintMore
open Go.Proofs.YthhmmaihbjhhgaaDoor.U1 Go.Proofs.YthhmmaihbjhhgaaDoor.U2

/-- the letters of bytes -/
def letsN : Nat → List UInt8 → Option (List Int)
  | 0, _ => some []
  | n + 1, l => if l = [] then some [] else match tk l with | none => none | some (r, m) => (letsN n (l.drop m)).map fun x => (r : Int) :: x
def lets (l : List UInt8) : Option (List Int) := letsN l.length l
theorem letsN_of : ∀ (a b : Nat) (l : List UInt8), l.length ≤ a → l.length ≤ b → letsN a l = letsN b l
  | 0, b, l, ha, hb => by
    have : l = [] := List.eq_nil_of_length_eq_zero (by omega)
    subst this
    cases b <;> simp [letsN]
  | a + 1, 0, l, ha, hb => by
    have : l = [] := List.eq_nil_of_length_eq_zero (by omega)
    subst this
    simp [letsN]
  | a + 1, b + 1, l, ha, hb => by
    simp only [letsN]
    split
    · rfl
    · rename_i hne
      cases ht : tk l with
      | none => rfl
      | some d =>
        obtain ⟨r, m⟩ := d
        obtain ⟨_, _, h1, h2⟩ := tk_some ht
        simp only
        rw [letsN_of a b (l.drop m) (by rw [List.length_drop]; omega) (by rw [List.length_drop]; omega)]
theorem lets_nil : lets [] = some [] := rfl
theorem lets_none {l : List UInt8} (hne : l ≠ []) (ht : tk l = none) : lets l = none := by
  unfold lets
  cases l with
  | nil => exact absurd rfl hne
  | cons b t => simp only [List.length_cons, letsN]; rw [if_neg hne, ht]
theorem lets_some {l : List UInt8} {r m : Nat} (hne : l ≠ []) (ht : tk l = some (r, m)) : lets l = (lets (l.drop m)).map fun x => (r : Int) :: x := by
  obtain ⟨_, _, h1, h2⟩ := tk_some ht
  unfold lets
  cases l with
  | nil => exact absurd rfl hne
  | cons b t =>
    simp only [List.length_cons, letsN]; rw [if_neg hne, ht]
    simp only
    rw [letsN_of t.length _ _ (by rw [List.length_drop, List.length_cons]; omega) (Nat.le_refl _)]
theorem tk_none {l : List UInt8} (hne : l ≠ []) : tk l = none ↔ ((Lib.decodeL l).1 = 65533 ∧ (Lib.decodeL l).2 = 1) := by
  unfold tk
  constructor
  · intro h; split at h
    · rename_i hc; exact hc.elim (fun e => absurd e hne) id
    · cases h
  · intro h; rw [if_pos (Or.inr h)]
theorem tk_dec {l : List UInt8} {r m : Nat} (ht : tk l = some (r, m)) : l ≠ [] ∧ Lib.decodeL l = (r, m) := by
  unfold tk at ht
  split at ht
  · cases ht
  · rename_i hc
    exact ⟨fun e => hc (.inl e), Option.some.inj ht⟩
theorem valid_lets : ∀ (n : Nat) (l : List UInt8), l.length ≤ n → Lib.validD l = (lets l).isSome
  | 0, l, h => by
    have : l = [] := List.eq_nil_of_length_eq_zero (by omega)
    subst this; rfl
  | n + 1, l, h => by
    by_cases hne : l = []
    · subst hne; rfl
    · rw [Lib.validD_step l hne]
      cases ht : tk l with
      | none => rw [if_pos ((tk_none hne).1 ht), lets_none hne ht]; rfl
      | some d =>
        obtain ⟨r, m⟩ := d
        obtain ⟨_, hd⟩ := tk_dec ht
        obtain ⟨_, _, h1, h2⟩ := tk_some ht
        rw [if_neg (fun e => by have := (tk_none hne).2 e; rw [ht] at this; cases this), lets_some hne ht, hd, valid_lets n (l.drop m) (by rw [List.length_drop]; omega), Option.isSome_map]
theorem runesP_lets (s : ByteArray) : ∀ (n p : Nat) (xs : List Int), s.size - p ≤ n → lets (s.data.toList.drop p) = some xs → runesP s n p = xs
  | 0, p, xs, hn, h => by
    have : s.data.toList.drop p = [] := List.drop_eq_nil_of_le (by rw [data_length]; omega)
    rw [this, lets_nil] at h
    exact (Option.some.inj h)
  | n + 1, p, xs, hn, h => by
    rw [runesP]
    by_cases hp : p < s.size
    · rw [if_pos hp]
      have hne : s.data.toList.drop p ≠ [] := by
        intro e
        have := congrArg List.length e
        rw [List.length_drop, data_length] at this
        simp at this; omega
      cases ht : tk (s.data.toList.drop p) with
      | none => rw [lets_none hne ht] at h; cases h
      | some d =>
        obtain ⟨r, m⟩ := d
        obtain ⟨_, hd⟩ := tk_dec ht
        obtain ⟨_, _, h1, h2⟩ := tk_some ht
        rw [lets_some hne ht, List.drop_drop] at h
        rw [← Lib.decodeL_drop s p, hd]
        cases hx : lets (s.data.toList.drop (p + m)) with
        | none => rw [hx] at h; cases h
        | some ys =>
          rw [hx] at h
          rw [runesP_lets s n (p + m) ys (by omega) hx]
          exact Option.some.inj h
    · rw [if_neg hp]
      have : s.data.toList.drop p = [] := List.drop_eq_nil_of_le (by rw [data_length]; omega)
      rw [this, lets_nil] at h
      exact (Option.some.inj h)
theorem runes_lets (s : ByteArray) : runesS s = match lets s.data.toList with | none => ([], false) | some xs => (xs, true) := by
  unfold runesS
  rw [valid_lets _ _ (Nat.le_refl _)]
  cases h : lets s.data.toList with
  | none => rfl
  | some xs =>
    rw [if_pos (show (some xs).isSome = true from rfl), runesP_lets s s.size 0 xs (by omega) (by rw [List.drop_zero]; exact h)]

/-- the letters' bytes -/
def encs : List Int → List UInt8
  | [] => []
  | r :: l => enc r ++ encs l
theorem encs_app : ∀ (a b : List Int), encs (a ++ b) = encs a ++ encs b
  | [], _ => rfl
  | r :: a, b => by rw [List.cons_append, encs, encs, encs_app a b, List.append_assoc]
theorem lets_enc (r : Int) (h : letterB r = true) (x : List UInt8) : lets (enc r ++ x) = (lets x).map fun y => r :: y := by
  obtain ⟨h0, _, _⟩ := (letter_iff r).1 h
  obtain ⟨n, rfl⟩ : ∃ n : Nat, r = n := ⟨r.toNat, by omega⟩
  have hne : enc (n : Int) ++ x ≠ [] := fun e => enc_ne _ (List.append_eq_nil_iff.1 e).1
  rw [lets_some hne (tk_enc n h x), List.drop_left]
theorem lets_encs (y : List UInt8) : ∀ (l : List Int), (∀ x ∈ l, letterB x = true) → lets (encs l ++ y) = (lets y).map fun z => l ++ z
  | [], _ => by simp [encs]
  | r :: l, h => by
    rw [encs, List.append_assoc, lets_enc r (h r (List.mem_cons_self ..)), lets_encs y l (fun x hx => h x (List.mem_cons_of_mem _ hx)), Option.map_map]
    rfl
theorem of_lets : ∀ (n : Nat) (l : List UInt8) (xs : List Int), l.length ≤ n → lets l = some xs → (∀ x ∈ xs, letterB x = true) ∧ encs xs = l
  | 0, l, xs, hn, h => by
    have : l = [] := List.eq_nil_of_length_eq_zero (by omega)
    subst this
    cases h
    exact ⟨by simp, rfl⟩
  | n + 1, l, xs, hn, h => by
    by_cases hne : l = []
    · subst hne; cases h; exact ⟨by simp, rfl⟩
    · cases ht : tk l with
      | none => rw [lets_none hne ht] at h; cases h
      | some d =>
        obtain ⟨r, m⟩ := d
        obtain ⟨hl, he, h1, h2⟩ := tk_some ht
        rw [lets_some hne ht] at h
        cases hx : lets (l.drop m) with
        | none => rw [hx] at h; cases h
        | some ys =>
          rw [hx] at h
          obtain ⟨a, b⟩ := of_lets n (l.drop m) ys (by rw [List.length_drop]; omega) hx
          have := (Option.some.inj h).symm
          subst this
          refine ⟨?_, ?_⟩
          · intro x hx'
            rcases List.mem_cons.1 hx' with rfl | hx'
            · exact hl
            · exact a x hx'
          · rw [encs, he, b, List.take_append_drop]
theorem textN_encs (l : List Int) (hl : ∀ j : Nat, j < l.length → letterB (rd l (j : Int)) = true) : ∀ k, k ≤ l.length → textN l k = encs (l.take k)
  | 0, _ => by rw [textN, List.take_zero]; rfl
  | k + 1, h => by
    have e : l.take (k + 1) = l.take k ++ [rd l (k : Int)] := by
      rw [List.take_add_one]
      congr 1
      unfold rd
      rw [Int.toNat_natCast, List.getElem?_eq_getElem (by omega), List.getD_eq_getElem?_getD, List.getElem?_eq_getElem (by omega)]
      rfl
    rw [textN, textN_encs l hl k (by omega), e, encs_app, encode_enc _ (hl k (by omega))]
    show encs (List.take k l) ++ enc (rd l ↑k) = encs (List.take k l) ++ (enc (rd l ↑k) ++ [])
    rw [List.append_nil]
theorem all_rd (l : List Int) : (∀ j : Nat, j < l.length → letterB (rd l (j : Int)) = true) ↔ ∀ x ∈ l, letterB x = true := by
  have e : ∀ j : Nat, ∀ h : j < l.length, rd l (j : Int) = l[j] := by
    intro j h
    unfold rd
    rw [Int.toNat_natCast, List.getD_eq_getElem?_getD, List.getElem?_eq_getElem h]; rfl
  constructor
  · intro h x hx
    obtain ⟨j, hj, rfl⟩ := List.mem_iff_getElem.1 hx
    rw [← e j hj]; exact h j hj
  · intro h j hj
    rw [e j hj]; exact h _ (List.getElem_mem hj)
theorem text_encs (l : List Int) : textS l = if (∀ x ∈ l, letterB x = true) then (⟨(encs l).toArray⟩, true) else (⟨#[]⟩, false) := by
  unfold textS
  by_cases h : ∀ x ∈ l, letterB x = true
  · have h' := (all_rd l).2 h
    rw [if_pos h', if_pos h, textN_encs l h' _ (Nat.le_refl _), List.take_length]
  · rw [if_neg h, if_neg (fun h' => h ((all_rd l).1 h'))]
theorem encs_len : ∀ l : List Int, (encs l).length ≤ 4 * l.length
  | [] => Nat.le_refl _
  | r :: l => by
    have := encs_len l
    have h2 : (enc r).length ≤ 4 := by
      unfold enc Lib.encodeRune Lib.encodeRuneZ
      rw [List.length_map]
      repeat' split
      all_goals simp
    rw [encs, List.length_append, List.length_cons]; omega

/-! ### the reference's -/
theorem rd_drop (l : List Int) (i : Nat) (h : i < l.length) : l.drop i = rd l (i : Int) :: l.drop (i + 1) := by
  rw [List.drop_eq_getElem_cons h]
  congr 1
  unfold rd
  rw [Int.toNat_natCast, List.getD_eq_getElem?_getD, List.getElem?_eq_getElem h]; rfl
theorem refText_l0 : ∀ (n k i : Nat) (l : List Int) (o : ByteArray), l.length - i = n → i ≤ l.length → n < k → o.size + 4 * n ≤ 1073741824 → l.length ≤ 1073741824 →
    cracknelref05_Text.l0 k l o (i : Int) = some (if (∀ x ∈ l.drop i, letterB x = true) then (o ++ ⟨(encs (l.drop i)).toArray⟩, true) else (⟨#[]⟩, false))
  | 0, k, i, l, o, h1, h2, h3, h4, h5 => by
    obtain ⟨k, rfl⟩ : ∃ m, k = m + 1 := ⟨k - 1, by omega⟩
    have e : l.drop i = [] := List.drop_eq_nil_of_le (by omega)
    simp only [cracknelref05_Text.l0]
    rw [if_neg (by omega), e, if_pos (by simp)]
    congr 2
    apply ofList_eq; rw [ByteArray.data_append, Array.toList_append]; simp [encs]
  | n + 1, k, i, l, o, h1, h2, h3, h4, h5 => by
    obtain ⟨k, rfl⟩ : ∃ m, k = m + 1 := ⟨k - 1, by omega⟩
    simp only [cracknelref05_Text.l0]
    rw [if_pos (by omega), if_pos (by omega), refPut, Option.bind_some, rd_drop l i (by omega)]
    unfold putS
    by_cases hr : letterB (rd l (i : Int)) = true
    · rw [if_pos hr, if_pos rfl]
      have hsz : ((⟨(enc (rd l (i : Int))).toArray⟩ : ByteArray), true).1.size ≤ 4 := by
        have := encs_len [rd l (i : Int)]
        rw [encs, List.length_append] at this
        show (enc (rd l (i : Int))).toArray.size ≤ 4
        rw [List.size_toArray]
        simp at this; omega
      rw [if_pos (by omega), w64 (by omega) (by omega), show ((i : Int) + 1) = ((i + 1 : Nat) : Int) by omega]
      rw [refText_l0 n k (i + 1) l _ (by omega) (by omega) (by omega) (by rw [ByteArray.size_append]; omega) h5]
      congr 1
      by_cases ha : ∀ x ∈ l.drop (i + 1), letterB x = true
      · rw [if_pos ha, if_pos (by intro x hx; rcases List.mem_cons.1 hx with rfl | hx; exact hr; exact ha x hx)]
        congr 1
        apply ofList_eq
        simp [ByteArray.data_append, Array.toList_append, encs]
      · rw [if_neg ha, if_neg (fun hh => ha (fun x hx => hh x (List.mem_cons_of_mem _ hx)))]
    · rw [if_neg hr, if_neg (by decide), if_neg (fun hh => hr (hh _ (List.mem_cons_self ..)))]
theorem refText (k : Nat) (l : List Int) (hk : l.length < k) (hl : l.length ≤ 268435456) : cracknelref05_Text.f k l = some (textS l) := by
  unfold cracknelref05_Text.f
  rw [show (0 : Int) = ((0 : Nat) : Int) from rfl, refText_l0 l.length k 0 l ⟨#[]⟩ (by omega) (by omega) hk (by show 0 + _ ≤ _; omega) (by omega), text_encs, List.drop_zero]
  congr 1
theorem same_l0 : ∀ (n k i : Nat) (a b : List Int), a.length - i = n → a.length = b.length → i ≤ a.length → n < k → a.length ≤ 1073741824 →
    cracknelref05_Same.l0 k a b (i : Int) = some (decide (a.drop i = b.drop i))
  | 0, k, i, a, b, h1, h2, h3, h4, h5 => by
    obtain ⟨k, rfl⟩ : ∃ m, k = m + 1 := ⟨k - 1, by omega⟩
    simp only [cracknelref05_Same.l0]
    rw [if_neg (by omega), List.drop_eq_nil_of_le (by omega), List.drop_eq_nil_of_le (by omega)]; rfl
  | n + 1, k, i, a, b, h1, h2, h3, h4, h5 => by
    obtain ⟨k, rfl⟩ : ∃ m, k = m + 1 := ⟨k - 1, by omega⟩
    simp only [cracknelref05_Same.l0]
    rw [if_pos (by omega), if_pos (by omega), if_pos (by omega), rd_drop a i (by omega), rd_drop b i (by omega)]
    by_cases h : rd a (i : Int) = rd b (i : Int)
    · rw [if_pos h, w64 (by omega) (by omega), show ((i : Int) + 1) = ((i + 1 : Nat) : Int) by omega, same_l0 n k (i + 1) a b (by omega) h2 (by omega) (by omega) h5, h]
      congr 1
      rw [decide_eq_decide]; simp
    · rw [if_neg h]
      congr 1
      symm
      rw [decide_eq_false_iff_not]
      intro e
      exact h (List.cons.inj e).1
theorem same_f (k : Nat) (a b : List Int) (hk : a.length < k) (ha : a.length ≤ 1073741824) : cracknelref05_Same.f k a b = some (decide (a = b)) := by
  unfold cracknelref05_Same.f
  by_cases h : a.length = b.length
  · rw [if_pos (by omega), show (0 : Int) = ((0 : Nat) : Int) from rfl, same_l0 a.length k 0 a b (by omega) h (by omega) hk ha, List.drop_zero, List.drop_zero]
  · rw [if_neg (by omega)]
    congr 1; symm; rw [decide_eq_false_iff_not]; intro e; exact h (by rw [e])
theorem refRunes_l0 : ∀ (n k : Nat) (s : ByteArray) (o : List Int), s.size ≤ n → n + 12 < k → o.length + n ≤ 1073741824 →
    cracknelref05_Runes.l0 k s o = some (match lets s.data.toList with | none => ([], false) | some xs => (o ++ xs, true))
  | n, k, s, o, h1, h2, h3 => by
    obtain ⟨k, rfl⟩ : ∃ m, k = m + 1 := ⟨k - 1, by omega⟩
    simp only [cracknelref05_Runes.l0]
    have hsz : s.data.toList.length = s.size := data_length s
    by_cases h0 : s.size = 0
    · have e : s.data.toList = [] := List.eq_nil_of_length_eq_zero (by omega)
      rw [if_neg (by omega), e, lets_nil]
      simp
    · have hne : s.data.toList ≠ [] := fun e => h0 (by rw [← hsz, e]; rfl)
      rw [if_pos (by omega), refTake k s (by omega), refTakeS_eq, Option.bind_some]
      unfold takeS
      cases ht : tk s.data.toList with
      | none =>
        simp only
        rw [if_neg (by decide), lets_none hne ht]
      | some d =>
        obtain ⟨r, m⟩ := d
        obtain ⟨_, _, q1, q2⟩ := tk_some ht
        simp only
        rw [if_pos trivial, if_pos (by omega), if_pos (by omega), if_pos (by omega), Int.toNat_natCast]
        have e : (s.extract m s.size).data.toList = s.data.toList.drop m := by
          rw [ByteArray.data_extract, Array.toList_extract]
          simp
          rw [List.take_of_length_le (by rw [List.length_drop]; omega)]
        have hs2 : (s.extract m s.size).size = s.size - m := by rw [← data_length, e, List.length_drop, hsz]
        obtain ⟨n, rfl⟩ : ∃ z, n = z + 1 := ⟨n - 1, by omega⟩
        rw [refRunes_l0 n k _ _ (by omega) (by omega) (by rw [List.length_append, List.length_singleton]; omega), e, lets_some hne ht]
        cases lets (s.data.toList.drop m) with
        | none => rfl
        | some xs => simp
theorem refRunes (k : Nat) (s : ByteArray) (hk : s.size + 12 < k) (hs : s.size ≤ 1073741824) : cracknelref05_Runes.f k s = some (runesS s) := by
  unfold cracknelref05_Runes.f
  rw [refRunes_l0 s.size k s [] (by omega) hk (by simp; omega), runes_lets]
  congr 1

theorem len_lets : ∀ (n : Nat) (l : List UInt8) (xs : List Int), l.length ≤ n → lets l = some xs → xs.length ≤ l.length := by
  intro n l xs hn h
  obtain ⟨a, rfl⟩ := of_lets n l xs hn h
  clear h hn a
  induction xs with
  | nil => simp
  | cons r x ih => rw [encs, List.length_append, List.length_cons]; have := enc_len_pos r; omega
theorem UtfTexts : cracknellaw05_UtfTexts.Pure := by
  intro l h0 h1 h2
  refine ⟨3000, ?_⟩
  unfold cracknellaw05_UtfTexts.f
  by_cases hl : l.length > 500
  · rw [if_pos (by omega), alive05 3000 (by decide)]; rfl
  · rw [if_neg (by omega)]
    have hlen := encs_len l
    unfold utf_Text.f
    rw [if_pos (by omega), Option.bind_some, refText 3000 l (by omega) (by omega), Option.bind_some]
    have hsz : (textS l).1.size ≤ 2000 := by
      rw [text_encs]; split
      · show (encs l).toArray.size ≤ 2000; rw [List.size_toArray]; omega
      · exact Nat.zero_le _
    have hr : utf_Runes.f (textS l).1 = some (runesS (textS l).1) := by unfold utf_Runes.f; rw [if_pos (by omega)]
    have hv : utf_Valid.f (textS l).1 = some (lets (textS l).1.data.toList).isSome := by
      unfold utf_Valid.f utf8_ValidString.f; rw [if_pos (by omega), Option.bind_some, valid_lets _ _ (Nat.le_refl _)]
    rw [hr, hv, Option.bind_some, alive05 3000 (by decide), Option.bind_some, if_pos rfl, if_pos rfl, if_pos (by simp), Option.bind_some, runes_lets, text_encs]
    by_cases ha : ∀ x ∈ l, letterB x = true
    · rw [if_pos ha]
      have hx : lets (encs l) = some l := by
        have := lets_encs [] l ha
        rw [List.append_nil, lets_nil] at this
        simpa using this
      simp only [hx]
      rw [if_pos trivial, if_pos trivial, same_f 3000 l l (by omega) (by omega), Option.bind_some, if_pos (by simp)]
      rfl
    · rw [if_neg ha]
      rfl
theorem UtfRunes : cracknellaw05_UtfRunes.Pure := by
  intro s hs
  refine ⟨3000, ?_⟩
  unfold cracknellaw05_UtfRunes.f
  by_cases hl : s.size > 1000
  · rw [if_pos (by omega), alive05 3000 (by decide)]; rfl
  · rw [if_neg (by omega)]
    unfold utf_Runes.f
    have hsz : s.data.toList.length = s.size := data_length s
    rw [if_pos (by omega), Option.bind_some, refRunes 3000 s (by omega) (by omega), Option.bind_some, runes_lets]
    unfold utf_Valid.f utf8_ValidString.f
    rw [if_pos (by omega), Option.bind_some, valid_lets _ _ (Nat.le_refl _)]
    cases h : lets s.data.toList with
    | none =>
      have e : (utf_Text.f ([] : List Int)) = some (⟨#[]⟩, true) := by
        unfold utf_Text.f
        rw [if_pos (by simp), text_encs, if_pos (by simp)]; rfl
      simp only
      rw [e, Option.bind_some, alive05 3000 (by decide), Option.bind_some, if_pos rfl, same_f 3000 [] [] (by simp) (by simp), Option.bind_some, if_pos (by simp), if_pos (by simp), Option.bind_some]
      rfl
    | some xs =>
      obtain ⟨ha, he⟩ := of_lets _ _ xs (Nat.le_refl _) h
      have hx := len_lets _ _ xs (Nat.le_refl _) h
      have e : (utf_Text.f xs) = some (s, true) := by
        unfold utf_Text.f
        rw [if_pos (by omega), text_encs, if_pos ha]
        congr 2
        apply ofList_eq
        exact he
      simp only
      rw [e, Option.bind_some, alive05 3000 (by decide), Option.bind_some, if_pos rfl, same_f 3000 xs xs (by omega) (by omega), Option.bind_some, if_pos (by simp), if_pos (by simp), Option.bind_some]
      simp
end Go.Proofs.YthhmmaihbjhhgaaDoor.Giv
