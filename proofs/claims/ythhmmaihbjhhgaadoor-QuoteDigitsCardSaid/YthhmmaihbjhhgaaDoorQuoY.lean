/- Plain law of texts in quotes: the reference's reading is the program's; what is written is read as it was. -/
import Derived.Test.YthhmmaihbjhhgaaDoorQuoX
import Derived.Test.YthhmmaihbjhhgaaDoorQ1x5
namespace Go.Proofs.YthhmmaihbjhhgaaDoor.Giv
open Go.RowKit Go.Proofs.YthhmmaihbjhhgaaDoorW.PrintWords Go.Proofs.YthhmmaihbjhhgaaDoorW.PrintLast Go.Proofs.YthhmmaihbjhhgaaDoorW.PrintMore
open Go.Proofs.YthhmmaihbjhhgaaDoor.U1 Go.Proofs.YthhmmaihbjhhgaaDoor.Q1 Go.Proofs.YthhmmaihbjhhgaaDoor.Q2


set_option maxRecDepth 100000 in
theorem value_all : ∀ n : Nat, n < 256 → cracknelref07_value.f 5 (n : Int) = some (hv n) := by decide +kernel
theorem value_f (k : Nat) (n : Nat) (hn : n < 256) (hk : 5 ≤ k) : cracknelref07_value.f k (n : Int) = some (hv n) := at_rounds (cracknelref07_value.mono (n : Int)) hk (value_all n hn)
theorem number_step (k : Nat) (s : ByteArray) (at_ a i : Nat) (hi : i < at_ + 5) (hs : i < s.size) (hb : at_ ≤ 1073741824) (ha : a < 65536) (hk : 5 ≤ k) :
    cracknelref07_number.l0 (k + 1) s (at_ : Int) (a : Int) (i : Int) = if hv (s.data.toList.getD i 0).toNat < 0 then some (-1) else cracknelref07_number.l0 k s (at_ : Int) ((a : Int) * 16 + hv (s.data.toList.getD i 0).toNat) ((i + 1 : Nat) : Int) := by
  have hbd := hv_bd (s.data.toList.getD i 0).toNat
  have hn := UInt8.toNat_lt (s.data.toList.getD i 0)
  rw [cracknelref07_number.l0]
  rw [w64 (x := (at_ : Int) + 5) (by omega) (by omega), if_pos (by omega), if_pos (by omega), if_pos (by omega), byte_bt, value_f k _ hn hk, Option.bind_some, Option.bind_some]
  generalize hv (s.data.toList.getD i 0).toNat = v at hbd ⊢
  rw [w64 (x := 16 * (a : Int)) (by omega) (by omega), w64 (x := 16 * (a : Int) + v) (by omega) (by omega), w64 (x := (i : Int) + 1) (by omega) (by omega)]
  rw [show 16 * (a : Int) + v = (a : Int) * 16 + v by omega, show ((i : Int) + 1) = ((i + 1 : Nat) : Int) by omega]
/-- a u, and four digits behind it -/
def numU (l : List UInt8) : Int := if (l.getD 0 0).toNat = 117 then digN (l.drop 1) else -1
theorem getD_drops (l : List UInt8) (p j : Nat) : (l.drop p).getD j 0 = l.getD (p + j) 0 := by
  rw [List.getD_eq_getElem?_getD, List.getD_eq_getElem?_getD, List.getElem?_drop]
theorem number_f (k : Nat) (s : ByteArray) (p : Nat) (hp : p ≤ s.size) (hs : s.size ≤ 1073741824) (hk : 12 < k) : cracknelref07_number.f k s (p : Int) = some (numU (s.data.toList.drop p)) := by
  obtain ⟨k, rfl⟩ : ∃ m, k = m + 1 + 1 + 1 + 1 + 1 + 1 + 5 := ⟨k - 11, by omega⟩
  have hl : (s.data.toList.drop p).length = s.size - p := by rw [List.length_drop, data_length]
  have h0 := hv_bd (s.data.toList.getD (p + 1) 0).toNat
  have h1 := hv_bd (s.data.toList.getD (p + 1 + 1) 0).toNat
  have h2 := hv_bd (s.data.toList.getD (p + 1 + 1 + 1) 0).toNat
  have h3 := hv_bd (s.data.toList.getD (p + 1 + 1 + 1 + 1) 0).toNat
  unfold cracknelref07_number.f numU
  rw [w64 (x := (s.size : Int) - p) (by omega) (by omega), getD_drop]
  by_cases a : s.size < p + 5
  · rw [if_pos (show (s.size : Int) - p < 5 by omega), cracknelref07_number.j0, if_pos rfl]
    congr 1
    split
    · unfold digN
      rw [if_pos (by rw [List.length_drop]; omega)]
    · rfl
  · rw [if_neg (show ¬ (s.size : Int) - p < 5 by omega), if_pos (by omega), if_pos (by omega), cracknelref07_number.j0, byte_bt]
    by_cases b : (s.data.toList.getD p 0).toNat = 117
    · rw [if_neg (show ¬ ((((s.data.toList.getD p 0).toNat : Nat) : Int) != 117) = true by rw [bne_iff_ne]; omega), if_pos b, w64 (x := (p : Int) + 1) (by omega) (by omega)]
      have st : ∀ (k : Nat) (i : Nat) (a : Int), i < p + 5 → 0 ≤ a → a < 65536 → 5 ≤ k → cracknelref07_number.l0 (k + 1) s (p : Int) a (i : Int) = if hv (s.data.toList.getD i 0).toNat < 0 then some (-1) else cracknelref07_number.l0 k s (p : Int) (a * 16 + hv (s.data.toList.getD i 0).toNat) ((i + 1 : Nat) : Int) := by
        intro k i a hi ha0 ha1 hk
        obtain ⟨m, rfl⟩ : ∃ m : Nat, a = m := ⟨a.toNat, by omega⟩
        exact number_step k s p m i hi (by omega) (by omega) (by omega) hk
      unfold digN
      rw [if_neg (by rw [List.length_drop]; omega), List.drop_drop, getD_drop, getD_drops, getD_drops, getD_drops, show p + 1 + 2 = p + 1 + 1 + 1 from rfl, show p + 1 + 3 = p + 1 + 1 + 1 + 1 from rfl]
      rw [show (p : Int) + 1 = ((p + 1 : Nat) : Int) by omega, st _ (p + 1) _ (by omega) (by omega) (by omega) (by omega)]
      by_cases d0 : hv (s.data.toList.getD (p + 1) 0).toNat < 0
      · rw [if_pos d0, if_pos (Or.inl d0)]
      · rw [if_neg d0, st _ (p + 1 + 1) _ (by omega) (by omega) (by omega) (by omega)]
        by_cases d1 : hv (s.data.toList.getD (p + 1 + 1) 0).toNat < 0
        · rw [if_pos d1, if_pos (Or.inr (Or.inl d1))]
        · rw [if_neg d1, st _ (p + 1 + 1 + 1) _ (by omega) (by omega) (by omega) (by omega)]
          by_cases d2 : hv (s.data.toList.getD (p + 1 + 1 + 1) 0).toNat < 0
          · rw [if_pos d2, if_pos (Or.inr (Or.inr (Or.inl d2)))]
          · rw [if_neg d2, st _ (p + 1 + 1 + 1 + 1) _ (by omega) (by omega) (by omega) (by omega)]
            by_cases d3 : hv (s.data.toList.getD (p + 1 + 1 + 1 + 1) 0).toNat < 0
            · rw [if_pos d3, if_pos (Or.inr (Or.inr (Or.inr d3)))]
            · rw [if_neg d3, if_neg (by omega), cracknelref07_number.l0]
              rw [w64 (x := (p : Int) + 5) (by omega) (by omega), if_neg (by omega)]
              congr 1
              omega
    · rw [if_pos (show ((((s.data.toList.getD p 0).toNat : Nat) : Int) != 117) = true by rw [bne_iff_ne]; omega), if_neg b]

/-- what the reference's escape answers when the byte behind the backslash is no sign of its own -/
def escN (l : List UInt8) : Int × Int :=
  if numU (l.drop 1) < 0 ∨ (56320 ≤ numU (l.drop 1) ∧ numU (l.drop 1) ≤ 57343) then (0, 0)
  else if numU (l.drop 1) < 55296 ∨ 57343 < numU (l.drop 1) then (numU (l.drop 1), 6)
  else if l.length < 12 ∨ (l.getD 6 0).toNat ≠ 92 then (0, 0)
  else if numU (l.drop 7) < 56320 ∨ 57343 < numU (l.drop 7) then (0, 0)
  else (65536 + 1024 * (numU (l.drop 1) - 55296) + numU (l.drop 7) - 56320, 12)
theorem refLoop_step (k : Nat) (s : ByteArray) (p : Int) (c b : Nat) (hb : 8 ≤ b ∧ b ≤ 13) (hk : 0 < k) :
    cracknelref07_escape.l0 (k + 1) s p (c : Int) (b : Int) = if 92 < c ∧ shortI (b : Int) = (c : Int) then some ((b : Int), 2) else cracknelref07_escape.l0 k s p (c : Int) ((b + 1 : Nat) : Int) := by
  rw [cracknelref07_escape.l0, if_pos (by omega), w64 (x := (b : Int) + 1) (by omega) (by omega), show ((b : Int) + 1) = ((b + 1 : Nat) : Int) by omega, show (b : Int) % 256 = (b : Int) by omega, short_f k _ hk, Option.bind_some]
  by_cases a : 92 < c
  · rw [if_pos (by omega)]
    by_cases d : shortI (b : Int) = (c : Int)
    · rw [if_pos d, if_pos ⟨a, d⟩]
    · rw [if_neg d, if_neg (fun h => d h.2)]
  · rw [if_neg (by omega), if_neg (fun h => a h.1)]
set_option maxRecDepth 100000 in
theorem loop_none : ∀ c : Nat, c < 256 → meanB c = 0 → ∀ b : Nat, b < 14 → 8 ≤ b → ¬ (92 < c ∧ shortI (b : Int) = (c : Int)) := by decide +kernel
set_option maxRecDepth 100000 in
theorem loop_some : ∀ c : Nat, c < 256 → (meanB c = 0) = False → ∀ b : Nat, b < 14 → 8 ≤ b → decide (92 < c ∧ shortI (b : Int) = (c : Int)) = decide (b = (meanB c).toNat) := by
  intro c hc hm b hb h8
  have h : ∀ c : Nat, c < 256 → (decide (meanB c = 0)) = false → ∀ b : Nat, b < 14 → 8 ≤ b → decide (92 < c ∧ shortI (b : Int) = (c : Int)) = decide (b = (meanB c).toNat) := by decide +kernel
  exact h c hc (by simp [hm]) b hb h8
theorem numU_bd (l : List UInt8) : -1 ≤ numU l ∧ numU l < 65536 := by
  unfold numU
  split
  · exact digN_bd _
  · omega
theorem refN (k : Nat) (s : ByteArray) (p : Nat) (c : Int) (hp : p + 1 < s.size) (hs : s.size ≤ 1073741824) (hk : 20 < k) :
    cracknelref07_escape.l0 (k + 1) s (p : Int) c 14 = some (escN (s.data.toList.drop p)) := by
  obtain ⟨k, rfl⟩ : ∃ m, k = m + 1 + 1 + 1 := ⟨k - 3, by omega⟩
  have hl : (s.data.toList.drop p).length = s.size - p := by rw [List.length_drop, data_length]
  have h1 := numU_bd (s.data.toList.drop (p + 1))
  have h7 := numU_bd (s.data.toList.drop (p + 7))
  rw [cracknelref07_escape.l0, if_neg (by omega), w64 (x := (p : Int) + 1) (by omega) (by omega), show (p : Int) + 1 = ((p + 1 : Nat) : Int) by omega, number_f _ s (p + 1) (by omega) hs (by omega), Option.bind_some]
  unfold escN
  rw [List.drop_drop, List.drop_drop, getD_drops, hl]
  generalize numU (s.data.toList.drop (p + 1)) = n at h1 ⊢
  have e2 : ∀ b : Bool, (b = true ↔ (n < 0 ∨ (56320 ≤ n ∧ n ≤ 57343))) → cracknelref07_escape.j2 (k + 1 + 1 + 1) s (p : Int) n b = some (if n < 0 ∨ (56320 ≤ n ∧ n ≤ 57343) then (0, 0) else if n < 55296 ∨ 57343 < n then (n, 6) else if s.size - p < 12 ∨ (s.data.toList.getD (p + 6) 0).toNat ≠ 92 then (0, 0) else if numU (s.data.toList.drop (p + 7)) < 56320 ∨ 57343 < numU (s.data.toList.drop (p + 7)) then (0, 0) else (65536 + 1024 * (n - 55296) + numU (s.data.toList.drop (p + 7)) - 56320, 12)) := by
    intro b hb
    rw [cracknelref07_escape.j2]
    by_cases a : b = true
    · rw [if_pos a, if_pos (hb.1 a)]
    · have a' : ¬ (n < 0 ∨ (56320 ≤ n ∧ n ≤ 57343)) := fun h => a (hb.2 h)
      rw [if_neg a, if_neg a']
      have e3 : ∀ b : Bool, (b = true ↔ (n < 55296 ∨ 57343 < n)) → cracknelref07_escape.j3 (k + 1 + 1) s (p : Int) n b = some (if n < 55296 ∨ 57343 < n then (n, 6) else if s.size - p < 12 ∨ (s.data.toList.getD (p + 6) 0).toNat ≠ 92 then (0, 0) else if numU (s.data.toList.drop (p + 7)) < 56320 ∨ 57343 < numU (s.data.toList.drop (p + 7)) then (0, 0) else (65536 + 1024 * (n - 55296) + numU (s.data.toList.drop (p + 7)) - 56320, 12)) := by
        intro b hb
        rw [cracknelref07_escape.j3]
        by_cases c : b = true
        · rw [if_pos c, if_pos (hb.1 c)]
        · have c' : ¬ (n < 55296 ∨ 57343 < n) := fun h => c (hb.2 h)
          rw [if_neg c, if_neg c', w64 (x := (s.size : Int) - p) (by omega) (by omega), w64 (x := (p : Int) + 6) (by omega) (by omega)]
          have e4 : ∀ b : Bool, (b = true ↔ (s.size - p < 12 ∨ (s.data.toList.getD (p + 6) 0).toNat ≠ 92)) → cracknelref07_escape.j4 (k + 1) s (p : Int) n b = some (if s.size - p < 12 ∨ (s.data.toList.getD (p + 6) 0).toNat ≠ 92 then (0, 0) else if numU (s.data.toList.drop (p + 7)) < 56320 ∨ 57343 < numU (s.data.toList.drop (p + 7)) then (0, 0) else (65536 + 1024 * (n - 55296) + numU (s.data.toList.drop (p + 7)) - 56320, 12)) := by
            intro b hb
            rw [cracknelref07_escape.j4]
            by_cases d : b = true
            · rw [if_pos d, if_pos (hb.1 d)]
            · have d' : ¬ (s.size - p < 12 ∨ (s.data.toList.getD (p + 6) 0).toNat ≠ 92) := fun h => d (hb.2 h)
              rw [if_neg d, if_neg d', w64 (x := (p : Int) + 7) (by omega) (by omega), show (p : Int) + 7 = ((p + 7 : Nat) : Int) by omega, number_f _ s (p + 7) (by omega) hs (by omega), Option.bind_some]
              generalize numU (s.data.toList.drop (p + 7)) = m at h7 ⊢
              by_cases f : m < 56320
              · rw [if_pos f, if_pos (Or.inl f)]
              · rw [if_neg f]
                by_cases g : 57343 < m
                · rw [if_pos (show m > 57343 from g), if_pos (Or.inr g)]
                · rw [if_neg (show ¬ m > 57343 from g), if_neg (show ¬ (m < 56320 ∨ 57343 < m) by omega)]
                  rw [w64 (x := n - 55296) (by omega) (by omega), w64 (x := 1024 * (n - 55296)) (by omega) (by omega), w64 (x := 65536 + 1024 * (n - 55296)) (by omega) (by omega), w64 (x := 65536 + 1024 * (n - 55296) + m) (by omega) (by omega), w64 (by omega) (by omega)]
          by_cases g : s.size - p < 12
          · rw [if_pos (show (s.size : Int) - p < 12 by omega), e4 true (by simp; omega)]
          · rw [if_neg (show ¬ (s.size : Int) - p < 12 by omega), if_pos (by omega), if_pos (by omega), show (p : Int) + 6 = ((p + 6 : Nat) : Int) by omega, byte_bt, e4 _ (by rw [bne_iff_ne]; omega)]
      by_cases c : n < 55296
      · rw [if_pos c, e3 true (by simp; omega)]
      · rw [if_neg c, e3 _ (by rw [decide_eq_true_iff]; omega)]
  by_cases a : n < 0
  · rw [if_pos a, e2 true (by simp; omega)]
  · rw [if_neg a]
    by_cases d : 56320 ≤ n
    · rw [if_pos (show n ≥ 56320 from d), e2 _ (by rw [decide_eq_true_iff]; omega)]
    · rw [if_neg (show ¬ n ≥ 56320 from d), e2 false (by simp; omega)]
/-- the reference's piece that begins with a backslash: the letter, and how many bytes; 0 of them: none -/
def escR (l : List UInt8) : Int × Int :=
  if l.length < 2 then (0, 0)
  else if (l.getD 1 0).toNat = 34 ∨ (l.getD 1 0).toNat = 92 ∨ (l.getD 1 0).toNat = 47 then (((l.getD 1 0).toNat : Int), 2)
  else if meanB (l.getD 1 0).toNat = 0 then escN l else (((meanB (l.getD 1 0).toNat).toNat : Int), 2)
theorem mean_bd (n : Nat) (h : meanB n ≠ 0) : 8 ≤ (meanB n).toNat ∧ (meanB n).toNat ≤ 13 := by
  unfold meanB at h ⊢
  repeat' split
  all_goals first | decide | simp_all
theorem refLoop (k : Nat) (s : ByteArray) (p c : Nat) (hc : c < 256) (hp : p + 1 < s.size) (hs : s.size ≤ 1073741824) (hk : 30 < k) :
    cracknelref07_escape.l0 k s (p : Int) (c : Int) 8 = some (if meanB c = 0 then escN (s.data.toList.drop p) else (((meanB c).toNat : Int), 2)) := by
  obtain ⟨k, rfl⟩ : ∃ m, k = m + 1 + 1 + 1 + 1 + 1 + 1 + 1 := ⟨k - 7, by omega⟩
  by_cases hm : meanB c = 0
  · rw [if_pos hm]
    have st : ∀ (k b : Nat), b < 14 → 8 ≤ b → 0 < k → cracknelref07_escape.l0 (k + 1) s (p : Int) (c : Int) (b : Int) = cracknelref07_escape.l0 k s (p : Int) (c : Int) ((b + 1 : Nat) : Int) := by
      intro k b h1 h2 h3
      rw [refLoop_step k s p c b ⟨h2, by omega⟩ h3, if_neg (loop_none c hc hm b h1 h2)]
    show cracknelref07_escape.l0 _ s (p : Int) (c : Int) ((8 : Nat) : Int) = _
    rw [st _ 8 (by omega) (by omega) (by omega), st _ 9 (by omega) (by omega) (by omega), st _ 10 (by omega) (by omega) (by omega), st _ 11 (by omega) (by omega) (by omega), st _ 12 (by omega) (by omega) (by omega), st _ 13 (by omega) (by omega) (by omega)]
    exact refN k s p c hp hs (by omega)
  · rw [if_neg hm]
    have hb := mean_bd c hm
    have st : ∀ (k b : Nat), b < 14 → 8 ≤ b → 0 < k → cracknelref07_escape.l0 (k + 1) s (p : Int) (c : Int) (b : Int) = if b = (meanB c).toNat then some ((b : Int), 2) else cracknelref07_escape.l0 k s (p : Int) (c : Int) ((b + 1 : Nat) : Int) := by
      intro k b h1 h2 h3
      have := loop_some c hc (eq_false hm) b h1 h2
      rw [decide_eq_decide] at this
      rw [refLoop_step k s p c b ⟨h2, by omega⟩ h3]
      by_cases e : b = (meanB c).toNat
      · rw [if_pos e, if_pos (this.2 e)]
      · rw [if_neg e, if_neg (fun h => e (this.1 h))]
    show cracknelref07_escape.l0 _ s (p : Int) (c : Int) ((8 : Nat) : Int) = _
    generalize (meanB c).toNat = m at hb st ⊢
    rw [st _ 8 (by omega) (by omega) (by omega), st _ 9 (by omega) (by omega) (by omega), st _ 10 (by omega) (by omega) (by omega), st _ 11 (by omega) (by omega) (by omega), st _ 12 (by omega) (by omega) (by omega), st _ 13 (by omega) (by omega) (by omega)]
    repeat' split
    all_goals first | (subst_vars; rfl) | omega
theorem refEscape (k : Nat) (s : ByteArray) (p : Nat) (hp : p < s.size) (hs : s.size ≤ 1073741824) (hk : 31 < k) : cracknelref07_escape.f k s (p : Int) = some (escR (s.data.toList.drop p)) := by
  obtain ⟨k, rfl⟩ : ∃ m, k = m + 1 := ⟨k - 1, by omega⟩
  have hl : (s.data.toList.drop p).length = s.size - p := by rw [List.length_drop, data_length]
  have hn := UInt8.toNat_lt (s.data.toList.getD (p + 1) 0)
  unfold cracknelref07_escape.f escR
  rw [w64 (x := (p : Int) + 1) (by omega) (by omega), show (p : Int) + 1 = ((p + 1 : Nat) : Int) by omega, hl, getD_drops, byte_bt]
  by_cases a : s.size ≤ p + 1
  · rw [if_pos (show ((p + 1 : Nat) : Int) ≥ (s.size : Int) by omega), if_pos (by omega)]
  · rw [if_neg (show ¬ ((p + 1 : Nat) : Int) ≥ (s.size : Int) by omega), if_pos (by omega), if_pos (by omega)]
    have hlp := fun k hk => refLoop k s p (s.data.toList.getD (p + 1) 0).toNat hn (by omega) hs hk
    generalize (s.data.toList.getD (p + 1) 0).toNat = c at hn hlp ⊢
    have e0 : ∀ b : Bool, (b = true ↔ (c = 34 ∨ c = 92 ∨ c = 47)) → cracknelref07_escape.j0 (k + 1) s (p : Int) (c : Int) b = some (if s.size - p < 2 then (0, 0) else if c = 34 ∨ c = 92 ∨ c = 47 then ((c : Int), 2) else if meanB c = 0 then escN (s.data.toList.drop p) else (((meanB c).toNat : Int), 2)) := by
      intro b hb
      rw [cracknelref07_escape.j0, if_neg (show ¬ s.size - p < 2 by omega)]
      by_cases d : b = true
      · rw [if_pos d, if_pos (hb.1 d), w64 (by omega) (by omega)]
      · rw [if_neg d, if_neg (fun h => d (hb.2 h)), hlp k (by omega)]
    by_cases d : c = 34
    · rw [if_pos (by omega), e0 true (by simp; omega)]
    · rw [if_neg (by omega)]
      by_cases e : c = 92
      · rw [if_pos (by omega), e0 true (by simp; omega)]
      · rw [if_neg (by omega), e0 _ (by rw [beq_iff_eq]; omega)]

theorem enc_ascii (n : Nat) (h : n < 128) : enc (n : Int) = [n.toUInt8] ∧ letterB (n : Int) = true := by
  constructor
  · unfold enc Lib.encodeRune
    rw [Lib.encodeRuneZ, if_pos (by omega)]
    simp
  · rw [letter_iff]; omega
/-- the pair of the reference, as the program's answer -/
def ofR (r : Int × Int) : List UInt8 × Int × Int := if r.2 = 0 then ([], 0, 73) else (enc r.1, r.2, 0)
theorem escN_u (l : List UInt8) (h : (l.getD 1 0).toNat = 117) (hl : 2 ≤ l.length) : ofR (escN l) = if letterB (numL (l.drop 2)).1 = true then (enc (numL (l.drop 2)).1, 2 + (numL (l.drop 2)).2, 0) else ([], 0, 73) := by
  have hd := digN_bd (l.drop 2)
  have hd8 := digN_bd (l.drop 8)
  have h8 := digN_len (l.drop 8)
  rw [List.length_drop] at h8
  have e1 : numU (l.drop 1) = digN (l.drop 2) := by unfold numU; rw [getD_drops, if_pos h, List.drop_drop]
  have e7 : numU (l.drop 7) = if (l.getD 7 0).toNat = 117 then digN (l.drop 8) else -1 := by unfold numU; rw [getD_drop, List.drop_drop]
  unfold escN numL
  rw [e1, e7, getD_drops, getD_drops, List.drop_drop, List.length_drop]
  generalize digN (l.drop 2) = n at hd ⊢
  generalize digN (l.drop 8) = m at hd8 h8 ⊢
  have no : ∀ x : Int, ¬ (0 ≤ x ∧ x ≤ 1114111 ∧ (x < 55296 ∨ 57343 < x)) → ¬ letterB x = true := fun x hx h => hx ((letter_iff x).1 h)
  have yes : ∀ x : Int, (0 ≤ x ∧ x ≤ 1114111 ∧ (x < 55296 ∨ 57343 < x)) → letterB x = true := fun x hx => (letter_iff x).2 hx
  by_cases a : n < 0
  · rw [if_pos (show n < 0 ∨ (56320 ≤ n ∧ n ≤ 57343) by omega), if_pos (show n < 55296 ∨ 57344 ≤ n by omega), if_neg (no _ (by simp only; omega))]; rfl
  · by_cases b : n < 55296 ∨ 57344 ≤ n
    · rw [if_neg (show ¬ (n < 0 ∨ (56320 ≤ n ∧ n ≤ 57343)) by omega), if_pos (show n < 55296 ∨ 57343 < n by omega), if_pos b, if_pos (yes _ (by simp only; omega))]; rfl
    · rw [if_neg b]
      by_cases c : 56320 ≤ n
      · rw [if_pos (show n < 0 ∨ (56320 ≤ n ∧ n ≤ 57343) by omega), if_pos (Or.inl c), if_neg (no _ (by simp only; omega))]; rfl
      · rw [if_neg (show ¬ (n < 0 ∨ (56320 ≤ n ∧ n ≤ 57343)) by omega), if_neg (show ¬ (n < 55296 ∨ 57343 < n) by omega)]
        by_cases d : l.length - 2 < 6 ∨ (l.getD (2 + 4) 0).toNat ≠ 92 ∨ (l.getD (2 + 5) 0).toNat ≠ 117
        · rw [if_pos (Or.inr d), if_neg (no (-1) (by omega))]
          by_cases e : l.length < 12 ∨ (l.getD 6 0).toNat ≠ 92
          · rw [if_pos e]; rfl
          · rw [if_neg e]
            have f : ¬ (l.getD 7 0).toNat = 117 := by intro f; rcases d with d | d | d; omega; exact e (Or.inr d); exact d f
            rw [if_neg f, if_pos (by omega)]; rfl
        · have d6 : (l.getD 6 0).toNat = 92 := by have : ¬ (l.getD (2 + 4) 0).toNat ≠ 92 := fun h => d (Or.inr (Or.inl h)); exact Decidable.not_not.1 this
          have d7 : (l.getD 7 0).toNat = 117 := by have : ¬ (l.getD (2 + 5) 0).toNat ≠ 117 := fun h => d (Or.inr (Or.inr h)); exact Decidable.not_not.1 this
          have d8 : ¬ l.length - 2 < 6 := fun h => d (Or.inl h)
          rw [if_neg (show ¬ (56320 ≤ n ∨ l.length - 2 < 6 ∨ (l.getD (2 + 4) 0).toNat ≠ 92 ∨ (l.getD (2 + 5) 0).toNat ≠ 117) from fun h => h.elim c d), if_pos d7]
          by_cases e : m < 56320 ∨ 57344 ≤ m
          · rw [show (if m < 56320 ∨ 57343 < m then ((0 : Int), (0 : Int)) else (65536 + 1024 * (n - 55296) + m - 56320, 12)) = (0, 0) from if_pos (by omega), if_pos e, if_neg (no (-1) (by omega))]
            split <;> rfl
          · have h12 := h8 (by omega)
            rw [if_neg (show ¬ (l.length < 12 ∨ (l.getD 6 0).toNat ≠ 92) by omega), if_neg (show ¬ (m < 56320 ∨ 57343 < m) by omega), if_neg e, if_pos (yes _ (by simp only; omega))]
            unfold ofR
            rw [if_neg (show ¬ (12 : Int) = 0 by decide)]
            simp only
            rw [show 65536 + 1024 * (n - 55296) + m - 56320 = 65536 + (n - 55296) * 1024 + m - 56320 by omega]
            rfl
theorem escR_L (l : List UInt8) : ofR (escR l) = escL l := by
  unfold escR escL
  by_cases a : l.length < 2
  · rw [if_pos a, if_pos a]; rfl
  · rw [if_neg a, if_neg a]
    by_cases b : (l.getD 1 0).toNat = 34 ∨ (l.getD 1 0).toNat = 92 ∨ (l.getD 1 0).toNat = 47
    · have hm : ¬ meanB (l.getD 1 0).toNat ≠ 0 := by
        rcases b with b | b | b <;> rw [b] <;> decide
      rw [if_pos b, if_neg hm, if_pos b]
      unfold ofR
      rw [if_neg (show ¬ (2 : Int) = 0 by decide)]
      simp only
      rw [(enc_ascii _ (by omega)).1]
      simp
    · rw [if_neg b]
      by_cases c : meanB (l.getD 1 0).toNat = 0
      · rw [if_pos c, if_neg (fun h => h c), if_neg b]
        by_cases d : (l.getD 1 0).toNat = 117
        · rw [if_pos d, escN_u l d (by omega)]
        · rw [if_neg d]
          have e1 : numU (l.drop 1) = -1 := by unfold numU; rw [getD_drops, if_neg d]
          unfold escN
          rw [e1, if_pos (by omega)]; rfl
      · rw [if_neg c, if_pos c]
        have hb := mean_bd _ c
        unfold ofR
        rw [if_neg (show ¬ (2 : Int) = 0 by decide)]
        simp only
        rw [(enc_ascii _ (by omega)).1]
        simp

theorem escR_letter (l : List UInt8) (h : (escR l).2 ≠ 0) : letterB (escR l).1 = true := by
  have h1 := numU_bd (l.drop 1)
  have h7 := numU_bd (l.drop 7)
  unfold escR at h ⊢
  split
  · rename_i a; rw [if_pos a] at h; exact absurd rfl h
  · rename_i a
    rw [if_neg a] at h
    split
    · exact (enc_ascii _ (by omega)).2
    · rename_i b
      rw [if_neg b] at h
      split
      · rename_i c
        rw [if_pos c] at h
        unfold escN at h ⊢
        generalize numU (l.drop 1) = n at h1 h ⊢
        generalize numU (l.drop 7) = m at h7 h ⊢
        rw [letter_iff]
        split
        · rename_i d; rw [if_pos d] at h; exact absurd rfl h
        · rename_i d
          rw [if_neg d] at h
          split
          · simp only; omega
          · rename_i e
            rw [if_neg e] at h
            split
            · rename_i f; rw [if_pos f] at h; exact absurd rfl h
            · rename_i f
              rw [if_neg f] at h
              split
              · rename_i g; rw [if_pos g] at h; exact absurd rfl h
              · simp only; omega
      · rename_i c
        have hb := mean_bd _ c
        exact (enc_ascii _ (by omega)).2
theorem refPiece (k : Nat) (s : ByteArray) (p : Nat) (hp : p < s.size) (hs : s.size ≤ 1073741824) (hk : 31 < k) (h32 : ¬ (s.data.toList.getD p 0).toNat < 32) :
    cracknelref07_Piece.f k s (p : Int) = some (packR (oneL (s.data.toList.drop p))) := by
  have hl : (s.data.toList.drop p).length = s.size - p := by rw [List.length_drop, data_length]
  unfold cracknelref07_Piece.f oneL
  rw [if_neg (show ¬ (p : Int) ≥ (s.size : Int) by omega), if_pos (by omega), if_pos (by omega), byte_bt, if_neg (by omega), getD_drop]
  by_cases c : (s.data.toList.getD p 0).toNat = 92
  · rw [if_pos (by omega), if_pos c, refEscape k s p hp hs hk, Option.bind_some, ← escR_L]
    by_cases d : (escR (s.data.toList.drop p)).2 = 0
    · rw [if_pos d]; unfold ofR; rw [if_pos d]; rfl
    · rw [if_neg d, refPut, Option.bind_some]; unfold ofR; rw [if_neg d]
      have hL := escR_letter _ d
      unfold putS
      rw [if_pos hL]; rfl
  · rw [if_neg (by omega), if_neg c, if_pos (by omega), Int.toNat_natCast, refTake k _ (by omega), refTakeS_eq, Option.bind_some]
    unfold takeS plainL
    rw [extract_drop]
    cases ht : tk (s.data.toList.drop p) with
    | none => rfl
    | some d =>
      obtain ⟨r, n⟩ := d
      obtain ⟨_, _, h1, h2⟩ := tk_some ht
      simp only
      rw [if_pos trivial, w64 (x := (p : Int) + n) (by omega) (by omega), if_pos (by omega), if_pos (by omega)]
      congr 1
      unfold packR
      simp only
      congr 1
      apply ofList_eq
      rw [ByteArray.data_extract, Array.toList_extract, show ((p : Int) + n).toNat = p + n by omega]
      simp
theorem refRead_l0 (s : ByteArray) (hs : s.size ≤ 1073741824) : ∀ (n k : Nat) (o : ByteArray) (p : Nat) (r : List UInt8 × Int × Int), readL n (s.data.toList.drop p) = some r → p ≤ s.size → 2 * n + 40 < k → o.size + 4 * n ≤ 140737488355328 →
    cracknelref07_Read.l0 k s o (p : Int) = some (endR o p r)
  | 0, k, o, p, r, h, hp, hk, ho => by simp [readL] at h
  | n + 1, k, o, p, r, h, hp, hk, ho => by
    obtain ⟨k, rfl⟩ : ∃ m, k = m + 1 + 1 := ⟨k - 2, by omega⟩
    have hl : (s.data.toList.drop p).length = s.size - p := by rw [List.length_drop, data_length]
    rw [readL] at h
    rw [cracknelref07_Read.l0]
    by_cases e1 : p = s.size
    · have e : s.data.toList.drop p = [] := List.eq_nil_of_length_eq_zero (by omega)
      rw [if_pos e] at h
      rw [if_pos (show (p : Int) ≥ (s.size : Int) by omega), cracknelref07_Read.j2, if_pos rfl]
      unfold cracknelref07_Piece.f
      rw [if_pos (show (p : Int) ≥ (s.size : Int) by omega), Option.bind_some]
      cases h; rfl
    · have e : s.data.toList.drop p ≠ [] := fun e => by rw [e] at hl; simp at hl; omega
      rw [if_neg e] at h
      rw [if_neg (show ¬ (p : Int) ≥ (s.size : Int) by omega), if_pos (by omega), if_pos (by omega), byte_bt, cracknelref07_Read.j2]
      rw [getD_drop] at h
      by_cases e2 : (s.data.toList.getD p 0).toNat = 34
      · rw [if_pos e2] at h
        rw [if_neg (show ¬ ((((s.data.toList.getD p 0).toNat : Nat) : Int) != 34) = true by rw [bne_iff_ne]; omega), w64 (by omega) (by omega)]
        cases h
        unfold endR
        rw [if_pos rfl]
        congr 2
        apply ofList_eq
        rw [ByteArray.data_append, Array.toList_append]; simp
      · rw [if_neg e2] at h
        rw [if_pos (show ((((s.data.toList.getD p 0).toNat : Nat) : Int) != 34) = true by rw [bne_iff_ne]; omega)]
        by_cases e3 : (s.data.toList.getD p 0).toNat < 32
        · rw [if_pos e3] at h
          unfold cracknelref07_Piece.f
          rw [if_neg (show ¬ (p : Int) ≥ (s.size : Int) by omega), if_pos (by omega), if_pos (by omega), byte_bt, if_pos (by omega), Option.bind_some]
          cases h; rfl
        · rw [if_neg e3] at h
          rw [refPiece k s p (by omega) hs (by omega) e3, Option.bind_some]
          by_cases e4 : (oneL (s.data.toList.drop p)).2.2 = 0
          · rw [if_pos e4] at h
            obtain ⟨q, hq, hr⟩ := Option.map_eq_some_iff.1 h
            obtain ⟨b1, b2, b3⟩ := one_bd _ e4
            unfold packR
            simp only
            have hsz : (⟨(oneL (s.data.toList.drop p)).1.toArray⟩ : ByteArray).size ≤ 4 := by
              show ((oneL (s.data.toList.drop p)).1.toArray).size ≤ 4
              rw [List.size_toArray]; exact b3
            rw [if_pos e4, if_pos (by omega), w64 (by omega) (by omega)]
            rw [List.drop_drop] at hq
            rw [show (p : Int) + (oneL (s.data.toList.drop p)).2.1 = ((p + (oneL (s.data.toList.drop p)).2.1.toNat : Nat) : Int) by omega]
            rw [refRead_l0 s hs n k _ _ q hq (by omega) (by omega) (by rw [ByteArray.size_append]; omega)]
            congr 1
            subst hr
            unfold endR
            by_cases e5 : q.2.2 = 0
            · rw [if_pos e5, if_pos e5, if_pos rfl]
              simp only [Prod.mk.injEq, and_true]
              refine ⟨?_, by omega⟩
              apply ofList_eq
              simp [ByteArray.data_append, Array.toList_append]
            · rw [if_neg e5, if_neg e5, if_neg e5]
          · rw [if_neg e4] at h
            unfold packR
            simp only
            rw [if_neg e4]
            cases h
            unfold endR
            rw [if_neg e4]

theorem refRead_S (n k : Nat) (s : ByteArray) (r : ByteArray × Int × Int) (h : readS n s = some r) (hk : 2 * n + 42 < k) (hn : 4 * n ≤ 140737488355328) (hs : s.size ≤ 1073741824) : cracknelref07_Read.f k s = some r := by
  obtain ⟨k, rfl⟩ : ∃ m, k = m + 1 := ⟨k - 1, by omega⟩
  unfold readS at h
  unfold cracknelref07_Read.f
  by_cases e1 : s.size = 0
  · rw [if_pos e1] at h
    rw [if_pos (by omega), cracknelref07_Read.j0, if_pos rfl]; exact h
  · rw [if_neg e1] at h
    rw [if_neg (by omega), if_pos (by omega), show (0 : Int) = ((0 : Nat) : Int) from rfl, byte_bt, cracknelref07_Read.j0]
    by_cases e2 : (s.data.toList.getD 0 0).toNat = 34
    · rw [if_pos e2] at h
      rw [if_neg (show ¬ ((((s.data.toList.getD 0 0).toNat : Nat) : Int) != 34) = true by rw [bne_iff_ne]; omega)]
      obtain ⟨q, hq, hr⟩ := Option.map_eq_some_iff.1 h
      rw [show (1 : Int) = ((1 : Nat) : Int) from rfl, refRead_l0 s hs n k ⟨#[]⟩ 1 q hq (by omega) (by omega) (by show 0 + _ ≤ _; omega), hr]
    · rw [if_neg e2] at h
      rw [if_pos (show ((((s.data.toList.getD 0 0).toNat : Nat) : Int) != 34) = true by rw [bne_iff_ne]; omega)]
      exact h
/-- a piece read well is letters' bytes -/
theorem one_enc (l : List UInt8) (h : (oneL l).2.2 = 0) : ∃ r : Int, letterB r = true ∧ (oneL l).1 = enc r := by
  unfold oneL at h ⊢
  split
  · rename_i c
    rw [if_pos c, ← escR_L] at h
    rw [← escR_L]
    unfold ofR at h ⊢
    by_cases d : (escR l).2 = 0
    · rw [if_pos d] at h; simp at h
    · rw [if_neg d]
      exact ⟨_, escR_letter l d, rfl⟩
  · rename_i c
    rw [if_neg c] at h
    unfold plainL at h ⊢
    cases ht : tk l with
    | none => rw [ht] at h; simp at h
    | some d =>
      obtain ⟨r, n⟩ := d
      obtain ⟨hl, he, h1, h2⟩ := tk_some ht
      exact ⟨r, hl, he.symm⟩
theorem readL_good : ∀ (n : Nat) (l : List UInt8) (r : List UInt8 × Int × Int), readL n l = some r → r.2.2 = 0 → 1 ≤ r.2.1 ∧ r.2.1 ≤ l.length ∧ ∃ xs : List Int, (∀ x ∈ xs, letterB x = true) ∧ r.1 = encs xs
  | 0, l, r, h, he => by simp [readL] at h
  | n + 1, l, r, h, he => by
    rw [readL] at h
    by_cases e1 : l = []
    · rw [if_pos e1] at h; cases h; simp at he
    · rw [if_neg e1] at h
      have hlen : 1 ≤ l.length := by cases l with | nil => exact absurd rfl e1 | cons => simp
      by_cases e2 : (l.getD 0 0).toNat = 34
      · rw [if_pos e2] at h; cases h
        exact ⟨by simp, by simp only; omega, [], by simp, rfl⟩
      · rw [if_neg e2] at h
        by_cases e3 : (l.getD 0 0).toNat < 32
        · rw [if_pos e3] at h; cases h; simp at he
        · rw [if_neg e3] at h
          by_cases e4 : (oneL l).2.2 = 0
          · rw [if_pos e4] at h
            obtain ⟨q, hq, hr⟩ := Option.map_eq_some_iff.1 h
            obtain ⟨b1, b2, _⟩ := one_bd l e4
            by_cases e5 : q.2.2 = 0
            · rw [if_pos e5] at hr
              obtain ⟨c1, c2, xs, c3, c4⟩ := readL_good n _ q hq e5
              obtain ⟨x, d1, d2⟩ := one_enc l e4
              rw [List.length_drop] at c2
              subst hr
              refine ⟨by simp only; omega, by simp only; omega, x :: xs, ?_, ?_⟩
              · intro y hy
                rcases List.mem_cons.1 hy with rfl | hy
                · exact d1
                · exact c3 y hy
              · simp only
                rw [d2, c4, encs]
            · rw [if_neg e5] at hr
              subst hr
              exact absurd he e5
          · rw [if_neg e4] at h
            cases h
            exact absurd he e4
theorem readL_len : ∀ (n : Nat) (l : List UInt8) (r : List UInt8 × Int × Int), readL n l = some r → r.1.length ≤ 4 * n
  | 0, l, r, h => by simp [readL] at h
  | n + 1, l, r, h => by
    rw [readL] at h
    by_cases e1 : l = []
    · rw [if_pos e1] at h; cases h; simp
    · rw [if_neg e1] at h
      by_cases e2 : (l.getD 0 0).toNat = 34
      · rw [if_pos e2] at h; cases h; simp
      · rw [if_neg e2] at h
        by_cases e3 : (l.getD 0 0).toNat < 32
        · rw [if_pos e3] at h; cases h; simp
        · rw [if_neg e3] at h
          by_cases e4 : (oneL l).2.2 = 0
          · rw [if_pos e4] at h
            obtain ⟨q, hq, hr⟩ := Option.map_eq_some_iff.1 h
            obtain ⟨_, _, b3⟩ := one_bd l e4
            have := readL_len n _ q hq
            subst hr
            split
            · simp only [List.length_append]; omega
            · simp
          · rw [if_neg e4] at h
            cases h; simp
theorem QuoteReads : cracknellaw07_QuoteReads.Pure := by
  intro s hs
  refine ⟨5000, ?_⟩
  unfold cracknellaw07_QuoteReads.f
  by_cases hl : s.size > 1000
  · rw [if_pos (by omega), alive07 5000 (by decide)]; rfl
  · rw [if_neg (by omega)]
    have hsz : s.data.toList.length = s.size := data_length s
    obtain ⟨r, hr⟩ : ∃ r, readS 1100 s = some r := by
      unfold readS
      split
      · exact ⟨_, rfl⟩
      · split
        · obtain ⟨q, hq⟩ := readL_some 1100 (s.data.toList.drop 1) (by rw [List.length_drop]; omega)
          rw [hq]; exact ⟨_, rfl⟩
        · exact ⟨_, rfl⟩
    rw [read_S 1100 5000 s r hr (by omega) (by omega) (by omega), refRead_S 1100 5000 s r hr (by omega) (by omega) (by omega), Option.bind_some, Option.bind_some, alive07 5000 (by decide), Option.bind_some, if_pos rfl, if_pos rfl, if_pos rfl, if_pos rfl]
    by_cases he : r.2.2 = 0
    · rw [if_pos he]
      unfold readS at hr
      by_cases e1 : s.size = 0
      · rw [if_pos e1] at hr; cases hr; simp at he
      · rw [if_neg e1] at hr
        by_cases e2 : (s.data.toList.getD 0 0).toNat = 34
        · rw [if_pos e2] at hr
          obtain ⟨q, hq, hr⟩ := Option.map_eq_some_iff.1 hr
          unfold endR at hr
          by_cases e3 : q.2.2 = 0
          · rw [if_pos e3] at hr
            obtain ⟨c1, c2, xs, c3, c4⟩ := readL_good _ _ q hq e3
            have c5 : q.1.length ≤ 4400 := readL_len 1100 _ q hq
            rw [List.length_drop] at c2
            subst hr
            simp only
            rw [if_pos (by omega), refValid 5000 _ (by rw [ByteArray.size_append]; show 0 + q.1.toArray.size + 12 < 5000; rw [List.size_toArray]; omega) (by rw [ByteArray.size_append]; show 0 + q.1.toArray.size ≤ _; rw [List.size_toArray]; omega), Option.bind_some, valid_lets _ _ (Nat.le_refl _)]
            have e : ((⟨#[]⟩ : ByteArray) ++ ⟨q.1.toArray⟩).data.toList = encs xs := by
              rw [ByteArray.data_append, Array.toList_append, ← c4]; simp
            have := lets_encs [] xs c3
            rw [List.append_nil, lets_nil] at this
            rw [e, this]; rfl
          · rw [if_neg e3] at hr
            subst hr
            exact absurd he e3
        · rw [if_neg e2] at hr; cases hr; simp at he
    · rw [if_neg he]

set_option maxRecDepth 100000 in
theorem hv_hexN : ∀ a : Nat, a < 16 → hv (hexN a).toNat = a := by decide +kernel
theorem one_plain (n : Nat) (h : letterB (n : Int) = true) (h92 : ((enc (n : Int)).getD 0 0).toNat ≠ 92) (x : List UInt8) : oneL (enc (n : Int) ++ x) = (enc (n : Int), ((enc (n : Int)).length : Int), 0) := by
  unfold oneL
  have hg : (enc (n : Int) ++ x).getD 0 0 = (enc (n : Int)).getD 0 0 := getD_app _ _ 0 (enc_len_pos _)
  rw [hg, if_neg h92]
  unfold plainL
  rw [tk_enc n h x]
  simp
theorem one_ascii (c : Nat) (hc : c < 128) (x : List UInt8) : oneL (pieceN c ++ x) = ([c.toUInt8], ((pieceN c).length : Int), 0) := by
  have he := enc_ascii c hc
  have short : ∀ (a : UInt8) (b : UInt8), meanB a.toNat = b → b ≠ 0 → oneL ([92, a] ++ x) = ([b], 2, 0) := by
    intro a b h1 h2
    unfold oneL escL
    rw [if_pos (by rfl), if_neg (by simp)]
    simp only [List.cons_append, List.nil_append, List.getD_cons_succ, List.getD_cons_zero]
    rw [h1, if_pos h2]
  unfold pieceN
  by_cases c8 : c = 8
  · subst c8; exact short 98 8 (by decide) (by decide)
  · rw [if_neg c8]
    by_cases c9 : c = 9
    · subst c9; exact short 116 9 (by decide) (by decide)
    · rw [if_neg c9]
      by_cases c10 : c = 10
      · subst c10; exact short 110 10 (by decide) (by decide)
      · rw [if_neg c10]
        by_cases c12 : c = 12
        · subst c12; exact short 102 12 (by decide) (by decide)
        · rw [if_neg c12]
          by_cases c13 : c = 13
          · subst c13; exact short 114 13 (by decide) (by decide)
          · rw [if_neg c13]
            by_cases cq : c = 34 ∨ c = 92
            · rw [if_pos cq]
              unfold oneL escL
              rw [if_pos (by rfl), if_neg (by simp)]
              simp only [List.cons_append, List.nil_append, List.getD_cons_succ, List.getD_cons_zero]
              rw [u8 c (by omega)]
              rcases cq with rfl | rfl
              · rw [if_neg (by decide), if_pos (by decide)]; rfl
              · rw [if_neg (by decide), if_pos (by decide)]; rfl
            · rw [if_neg cq]
              by_cases c32 : c < 32
              · rw [if_pos c32]
                unfold oneL escL
                rw [if_pos (by rfl), if_neg (by simp)]
                simp only [List.cons_append, List.nil_append, List.getD_cons_succ, List.getD_cons_zero]
                rw [if_neg (by decide), if_neg (by decide), if_pos (by decide)]
                have hd : digN (48 :: 48 :: hexN (c / 16) :: hexN (c % 16) :: x) = (c : Int) := by
                  unfold digN
                  rw [if_neg (by simp)]
                  simp only [List.getD_cons_succ, List.getD_cons_zero]
                  rw [hv_hexN _ (by omega), hv_hexN _ (by omega), show hv (48 : UInt8).toNat = 0 by decide, if_neg (by omega)]
                  omega
                have hn : numL (48 :: 48 :: hexN (c / 16) :: hexN (c % 16) :: x) = ((c : Int), 4) := by
                  unfold numL
                  rw [hd, if_pos (by omega)]
                simp only [List.drop_succ_cons, List.drop_zero]
                rw [hn]
                simp only
                rw [if_pos he.2, he.1]
                rfl
              · rw [if_neg c32]
                have := one_plain c he.2 (by rw [he.1]; simp only [List.getD_cons_zero]; rw [u8 c (by omega)]; omega) x
                rw [he.1] at this
                exact this
theorem encN_high (n : Nat) (h : 128 ≤ n) : ∀ x ∈ encN n, 128 ≤ x := by
  unfold encN
  rw [if_neg (by omega)]
  split
  · intro x hx; simp at hx; omega
  · split
    · intro x hx; simp at hx; omega
    · intro x hx; simp at hx; omega
theorem enc_high (n : Nat) (h : letterB (n : Int) = true) (h8 : 128 ≤ n) : ∀ x ∈ enc (n : Int), 128 ≤ x.toNat := by
  obtain ⟨e, hb⟩ := enc_N n h
  intro x hx
  rw [e] at hx
  obtain ⟨y, hy, rfl⟩ := List.mem_map.1 hx
  rw [u8 y (hb y hy)]
  exact encN_high n h8 y hy
theorem pieceN_high (c : UInt8) (h : 128 ≤ c.toNat) : pieceN c.toNat = [c] := by
  unfold pieceN
  rw [if_neg (by omega), if_neg (by omega), if_neg (by omega), if_neg (by omega), if_neg (by omega), if_neg (by omega), if_neg (by omega)]
  congr 1
  exact UInt8.toNat_inj.1 (u8 _ (UInt8.toNat_lt _))
theorem inner_high : ∀ l : List UInt8, (∀ x ∈ l, 128 ≤ x.toNat) → inner l = l
  | [], _ => rfl
  | c :: l, h => by rw [inner, pieceN_high c (h c (List.mem_cons_self ..)), inner_high l (fun x hx => h x (List.mem_cons_of_mem _ hx))]; rfl
set_option maxRecDepth 100000 in
theorem pieceN_first : ∀ c : Nat, c < 256 → ((pieceN c).getD 0 0).toNat ≠ 34 ∧ 32 ≤ ((pieceN c).getD 0 0).toNat ∧ 1 ≤ (pieceN c).length := by decide +kernel
/-- a letter as it stands in quotes is read as it -/
theorem one_letter (n : Nat) (h : letterB (n : Int) = true) (x : List UInt8) : oneL (inner (enc (n : Int)) ++ x) = (enc (n : Int), ((inner (enc (n : Int))).length : Int), 0)
    ∧ ((inner (enc (n : Int)) ++ x).getD 0 0).toNat ≠ 34 ∧ 32 ≤ ((inner (enc (n : Int)) ++ x).getD 0 0).toNat ∧ 1 ≤ (inner (enc (n : Int))).length := by
  by_cases c : n < 128
  · have he := (enc_ascii n c).1
    have hi : inner (enc (n : Int)) = pieceN n := by rw [he, inner, inner, List.append_nil, u8 n (by omega)]
    obtain ⟨f1, f2, f3⟩ := pieceN_first n (by omega)
    rw [hi, getD_app _ _ 0 f3]
    refine ⟨?_, f1, f2, f3⟩
    rw [one_ascii n c x, he]
  · have hh := enc_high n h (by omega)
    have hi := inner_high _ hh
    have hp := enc_len_pos (n : Int)
    have hm : (enc (n : Int)).getD 0 0 ∈ enc (n : Int) := by
      rw [List.getD_eq_getElem?_getD, List.getElem?_eq_getElem hp]
      exact List.getElem_mem hp
    have := hh _ hm
    rw [hi, getD_app _ _ 0 hp]
    exact ⟨one_plain n h (by omega) x, by omega, by omega, hp⟩
theorem inner_encs (r : Int) (xs : List Int) (x : List UInt8) : inner (encs (r :: xs)) ++ x = inner (enc r) ++ (inner (encs xs) ++ x) := by
  rw [encs, inner_app, List.append_assoc]
/-- what stands in quotes is read as it was, whatever is behind it -/
theorem readL_inner (x : List UInt8) : ∀ (xs : List Int) (n : Nat), (∀ y ∈ xs, letterB y = true) → xs.length < n → readL n (inner (encs xs) ++ 34 :: x) = some (encs xs, ((inner (encs xs)).length : Int) + 1, 0)
  | [], n, h, hn => by
    obtain ⟨n, rfl⟩ : ∃ m, n = m + 1 := ⟨n - 1, by omega⟩
    rw [readL]
    rfl
  | r :: xs, n, h, hn => by
    rw [List.length_cons] at hn
    obtain ⟨n, rfl⟩ : ∃ m, n = m + 1 := ⟨n - 1, by omega⟩
    have hr := h r (List.mem_cons_self ..)
    obtain ⟨h0, _, _⟩ := (letter_iff r).1 hr
    obtain ⟨c, rfl⟩ : ∃ m : Nat, r = m := ⟨r.toNat, by omega⟩
    obtain ⟨f0, f1, f2, f3⟩ := one_letter c hr (inner (encs xs) ++ 34 :: x)
    have ih := readL_inner x xs n (fun y hy => h y (List.mem_cons_of_mem _ hy)) (by omega)
    rw [inner_encs, readL, if_neg (fun e => by have := congrArg List.length e; rw [List.length_append, List.length_nil] at this; omega), if_neg f1, if_neg (by omega), f0]
    simp only
    rw [if_pos trivial, Int.toNat_natCast, List.drop_left, ih, Option.map_some]
    simp only
    rw [if_pos trivial, encs, inner_app, List.length_append]
    congr 3

theorem numL_pos (l : List UInt8) (h : letterB (numL l).1 = true) : 4 ≤ (numL l).2 := by
  obtain ⟨h0, _, _⟩ := (letter_iff _).1 h
  unfold numL at h0 ⊢
  split
  · simp
  · rename_i c
    rw [if_neg c] at h0
    split
    · rename_i d; rw [if_pos d] at h0; simp at h0
    · rename_i d
      rw [if_neg d] at h0
      split
      · rename_i e; rw [if_pos e] at h0; simp at h0
      · simp
/-- a piece read well is no longer than what was read of it -/
theorem one_le (l : List UInt8) (h : (oneL l).2.2 = 0) : ((oneL l).1.length : Int) ≤ (oneL l).2.1 := by
  unfold oneL at h ⊢
  split
  · rename_i c
    rw [if_pos c] at h
    unfold escL at h ⊢
    by_cases a : l.length < 2
    · rw [if_pos a] at h; simp at h
    · rw [if_neg a] at h ⊢
      by_cases b : meanB (l.getD 1 0).toNat ≠ 0
      · rw [if_pos b]; simp
      · rw [if_neg b] at h ⊢
        by_cases d : (l.getD 1 0).toNat = 34 ∨ (l.getD 1 0).toNat = 92 ∨ (l.getD 1 0).toNat = 47
        · rw [if_pos d]; simp
        · rw [if_neg d] at h ⊢
          by_cases e : (l.getD 1 0).toNat = 117
          · rw [if_pos e] at h ⊢
            by_cases f : letterB (numL (l.drop 2)).1 = true
            · rw [if_pos f]
              have h4 := enc_len4 (numL (l.drop 2)).1
              have h5 := numL_pos _ f
              simp only; omega
            · rw [if_neg f] at h; simp at h
          · rw [if_neg e] at h; simp at h
  · rename_i c
    rw [if_neg c] at h
    unfold plainL at h ⊢
    cases ht : tk l with
    | none => rw [ht] at h; simp at h
    | some d =>
      obtain ⟨r, n⟩ := d
      simp only
      rw [List.length_take]
      omega
/-- read_l0 where what is left bounds what is read -/
theorem read_l0s (s : ByteArray) : ∀ (n k : Nat) (o : ByteArray) (p : Nat) (r : List UInt8 × Int × Int), readL n (s.data.toList.drop p) = some r → p ≤ s.size → n + 10 < k → o.size + (s.size - p) ≤ 140737488355328 →
    quote_Read.l0 k s o p = some (endR o p r)
  | 0, k, o, p, r, h, hp, hk, ho => by simp [readL] at h
  | n + 1, k, o, p, r, h, hp, hk, ho => by
    obtain ⟨k, rfl⟩ : ∃ m, k = m + 1 := ⟨k - 1, by omega⟩
    have hl : (s.data.toList.drop p).length = s.size - p := by rw [List.length_drop, data_length]
    rw [readL] at h
    rw [quote_Read.l0]
    by_cases e1 : p = s.size
    · have e : s.data.toList.drop p = [] := List.eq_nil_of_length_eq_zero (by omega)
      rw [if_pos e] at h
      rw [if_pos e1]
      cases h; rfl
    · have e : s.data.toList.drop p ≠ [] := fun e => by rw [e] at hl; simp at hl; omega
      rw [if_neg e] at h
      rw [if_neg e1, if_neg (by omega), byte_bt]
      rw [getD_drop] at h
      by_cases e2 : (s.data.toList.getD p 0).toNat = 34
      · rw [if_pos e2] at h
        rw [if_pos (by omega)]
        cases h
        unfold endR
        rw [if_pos rfl]
        congr 2
        apply ofList_eq
        rw [ByteArray.data_append, Array.toList_append]; simp
      · rw [if_neg e2] at h
        rw [if_neg (by omega)]
        by_cases e3 : (s.data.toList.getD p 0).toNat < 32
        · rw [if_pos e3] at h
          rw [if_pos (by omega)]
          cases h; rfl
        · rw [if_neg e3] at h
          rw [if_neg (by omega), read_one k s p (by omega), Option.bind_some]
          by_cases e4 : (oneL (s.data.toList.drop p)).2.2 = 0
          · rw [if_pos e4] at h
            obtain ⟨q, hq, hr⟩ := Option.map_eq_some_iff.1 h
            obtain ⟨b1, b2, b3⟩ := one_bd _ e4
            have b4 := one_le _ e4
            unfold packR
            simp only
            have hsz : (⟨(oneL (s.data.toList.drop p)).1.toArray⟩ : ByteArray).size = (oneL (s.data.toList.drop p)).1.length := by
              show ((oneL (s.data.toList.drop p)).1.toArray).size = _
              rw [List.size_toArray]
            rw [if_pos e4, if_pos (by omega), if_pos (by omega), if_pos (by omega)]
            rw [List.drop_drop] at hq
            rw [read_l0s s n k _ _ q hq (by omega) (by omega) (by rw [ByteArray.size_append]; omega)]
            congr 1
            subst hr
            unfold endR
            by_cases e5 : q.2.2 = 0
            · rw [if_pos e5, if_pos e5, if_pos rfl]
              simp only [Prod.mk.injEq, and_true]
              refine ⟨?_, by omega⟩
              apply ofList_eq
              simp [ByteArray.data_append, Array.toList_append]
            · rw [if_neg e5, if_neg e5, if_neg e5]
          · rw [if_neg e4] at h
            unfold packR
            simp only
            rw [if_neg e4]
            cases h
            unfold endR
            rw [if_neg e4]
/-- any text is read in so many rounds as it has bytes -/
theorem read_any (k : Nat) (s : ByteArray) (hk : s.size + 20 < k) (hs : s.size ≤ 140737488355328) : ∃ r, readS (s.size + 1) s = some r ∧ quote_Read.f k s = some r := by
  unfold readS quote_Read.f
  rw [if_pos (show s.size ≤ 4611686018427387904 by omega)]
  by_cases e1 : s.size = 0
  · rw [if_pos e1]; exact ⟨_, rfl, if_pos e1⟩
  · rw [if_neg e1]
    have hb : bt s 0 = (((s.data.toList.getD 0 0).toNat : Nat) : Int) := byte_bt s 0
    rw [hb]
    by_cases e2 : (s.data.toList.getD 0 0).toNat = 34
    · obtain ⟨q, hq⟩ := readL_some (s.size + 1) (s.data.toList.drop 1) (by rw [List.length_drop, data_length]; omega)
      rw [if_pos e2, if_pos (show (((s.data.toList.getD 0 0).toNat : Nat) : Int) = 34 by omega), hq, read_l0s s (s.size + 1) k ⟨#[]⟩ 1 q hq (by omega) (by omega) (by show 0 + _ ≤ _; omega)]
      exact ⟨_, rfl, if_neg e1⟩
    · rw [if_neg e2, if_neg (show ¬ (((s.data.toList.getD 0 0).toNat : Nat) : Int) = 34 by omega)]
      exact ⟨_, rfl, if_neg e1⟩
theorem encs_ge : ∀ xs : List Int, xs.length ≤ (encs xs).length
  | [] => Nat.le_refl _
  | r :: xs => by
    have := encs_ge xs
    have := enc_len_pos r
    rw [encs, List.length_append, List.length_cons]; omega
theorem valid_xs (s : ByteArray) (h : Lib.validD s.data.toList = true) : ∃ xs : List Int, (∀ y ∈ xs, letterB y = true) ∧ encs xs = s.data.toList ∧ xs.length ≤ s.size := by
  rw [valid_lets _ _ (Nat.le_refl _)] at h
  obtain ⟨xs, hx⟩ := Option.isSome_iff_exists.1 h
  obtain ⟨a, b⟩ := of_lets _ _ xs (Nat.le_refl _) hx
  refine ⟨xs, a, b, ?_⟩
  have := encs_ge xs
  rw [b, data_length] at this
  exact this
theorem quoted_len (l : List UInt8) : (quoted l).length = (inner l).length + 2 := by
  unfold quoted; simp
theorem quoted_list (l : List UInt8) : (⟨(quoted l).toArray⟩ : ByteArray).data.toList = quoted l := rfl
theorem quoted_size (l : List UInt8) : (⟨(quoted l).toArray⟩ : ByteArray).size = (inner l).length + 2 := by
  show (quoted l).toArray.size = _
  rw [List.size_toArray, quoted_len]
/-- a text in quotes, and something behind it -/
theorem readS_quoted (s b : ByteArray) (h : Lib.validD s.data.toList = true) (n : Nat) (hn : s.size < n) : readS n (⟨(quoted s.data.toList).toArray⟩ ++ b) = some (s, ((quoted s.data.toList).length : Int), 0) := by
  obtain ⟨xs, h1, h2, h3⟩ := valid_xs s h
  have hd : ((⟨(quoted s.data.toList).toArray⟩ : ByteArray) ++ b).data.toList = 34 :: (inner (encs xs) ++ 34 :: b.data.toList) := by
    rw [ByteArray.data_append, Array.toList_append, quoted_list, h2]
    unfold quoted
    simp
  unfold readS
  rw [if_neg (by rw [ByteArray.size_append, quoted_size]; omega), hd, if_pos (by rfl), List.drop_succ_cons, List.drop_zero, readL_inner _ xs n h1 (by omega), Option.map_some]
  unfold endR
  rw [if_pos rfl, quoted_len, h2]
  congr 2
  simp only; congr 1; omega
theorem writeS_yes (s : ByteArray) (h : Lib.validD s.data.toList = true) : writeS s = (⟨(quoted s.data.toList).toArray⟩, true) := by unfold writeS; rw [if_pos h]
theorem writeS_no (s : ByteArray) (h : ¬ Lib.validD s.data.toList = true) : writeS s = (⟨#[]⟩, false) := by unfold writeS; rw [if_neg h]
theorem inner_size (s : ByteArray) : (inner s.data.toList).length ≤ 6 * s.size := by
  have := inner_len s.data.toList
  rw [data_length] at this; exact this
theorem writeS_size (s : ByteArray) : (writeS s).1.size ≤ 6 * s.size + 2 := by
  unfold writeS; split
  · simp only; rw [quoted_size]; have := inner_size s; omega
  · exact Nat.zero_le _
theorem write_f (s : ByteArray) (h : 6 * s.size + 2 ≤ 140737488355328) : quote_Write.f s = some (writeS s) := by unfold quote_Write.f; rw [if_pos h]

theorem tk_more {l : List UInt8} {r n : Nat} (x : List UInt8) (h : tk l = some (r, n)) : tk (l ++ x) = some (r, n) := by
  obtain ⟨hl, he, h1, h2⟩ := tk_some h
  have e : l ++ x = enc (r : Int) ++ (l.drop n ++ x) := by rw [he, ← List.append_assoc, List.take_append_drop]
  rw [e, tk_enc r hl, he, List.length_take, Nat.min_eq_left h1]
theorem digN_more (l x : List UInt8) (h : 4 ≤ l.length) : digN (l ++ x) = digN l := by
  unfold digN
  rw [if_neg (show ¬ (l ++ x).length < 4 by rw [List.length_append]; omega), if_neg (show ¬ l.length < 4 by omega), getD_app l x 0 (by omega), getD_app l x 1 (by omega), getD_app l x 2 (by omega), getD_app l x 3 (by omega)]
theorem numL_more (l x : List UInt8) (h : letterB (numL l).1 = true) : numL (l ++ x) = numL l := by
  obtain ⟨h0, h1, h2⟩ := (letter_iff _).1 h
  have h4 : 4 ≤ l.length := by
    by_cases c : 0 ≤ digN l
    · exact digN_len l c
    · exfalso
      unfold numL at h0
      rw [if_pos (by omega)] at h0
      exact c h0
  unfold numL at h0 ⊢
  rw [digN_more l x h4]
  by_cases a : digN l < 55296 ∨ 57344 ≤ digN l
  · rw [if_pos a, if_pos a]
  · rw [if_neg a] at h0 ⊢
    rw [if_neg a]
    by_cases b : 56320 ≤ digN l ∨ l.length < 6 ∨ (l.getD 4 0).toNat ≠ 92 ∨ (l.getD 5 0).toNat ≠ 117
    · rw [if_pos b] at h0; simp at h0
    · rw [if_neg b] at h0 ⊢
      rw [getD_app l x 4 (by omega), getD_app l x 5 (by omega), List.length_append, if_neg (show ¬ (56320 ≤ digN l ∨ l.length + x.length < 6 ∨ (l.getD 4 0).toNat ≠ 92 ∨ (l.getD 5 0).toNat ≠ 117) by omega)]
      by_cases c : digN (l.drop 6) < 56320 ∨ 57344 ≤ digN (l.drop 6)
      · rw [if_pos c] at h0; simp at h0
      · have h10 := digN_len (l.drop 6) (by omega)
        have hd : (l ++ x).drop 6 = l.drop 6 ++ x := List.drop_append_of_le_length (by omega)
        rw [hd, digN_more _ x h10]
theorem escL_more (l x : List UInt8) (h : (escL l).2.2 = 0) : escL (l ++ x) = escL l := by
  unfold escL at h ⊢
  by_cases a : l.length < 2
  · rw [if_pos a] at h; simp at h
  · rw [if_neg a] at h ⊢
    have hd : (l ++ x).drop 2 = l.drop 2 ++ x := List.drop_append_of_le_length (by omega)
    rw [if_neg (show ¬ (l ++ x).length < 2 by rw [List.length_append]; omega), getD_app l x 1 (by omega), hd]
    by_cases b : meanB (l.getD 1 0).toNat ≠ 0
    · rw [if_pos b, if_pos b]
    · rw [if_neg b] at h ⊢
      rw [if_neg b]
      by_cases c : (l.getD 1 0).toNat = 34 ∨ (l.getD 1 0).toNat = 92 ∨ (l.getD 1 0).toNat = 47
      · rw [if_pos c, if_pos c]
      · rw [if_neg c] at h ⊢
        rw [if_neg c]
        by_cases d : (l.getD 1 0).toNat = 117
        · rw [if_pos d] at h ⊢
          rw [if_pos d]
          by_cases e : letterB (numL (l.drop 2)).1 = true
          · rw [numL_more _ x e]
          · rw [if_neg e] at h; simp at h
        · rw [if_neg d] at h; simp at h
theorem one_more (l x : List UInt8) (hl : l ≠ []) (h : (oneL l).2.2 = 0) : oneL (l ++ x) = oneL l := by
  have hp : 0 < l.length := List.length_pos_iff.2 hl
  unfold oneL at h ⊢
  rw [getD_app l x 0 hp]
  by_cases c : (l.getD 0 0).toNat = 92
  · rw [if_pos c] at h ⊢
    rw [if_pos c, escL_more l x h]
  · rw [if_neg c] at h ⊢
    rw [if_neg c]
    unfold plainL at h ⊢
    cases ht : tk l with
    | none => rw [ht] at h; simp at h
    | some d =>
      obtain ⟨r, n⟩ := d
      obtain ⟨_, _, h1, _⟩ := tk_some ht
      rw [tk_more x ht]
      simp only
      rw [List.take_append_of_le_length h1]
theorem readL_more (x : List UInt8) : ∀ (n : Nat) (l : List UInt8) (r : List UInt8 × Int × Int), readL n l = some r → r.2.2 = 0 → readL n (l ++ x) = some r
  | 0, l, r, h, he => by simp [readL] at h
  | n + 1, l, r, h, he => by
    rw [readL] at h
    by_cases e1 : l = []
    · rw [if_pos e1] at h; cases h; simp at he
    · have hp : 0 < l.length := List.length_pos_iff.2 e1
      rw [if_neg e1] at h
      rw [readL, if_neg (fun e => e1 (List.append_eq_nil_iff.1 e).1), getD_app l x 0 hp]
      by_cases e2 : (l.getD 0 0).toNat = 34
      · rw [if_pos e2] at h ⊢; exact h
      · rw [if_neg e2] at h ⊢
        by_cases e3 : (l.getD 0 0).toNat < 32
        · rw [if_pos e3] at h; cases h; simp at he
        · rw [if_neg e3] at h ⊢
          by_cases e4 : (oneL l).2.2 = 0
          · rw [if_pos e4] at h
            obtain ⟨q, hq, hr⟩ := Option.map_eq_some_iff.1 h
            obtain ⟨b1, b2, _⟩ := one_bd l e4
            rw [one_more l x e1 e4, if_pos e4, List.drop_append_of_le_length (by omega)]
            by_cases e5 : q.2.2 = 0
            · rw [readL_more x n _ q hq e5, Option.map_some, hr]
            · rw [if_neg e5] at hr
              subst hr
              exact absurd he e5
          · rw [if_neg e4] at h
            cases h
            exact absurd he e4
/-- of a beginning of what stands in quotes nothing is read -/
theorem readL_cut (xs : List Int) (h : ∀ y ∈ xs, letterB y = true) (n m : Nat) (hn : xs.length < n) (hm : m ≤ (inner (encs xs)).length) (r : List UInt8 × Int × Int) (hr : readL n ((inner (encs xs) ++ [34]).take m) = some r) : r.2.2 ≠ 0 := by
  intro he
  have h1 := readL_more ((inner (encs xs) ++ [34]).drop m) n _ r hr he
  rw [List.take_append_drop, readL_inner [] xs n h hn] at h1
  obtain ⟨_, c2, _⟩ := readL_good n _ r hr he
  cases h1
  rw [List.length_take] at c2
  simp only at c2
  omega

set_option maxRecDepth 100000 in
theorem pieceN_low : ∀ c : Nat, c < 256 → ∀ x ∈ pieceN c, 32 ≤ x.toNat := by decide +kernel
theorem inner_low : ∀ l : List UInt8, ∀ x ∈ inner l, 32 ≤ x.toNat
  | [], x, h => by simp [inner] at h
  | c :: l, x, h => by
    rw [inner] at h
    rcases List.mem_append.1 h with h | h
    · exact pieceN_low _ (UInt8.toNat_lt c) x h
    · exact inner_low l x h
theorem quoted_low (l : List UInt8) : ∀ x ∈ quoted l, 32 ≤ x.toNat := by
  intro x h
  unfold quoted at h
  rcases List.mem_cons.1 h with rfl | h
  · decide
  · rcases List.mem_append.1 h with h | h
    · exact inner_low l x h
    · simp at h; subst h; decide
theorem writeS_low (s : ByteArray) (i : Nat) (h : i < (writeS s).1.size) : 32 ≤ bt (writeS s).1 (i : Int) := by
  rw [byte_bt]
  have hl : i < (writeS s).1.data.toList.length := by rw [data_length]; exact h
  have hm : (writeS s).1.data.toList.getD i 0 ∈ (writeS s).1.data.toList := by
    rw [List.getD_eq_getElem?_getD, List.getElem?_eq_getElem hl]
    exact List.getElem_mem hl
  have : ∀ x ∈ (writeS s).1.data.toList, 32 ≤ x.toNat := by
    unfold writeS
    split
    · exact quoted_low _
    · intro x hx; simp at hx
  have := this _ hm
  omega
theorem quoted_eq (a b : ByteArray) (ha : Lib.validD a.data.toList = true) (hb : Lib.validD b.data.toList = true) (e : quoted a.data.toList = quoted b.data.toList) : a = b := by
  have h1 := readS_quoted a ⟨#[]⟩ ha (a.size + b.size + 1) (by omega)
  have h2 := readS_quoted b ⟨#[]⟩ hb (a.size + b.size + 1) (by omega)
  rw [e, h2] at h1
  exact ((Prod.mk.inj (Option.some.inj h1)).1).symm
theorem valid_join (a b : ByteArray) (ha : Lib.validD a.data.toList = true) (hb : Lib.validD b.data.toList = true) : Lib.validD (a ++ b).data.toList = true := by
  obtain ⟨xs, h1, h2, _⟩ := valid_xs a ha
  obtain ⟨ys, g1, g2, _⟩ := valid_xs b hb
  have e : (a ++ b).data.toList = encs (xs ++ ys) := by rw [ByteArray.data_append, Array.toList_append, ← h2, ← g2, encs_app]
  have := lets_encs [] (xs ++ ys) (by
    intro y hy
    rcases List.mem_append.1 hy with hy | hy
    · exact h1 y hy
    · exact g1 y hy)
  rw [List.append_nil] at this
  rw [e, valid_lets _ _ (Nat.le_refl _), this]
  rfl

def signN (g : Bool) (n : Nat) : UInt8 := if n < 10 then (48 + n).toUInt8 else if g = true then (55 + n).toUInt8 else (87 + n).toUInt8
theorem hv_sign : ∀ g : Bool, ∀ n : Nat, n < 16 → hv (signN g n).toNat = n := by decide +kernel
/-- a number's four digits, as an escape -/
def digs (g : Bool) (n : Nat) : List UInt8 := [92, 117, signN g (n / 4096 % 16), signN g (n / 256 % 16), signN g (n / 16 % 16), signN g (n % 16)]
def fourD (g : Bool) (n : Nat) : List UInt8 := [signN g (n / 4096 % 16), signN g (n / 256 % 16), signN g (n / 16 % 16), signN g (n % 16)]
theorem digN_four (g : Bool) (n : Nat) (h : n < 65536) (x : List UInt8) : digN (fourD g n ++ x) = (n : Int) := by
  unfold digN fourD
  rw [if_neg (by simp)]
  simp only [List.cons_append, List.getD_cons_succ, List.getD_cons_zero]
  rw [hv_sign g _ (by omega), hv_sign g _ (by omega), hv_sign g _ (by omega), hv_sign g _ (by omega), if_neg (by omega)]
  omega
theorem escL_u (l : List UInt8) : escL (92 :: 117 :: l) = if letterB (numL l).1 = true then (enc (numL l).1, 2 + (numL l).2, 0) else ([], 0, 73) := by
  unfold escL
  rw [if_neg (by simp)]
  simp only [List.getD_cons_succ, List.getD_cons_zero]
  rw [if_neg (by decide), if_neg (by decide), if_pos (by decide)]
  rfl
theorem one_digs (g : Bool) (n : Nat) (h : letterB (n : Int) = true) (h6 : n < 65536) (x : List UInt8) : oneL (digs g n ++ x) = (enc (n : Int), 6, 0) := by
  obtain ⟨h0, h1, h2⟩ := (letter_iff _).1 h
  have e : digs g n ++ x = 92 :: 117 :: (fourD g n ++ x) := rfl
  unfold oneL
  rw [e, if_pos (by rfl), escL_u]
  have hn : numL (fourD g n ++ x) = ((n : Int), 4) := by
    unfold numL
    rw [digN_four g n h6 x, if_pos (by omega)]
  rw [hn, if_pos h]
  rfl
theorem one_digs2 (g : Bool) (n : Nat) (h6 : 65536 ≤ n) (h1 : n ≤ 1114111) (x : List UInt8) : oneL (digs g (55296 + (n - 65536) / 1024) ++ (digs g (56320 + (n - 65536) % 1024) ++ x)) = (enc (n : Int), 12, 0) := by
  have hl : letterB (n : Int) = true := (letter_iff _).2 (by omega)
  have e : digs g (55296 + (n - 65536) / 1024) ++ (digs g (56320 + (n - 65536) % 1024) ++ x) = 92 :: 117 :: (fourD g (55296 + (n - 65536) / 1024) ++ (92 :: 117 :: (fourD g (56320 + (n - 65536) % 1024) ++ x))) := rfl
  unfold oneL
  rw [e, if_pos (by rfl), escL_u]
  have hn : numL (fourD g (55296 + (n - 65536) / 1024) ++ (92 :: 117 :: (fourD g (56320 + (n - 65536) % 1024) ++ x))) = ((n : Int), 10) := by
    unfold numL
    have e6 : (fourD g (55296 + (n - 65536) / 1024) ++ (92 :: 117 :: (fourD g (56320 + (n - 65536) % 1024) ++ x))).drop 6 = fourD g (56320 + (n - 65536) % 1024) ++ x := rfl
    have e4 : (fourD g (55296 + (n - 65536) / 1024) ++ (92 :: 117 :: (fourD g (56320 + (n - 65536) % 1024) ++ x))).getD 4 0 = 92 := rfl
    have e5 : (fourD g (55296 + (n - 65536) / 1024) ++ (92 :: 117 :: (fourD g (56320 + (n - 65536) % 1024) ++ x))).getD 5 0 = 117 := rfl
    have el : 6 ≤ (fourD g (55296 + (n - 65536) / 1024) ++ (92 :: 117 :: (fourD g (56320 + (n - 65536) % 1024) ++ x))).length := by simp [fourD]
    rw [e6, e4, e5, digN_four g _ (by omega), digN_four g _ (by omega), if_neg (by omega), if_neg (by
      rintro (a | a | a | a)
      · omega
      · omega
      · exact a (by decide)
      · exact a (by decide)), if_neg (by omega)]
    congr 1
    omega
  rw [hn, if_pos hl]
  rfl
/-- the letter's digits: one number, or two -/
def byDigs (g : Bool) (n : Nat) : List UInt8 := if n < 65536 then digs g n else digs g (55296 + (n - 65536) / 1024) ++ digs g (56320 + (n - 65536) % 1024)
theorem byDigs_len (g : Bool) (n : Nat) : (byDigs g n).length = 6 ∨ (byDigs g n).length = 12 := by
  unfold byDigs digs; split <;> simp
theorem readS_digs (g : Bool) (n : Nat) (h : letterB (n : Int) = true) (s : ByteArray) (hs : s.data.toList = 34 :: byDigs g n ++ [34]) : readS 3 s = some (⟨(enc (n : Int)).toArray⟩, ((byDigs g n).length : Int) + 2, 0) := by
  obtain ⟨h0, h1, h2⟩ := (letter_iff _).1 h
  have hz : s.size = (byDigs g n).length + 2 := by rw [← data_length, hs]; simp
  have ho : oneL (byDigs g n ++ [34]) = (enc (n : Int), ((byDigs g n).length : Int), 0) ∧ (byDigs g n ++ [34]).getD 0 0 = 92 := by
    unfold byDigs
    split
    · rename_i c
      exact ⟨one_digs g n h c [34], rfl⟩
    · rename_i c
      rw [List.append_assoc, one_digs2 g n (by omega) (by omega) [34]]
      exact ⟨rfl, rfl⟩
  unfold readS
  rw [if_neg (by omega), hs, if_pos (by rfl)]
  show (readL 3 (byDigs g n ++ [34])).map (endR ⟨#[]⟩ 1) = _
  rw [readL, if_neg (by simp), ho.2, if_neg (by decide), if_neg (by decide), ho.1]
  simp only
  rw [if_pos trivial, Int.toNat_natCast, List.drop_left]
  show (some (endR ⟨#[]⟩ 1 (enc (n : Int) ++ [], ((byDigs g n).length : Int) + 1, 0))) = _
  unfold endR
  rw [if_pos rfl]
  congr 2
  · apply ofList_eq; rw [ByteArray.data_append, Array.toList_append]; simp
  · simp only; congr 1; omega
end Go.Proofs.YthhmmaihbjhhgaaDoor.Giv
