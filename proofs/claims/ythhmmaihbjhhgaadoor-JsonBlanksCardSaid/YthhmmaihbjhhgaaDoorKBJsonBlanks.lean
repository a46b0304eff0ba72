/- What the proof of JsonBlanks stands on: cut and merged by a program out of this session's texts. -/
import Derived.Test.YthhmmaihbjhhgaaDoorKB6
import Derived.WalkMore
import Derived.OpenShut
set_option linter.unusedVariables false
set_option linter.unusedSimpArgs false
namespace Go.Proofs.YthhmmaihbjhhgaaDoor.Giv
open Go.RowKit Go.Proofs.YthhmmaihbjhhgaaDoorW.PrintWords Go.Proofs.YthhmmaihbjhhgaaDoorW.PrintLast Go.Proofs.YthhmmaihbjhhgaaDoorW.PrintMore
open Go.Proofs.YthhmmaihbjhhgaaDoor.U1 Go.Proofs.YthhmmaihbjhhgaaDoor.Q1 Go.Proofs.YthhmmaihbjhhgaaDoor.J0 Go.Proofs.YthhmmaihbjhhgaaDoor.J1
set_option linter.unusedSimpArgs false
set_option linter.unusedVariables false
set_option maxHeartbeats 4000000
set_option maxRecDepth 100000
abbrev Ret (f : Nat) (args : Array Value) (w : World) : Prop := Calls Tryd.prog f args w fun e w' => e = .returned (.bool true) ∧ Below w.heap.size w w'
end Go.Proofs.YthhmmaihbjhhgaaDoor.Giv
namespace Go.Proofs.YthhmmaihbjhhgaaDoor.Giv
open Go.RowKit Go.Proofs.YthhmmaihbjhhgaaDoorW.PrintWords Go.Proofs.YthhmmaihbjhhgaaDoorW.PrintLast Go.Proofs.YthhmmaihbjhhgaaDoorW.PrintMore
open Go.Proofs.YthhmmaihbjhhgaaDoor.U1 Go.Proofs.YthhmmaihbjhhgaaDoor.Q1 Go.Proofs.YthhmmaihbjhhgaaDoor.J0 Go.Proofs.YthhmmaihbjhhgaaDoor.J1
set_option linter.unusedSimpArgs false
set_option linter.unusedVariables false
theorem getD_take (l : B) (m i : Nat) (h : i < m) : (l.take m).getD i 0 = l.getD i 0 := by
  rw [List.getD_eq_getElem?_getD, List.getD_eq_getElem?_getD, List.getElem?_take, if_pos h]
theorem digN_take (l : B) (m : Nat) (hm : 4 ≤ m) (h : 0 ≤ digN l) : digN (l.take m) = digN l := by
  have h4 := digN_len l h
  have hl : ¬ (l.take m).length < 4 := by rw [List.length_take]; omega
  unfold digN
  rw [if_neg hl, if_neg (show ¬ l.length < 4 by omega), getD_take l m 0 (by omega), getD_take l m 1 (by omega), getD_take l m 2 (by omega), getD_take l m 3 (by omega)]
theorem numL_take (l : B) (h : letterB (numL l).1 = true) : numL (l.take (numL l).2.toNat) = numL l ∧ (numL l).2.toNat ≤ l.length := by
  obtain ⟨h0, h1, h2⟩ := (letter_iff _).1 h
  unfold numL at h0 ⊢
  by_cases a : digN l < 55296 ∨ 57344 ≤ digN l
  · rw [if_pos a] at h0
    simp only [if_pos a]
    rw [digN_take l _ (by decide) h0, if_pos a]
    exact ⟨rfl, digN_len l h0⟩
  · rw [if_neg a] at h0
    simp only [if_neg a]
    by_cases b : 56320 ≤ digN l ∨ l.length < 6 ∨ (l.getD 4 0).toNat ≠ 92 ∨ (l.getD 5 0).toNat ≠ 117
    · rw [if_pos b] at h0; simp at h0
    · rw [if_neg b] at h0
      simp only [if_neg b]
      by_cases c : digN (l.drop 6) < 56320 ∨ 57344 ≤ digN (l.drop 6)
      · rw [if_pos c] at h0; simp at h0
      · simp only [if_neg c]
        have d4 : 4 ≤ (l.drop 6).length := digN_len _ (by omega)
        rw [List.length_drop] at d4
        rw [show ((10 : Int)).toNat = 10 from rfl]
        have e1 : digN (l.take 10) = digN l := digN_take l 10 (by decide) (by omega)
        have e2 : digN ((l.take 10).drop 6) = digN (l.drop 6) := by
          rw [List.drop_take]; exact digN_take _ 4 (by decide) (by omega)
        rw [e1, e2, if_neg a, getD_take l 10 4 (by decide), getD_take l 10 5 (by decide), if_neg (by
          rintro (x | x | x | x)
          · exact b (Or.inl x)
          · rw [List.length_take] at x; omega
          · exact b (Or.inr (Or.inr (Or.inl x)))
          · exact b (Or.inr (Or.inr (Or.inr x)))), if_neg c]
        exact ⟨rfl, by omega⟩
theorem esc_take (l : B) (h : (escL l).2.2 = 0) : escL (l.take (escL l).2.1.toNat) = escL l := by
  unfold escL at h ⊢
  by_cases a : l.length < 2
  · rw [if_pos a] at h; simp at h
  · rw [if_neg a] at h
    simp only [if_neg a]
    by_cases b : meanB (l.getD 1 0).toNat ≠ 0
    · simp only [if_pos b]
      rw [show ((2 : Int)).toNat = 2 from rfl, if_neg (by rw [List.length_take]; omega), getD_take l 2 1 (by decide), if_pos b]
    · rw [if_neg b] at h
      simp only [if_neg b]
      by_cases c : (l.getD 1 0).toNat = 34 ∨ (l.getD 1 0).toNat = 92 ∨ (l.getD 1 0).toNat = 47
      · simp only [if_pos c]
        rw [show ((2 : Int)).toNat = 2 from rfl, if_neg (by rw [List.length_take]; omega), getD_take l 2 1 (by decide), if_neg b, if_pos c]
      · rw [if_neg c] at h
        simp only [if_neg c]
        by_cases d : (l.getD 1 0).toNat = 117
        · rw [if_pos d] at h
          simp only [if_pos d]
          by_cases e : letterB (numL (l.drop 2)).1 = true
          · simp only [if_pos e]
            obtain ⟨e1, e2⟩ := numL_take _ e
            have e3 := numL_bd (l.drop 2)
            obtain ⟨m, hm⟩ : ∃ m : Nat, (numL (l.drop 2)).2 = m := ⟨(numL (l.drop 2)).2.toNat, by omega⟩
            rw [hm, Int.toNat_natCast] at e1
            rw [hm, show ((2 : Int) + (m : Int)).toNat = m + 2 by omega, if_neg (by rw [List.length_take]; omega), getD_take l _ 1 (by omega), if_neg b, if_neg c, if_pos d, List.drop_take, Nat.add_sub_cancel, e1, if_pos e, hm]
          · rw [if_neg e] at h; simp at h
        · rw [if_neg d] at h; simp at h
theorem one_take (l : B) (h : (oneL l).2.2 = 0) : oneL (l.take (oneL l).2.1.toNat) = oneL l := by
  obtain ⟨b1, b2, _⟩ := one_bd l h
  unfold oneL at h b1 b2 ⊢
  by_cases c : (l.getD 0 0).toNat = 92
  · rw [if_pos c] at h b1
    simp only [if_pos c]
    rw [getD_take l _ 0 (by omega), if_pos c, esc_take l h]
  · rw [if_neg c] at h b1
    simp only [if_neg c]
    rw [getD_take l _ 0 (by omega), if_neg c]
    unfold plainL at h ⊢
    cases ht : tk l with
    | none => rw [ht] at h; simp at h
    | some d =>
      obtain ⟨r, n⟩ := d
      obtain ⟨hl, he, h1, _⟩ := tk_some ht
      simp only
      rw [Int.toNat_natCast, tk_of hl (n := n) (l := l.take n) (by rw [he, List.take_take, Nat.min_self]) (by rw [List.length_take]; omega)]
      simp only
      rw [List.take_take, Nat.min_self]
theorem readL_mono : ∀ (n : Nat) (l : B) (r : B × Int × Int), readL n l = some r → readL (n + 1) l = some r
  | 0, l, r, h => by simp [readL] at h
  | n + 1, l, r, h => by
    rw [readL] at h ⊢
    split at h
    · next c => rw [if_pos c]; exact h
    · next c =>
      rw [if_neg c]
      split at h
      · next c2 => rw [if_pos c2]; exact h
      · next c2 =>
        rw [if_neg c2]
        split at h
        · next c3 => rw [if_pos c3]; exact h
        · next c3 =>
          rw [if_neg c3]
          split at h
          · next c4 =>
            rw [if_pos c4]
            obtain ⟨q, hq, hr⟩ := Option.map_eq_some_iff.1 h
            rw [readL_mono n _ q hq, Option.map_some, hr]
          · next c4 => rw [if_neg c4]; exact h
theorem readL_up (n m : Nat) (l : B) (r : B × Int × Int) (h : readL n l = some r) (hm : n ≤ m) : readL m l = some r := by
  obtain ⟨d, rfl⟩ : ∃ d, m = n + d := ⟨m - n, by omega⟩
  clear hm
  induction d with
  | zero => exact h
  | succ d ih => exact readL_mono _ _ _ ih
/-- what a text in quotes takes is all that it looks at; its last byte is the mark -/
theorem readL_take : ∀ (n : Nat) (l : B) (r : B × Int × Int), readL n l = some r → r.2.2 = 0 → readL n (l.take r.2.1.toNat) = some r ∧ ∃ q, l.take r.2.1.toNat = q ++ [34]
  | 0, l, r, h, he => by simp [readL] at h
  | n + 1, l, r, h, he => by
    obtain ⟨g1, g2, _⟩ := readL_good _ _ _ h he
    rw [readL] at h
    by_cases e1 : l = []
    · rw [if_pos e1] at h; cases h; simp at he
    · obtain ⟨c, l', rfl⟩ := List.exists_cons_of_ne_nil e1
      rw [if_neg e1] at h
      by_cases e2 : ((c :: l').getD 0 0).toNat = 34
      · rw [if_pos e2] at h
        cases h
        have hc : c = 34 := UInt8.toNat_inj.1 e2
        subst hc
        refine ⟨?_, [], rfl⟩
        rw [show ((34 : UInt8) :: l').take ((([], 1, 0) : B × Int × Int).2.1.toNat) = [34] from rfl, readL, if_neg (by decide), if_pos (by decide)]
      · rw [if_neg e2] at h
        by_cases e3 : ((c :: l').getD 0 0).toNat < 32
        · rw [if_pos e3] at h; cases h; simp at he
        · rw [if_neg e3] at h
          by_cases e4 : (oneL (c :: l')).2.2 = 0
          · rw [if_pos e4] at h
            obtain ⟨q, hq, hr⟩ := Option.map_eq_some_iff.1 h
            obtain ⟨b1, b2, _⟩ := one_bd _ e4
            by_cases e5 : q.2.2 = 0
            · rw [if_pos e5] at hr
              obtain ⟨h1, qq, h2⟩ := readL_take n _ q hq e5
              obtain ⟨k1, k2, _⟩ := readL_good _ _ _ hq e5
              obtain ⟨m, hm⟩ : ∃ m : Nat, (oneL (c :: l')).2.1 = m := ⟨(oneL (c :: l')).2.1.toNat, by omega⟩
              obtain ⟨j, hj⟩ : ∃ j : Nat, q.2.1 = j := ⟨q.2.1.toNat, by omega⟩
              rw [hm, Int.toNat_natCast] at h1 h2 k2
              rw [hj, Int.toNat_natCast] at h1 h2
              have hk : r.2.1.toNat = m + j := by rw [← hr]; show ((oneL (c :: l')).2.1 + q.2.1).toNat = _; omega
              have ht : (c :: l').take (m + j) = (c :: l').take m ++ ((c :: l').drop m).take j := by rw [List.take_add]
              have h0 := one_take _ e4
              rw [hm, Int.toNat_natCast] at h0
              have hml : ((c :: l').take m).length = m := by rw [List.length_take]; omega
              have hne : (c :: l').take m ≠ [] := fun e => by rw [e] at hml; simp at hml; omega
              have h3 : oneL ((c :: l').take (m + j)) = oneL (c :: l') := by
                rw [ht, one_more _ _ hne (by rw [h0]; exact e4), h0]
              refine ⟨?_, (c :: l').take m ++ qq, ?_⟩
              · rw [hk, readL, h3, getD_take _ _ 0 (by omega), if_neg (by rw [ht]; exact fun e => hne (List.append_eq_nil_iff.1 e).1), if_neg e2, if_neg e3, if_pos e4, hm, Int.toNat_natCast]
                rw [ht, List.drop_append_of_le_length (by omega), List.drop_eq_nil_of_le (by omega), List.nil_append, h1, Option.map_some, if_pos e5, ← hr, hm]
              · rw [hk, ht, h2, List.append_assoc]
            · rw [if_neg e5] at hr
              subst hr
              exact absurd he e5
          · rw [if_neg e4] at h
            cases h
            exact absurd he e4
def nb (p : B) : Prop := ∃ q c, p = q ++ [c] ∧ blank c.toNat = false
theorem nb_cons {a p : B} (h : nb p) : nb (a ++ p) := by
  obtain ⟨q, c, rfl, hc⟩ := h
  exact ⟨a ++ q, c, by simp, hc⟩
theorem nb_ne {p : B} (h : nb p) : p ≠ [] := by
  obtain ⟨q, c, rfl, _⟩ := h
  simp
theorem rq_loc (l : B) (hl : l ≠ []) (h : (rq l).2.2 = 0) : ∃ p, l = p ++ (rq l).2.1 ∧ nb p ∧ (p.getD 0 0 = l.getD 0 0) ∧ ∀ r', rq (p ++ r') = ((rq l).1, r', 0) := by
  obtain ⟨c, l', rfl⟩ := List.exists_cons_of_ne_nil hl
  unfold rq at h ⊢
  rw [show (c :: l').drop 1 = l' from rfl] at h ⊢
  cases hq : readL ((c :: l').length + 1) l' with
  | none => rw [hq] at h; simp at h
  | some q =>
    rw [hq] at h
    simp only at h ⊢
    by_cases e : q.2.2 = 0
    · rw [if_pos e]
      obtain ⟨h1, qq, h2⟩ := readL_take _ _ _ hq e
      obtain ⟨g1, g2, _⟩ := readL_good _ _ _ hq e
      obtain ⟨k, hk⟩ : ∃ k : Nat, q.2.1 = k := ⟨q.2.1.toNat, by omega⟩
      rw [hk, Int.toNat_natCast] at h1 h2 ⊢
      refine ⟨c :: l'.take k, ?_, ⟨c :: qq, 34, by rw [h2]; rfl, rfl⟩, rfl, fun r' => ?_⟩
      · show c :: l' = c :: (l'.take k ++ (c :: l').drop (k + 1))
        rw [List.drop_succ_cons, List.take_append_drop]
      · rw [show ((c :: l'.take k) ++ r').drop 1 = l'.take k ++ r' from rfl]
        have h3 := readL_more r' _ _ _ h1 e
        obtain ⟨r2, h4⟩ := readL_some (((c :: l'.take k) ++ r').length + 1) (l'.take k ++ r') (by simp only [List.length_append, List.length_cons, List.length_take]; omega)
        have h5 : r2 = q := by
          have u1 := readL_up _ (max ((c :: l').length + 1) (((c :: l'.take k) ++ r').length + 1)) _ _ h3 (Nat.le_max_left _ _)
          have u2 := readL_up _ (max ((c :: l').length + 1) (((c :: l'.take k) ++ r').length + 1)) _ _ h4 (Nat.le_max_right _ _)
          exact Option.some.inj (u2.symm.trans u1)
        rw [h4, h5]
        simp only
        rw [if_pos e, hk, Int.toNat_natCast]
        have hlk : (l'.take k).length = k := by rw [List.length_take]; omega
        rw [show ((c :: l'.take k) ++ r').drop (k + 1) = (l'.take k ++ r').drop k from rfl, List.drop_append_of_le_length (by omega), List.drop_eq_nil_of_le (by omega), List.nil_append]
    · rw [if_neg e] at h
      exact absurd h e
def bl (a : B) : Prop := ∀ y ∈ a, blank y.toNat = true
theorem sk_app : ∀ (a : B) (y : B), bl a → sk (a ++ y) = sk y
  | [], y, _ => rfl
  | c :: a, y, h => by
    have := sk_app a y (fun z hz => h z (List.mem_cons_of_mem _ hz))
    unfold sk at this ⊢
    rw [List.cons_append, skips, if_pos (h c List.mem_cons_self), List.drop_succ_cons, this]
theorem sk_split : ∀ l : B, ∃ a, bl a ∧ l = a ++ sk l ∧ (sk l ≠ [] → notblank (sk l))
  | [] => ⟨[], fun y hy => by (cases hy), rfl, fun h => absurd rfl h⟩
  | c :: l => by
    by_cases hc : blank c.toNat = true
    · obtain ⟨a, h1, h2, h3⟩ := sk_split l
      have e : sk (c :: l) = sk l := by unfold sk; rw [skips, if_pos hc, List.drop_succ_cons]
      rw [e]
      refine ⟨c :: a, fun y hy => ?_, by rw [List.cons_append, ← h2], h3⟩
      rcases List.mem_cons.1 hy with rfl | hy
      · exact hc
      · exact h1 y hy
    · have e : sk (c :: l) = c :: l := by unfold sk; rw [skips, if_neg hc]; rfl
      rw [e]
      exact ⟨[], fun y hy => by (cases hy), rfl, fun _ => by unfold notblank; simpa using hc⟩
theorem sk_nil_iff (l : B) : sk l = [] ↔ bl l := by
  constructor
  · intro h
    obtain ⟨a, h1, h2, _⟩ := sk_split l
    rw [h, List.append_nil] at h2
    rw [h2]; exact h1
  · intro h
    have := sk_app l [] h
    rw [List.append_nil] at this
    exact this.trans rfl
theorem sk_sk (l : B) : sk (sk l) = sk l := by
  obtain ⟨a, h1, h2, h3⟩ := sk_split l
  by_cases c : sk l = []
  · rw [c]; rfl
  · exact sk_id (h3 c)
theorem hd_sk (l : B) : hd (sk l) = hd l := by unfold hd; rw [sk_sk]
theorem hd_app (a y : B) (h : bl a) : hd (a ++ y) = hd y := by unfold hd; rw [sk_app a y h]
theorem blank_headok (a y : B) (h : bl a) (hy : headok y) : headok (a ++ y) := by
  cases a with
  | nil => exact hy
  | cons c a =>
    have := h c List.mem_cons_self
    show numB c.toNat = false
    unfold blank at this; unfold numB
    simp at this ⊢
    omega
theorem getD_pre (p r : B) (h : p ≠ []) : (p ++ r).getD 0 0 = p.getD 0 0 := by
  obtain ⟨c, p', rfl⟩ := List.exists_cons_of_ne_nil h
  rfl
theorem tk1_loc (l : B) (c : Nat) (hc : numB c = false) (h : (tk1 l c).1 = true) (hb : blank c = false) : ∃ p, l = p ++ (tk1 l c).2 ∧ nb p ∧ numB (p.getD 0 0).toNat = false ∧ ∀ r', tk1 (p ++ r') c = (true, r') := by
  unfold tk1 at h ⊢
  by_cases e : hd l = c ∧ sk l ≠ []
  · rw [if_pos e]
    obtain ⟨a, h1, h2, h3⟩ := sk_split l
    obtain ⟨ch, y, hy⟩ := List.exists_cons_of_ne_nil e.2
    have hch : ch.toNat = c := by
      have := e.1
      unfold hd at this
      rw [hy] at this
      exact this
    rw [hy] at h2 ⊢
    refine ⟨a ++ [ch], by rw [h2]; simp, ⟨a, ch, rfl, by rw [hch]; exact hb⟩, ?_, fun r' => ?_⟩
    · have := blank_headok a [ch] h1 (by show numB ch.toNat = false; rw [hch]; exact hc)
      exact this
    · have hn : notblank (ch :: r') := by show blank ch.toNat = false; rw [hch]; exact hb
      rw [List.append_assoc]
      show (if hd (a ++ (ch :: r')) = c ∧ sk (a ++ (ch :: r')) ≠ [] then _ else _) = _
      rw [hd_app a _ h1, sk_app a _ h1, sk_id hn, hd_id hn, if_pos ⟨hch, List.cons_ne_nil _ _⟩]
      show (true, (sk (a ++ (ch :: r'))).drop 1) = _
      rw [sk_app a _ h1, sk_id hn]; rfl
  · rw [if_neg e] at h; cases h
theorem tk1_no_loc (l : B) (c : Nat) (h : (tk1 l c).1 = false) (p r : B) (hp : p ≠ []) (h2 : (tk1 l c).2 = p ++ r) : ∃ a, bl a ∧ l = a ++ (p ++ r) ∧ ∀ r', tk1 (a ++ (p ++ r')) c = (false, p ++ r') := by
  unfold tk1 at h h2
  by_cases e : hd l = c ∧ sk l ≠ []
  · rw [if_pos e] at h; cases h
  · rw [if_neg e] at h2
    obtain ⟨a, g1, g2, g3⟩ := sk_split l
    have hne : sk l ≠ [] := by rw [show sk l = p ++ r from h2]; simp [hp]
    have hn := g3 hne
    rw [show sk l = p ++ r from h2] at g2 hn
    have hn' : ∀ r', notblank (p ++ r') := fun r' => by
      unfold notblank at hn ⊢
      rw [getD_pre p r' hp]
      rwa [getD_pre p r hp] at hn
    refine ⟨a, g1, g2, fun r' => ?_⟩
    have e1 : hd (a ++ (p ++ r')) ≠ c := by
      rw [hd_app a _ g1, hd_id (hn' r'), getD_pre p r' hp]
      intro x
      refine e ⟨?_, hne⟩
      rw [g2, hd_app a _ g1, hd_id hn, getD_pre p r hp]
      exact x
    unfold tk1
    rw [if_neg (fun x => e1 x.1), sk_app a _ g1, sk_id (hn' r')]
/-- looks no further than what it takes -/
def Loc (f : B → Int × B × List S59) (ok : B → Prop) : Prop := ∀ l, (f l).1 = 0 → ∃ p, l = p ++ (f l).2.1 ∧ nb p ∧ ∀ r', ok r' → f (p ++ r') = (0, r', (f l).2.2)
def all (_ : B) : Prop := True
theorem en_num (ob : Bool) : numB (en ob) = false ∧ blank (en ob) = false := by cases ob <;> exact ⟨rfl, rfl⟩
theorem cont_loc (L : B → Int × B × List S59) (ob : Bool) (hL : Loc L all) (l : B) (h : (cont L l ob).1 = 0) : ∃ p, l = p ++ (cont L l ob).2.1 ∧ nb p ∧ numB (p.getD 0 0).toNat = false ∧ ∀ r', cont L (p ++ r') ob = (0, r', (cont L l ob).2.2) := by
  unfold cont at h
  by_cases c1 : (tk1 l (en ob)).1 = true
  · obtain ⟨p, h1, h2, h3, h4⟩ := tk1_loc l (en ob) (en_num ob).1 c1 (en_num ob).2
    have e : cont L l ob = (0, (tk1 l (en ob)).2, []) := by unfold cont; rw [if_pos c1]
    rw [e]
    refine ⟨p, h1, h2, h3, fun r' => ?_⟩
    unfold cont
    rw [h4 r', if_pos rfl]
  · rw [if_neg c1] at h
    by_cases c2 : (tk1 (tk1 l (en ob)).2 44).1 = true
    · rw [if_pos c2] at h
      have e : cont L l ob = L (tk1 (tk1 l (en ob)).2 44).2 := by unfold cont; rw [if_neg c1, if_pos c2]
      rw [e]
      obtain ⟨p2, g1, g2, g3⟩ := hL _ h
      obtain ⟨p1, h1, h2, h3, h4⟩ := tk1_loc (tk1 l (en ob)).2 44 rfl c2 rfl
      obtain ⟨a, a1, a2, a3⟩ := tk1_no_loc l (en ob) (by simpa using c1) p1 _ (nb_ne h2) h1
      have hl2 : l = a ++ (p1 ++ (p2 ++ (L (tk1 (tk1 l (en ob)).2 44).2).2.1)) := by rw [← g1]; exact a2
      refine ⟨a ++ (p1 ++ p2), by rw [List.append_assoc, List.append_assoc]; exact hl2, nb_cons (nb_cons g2), ?_, fun r' => ?_⟩
      · have hp1 : numB ((p1 ++ p2).getD 0 0).toNat = false := by rw [getD_pre p1 _ (nb_ne h2)]; exact h3
        exact blank_headok a _ a1 hp1
      · unfold cont
        rw [show a ++ (p1 ++ p2) ++ r' = a ++ (p1 ++ (p2 ++ r')) by simp, a3, if_neg (show ¬ false = true from Bool.noConfusion), h4, if_pos rfl, g3 r' trivial]
    · rw [if_neg c2] at h; simp at h
end Go.Proofs.YthhmmaihbjhhgaaDoor.Giv
namespace Go.Proofs.YthhmmaihbjhhgaaDoor.Giv
open Go.RowKit Go.Proofs.YthhmmaihbjhhgaaDoorW.PrintWords Go.Proofs.YthhmmaihbjhhgaaDoorW.PrintLast Go.Proofs.YthhmmaihbjhhgaaDoorW.PrintMore
open Go.Proofs.YthhmmaihbjhhgaaDoor.U1 Go.Proofs.YthhmmaihbjhhgaaDoor.Q1 Go.Proofs.YthhmmaihbjhhgaaDoor.J0 Go.Proofs.YthhmmaihbjhhgaaDoor.J1
set_option linter.unusedSimpArgs false
set_option linter.unusedVariables false
theorem wd_shape (l : B) (d : Nat) (key : ByteArray) (h : (wd l d key).1 = 0) : ∃ p, l = p ++ (wd l d key).2.1 ∧ nb p ∧ p.getD 0 0 = l.getD 0 0 ∧ ∀ r', wd (p ++ r') d key = (0, r', (wd l d key).2.2) := by
  unfold wd at h ⊢
  by_cases c1 : [110, 117, 108, 108] <+: l
  · rw [if_pos c1]
    obtain ⟨t, rfl⟩ := c1
    exact ⟨[110, 117, 108, 108], rfl, ⟨[110, 117, 108], 108, rfl, rfl⟩, rfl, fun r' => wd_null r' d key⟩
  · rw [if_neg c1] at h ⊢
    by_cases c2 : [102, 97, 108, 115, 101] <+: l
    · rw [if_pos c2]
      obtain ⟨t, rfl⟩ := c2
      exact ⟨[102, 97, 108, 115, 101], rfl, ⟨[102, 97, 108, 115], 101, rfl, rfl⟩, rfl, fun r' => wd_false r' d key⟩
    · rw [if_neg c2] at h ⊢
      by_cases c3 : [116, 114, 117, 101] <+: l
      · rw [if_pos c3]
        obtain ⟨t, rfl⟩ := c3
        exact ⟨[116, 114, 117, 101], rfl, ⟨[116, 114, 117], 101, rfl, rfl⟩, rfl, fun r' => wd_true r' d key⟩
      · rw [if_neg c3] at h; simp at h
theorem nums_take : ∀ l : B, (∀ y ∈ l.take (numsL l), numB y.toNat = true) ∧ headok (l.drop (numsL l))
  | [] => ⟨fun y hy => by simp [numsL] at hy, rfl⟩
  | c :: l => by
    obtain ⟨h1, h2⟩ := nums_take l
    by_cases hc : numB c.toNat = true
    · rw [numsL, if_pos hc]
      refine ⟨fun y hy => ?_, h2⟩
      rw [List.take_succ_cons] at hy
      rcases List.mem_cons.1 hy with rfl | hy
      · exact hc
      · exact h1 y hy
    · rw [numsL, if_neg hc]
      exact ⟨fun y hy => by simp at hy, by show numB c.toNat = false; simpa using hc⟩
theorem num_blank {n : Nat} (h : numB n = true) : blank n = false := by
  unfold numB at h; unfold blank
  simp at h ⊢
  omega
theorem all_nb (p : B) (hp : p ≠ []) (h : ∀ y ∈ p, numB y.toNat = true) : nb p := by
  refine ⟨p.dropLast, p.getLast hp, (List.dropLast_concat_getLast hp).symm, num_blank (h _ (List.getLast_mem hp))⟩
theorem pk_loc (l : B) (keys : List ByteArray) (h : (pk l keys).2.2 = 0) : ∃ p, l = p ++ (pk l keys).2.1 ∧ nb p ∧ ∀ r', pk (p ++ r') keys = ((pk l keys).1, r', 0) := by
  have h0 := h
  unfold pk at h
  by_cases c1 : hd l = 34
  · rw [if_pos c1] at h
    by_cases c2 : (rq (sk l)).2.2 = 0
    · rw [if_pos c2] at h
      by_cases c3 : hasB ⟨(rq (sk l)).1.toArray⟩ keys = true
      · rw [if_pos c3] at h; simp at h
      · rw [if_neg c3] at h
        by_cases c4 : (tk1 (rq (sk l)).2.1 58).1 = true
        · have e : pk l keys = (⟨(rq (sk l)).1.toArray⟩, (tk1 (rq (sk l)).2.1 58).2, 0) := by
            unfold pk
            rw [if_pos c1, if_pos c2, if_neg c3, if_pos c4]
          rw [e]
          obtain ⟨a, a1, a2, a3⟩ := sk_split l
          have hne : sk l ≠ [] := fun x => by unfold hd at c1; rw [x] at c1; simp at c1
          obtain ⟨p1, b1, b2, b3, b4⟩ := rq_loc (sk l) hne c2
          obtain ⟨p2, d1, d2, d3, d4⟩ := tk1_loc _ 58 rfl c4 rfl
          have hn := a3 hne
          have hn' : ∀ r', notblank (p1 ++ r') := fun r' => by
            unfold notblank at hn ⊢
            rw [getD_pre p1 r' (nb_ne b2), b3]
            exact hn
          refine ⟨a ++ (p1 ++ p2), ?_, nb_cons (nb_cons d2), fun r' => ?_⟩
          · conv => lhs; rw [a2, b1, d1]
            simp
          · have e1 : a ++ (p1 ++ p2) ++ r' = a ++ (p1 ++ (p2 ++ r')) := by simp
            have e2 : sk (a ++ (p1 ++ (p2 ++ r'))) = p1 ++ (p2 ++ r') := by rw [sk_app a _ a1, sk_id (hn' _)]
            have e3 : hd (a ++ (p1 ++ (p2 ++ r'))) = 34 := by
              rw [hd_app a _ a1, hd_id (hn' _), getD_pre p1 _ (nb_ne b2), b3]
              exact c1
            unfold pk
            rw [e1, e2, e3, if_pos rfl, b4, if_pos rfl, if_neg c3, d4, if_pos rfl]
        · rw [if_neg c4] at h; simp at h
    · rw [if_neg c2] at h; exact absurd h c2
  · rw [if_neg c1] at h; simp at h
theorem pma_loc (f : B → Int × B × List S59) (L : B → Int × B × List S59) (ob : Bool) (hf : Loc f headok) (hL : Loc L all) : Loc (fun l => pma L (f l) ob) all := by
  intro l h
  simp only at h ⊢
  unfold pma at h
  by_cases c : (f l).1 = 0
  · rw [if_pos c] at h
    obtain ⟨p1, a1, a2, a3⟩ := hf l c
    obtain ⟨p2, b1, b2, b3, b4⟩ := cont_loc L ob hL _ h
    have e : pma L (f l) ob = ((cont L (f l).2.1 ob).1, (cont L (f l).2.1 ob).2.1, (f l).2.2 ++ (cont L (f l).2.1 ob).2.2) := by unfold pma; rw [if_pos c]
    rw [e]
    refine ⟨p1 ++ p2, ?_, nb_cons b2, fun r' _ => ?_⟩
    · conv => lhs; rw [a1, b1]
      simp
    · have e2 := a3 (p2 ++ r') (by show numB ((p2 ++ r').getD 0 0).toNat = false; rw [getD_pre p2 _ (nb_ne b2)]; exact b3)
      rw [List.append_assoc, e2]
      unfold pma
      simp only [if_pos]
      rw [b4]
  · rw [if_neg c] at h; exact absurd h c
theorem pv_skip (n : Nat) (l : B) (d : Nat) (key : ByteArray) : pv n (sk l) d key = pv n l d key := by
  cases n with
  | zero => rw [pv, pv]
  | succ n => rw [pv, pv, hd_sk, sk_sk]
theorem pv_blanks (n : Nat) (a l : B) (d : Nat) (key : ByteArray) (h : bl a) : pv n (a ++ l) d key = pv n l d key := by
  rw [← pv_skip n (a ++ l), sk_app a l h, pv_skip]
theorem pv_hd (n : Nat) (l : B) (d : Nat) (key : ByteArray) (h : (pv n l d key).1 = 0) : sk l ≠ [] := by
  intro e
  rw [← pv_skip, e] at h
  cases n with
  | zero => simp [pv] at h
  | succ n => rw [pv] at h; simp [hd, sk, skips, wd] at h
theorem loc_all : ∀ n : Nat, (∀ d key, Loc (fun l => pv n l d key) headok) ∧ (∀ d ob, Loc (fun l => pms n l d ob) all) ∧ (∀ d ob keys, Loc (fun l => pml n l d ob keys) all)
  | 0 => ⟨fun d key l h => by simp [pv] at h, fun d ob l h => by simp [pms] at h, fun d ob keys l h => by simp [pml] at h⟩
  | n + 1 => by
    obtain ⟨hv, hm, hl⟩ := loc_all n
    refine ⟨fun d key l h => ?_, fun d ob l h => ?_, fun d ob keys l h => ?_⟩
    · simp only at h ⊢
      have hne := pv_hd _ _ _ _ h
      obtain ⟨a, a1, a2, a3⟩ := sk_split l
      have hn := a3 hne
      have hn2 : notblank (sk l) := hn
      have hs := hd_id hn
      rw [← pv_skip] at h ⊢
      -- it is enough to speak of the text behind the blanks
      suffices H : ∃ p, sk l = p ++ (pv (n + 1) (sk l) d key).2.1 ∧ nb p ∧ ∀ r', headok r' → pv (n + 1) (p ++ r') d key = (0, r', (pv (n + 1) (sk l) d key).2.2) by
        obtain ⟨p, b1, b2, b3⟩ := H
        have hl2 : l = a ++ (p ++ (pv (n + 1) (sk l) d key).2.1) := by rw [← b1]; exact a2
        exact ⟨a ++ p, by rw [List.append_assoc]; exact hl2, nb_cons b2, fun r' hr => by rw [List.append_assoc, pv_blanks _ a _ _ _ a1]; exact b3 r' hr⟩
      clear a2 a3
      generalize hz : sk l = z at *
      clear hz
      have hsz := sk_id hn
      rw [pv, hsz] at h ⊢
      by_cases c1 : hd z = 91
      · rw [if_pos c1] at h
        by_cases c2 : 64 ≤ d
        · rw [if_pos c2] at h; simp at h
        · rw [if_neg c2] at h
          simp only [if_pos c1, if_neg c2]
          obtain ⟨p, b1, b2, b3⟩ := hm d false _ h
          obtain ⟨ch, y, rfl⟩ := List.exists_cons_of_ne_nil hne
          have hch : ch = 91 := UInt8.toNat_inj.1 (by rw [hs] at c1; exact c1)
          subst hch
          refine ⟨91 :: p, ?_, nb_cons (a := [91]) b2, fun r' _ => ?_⟩
          · show 91 :: y = 91 :: (p ++ _)
            congr 1
          · have := pv_open n (p ++ r') d key false (by omega) r' _ (b3 r' trivial)
            exact this
      · rw [if_neg c1] at h
        by_cases c2 : hd z = 123
        · rw [if_pos c2] at h
          by_cases c3 : 64 ≤ d
          · rw [if_pos c3] at h; simp at h
          · rw [if_neg c3] at h
            simp only [if_neg c1, if_pos c2, if_neg c3]
            obtain ⟨p, b1, b2, b3⟩ := hm d true _ h
            obtain ⟨ch, y, rfl⟩ := List.exists_cons_of_ne_nil hne
            have hch : ch = 123 := UInt8.toNat_inj.1 (by rw [hs] at c2; exact c2)
            subst hch
            refine ⟨123 :: p, ?_, nb_cons (a := [123]) b2, fun r' _ => ?_⟩
            · show 123 :: y = 123 :: (p ++ _)
              congr 1
            · have := pv_open n (p ++ r') d key true (by omega) r' _ (b3 r' trivial)
              exact this
        · rw [if_neg c2] at h
          by_cases c3 : hd z = 34
          · rw [if_pos c3] at h
            by_cases c4 : (rq z).2.2 = 0
            · rw [if_pos c4] at h
              simp only [if_neg c1, if_neg c2, if_pos c3, if_pos c4]
              obtain ⟨p, b1, b2, b3, b4⟩ := rq_loc z hne c4
              refine ⟨p, b1, b2, fun r' _ => ?_⟩
              have hn' : notblank (p ++ r') := by unfold notblank at hn ⊢; rw [getD_pre p r' (nb_ne b2), b3]; exact hn
              have hh : hd (p ++ r') = 34 := by rw [hd_id hn', getD_pre p r' (nb_ne b2), b3, ← hs]; exact c3
              rw [pv, hh, sk_id hn', if_neg (by decide), if_neg (by decide), if_pos rfl, b4, if_pos rfl]
            · rw [if_neg c4] at h; exact absurd h c4
          · rw [if_neg c3] at h
            by_cases c4 : hd z = 45 ∨ (48 ≤ hd z ∧ hd z ≤ 57)
            · rw [if_pos c4] at h
              by_cases c5 : (rn (z.take (numsL z))).2 = true
              · rw [if_pos c5] at h
                simp only [if_neg c1, if_neg c2, if_neg c3, if_pos c4, if_pos c5]
                obtain ⟨b1, b2⟩ := nums_take z
                have hp : z.take (numsL z) ≠ [] := by
                  obtain ⟨ch, y, rfl⟩ := List.exists_cons_of_ne_nil hne
                  have : numB ch.toNat = true := by
                    rw [hs] at c4
                    have c4' : ch.toNat = 45 ∨ (48 ≤ ch.toNat ∧ ch.toNat ≤ 57) := c4
                    unfold numB; simp; omega
                  rw [numsL, if_pos this, List.take_succ_cons]
                  exact List.cons_ne_nil _ _
                have hg : (z.take (numsL z)).getD 0 0 = z.getD 0 0 := by
                  have := getD_pre (z.take (numsL z)) (z.drop (numsL z)) hp
                  rw [List.take_append_drop] at this
                  exact this.symm
                refine ⟨z.take (numsL z), (List.take_append_drop _ _).symm, all_nb _ hp b1, fun r' hr => ?_⟩
                have hn' : notblank (z.take (numsL z) ++ r') := by unfold notblank at hn ⊢; rw [getD_pre _ r' hp, hg]; exact hn
                have hh : hd (z.take (numsL z) ++ r') = hd z := by rw [hd_id hn', getD_pre _ r' hp, hg, hs]
                have hl := nums_all (z.take (numsL z)) r' b1 hr
                rw [pv, hh, sk_id hn', if_neg c1, if_neg c2, if_neg c3, if_pos c4, hl, List.take_left, List.drop_left, if_pos c5]
              · rw [if_neg c5] at h; simp at h
            · rw [if_neg c4] at h
              simp only [if_neg c1, if_neg c2, if_neg c3, if_neg c4]
              obtain ⟨p, b1, b2, b3, b4⟩ := wd_shape z d key h
              refine ⟨p, b1, b2, fun r' _ => ?_⟩
              have hn' : notblank (p ++ r') := by unfold notblank at hn ⊢; rw [getD_pre p r' (nb_ne b2), b3]; exact hn
              have hh : hd (p ++ r') = hd z := by rw [hd_id hn', getD_pre p r' (nb_ne b2), b3, hs]
              rw [pv, hh, sk_id hn', if_neg c1, if_neg c2, if_neg c3, if_neg c4, b4]
    · simp only at h ⊢
      rw [pms] at h
      by_cases c : (tk1 l (en ob)).1 = true
      · obtain ⟨p, h1, h2, h3, h4⟩ := tk1_loc l (en ob) (en_num ob).1 c (en_num ob).2
        rw [pms, if_pos c]
        refine ⟨p, h1, h2, fun r' _ => ?_⟩
        rw [pms, h4 r', if_pos rfl]
      · rw [if_neg c] at h
        obtain ⟨p, b1, b2, b3⟩ := hl d ob [] _ h
        obtain ⟨a, a1, a2, a3⟩ := tk1_no_loc l (en ob) (by simpa using c) p _ (nb_ne b2) b1
        rw [pms, if_neg c]
        refine ⟨a ++ p, by rw [List.append_assoc]; exact a2, nb_cons b2, fun r' _ => ?_⟩
        rw [pms, List.append_assoc, a3, if_neg (show ¬ false = true from Bool.noConfusion)]
        exact b3 r' trivial
    · simp only at h ⊢
      rw [pml] at h
      cases ob with
      | true =>
        rw [if_pos rfl] at h
        by_cases c : (pk l keys).2.2 = 0
        · rw [if_pos c] at h
          obtain ⟨p1, a1, a2, a3⟩ := pk_loc l keys c
          have hh := pma_loc (fun l => pv n l (d + 1) (pk l keys).1) (fun x => pml n x d true (keys ++ [(pk l keys).1])) true
          obtain ⟨p2, b1, b2, b3⟩ := pma_loc (fun x => pv n x (d + 1) (pk l keys).1) (fun x => pml n x d true (keys ++ [(pk l keys).1])) true (hv (d + 1) _) (hl d true _) _ h
          rw [pml, if_pos rfl, if_pos c]
          refine ⟨p1 ++ p2, ?_, nb_cons b2, fun r' _ => ?_⟩
          · conv => lhs; rw [a1, b1]
            simp
          · rw [pml, if_pos rfl, List.append_assoc, a3, if_pos rfl]
            exact b3 r' trivial
        · rw [if_neg c] at h; exact absurd h c
      | false =>
        rw [if_neg (by decide)] at h
        rw [pml, if_neg (by decide)]
        obtain ⟨p2, b1, b2, b3⟩ := pma_loc (fun x => pv n x (d + 1) e0) (fun x => pml n x d false keys) false (hv (d + 1) _) (hl d false _) _ h
        refine ⟨p2, b1, b2, fun r' _ => ?_⟩
        rw [pml, if_neg (by decide)]
        exact b3 r' trivial
theorem cont_eq (L L' : B → Int × B × List S59) (l : B) (ob : Bool) (hL : ∀ x, (L x).1 ≠ -1 → L' x = L x) (h : (cont L l ob).1 ≠ -1) : cont L' l ob = cont L l ob := by
  unfold cont at h ⊢
  split
  · rfl
  · next c =>
    rw [if_neg c] at h
    split
    · next c2 => rw [if_pos c2] at h; exact hL _ h
    · rfl
theorem pma_eq (L L' : B → Int × B × List S59) (V V' : Int × B × List S59) (ob : Bool) (hV : V.1 ≠ -1 → V' = V) (hL : ∀ x, (L x).1 ≠ -1 → L' x = L x) (h : (pma L V ob).1 ≠ -1) : pma L' V' ob = pma L V ob := by
  have h0 := h
  unfold pma at h
  by_cases c : V.1 = 0
  · rw [if_pos c] at h
    rw [hV (by omega)]
    unfold pma
    rw [if_pos c, if_pos c, cont_eq L L' _ ob hL h]
  · rw [if_neg c] at h
    rw [hV h]
    unfold pma
    rw [if_neg c, if_neg c]
theorem p_fuel : ∀ n : Nat, (∀ l d key, (pv n l d key).1 ≠ -1 → pv (n + 1) l d key = pv n l d key) ∧ (∀ l d ob, (pms n l d ob).1 ≠ -1 → pms (n + 1) l d ob = pms n l d ob) ∧ (∀ l d ob keys, (pml n l d ob keys).1 ≠ -1 → pml (n + 1) l d ob keys = pml n l d ob keys)
  | 0 => ⟨fun l d key h => absurd (by rw [pv]) h, fun l d ob h => absurd (by rw [pms]) h, fun l d ob keys h => absurd (by rw [pml]) h⟩
  | n + 1 => by
    obtain ⟨hv, hm, hl⟩ := p_fuel n
    refine ⟨fun l d key h => ?_, fun l d ob h => ?_, fun l d ob keys h => ?_⟩
    · rw [pv] at h
      rw [pv, pv.eq_2 l d key n]
      by_cases c1 : hd l = 91
      · rw [if_pos c1] at h ⊢
        rw [if_pos c1]
        by_cases c2 : 64 ≤ d
        · rw [if_pos c2, if_pos c2]
        · rw [if_neg c2] at h ⊢
          rw [if_neg c2, hm _ _ _ h]
      · rw [if_neg c1] at h ⊢
        rw [if_neg c1]
        by_cases c2 : hd l = 123
        · rw [if_pos c2] at h ⊢
          rw [if_pos c2]
          by_cases c3 : 64 ≤ d
          · rw [if_pos c3, if_pos c3]
          · rw [if_neg c3] at h ⊢
            rw [if_neg c3, hm _ _ _ h]
        · rw [if_neg c2] at h ⊢
          rw [if_neg c2]
    · rw [pms] at h
      rw [pms, pms.eq_2 l d ob n]
      by_cases c : (tk1 l (en ob)).1 = true
      · rw [if_pos c, if_pos c]
      · rw [if_neg c] at h ⊢
        rw [if_neg c, hl _ _ _ _ h]
    · rw [pml] at h
      rw [pml, pml.eq_2 l d ob keys n]
      cases ob with
      | true =>
        rw [if_pos rfl] at h ⊢
        rw [if_pos rfl]
        by_cases c : (pk l keys).2.2 = 0
        · rw [if_pos c] at h ⊢
          rw [if_pos c]
          exact pma_eq _ _ _ _ _ (hv _ _ _) (fun x hx => hl _ _ _ _ hx) h
        · rw [if_neg c, if_neg c]
      | false =>
        rw [if_neg (by decide)] at h ⊢
        rw [if_neg (by decide)]
        exact pma_eq _ _ _ _ _ (hv _ _ _) (fun x hx => hl _ _ _ _ hx) h
theorem pv_up (n m : Nat) (l : B) (d : Nat) (key : ByteArray) (h : 3 * l.length + 1 ≤ n) (hm : n ≤ m) : pv m l d key = pv n l d key := by
  obtain ⟨j, rfl⟩ : ∃ j, m = n + j := ⟨m - n, by omega⟩
  clear hm
  induction j with
  | zero => rfl
  | succ j ih => rw [← ih]; exact (p_fuel (n + j)).1 l d key ((p_total (n + j)).1 l d key (by omega))
def shr (x : S59) : S59 := ⟨x.f0 + 1, x.f1, x.f2, x.f3, x.f4⟩
theorem row_shr (d : Nat) (k : Int) (key t : ByteArray) (n : Int) : row (d + 1) k key t n = shr (row d k key t n) := by
  unfold row shr
  simp
/-- the same one deeper, or too deep -/
def Dp (P Q : Int × B × List S59) : Prop := P.1 = 0 → Q = (0, P.2.1, P.2.2.map shr) ∨ Q.1 = 81
theorem cont_dp (L L' : B → Int × B × List S59) (l : B) (ob : Bool) (hL : ∀ x, Dp (L x) (L' x)) : Dp (cont L l ob) (cont L' l ob) := by
  intro h
  unfold cont at h ⊢
  by_cases c : (tk1 l (en ob)).1 = true
  · simp only [if_pos c]; exact Or.inl rfl
  · rw [if_neg c] at h
    by_cases c2 : (tk1 (tk1 l (en ob)).2 44).1 = true
    · rw [if_pos c2] at h
      simp only [if_neg c, if_pos c2]
      exact hL _ h
    · rw [if_neg c2] at h; simp at h
theorem pma_dp (L L' : B → Int × B × List S59) (V V' : Int × B × List S59) (ob : Bool) (hV : Dp V V') (hL : ∀ x, Dp (L x) (L' x)) : Dp (pma L V ob) (pma L' V' ob) := by
  intro h
  unfold pma at h
  by_cases c : V.1 = 0
  · rw [if_pos c] at h
    rcases hV c with rfl | hb
    · rcases cont_dp L L' _ ob hL h with e | e
      · left
        unfold pma
        simp only [if_pos c, if_pos]
        rw [e]
        simp
      · right
        unfold pma
        simp only [if_pos]
        exact e
    · right
      unfold pma
      rw [if_neg (by omega)]
      exact hb
  · rw [if_neg c] at h; exact absurd h c
theorem p_dp : ∀ n : Nat, (∀ l d key, Dp (pv n l d key) (pv n l (d + 1) key)) ∧ (∀ l d ob, Dp (pms n l d ob) (pms n l (d + 1) ob)) ∧ (∀ l d ob keys, Dp (pml n l d ob keys) (pml n l (d + 1) ob keys))
  | 0 => ⟨fun l d key h => by simp [pv] at h, fun l d ob h => by simp [pms] at h, fun l d ob keys h => by simp [pml] at h⟩
  | n + 1 => by
    obtain ⟨hv, hm, hl⟩ := p_dp n
    refine ⟨fun l d key h => ?_, fun l d ob h => ?_, fun l d ob keys h => ?_⟩
    · rw [pv] at h ⊢
      rw [pv]
      by_cases c1 : hd l = 91
      · rw [if_pos c1] at h
        simp only [if_pos c1]
        by_cases c2 : 64 ≤ d
        · rw [if_pos c2] at h; simp at h
        · rw [if_neg c2] at h
          simp only [if_neg c2]
          by_cases c3 : 64 ≤ d + 1
          · rw [if_pos c3]; exact Or.inr rfl
          · rw [if_neg c3]
            rcases hm _ _ _ h with e | e
            · left; rw [e, row_shr]; rfl
            · right; exact e
      · rw [if_neg c1] at h
        simp only [if_neg c1]
        by_cases c2 : hd l = 123
        · rw [if_pos c2] at h
          simp only [if_pos c2]
          by_cases c3 : 64 ≤ d
          · rw [if_pos c3] at h; simp at h
          · rw [if_neg c3] at h
            simp only [if_neg c3]
            by_cases c4 : 64 ≤ d + 1
            · rw [if_pos c4]; exact Or.inr rfl
            · rw [if_neg c4]
              rcases hm _ _ _ h with e | e
              · left; rw [e, row_shr]; rfl
              · right; exact e
        · rw [if_neg c2] at h
          simp only [if_neg c2]
          by_cases c3 : hd l = 34
          · rw [if_pos c3] at h
            simp only [if_pos c3]
            by_cases c4 : (rq (sk l)).2.2 = 0
            · simp only [if_pos c4]; left; rw [row_shr]; rfl
            · rw [if_neg c4] at h; exact absurd h c4
          · rw [if_neg c3] at h
            simp only [if_neg c3]
            by_cases c4 : hd l = 45 ∨ (48 ≤ hd l ∧ hd l ≤ 57)
            · rw [if_pos c4] at h
              simp only [if_pos c4]
              by_cases c5 : (rn ((sk l).take (numsL (sk l)))).2 = true
              · simp only [if_pos c5]; left; rw [row_shr]; rfl
              · rw [if_neg c5] at h; simp at h
            · rw [if_neg c4] at h
              simp only [if_neg c4]
              unfold wd at h ⊢
              left
              by_cases w1 : [110, 117, 108, 108] <+: sk l
              · simp only [if_pos w1]; rw [row_shr]; rfl
              · rw [if_neg w1] at h
                simp only [if_neg w1]
                by_cases w2 : [102, 97, 108, 115, 101] <+: sk l
                · simp only [if_pos w2]; rw [row_shr]; rfl
                · rw [if_neg w2] at h
                  simp only [if_neg w2]
                  by_cases w3 : [116, 114, 117, 101] <+: sk l
                  · simp only [if_pos w3]; rw [row_shr]; rfl
                  · rw [if_neg w3] at h; simp at h
    · rw [pms] at h ⊢
      rw [pms]
      by_cases c : (tk1 l (en ob)).1 = true
      · simp only [if_pos c]; exact Or.inl rfl
      · rw [if_neg c] at h
        simp only [if_neg c]
        exact hl _ _ _ _ h
    · rw [pml] at h ⊢
      rw [pml]
      cases ob with
      | true =>
        rw [if_pos rfl] at h
        simp only [if_pos]
        by_cases c : (pk l keys).2.2 = 0
        · rw [if_pos c] at h
          simp only [if_pos c]
          exact pma_dp _ _ _ _ _ (hv _ _ _) (fun x => hl _ _ _ _) h
        · rw [if_neg c] at h; exact absurd h c
      | false =>
        rw [if_neg (by decide)] at h
        rw [if_neg (by decide), if_neg (by decide)]
        exact pma_dp _ _ _ _ _ (hv _ _ _) (fun x => hl _ _ _ _) h
end Go.Proofs.YthhmmaihbjhhgaaDoor.Giv
namespace Go.Proofs.YthhmmaihbjhhgaaDoor.J2
open Go.Proofs.YthhmmaihbjhhgaaDoor.Giv Go.Proofs.YthhmmaihbjhhgaaDoor.U1 Go.Proofs.YthhmmaihbjhhgaaDoor.Q1 Go.Proofs.YthhmmaihbjhhgaaDoor.J0 Go.Proofs.YthhmmaihbjhhgaaDoor.J1 Go.RowKit Go.Proofs.YthhmmaihbjhhgaaDoorW.PrintWords Go.Proofs.YthhmmaihbjhhgaaDoorW.PrintLast Go.Proofs.YthhmmaihbjhhgaaDoorW.PrintMore
attribute [local go_sem] max2_int min2_int max_two min_two max_three min_three max_four min_four   -- for this text's walks alone
set_option linter.unusedVariables false
set_option linter.unusedSimpArgs false
theorem eqA81 (d : Nat) (w : World) (x0 y0 : Int) (x1 y1 : Int) (x2 y2 : ByteArray) (x3 y3 : ByteArray) (x4 y4 : Int) :
    (Op.equalIn (d + 2) 81 (.agg #[.int .i64 x0, .int .i64 x1, .string x2, .string x3, .int .i64 x4]) (.agg #[.int .i64 y0, .int .i64 y1, .string y2, .string y3, .int .i64 y4])).run Tryd.prog w = .ok (x0 == y0 && (x1 == y1 && (x2.toList == y2.toList && (x3.toList == y3.toList && (x4 == y4))))) w := by
  refine eqA_of Tryd.underlying81 (by kernel_rfl) ?_
  refine eqf_cons (by rfl) (by go_simp; rfl) (by go_simp; rfl) (by go_simp) ?_
  refine eqf_cons (by rfl) (by go_simp; rfl) (by go_simp; rfl) (by go_simp) ?_
  refine eqf_cons (by rfl) (by go_simp; rfl) (by go_simp; rfl) (by go_simp) ?_
  refine eqf_cons (by rfl) (by go_simp; rfl) (by go_simp; rfl) (by go_simp) ?_
  exact eqf_last (by rfl) (by go_simp; rfl) (by go_simp; rfl) (by go_simp)
end Go.Proofs.YthhmmaihbjhhgaaDoor.J2
namespace Go.Proofs.YthhmmaihbjhhgaaDoor.J2
open Go.Proofs.YthhmmaihbjhhgaaDoor.Giv Go.Proofs.YthhmmaihbjhhgaaDoor.U1 Go.Proofs.YthhmmaihbjhhgaaDoor.Q1 Go.Proofs.YthhmmaihbjhhgaaDoor.J0 Go.Proofs.YthhmmaihbjhhgaaDoor.J1 Go.RowKit Go.Proofs.YthhmmaihbjhhgaaDoorW.PrintWords Go.Proofs.YthhmmaihbjhhgaaDoorW.PrintLast Go.Proofs.YthhmmaihbjhhgaaDoorW.PrintMore
attribute [local go_sem] max2_int min2_int max_two min_two max_three min_three max_four min_four   -- for this text's walks alone
set_option linter.unusedVariables false
set_option linter.unusedSimpArgs false
attribute [local go_sem high] eqA81
def cracknelref08_Same.l0 : Nat → List (S81) → List (S81) → Int → Option (Bool)
  | 0, _, _, _ => none
  | k + 1, x0, x1, x5 => if x5 < (x0.length : Int) then (if 0 ≤ x5 then (if x5 < (x1.length : Int) then (if (!(((rd_T81 x0 x5).f0) == ((rd_T81 x1 x5).f0)) || (!(((rd_T81 x0 x5).f1) == ((rd_T81 x1 x5).f1)) || (!((((rd_T81 x0 x5).f2).toList) == (((rd_T81 x1 x5).f2).toList)) || (!((((rd_T81 x0 x5).f3).toList) == (((rd_T81 x1 x5).f3).toList)) || (!(((rd_T81 x0 x5).f4) == ((rd_T81 x1 x5).f4))))))) = true then (some false) else (cracknelref08_Same.l0 k x0 x1 (wrap64 (x5 + 1)))) else (none)) else (none)) else (some true)
def cracknelref08_Same.f (k : Nat) (l0 : List (S81)) (l1 : List (S81)) : Option (Bool) := if (l0.length : Int) = (l1.length : Int) then (cracknelref08_Same.l0 k l0 l1 0) else (some false)
set_option maxHeartbeats 8000000 in
set_option maxRecDepth 100000 in
theorem cracknelref08_Same.calls (k : Nat) (A0 : Option Addr) (c0 : Nat) (l0 : List (S81)) (A1 : Option Addr) (c1 : Nat) (l1 : List (S81)) (r : Bool) (w : World) (hr0 : Kd.C k81 w A0 l0.length l0) (hc0 : l0.length ≤ c0) (hr1 : Kd.C k81 w A1 l1.length l1) (hc1 : l1.length ≤ c1) (h : cracknelref08_Same.f k l0 l1 = some r) :
    Calls Tryd.prog 44 #[.slice A0 l0.length c0, .slice A1 l1.length c1] w fun e w' => e = .returned (.bool r) ∧ Drawn0 w w' := by
  have hu81 := Tryd.underlying81
  have HR0 := Aside0.mk hr0
  have HC0 := Aside0.mk hc0
  clear hr0 hc0
  have HR1 := Aside0.mk hr1
  have HC1 := Aside0.mk hc1
  clear hr1 hc1
  have H : (if (l0.length : Int) = (l1.length : Int) then (cracknelref08_Same.l0 k l0 l1 0) else (some false)) = some r := h
  clear h
  by_cases c3 : (l0.length : Int) = (l1.length : Int)
  · rw [if_pos c3] at H
    have c3b0 : ((l0.length : Int) == (l1.length : Int)) = true := beq_iff_eq.mpr c3
    have c3b1 : ((l0.length : Int) != (l1.length : Int)) = false := bne_eq_false_iff_eq.mpr c3
    have c3b2 : (l0.length == l1.length) = true := by first | simpa using c3 | (simp at c3 ⊢; omega)
    clear c3
    have H' := Aside0.mk H
    clear H
    go_enter Tryd.func44, Tryd.ntmps44
    go_wp2
    repeat (go_quiet (fail); try go_wp2)
    go_loopg [5] k (fun kq v5 w' => ∃ (x5_1 : Int), v5 = .int .i64 x5_1 ∧ Aside0 (cracknelref08_Same.l0 kq l0 l1 x5_1 = some r) ∧ Aside0 (kq ≤ k) ∧ Drawn0 w w')
    case atStart => exact ⟨(0), (by first | rfl | (simp; done) | (simp [*]; done)), H', ⟨Nat.le_refl _⟩, by repeat (first | exact Drawn0.refl _ | apply Drawn0.step)⟩
    case round =>
      clear H'
      try clear c1
      try clear p2
      try clear c3
      try clear c3b0
      try clear c3b1
      try clear c3b2
      obtain ⟨x5_1, rfl, HA, HK1, ⟨m1, rfl⟩⟩ := hrel
      cases gk with
      | zero => exact absurd HA.out (by simp [cracknelref08_Same.l0])
      | succ k1 =>
        have H := HA.out
        clear HA
        simp only [cracknelref08_Same.l0] at H
        by_cases c4 : x5_1 < (l0.length : Int)
        · rw [if_pos c4] at H
          have c4b0 : decide (x5_1 < (l0.length : Int)) = true := decide_eq_true c4
          clear c4
          by_cases c5 : 0 ≤ x5_1
          · rw [if_pos c5] at H
            have c5b0 : decide (0 ≤ x5_1) = true := decide_eq_true c5
            clear c5
            by_cases c6 : x5_1 < (l1.length : Int)
            · rw [if_pos c6] at H
              have c6b0 : decide (x5_1 < (l1.length : Int)) = true := decide_eq_true c6
              clear c6
              by_cases c7 : (!(((rd_T81 l0 x5_1).f0) == ((rd_T81 l1 x5_1).f0)) || (!(((rd_T81 l0 x5_1).f1) == ((rd_T81 l1 x5_1).f1)) || (!((((rd_T81 l0 x5_1).f2).toList) == (((rd_T81 l1 x5_1).f2).toList)) || (!((((rd_T81 l0 x5_1).f3).toList) == (((rd_T81 l1 x5_1).f3).toList)) || (!(((rd_T81 l0 x5_1).f4) == ((rd_T81 l1 x5_1).f4))))))) = true
              · rw [if_pos c7] at H
                have c7b0 : (!(((rd_T81 l0 x5_1).f0) == ((rd_T81 l1 x5_1).f0)) || (!(((rd_T81 l0 x5_1).f1) == ((rd_T81 l1 x5_1).f1)) || (!((((rd_T81 l0 x5_1).f2).toList) == (((rd_T81 l1 x5_1).f2).toList)) || (!((((rd_T81 l0 x5_1).f3).toList) == (((rd_T81 l1 x5_1).f3).toList)) || (!(((rd_T81 l0 x5_1).f4) == ((rd_T81 l1 x5_1).f4))))))) = true := c7
                clear c7
                obtain rfl := Option.some.inj H
                have p124 : 0 ≤ (x5_1 : Int) := of_decide_eq_true (by first | (with_reducible assumption) | assumption)
                have q124 : x5_1 < (l0.length : Int) := of_decide_eq_true (by first | (with_reducible assumption) | assumption)
                obtain ⟨ad124, e124, hx124_0, hx124_1, hx124_2, hx124_3, hx124_4⟩ := at_T81 HR0.out x5_1 p124 q124
                cases e124
                replace p124 := eq_true p124
                replace q124 := eq_true q124
                have p125 : 0 ≤ (x5_1 : Int) := of_decide_eq_true (by first | (with_reducible assumption) | assumption)
                have q125 : x5_1 < (l1.length : Int) := of_decide_eq_true (by first | (with_reducible assumption) | assumption)
                obtain ⟨ad125, e125, hx125_0, hx125_1, hx125_2, hx125_3, hx125_4⟩ := at_T81 HR1.out x5_1 p125 q125
                cases e125
                replace p125 := eq_true p125
                replace q125 := eq_true q125
                go_wp2
                repeat (go_quiet (fail); try go_wp2)
                go_ret
                exact ⟨by first | rfl | (simp; done) | (simp [*]; done), by repeat (first | exact Drawn0.refl _ | apply Drawn0.step)⟩
              · rw [if_neg c7] at H
                have c7b0 : (!(((rd_T81 l0 x5_1).f0) == ((rd_T81 l1 x5_1).f0)) || (!(((rd_T81 l0 x5_1).f1) == ((rd_T81 l1 x5_1).f1)) || (!((((rd_T81 l0 x5_1).f2).toList) == (((rd_T81 l1 x5_1).f2).toList)) || (!((((rd_T81 l0 x5_1).f3).toList) == (((rd_T81 l1 x5_1).f3).toList)) || (!(((rd_T81 l0 x5_1).f4) == ((rd_T81 l1 x5_1).f4))))))) = false := by simpa using c7
                clear c7
                have H' := Aside0.mk H
                clear H
                have p124 : 0 ≤ (x5_1 : Int) := of_decide_eq_true (by first | (with_reducible assumption) | assumption)
                have q124 : x5_1 < (l0.length : Int) := of_decide_eq_true (by first | (with_reducible assumption) | assumption)
                obtain ⟨ad124, e124, hx124_0, hx124_1, hx124_2, hx124_3, hx124_4⟩ := at_T81 HR0.out x5_1 p124 q124
                cases e124
                replace p124 := eq_true p124
                replace q124 := eq_true q124
                have p125 : 0 ≤ (x5_1 : Int) := of_decide_eq_true (by first | (with_reducible assumption) | assumption)
                have q125 : x5_1 < (l1.length : Int) := of_decide_eq_true (by first | (with_reducible assumption) | assumption)
                obtain ⟨ad125, e125, hx125_0, hx125_1, hx125_2, hx125_3, hx125_4⟩ := at_T81 HR1.out x5_1 p125 q125
                cases e125
                replace p125 := eq_true p125
                replace q125 := eq_true q125
                go_wp2
                repeat (go_quiet (fail); try go_wp2)
                go_roundg k1
                case measure => have := HK1.out; omega
                case rel => exact ⟨(wrap64 (x5_1 + 1)), (by first | rfl | (simp; done) | (simp [*]; done)), H', ⟨by have := HK1.out; omega⟩, by repeat (first | exact Drawn0.refl _ | apply Drawn0.step)⟩
            · rw [if_neg c6] at H
              exact absurd H (by simp)
          · rw [if_neg c5] at H
            exact absurd H (by simp)
        · rw [if_neg c4] at H
          have c4b0 : decide (x5_1 < (l0.length : Int)) = false := decide_eq_false c4
          clear c4
          obtain rfl := Option.some.inj H
          go_wp2
          repeat (go_quiet (fail); try go_wp2)
          go_ret
          exact ⟨by first | rfl | (simp; done) | (simp [*]; done), by repeat (first | exact Drawn0.refl _ | apply Drawn0.step)⟩
  · rw [if_neg c3] at H
    have c3b0 : ((l0.length : Int) == (l1.length : Int)) = false := beq_eq_false_iff_ne.mpr c3
    have c3b1 : ((l0.length : Int) != (l1.length : Int)) = true := bne_iff_ne.mpr c3
    have c3b2 : (l0.length == l1.length) = false := by first | simpa using c3 | (simp at c3 ⊢; omega)
    obtain rfl := Option.some.inj H
    go_enter Tryd.func44, Tryd.ntmps44
    go_wp2
    repeat (go_quiet (fail); try go_wp2)
    go_ret
    exact ⟨by first | rfl | (simp; done) | (simp [*]; done), by repeat (first | exact Drawn0.refl _ | apply Drawn0.step)⟩
end Go.Proofs.YthhmmaihbjhhgaaDoor.J2
namespace Go.Proofs.YthhmmaihbjhhgaaDoor.Giv
open Go.RowKit Go.Proofs.YthhmmaihbjhhgaaDoorW.PrintWords Go.Proofs.YthhmmaihbjhhgaaDoorW.PrintLast Go.Proofs.YthhmmaihbjhhgaaDoorW.PrintMore
open Go.Proofs.YthhmmaihbjhhgaaDoor.U1 Go.Proofs.YthhmmaihbjhhgaaDoor.Q1 Go.Proofs.YthhmmaihbjhhgaaDoor.J0 Go.Proofs.YthhmmaihbjhhgaaDoor.J1 Go.Proofs.YthhmmaihbjhhgaaDoor.J2
set_option linter.unusedSimpArgs false
set_option linter.unusedVariables false
set_option maxHeartbeats 4000000
set_option maxRecDepth 100000
theorem bl_1 (s : ByteArray) (p q : Int) (w : World) (ht : JTabs w) (h1 : 500 < s.size) : Ret 17 #[.string s, .int .i64 p, .int .i64 q] w := by
  have HT := Aside0.mk ht
  have c0 : decide (500 < (s.size : Int)) = true := decide_eq_true (by omega)
  have HB := Aside0.mk (Below.refl w.heap.size w)
  clear ht
  go_enter Tryd.func17, Tryd.ntmps17
  go_wp2_with (first
    | (go_at_call 40; with_reducible refine (cracknellaw08_alive.calls true _ rfl HT.out).mono ?_; rintro e w1 ⟨rfl, hb⟩; have HB := Aside0.mk hb))
  go_ret
  exact ⟨rfl, HB.out⟩
theorem bl_2 (s : ByteArray) (p q : Int) (w : World) (ht : JTabs w) (h1 : ¬ 500 < s.size) (h2 : p < 0) : Ret 17 #[.string s, .int .i64 p, .int .i64 q] w := by
  have HT := Aside0.mk ht
  have c0 : decide (500 < (s.size : Int)) = false := decide_eq_false (by omega)
  have c1 : decide (p < 0) = true := decide_eq_true (by omega)
  have HB := Aside0.mk (Below.refl w.heap.size w)
  clear ht
  go_enter Tryd.func17, Tryd.ntmps17
  go_wp2_with (first
    | (go_at_call 40; with_reducible refine (cracknellaw08_alive.calls true _ rfl HT.out).mono ?_; rintro e w1 ⟨rfl, hb⟩; have HB := Aside0.mk hb))
  go_ret
  exact ⟨rfl, HB.out⟩
theorem bl_3 (s : ByteArray) (p q : Int) (w : World) (ht : JTabs w) (h1 : ¬ 500 < s.size) (h2 : ¬ p < 0) (h3 : 9 < p) : Ret 17 #[.string s, .int .i64 p, .int .i64 q] w := by
  have HT := Aside0.mk ht
  have c0 : decide (500 < (s.size : Int)) = false := decide_eq_false (by omega)
  have c1 : decide (p < 0) = false := decide_eq_false (by omega)
  have c2 : decide (9 < p) = true := decide_eq_true (by omega)
  have HB := Aside0.mk (Below.refl w.heap.size w)
  clear ht
  go_enter Tryd.func17, Tryd.ntmps17
  go_wp2_with (first
    | (go_at_call 40; with_reducible refine (cracknellaw08_alive.calls true _ rfl HT.out).mono ?_; rintro e w1 ⟨rfl, hb⟩; have HB := Aside0.mk hb))
  go_ret
  exact ⟨rfl, HB.out⟩
theorem bl_4 (s : ByteArray) (p q : Int) (w : World) (ht : JTabs w) (h1 : ¬ 500 < s.size) (h2 : ¬ p < 0) (h3 : ¬ 9 < p) (h4 : q < 0) : Ret 17 #[.string s, .int .i64 p, .int .i64 q] w := by
  have HT := Aside0.mk ht
  have c0 : decide (500 < (s.size : Int)) = false := decide_eq_false (by omega)
  have c1 : decide (p < 0) = false := decide_eq_false (by omega)
  have c2 : decide (9 < p) = false := decide_eq_false (by omega)
  have c3 : decide (q < 0) = true := decide_eq_true (by omega)
  have HB := Aside0.mk (Below.refl w.heap.size w)
  clear ht
  go_enter Tryd.func17, Tryd.ntmps17
  go_wp2_with (first
    | (go_at_call 40; with_reducible refine (cracknellaw08_alive.calls true _ rfl HT.out).mono ?_; rintro e w1 ⟨rfl, hb⟩; have HB := Aside0.mk hb))
  go_ret
  exact ⟨rfl, HB.out⟩
theorem bl_5 (s : ByteArray) (p q : Int) (w : World) (ht : JTabs w) (h1 : ¬ 500 < s.size) (h2 : ¬ p < 0) (h3 : ¬ 9 < p) (h4 : ¬ q < 0) (h5 : 9 < q) : Ret 17 #[.string s, .int .i64 p, .int .i64 q] w := by
  have HT := Aside0.mk ht
  have c0 : decide (500 < (s.size : Int)) = false := decide_eq_false (by omega)
  have c1 : decide (p < 0) = false := decide_eq_false (by omega)
  have c2 : decide (9 < p) = false := decide_eq_false (by omega)
  have c3 : decide (q < 0) = false := decide_eq_false (by omega)
  have c4 : decide (9 < q) = true := decide_eq_true (by omega)
  have HB := Aside0.mk (Below.refl w.heap.size w)
  clear ht
  go_enter Tryd.func17, Tryd.ntmps17
  go_wp2_with (first
    | (go_at_call 40; with_reducible refine (cracknellaw08_alive.calls true _ rfl HT.out).mono ?_; rintro e w1 ⟨rfl, hb⟩; have HB := Aside0.mk hb))
  go_ret
  exact ⟨rfl, HB.out⟩
theorem bl_err (k : Nat) (s a b : ByteArray) (p q : Nat) (w : World) (ht : JTabs w) (hs : s.size ≤ 500) (hp : p ≤ 9) (hq : q ≤ 9) (ha : (⟨#[32, 9, 10, 13, 13, 10, 9, 32, 32]⟩ : ByteArray).extract 0 p = a) (hb : (⟨#[32, 9, 10, 13, 13, 10, 9, 32, 32]⟩ : ByteArray).extract 0 q = b) (za : a.size ≤ 9) (zb : b.size ≤ 9)
    (L M : List S59) (e f g : Int) (hL : L.length ≤ 1099511627776) (h5 : json_Parse.f k s = some (L, e)) (h6 : json_Parse.f k (a ++ s) = some (L, e)) (h7 : json_Parse.f k (a ++ s ++ b) = some (L, f)) (h8 : json_Parse.f k ((⟨#[91]⟩ : ByteArray) ++ a ++ s ++ b ++ ⟨#[93]⟩) = some (M, g))
    (hO : cracknellaw08_Olds.f L = some (L.map toO)) (hS : cracknelref08_Same.f k (L.map toO) (L.map toO) = some true) (he0 : e ≠ 0) (hf0 : f ≠ 0) : Ret 17 #[.string s, .int .i64 (p : Int), .int .i64 (q : Int)] w := by
  have HT := Aside0.mk ht
  have F5 := Aside0.mk h5
  have F6 := Aside0.mk h6
  have F7 := Aside0.mk h7
  have F8 := Aside0.mk h8
  obtain ⟨LO, hLO⟩ : ∃ x, L.map toO = x := ⟨_, rfl⟩
  rw [hLO] at hO hS
  have FO := Aside0.mk hO
  have FS := Aside0.mk hS
  have HA := Aside0.mk ha
  have HBb := Aside0.mk hb
  have c0 : decide (500 < (s.size : Int)) = false := decide_eq_false (by omega)
  have c1 : decide ((p : Int) < 0) = false := decide_eq_false (by omega)
  have c2 : decide (9 < (p : Int)) = false := decide_eq_false (by omega)
  have c3 : decide ((q : Int) < 0) = false := decide_eq_false (by omega)
  have c4 : decide (9 < (q : Int)) = false := decide_eq_false (by omega)
  have c5 : decide (9 < p) = false := decide_eq_false (by omega)
  have c6 : decide (9 < q) = false := decide_eq_false (by omega)
  have d1 : (0 ≤ (p : Int)) = True := eq_true (by omega)
  have d2 : ((p : Int) ≤ 9) = True := eq_true (by omega)
  have d3 : (p ≤ 9) = True := eq_true hp
  have d4 : (0 ≤ (q : Int)) = True := eq_true (by omega)
  have d5 : ((q : Int) ≤ 9) = True := eq_true (by omega)
  have d6 : (q ≤ 9) = True := eq_true hq
  have q1 : (9223372036854775807 < a.size + s.size) = False := eq_false (by omega)
  have q2 : (9223372036854775807 < a.size + s.size + b.size) = False := eq_false (by omega)
  have q3 : (9223372036854775807 < 1 + a.size) = False := eq_false (by omega)
  have q4 : (9223372036854775807 < 1 + a.size + s.size) = False := eq_false (by omega)
  have q5 : (9223372036854775807 < 1 + a.size + s.size + b.size) = False := eq_false (by omega)
  have q6 : (9223372036854775807 < 1 + a.size + s.size + b.size + 1) = False := eq_false (by omega)
  have e0 : (e == 0) = false := beq_eq_false_iff_ne.mpr he0
  have e1 : (e != 0) = true := bne_iff_ne.mpr he0
  have e2 : (e = 0) = False := eq_false he0
  have f0 : (f == 0) = false := beq_eq_false_iff_ne.mpr hf0
  have f1 : (f != 0) = true := bne_iff_ne.mpr hf0
  have f2 : (f = 0) = False := eq_false hf0
  clear ht h5 h6 h7 h8 hO hS hLO ha hb hs hp hq za zb hL he0 hf0
  go_enter Tryd.func17, Tryd.ntmps17
  go_upto_region 4 with (fail)
  refine wp_region_held_drew (S := fun w' => Below w.heap.size w w') (by kernel_rfl) (below_drew (Below.refl _ _)) (fun hHeld => ?_)
  refine wpAnyH_take (i := 0) (oi := { dst := some 42, op := _, type := _, pos := _, after := _, guard := _ }) (v := ?_) rfl (by kernel_rfl) (by kernel_rfl) (by kernel_rfl) (fun _ _ _ h => h) (Or.inl ⟨by rfl, ?_⟩) (by assumption) ?_
  rotate_left
  · intro w hSw
    (try dsimp only at hSw)
    go_simp
    (try with_reducible rfl)
  (try simp only [Act.put, List.setIfInBounds_toArray, List.set_cons_zero, List.set_cons_succ])
  refine wpAnyH_take (i := 1) (oi := { dst := some 43, op := _, type := _, pos := _, after := _, guard := _ }) (v := ?_) rfl (by kernel_rfl) (by kernel_rfl) (by kernel_rfl) (fun _ _ _ h => h) (Or.inl ⟨by rfl, ?_⟩) (by assumption) ?_
  rotate_left
  · intro w hSw
    (try dsimp only at hSw)
    go_simp
    (try with_reducible rfl)
  (try simp only [Act.put, List.setIfInBounds_toArray, List.set_cons_zero, List.set_cons_succ])
  refine wpAnyH_take (i := 2) (oi := { dst := some 44, op := _, type := _, pos := _, after := _, guard := _ }) (v := ?_) rfl (by kernel_rfl) (by kernel_rfl) (by kernel_rfl) (fun _ _ _ h => h) (Or.inl ⟨by rfl, ?_⟩) (by assumption) ?_
  rotate_left
  · intro w hSw
    (try dsimp only at hSw)
    go_simp
    (try with_reducible rfl)
  (try simp only [Act.put, List.setIfInBounds_toArray, List.set_cons_zero, List.set_cons_succ])
  refine wpAnyH_take (i := 3) (oi := { dst := some 45, op := _, type := _, pos := _, after := _, guard := _ }) (v := ?_) rfl (by kernel_rfl) (by kernel_rfl) (by kernel_rfl) (fun _ _ _ h => h) (Or.inl ⟨by rfl, ?_⟩) (by assumption) ?_
  rotate_left
  · intro w hSw
    (try dsimp only at hSw)
    go_simp
    (try with_reducible rfl)
  (try simp only [Act.put, List.setIfInBounds_toArray, List.set_cons_zero, List.set_cons_succ])
  refine wpAnyH_take (i := 4) (oi := { dst := some 46, op := _, type := _, pos := _, after := _, guard := _ }) (v := ?_) rfl (by kernel_rfl) (by kernel_rfl) (by kernel_rfl) (fun _ _ _ h => h) (Or.inl ⟨by rfl, ?_⟩) (by assumption) ?_
  rotate_left
  · intro w hSw
    (try dsimp only at hSw)
    go_simp
    (try with_reducible rfl)
  (try simp only [Act.put, List.setIfInBounds_toArray, List.set_cons_zero, List.set_cons_succ])
  refine wpAnyH_take (i := 5) (oi := { dst := some 47, op := _, type := _, pos := _, after := _, guard := _ }) (v := ?_) rfl (by kernel_rfl) (by kernel_rfl) (by kernel_rfl) (fun _ _ _ h => h) (Or.inl ⟨by rfl, ?_⟩) (by assumption) ?_
  rotate_left
  · intro w hSw
    (try dsimp only at hSw)
    go_simp
    (try with_reducible rfl)
  (try simp only [Act.put, List.setIfInBounds_toArray, List.set_cons_zero, List.set_cons_succ])
  refine wpAnyH_take (i := 6) (oi := { dst := some 8, op := _, type := _, pos := _, after := _, guard := _ }) (v := ?_) rfl (by kernel_rfl) (by kernel_rfl) (by kernel_rfl) (fun _ _ _ h => h) (Or.inl ⟨by rfl, ?_⟩) (by assumption) ?_
  rotate_left
  · intro w hSw
    (try dsimp only at hSw)
    go_simp
    (try with_reducible rfl)
  (try simp only [Act.put, List.setIfInBounds_toArray, List.set_cons_zero, List.set_cons_succ])
  refine wpAnyH_take (i := 7) (oi := { dst := some 9, op := _, type := _, pos := _, after := _, guard := _ }) (v := ?_) rfl (by kernel_rfl) (by kernel_rfl) (by kernel_rfl) (fun _ _ _ h => h) (Or.inl ⟨by rfl, ?_⟩) (by assumption) ?_
  rotate_left
  · intro w hSw
    (try dsimp only at hSw)
    go_simp
    (try with_reducible rfl)
  (try simp only [Act.put, List.setIfInBounds_toArray, List.set_cons_zero, List.set_cons_succ])
  refine wpAnyH_done (by kernel_rfl) ?_ _
  (try rw [HA.out])
  (try rw [HBb.out])
  have HB := Aside0.mk (show Below w.heap.size w w.drew from below_drew (Below.refl _ _))
  go_upto_region 9 with (first
    | (go_at_call 46; (with_reducible refine (json_Parse.calls k s _ _ _ F5.out (HT.out.step HB.out)).mono ?_); rintro e_ w5 ⟨v5, rfl, ho, hb⟩; obtain ⟨A5, c5, rfl⟩ := Kd.R_slice ho; have HC5 := Aside0.mk (Kd.R_reads' ho).2.2; have HL5 := Aside0.mk (Kd.R_reads' ho).2.1; have HB := Aside0.mk (below_step HB.out hb); clear ho hb)
    | (go_at_call 46; (with_reducible refine (json_Parse.calls k (a ++ s) _ _ _ F6.out (HT.out.step HB.out)).mono ?_); rintro e_ w6 ⟨v6, rfl, ho, hb⟩; obtain ⟨A6, c6, rfl⟩ := Kd.R_slice ho; have HC6 := Aside0.mk (Kd.R_reads' ho).2.2; have HL6 := Aside0.mk (Kd.R_reads' ho).2.1; have HC5 := Aside0.mk (Kd.C_below HC5.out hb); have HB := Aside0.mk (below_step HB.out hb); clear ho hb)
    | (go_at_call 46; (with_reducible refine (json_Parse.calls k (a ++ s ++ b) _ _ _ F7.out (HT.out.step HB.out)).mono ?_); rintro e_ w7 ⟨v7, rfl, ho, hb⟩; obtain ⟨A7, c7, rfl⟩ := Kd.R_slice ho; have HC7 := Aside0.mk (Kd.R_reads' ho).2.2; have HL7 := Aside0.mk (Kd.R_reads' ho).2.1; have HC5 := Aside0.mk (Kd.C_below HC5.out hb); have HC6 := Aside0.mk (Kd.C_below HC6.out hb); have HB := Aside0.mk (below_step HB.out hb); clear ho hb)
    | (go_at_call 46; (with_reducible refine (json_Parse.calls k _ _ _ _ F8.out (HT.out.step HB.out)).mono ?_); rintro e_ w8 ⟨v8, rfl, ho, hb⟩; obtain ⟨A8, c8, rfl⟩ := Kd.R_slice ho; have HC8 := Aside0.mk (Kd.R_reads' ho).2.2; have HL8 := Aside0.mk (Kd.R_reads' ho).2.1; have HC5 := Aside0.mk (Kd.C_below HC5.out hb); have HC6 := Aside0.mk (Kd.C_below HC6.out hb); have HC7 := Aside0.mk (Kd.C_below HC7.out hb); have HB := Aside0.mk (below_step HB.out hb); clear ho hb))
  have HB8 := Aside0.mk (Below.refl w8.heap.size w8)
  go_upto_region 11 with (first
    | (go_at_call 45; (with_reducible refine (cracknellaw08_Olds.calls A6 c6 L LO _ (Kd.C_below HC6.out HB8.out) HL6.out FO.out).mono ?_); rintro e_ w9 ⟨v9, rfl, ho, hb⟩; obtain ⟨B6, b6, rfl⟩ := Kd.R_slice ho; have HD6 := Aside0.mk (Kd.R_reads' ho).2.2; have HM6 := Aside0.mk (Kd.R_reads' ho).2.1; have HB8 := Aside0.mk (below_step HB8.out hb); clear ho hb)
    | (go_at_call 45; (with_reducible refine (cracknellaw08_Olds.calls A5 c5 L LO _ (Kd.C_below HC5.out HB8.out) HL5.out FO.out).mono ?_); rintro e_ w10 ⟨v10, rfl, ho, hb⟩; obtain ⟨B5, b5, rfl⟩ := Kd.R_slice ho; have HD5 := Aside0.mk (Kd.R_reads' ho).2.2; have HM5 := Aside0.mk (Kd.R_reads' ho).2.1; (try have HD6 := Aside0.mk (Kd.C_below HD6.out hb)); (try have HD7 := Aside0.mk (Kd.C_below HD7.out hb)); have HB8 := Aside0.mk (below_step HB8.out hb); clear ho hb)
    | (go_at_call 45; (with_reducible refine (cracknellaw08_Olds.calls A7 c7 L LO _ (Kd.C_below HC7.out HB8.out) HL7.out FO.out).mono ?_); rintro e_ w9 ⟨v9, rfl, ho, hb⟩; obtain ⟨B7, b7, rfl⟩ := Kd.R_slice ho; have HD7 := Aside0.mk (Kd.R_reads' ho).2.2; have HM7 := Aside0.mk (Kd.R_reads' ho).2.1; have HB8 := Aside0.mk (below_step HB8.out hb); clear ho hb)
    | (go_at_call 44; (with_reducible refine (cracknelref08_Same.calls k B6 b6 LO B5 b5 LO true _ HD6.out HM6.out HD5.out HM5.out FS.out).mono ?_); rintro e_ w11 ⟨rfl, ⟨nd, rfl⟩⟩; have HB8 := Aside0.mk (pw_below_drewN HB8.out nd))
    | (go_at_call 44; (with_reducible refine (cracknelref08_Same.calls k B7 b7 LO B5 b5 LO true _ HD7.out HM7.out HD5.out HM5.out FS.out).mono ?_); rintro e_ w11 ⟨rfl, ⟨nd, rfl⟩⟩; have HB8 := Aside0.mk (pw_below_drewN HB8.out nd)))
  go_wp2_with (first
    | (go_at_call 40; (with_reducible refine (cracknellaw08_alive.calls true _ rfl (HT.out.step (below_step HB.out HB8.out))).mono ?_); rintro e_ w12 ⟨rfl, hb⟩; have HB8 := Aside0.mk (below_step HB8.out hb); clear hb)
    | fail)
  go_ret
  exact ⟨rfl, below_step HB.out HB8.out⟩
theorem bl_deep (k : Nat) (s a b : ByteArray) (p q : Nat) (w : World) (ht : JTabs w) (hs : s.size ≤ 500) (hp : p ≤ 9) (hq : q ≤ 9) (ha : (⟨#[32, 9, 10, 13, 13, 10, 9, 32, 32]⟩ : ByteArray).extract 0 p = a) (hb : (⟨#[32, 9, 10, 13, 13, 10, 9, 32, 32]⟩ : ByteArray).extract 0 q = b) (za : a.size ≤ 9) (zb : b.size ≤ 9)
    (L M : List S59) (e f g : Int) (hL : L.length ≤ 1099511627776) (h5 : json_Parse.f k s = some (L, e)) (h6 : json_Parse.f k (a ++ s) = some (L, e)) (h7 : json_Parse.f k (a ++ s ++ b) = some (L, f)) (h8 : json_Parse.f k ((⟨#[91]⟩ : ByteArray) ++ a ++ s ++ b ++ ⟨#[93]⟩) = some (M, g))
    (hO : cracknellaw08_Olds.f L = some (L.map toO)) (hS : cracknelref08_Same.f k (L.map toO) (L.map toO) = some true) (he0 : e = 0) (hf0 : f = 0) (hM : M = []) (hg : g = 81) : Ret 17 #[.string s, .int .i64 (p : Int), .int .i64 (q : Int)] w := by
  have HT := Aside0.mk ht
  have F5 := Aside0.mk h5
  have F6 := Aside0.mk h6
  have F7 := Aside0.mk h7
  have F8 := Aside0.mk h8
  obtain ⟨LO, hLO⟩ : ∃ x, L.map toO = x := ⟨_, rfl⟩
  rw [hLO] at hO hS
  have FO := Aside0.mk hO
  have FS := Aside0.mk hS
  have HA := Aside0.mk ha
  have HBb := Aside0.mk hb
  have c0 : decide (500 < (s.size : Int)) = false := decide_eq_false (by omega)
  have c1 : decide ((p : Int) < 0) = false := decide_eq_false (by omega)
  have c2 : decide (9 < (p : Int)) = false := decide_eq_false (by omega)
  have c3 : decide ((q : Int) < 0) = false := decide_eq_false (by omega)
  have c4 : decide (9 < (q : Int)) = false := decide_eq_false (by omega)
  have c5 : decide (9 < p) = false := decide_eq_false (by omega)
  have c6 : decide (9 < q) = false := decide_eq_false (by omega)
  have d1 : (0 ≤ (p : Int)) = True := eq_true (by omega)
  have d2 : ((p : Int) ≤ 9) = True := eq_true (by omega)
  have d3 : (p ≤ 9) = True := eq_true hp
  have d4 : (0 ≤ (q : Int)) = True := eq_true (by omega)
  have d5 : ((q : Int) ≤ 9) = True := eq_true (by omega)
  have d6 : (q ≤ 9) = True := eq_true hq
  have q1 : (9223372036854775807 < a.size + s.size) = False := eq_false (by omega)
  have q2 : (9223372036854775807 < a.size + s.size + b.size) = False := eq_false (by omega)
  have q3 : (9223372036854775807 < 1 + a.size) = False := eq_false (by omega)
  have q4 : (9223372036854775807 < 1 + a.size + s.size) = False := eq_false (by omega)
  have q5 : (9223372036854775807 < 1 + a.size + s.size + b.size) = False := eq_false (by omega)
  have q6 : (9223372036854775807 < 1 + a.size + s.size + b.size + 1) = False := eq_false (by omega)
  subst he0 hf0 hM hg
  clear ht h5 h6 h7 h8 hO hS hLO ha hb hs hp hq za zb hL 
  go_enter Tryd.func17, Tryd.ntmps17
  go_upto_region 4 with (fail)
  refine wp_region_held_drew (S := fun w' => Below w.heap.size w w') (by kernel_rfl) (below_drew (Below.refl _ _)) (fun hHeld => ?_)
  refine wpAnyH_take (i := 0) (oi := { dst := some 42, op := _, type := _, pos := _, after := _, guard := _ }) (v := ?_) rfl (by kernel_rfl) (by kernel_rfl) (by kernel_rfl) (fun _ _ _ h => h) (Or.inl ⟨by rfl, ?_⟩) (by assumption) ?_
  rotate_left
  · intro w hSw
    (try dsimp only at hSw)
    go_simp
    (try with_reducible rfl)
  (try simp only [Act.put, List.setIfInBounds_toArray, List.set_cons_zero, List.set_cons_succ])
  refine wpAnyH_take (i := 1) (oi := { dst := some 43, op := _, type := _, pos := _, after := _, guard := _ }) (v := ?_) rfl (by kernel_rfl) (by kernel_rfl) (by kernel_rfl) (fun _ _ _ h => h) (Or.inl ⟨by rfl, ?_⟩) (by assumption) ?_
  rotate_left
  · intro w hSw
    (try dsimp only at hSw)
    go_simp
    (try with_reducible rfl)
  (try simp only [Act.put, List.setIfInBounds_toArray, List.set_cons_zero, List.set_cons_succ])
  refine wpAnyH_take (i := 2) (oi := { dst := some 44, op := _, type := _, pos := _, after := _, guard := _ }) (v := ?_) rfl (by kernel_rfl) (by kernel_rfl) (by kernel_rfl) (fun _ _ _ h => h) (Or.inl ⟨by rfl, ?_⟩) (by assumption) ?_
  rotate_left
  · intro w hSw
    (try dsimp only at hSw)
    go_simp
    (try with_reducible rfl)
  (try simp only [Act.put, List.setIfInBounds_toArray, List.set_cons_zero, List.set_cons_succ])
  refine wpAnyH_take (i := 3) (oi := { dst := some 45, op := _, type := _, pos := _, after := _, guard := _ }) (v := ?_) rfl (by kernel_rfl) (by kernel_rfl) (by kernel_rfl) (fun _ _ _ h => h) (Or.inl ⟨by rfl, ?_⟩) (by assumption) ?_
  rotate_left
  · intro w hSw
    (try dsimp only at hSw)
    go_simp
    (try with_reducible rfl)
  (try simp only [Act.put, List.setIfInBounds_toArray, List.set_cons_zero, List.set_cons_succ])
  refine wpAnyH_take (i := 4) (oi := { dst := some 46, op := _, type := _, pos := _, after := _, guard := _ }) (v := ?_) rfl (by kernel_rfl) (by kernel_rfl) (by kernel_rfl) (fun _ _ _ h => h) (Or.inl ⟨by rfl, ?_⟩) (by assumption) ?_
  rotate_left
  · intro w hSw
    (try dsimp only at hSw)
    go_simp
    (try with_reducible rfl)
  (try simp only [Act.put, List.setIfInBounds_toArray, List.set_cons_zero, List.set_cons_succ])
  refine wpAnyH_take (i := 5) (oi := { dst := some 47, op := _, type := _, pos := _, after := _, guard := _ }) (v := ?_) rfl (by kernel_rfl) (by kernel_rfl) (by kernel_rfl) (fun _ _ _ h => h) (Or.inl ⟨by rfl, ?_⟩) (by assumption) ?_
  rotate_left
  · intro w hSw
    (try dsimp only at hSw)
    go_simp
    (try with_reducible rfl)
  (try simp only [Act.put, List.setIfInBounds_toArray, List.set_cons_zero, List.set_cons_succ])
  refine wpAnyH_take (i := 6) (oi := { dst := some 8, op := _, type := _, pos := _, after := _, guard := _ }) (v := ?_) rfl (by kernel_rfl) (by kernel_rfl) (by kernel_rfl) (fun _ _ _ h => h) (Or.inl ⟨by rfl, ?_⟩) (by assumption) ?_
  rotate_left
  · intro w hSw
    (try dsimp only at hSw)
    go_simp
    (try with_reducible rfl)
  (try simp only [Act.put, List.setIfInBounds_toArray, List.set_cons_zero, List.set_cons_succ])
  refine wpAnyH_take (i := 7) (oi := { dst := some 9, op := _, type := _, pos := _, after := _, guard := _ }) (v := ?_) rfl (by kernel_rfl) (by kernel_rfl) (by kernel_rfl) (fun _ _ _ h => h) (Or.inl ⟨by rfl, ?_⟩) (by assumption) ?_
  rotate_left
  · intro w hSw
    (try dsimp only at hSw)
    go_simp
    (try with_reducible rfl)
  (try simp only [Act.put, List.setIfInBounds_toArray, List.set_cons_zero, List.set_cons_succ])
  refine wpAnyH_done (by kernel_rfl) ?_ _
  (try rw [HA.out])
  (try rw [HBb.out])
  have HB := Aside0.mk (show Below w.heap.size w w.drew from below_drew (Below.refl _ _))
  go_upto_region 9 with (first
    | (go_at_call 46; (with_reducible refine (json_Parse.calls k s _ _ _ F5.out (HT.out.step HB.out)).mono ?_); rintro e_ w5 ⟨v5, rfl, ho, hb⟩; obtain ⟨A5, c5, rfl⟩ := Kd.R_slice ho; have HC5 := Aside0.mk (Kd.R_reads' ho).2.2; have HL5 := Aside0.mk (Kd.R_reads' ho).2.1; have HB := Aside0.mk (below_step HB.out hb); clear ho hb)
    | (go_at_call 46; (with_reducible refine (json_Parse.calls k (a ++ s) _ _ _ F6.out (HT.out.step HB.out)).mono ?_); rintro e_ w6 ⟨v6, rfl, ho, hb⟩; obtain ⟨A6, c6, rfl⟩ := Kd.R_slice ho; have HC6 := Aside0.mk (Kd.R_reads' ho).2.2; have HL6 := Aside0.mk (Kd.R_reads' ho).2.1; have HC5 := Aside0.mk (Kd.C_below HC5.out hb); have HB := Aside0.mk (below_step HB.out hb); clear ho hb)
    | (go_at_call 46; (with_reducible refine (json_Parse.calls k (a ++ s ++ b) _ _ _ F7.out (HT.out.step HB.out)).mono ?_); rintro e_ w7 ⟨v7, rfl, ho, hb⟩; obtain ⟨A7, c7, rfl⟩ := Kd.R_slice ho; have HC7 := Aside0.mk (Kd.R_reads' ho).2.2; have HL7 := Aside0.mk (Kd.R_reads' ho).2.1; have HC5 := Aside0.mk (Kd.C_below HC5.out hb); have HC6 := Aside0.mk (Kd.C_below HC6.out hb); have HB := Aside0.mk (below_step HB.out hb); clear ho hb)
    | (go_at_call 46; (with_reducible refine (json_Parse.calls k _ _ _ _ F8.out (HT.out.step HB.out)).mono ?_); rintro e_ w8 ⟨v8, rfl, ho, hb⟩; obtain ⟨A8, c8, rfl⟩ := Kd.R_slice ho; have HC8 := Aside0.mk (Kd.R_reads' ho).2.2; have HL8 := Aside0.mk (Kd.R_reads' ho).2.1; have HC5 := Aside0.mk (Kd.C_below HC5.out hb); have HC6 := Aside0.mk (Kd.C_below HC6.out hb); have HC7 := Aside0.mk (Kd.C_below HC7.out hb); have HB := Aside0.mk (below_step HB.out hb); clear ho hb))
  have HB8 := Aside0.mk (Below.refl w8.heap.size w8)
  go_upto_region 11 with (first
    | (go_at_call 45; (with_reducible refine (cracknellaw08_Olds.calls A6 c6 L LO _ (Kd.C_below HC6.out HB8.out) HL6.out FO.out).mono ?_); rintro e_ w9 ⟨v9, rfl, ho, hb⟩; obtain ⟨B6, b6, rfl⟩ := Kd.R_slice ho; have HD6 := Aside0.mk (Kd.R_reads' ho).2.2; have HM6 := Aside0.mk (Kd.R_reads' ho).2.1; have HB8 := Aside0.mk (below_step HB8.out hb); clear ho hb)
    | (go_at_call 45; (with_reducible refine (cracknellaw08_Olds.calls A5 c5 L LO _ (Kd.C_below HC5.out HB8.out) HL5.out FO.out).mono ?_); rintro e_ w10 ⟨v10, rfl, ho, hb⟩; obtain ⟨B5, b5, rfl⟩ := Kd.R_slice ho; have HD5 := Aside0.mk (Kd.R_reads' ho).2.2; have HM5 := Aside0.mk (Kd.R_reads' ho).2.1; (try have HD6 := Aside0.mk (Kd.C_below HD6.out hb)); (try have HD7 := Aside0.mk (Kd.C_below HD7.out hb)); have HB8 := Aside0.mk (below_step HB8.out hb); clear ho hb)
    | (go_at_call 45; (with_reducible refine (cracknellaw08_Olds.calls A7 c7 L LO _ (Kd.C_below HC7.out HB8.out) HL7.out FO.out).mono ?_); rintro e_ w9 ⟨v9, rfl, ho, hb⟩; obtain ⟨B7, b7, rfl⟩ := Kd.R_slice ho; have HD7 := Aside0.mk (Kd.R_reads' ho).2.2; have HM7 := Aside0.mk (Kd.R_reads' ho).2.1; have HB8 := Aside0.mk (below_step HB8.out hb); clear ho hb)
    | (go_at_call 44; (with_reducible refine (cracknelref08_Same.calls k B6 b6 LO B5 b5 LO true _ HD6.out HM6.out HD5.out HM5.out FS.out).mono ?_); rintro e_ w11 ⟨rfl, ⟨nd, rfl⟩⟩; have HB8 := Aside0.mk (pw_below_drewN HB8.out nd))
    | (go_at_call 44; (with_reducible refine (cracknelref08_Same.calls k B7 b7 LO B5 b5 LO true _ HD7.out HM7.out HD5.out HM5.out FS.out).mono ?_); rintro e_ w11 ⟨rfl, ⟨nd, rfl⟩⟩; have HB8 := Aside0.mk (pw_below_drewN HB8.out nd)))
  go_wp2_with (first
    | (go_at_call 40; (with_reducible refine (cracknellaw08_alive.calls true _ rfl (HT.out.step (below_step HB.out HB8.out))).mono ?_); rintro e_ w12 ⟨rfl, hb⟩; have HB8 := Aside0.mk (below_step HB8.out hb); clear hb)
    | fail)
  go_ret
  exact ⟨rfl, below_step HB.out HB8.out⟩
theorem bl_ok (k : Nat) (s a b : ByteArray) (p q : Nat) (w : World) (ht : JTabs w) (hs : s.size ≤ 500) (hp : p ≤ 9) (hq : q ≤ 9) (ha : (⟨#[32, 9, 10, 13, 13, 10, 9, 32, 32]⟩ : ByteArray).extract 0 p = a) (hb : (⟨#[32, 9, 10, 13, 13, 10, 9, 32, 32]⟩ : ByteArray).extract 0 q = b) (za : a.size ≤ 9) (zb : b.size ≤ 9)
    (L M : List S59) (e f g : Int) (hL : L.length ≤ 1099511627776) (h5 : json_Parse.f k s = some (L, e)) (h6 : json_Parse.f k (a ++ s) = some (L, e)) (h7 : json_Parse.f k (a ++ s ++ b) = some (L, f)) (h8 : json_Parse.f k ((⟨#[91]⟩ : ByteArray) ++ a ++ s ++ b ++ ⟨#[93]⟩) = some (M, g))
    (hO : cracknellaw08_Olds.f L = some (L.map toO)) (hS : cracknelref08_Same.f k (L.map toO) (L.map toO) = some true) (he0 : e = 0) (hf0 : f = 0) (hg : g = 0) (hM : M.length = L.length + 1) (P Q : ByteArray) (hPz : P.size ≤ 1099511627776) (hP : json_Print.f L = some P) (hQ : json_Print.f M = some Q) (hPQ : (⟨#[91]⟩ : ByteArray) ++ P ++ ⟨#[93]⟩ = Q) : Ret 17 #[.string s, .int .i64 (p : Int), .int .i64 (q : Int)] w := by
  have HT := Aside0.mk ht
  have F5 := Aside0.mk h5
  have F6 := Aside0.mk h6
  have F7 := Aside0.mk h7
  have F8 := Aside0.mk h8
  obtain ⟨LO, hLO⟩ : ∃ x, L.map toO = x := ⟨_, rfl⟩
  rw [hLO] at hO hS
  have FO := Aside0.mk hO
  have FS := Aside0.mk hS
  have HA := Aside0.mk ha
  have HBb := Aside0.mk hb
  have c0 : decide (500 < (s.size : Int)) = false := decide_eq_false (by omega)
  have c1 : decide ((p : Int) < 0) = false := decide_eq_false (by omega)
  have c2 : decide (9 < (p : Int)) = false := decide_eq_false (by omega)
  have c3 : decide ((q : Int) < 0) = false := decide_eq_false (by omega)
  have c4 : decide (9 < (q : Int)) = false := decide_eq_false (by omega)
  have c5 : decide (9 < p) = false := decide_eq_false (by omega)
  have c6 : decide (9 < q) = false := decide_eq_false (by omega)
  have d1 : (0 ≤ (p : Int)) = True := eq_true (by omega)
  have d2 : ((p : Int) ≤ 9) = True := eq_true (by omega)
  have d3 : (p ≤ 9) = True := eq_true hp
  have d4 : (0 ≤ (q : Int)) = True := eq_true (by omega)
  have d5 : ((q : Int) ≤ 9) = True := eq_true (by omega)
  have d6 : (q ≤ 9) = True := eq_true hq
  have q1 : (9223372036854775807 < a.size + s.size) = False := eq_false (by omega)
  have q2 : (9223372036854775807 < a.size + s.size + b.size) = False := eq_false (by omega)
  have q3 : (9223372036854775807 < 1 + a.size) = False := eq_false (by omega)
  have q4 : (9223372036854775807 < 1 + a.size + s.size) = False := eq_false (by omega)
  have q5 : (9223372036854775807 < 1 + a.size + s.size + b.size) = False := eq_false (by omega)
  have q6 : (9223372036854775807 < 1 + a.size + s.size + b.size + 1) = False := eq_false (by omega)
  subst he0 hf0 hg
  have FP := Aside0.mk hP
  have FQ := Aside0.mk hQ
  have m0 : IntKind.i64.wrap ((L.length : Int) + 1) = (M.length : Int) := by rw [i64_w]; unfold wrap64; omega
  have m1 : (M.length = 0) = False := eq_false (by omega)
  have m2 : (M = []) = False := eq_false (fun x => by rw [x] at hM; simp at hM)
  have m3 : ((M.length : Int) == 0) = false := beq_eq_false_iff_ne.mpr (by omega)
  have q7 : (9223372036854775807 < 1 + P.size) = False := eq_false (by omega)
  have q8 : (9223372036854775807 < 1 + P.size + 1) = False := eq_false (by omega)
  have m4 : (Q.toList == ((⟨#[91]⟩ : ByteArray) ++ P ++ ⟨#[93]⟩).toList) = true := by rw [hPQ]; exact beq_self_eq_true _
  clear ht h5 h6 h7 h8 hO hS hLO ha hb hs hp hq za zb hL hM hP hQ hPQ hPz
  go_enter Tryd.func17, Tryd.ntmps17
  go_upto_region 4 with (fail)
  refine wp_region_held_drew (S := fun w' => Below w.heap.size w w') (by kernel_rfl) (below_drew (Below.refl _ _)) (fun hHeld => ?_)
  refine wpAnyH_take (i := 0) (oi := { dst := some 42, op := _, type := _, pos := _, after := _, guard := _ }) (v := ?_) rfl (by kernel_rfl) (by kernel_rfl) (by kernel_rfl) (fun _ _ _ h => h) (Or.inl ⟨by rfl, ?_⟩) (by assumption) ?_
  rotate_left
  · intro w hSw
    (try dsimp only at hSw)
    go_simp
    (try with_reducible rfl)
  (try simp only [Act.put, List.setIfInBounds_toArray, List.set_cons_zero, List.set_cons_succ])
  refine wpAnyH_take (i := 1) (oi := { dst := some 43, op := _, type := _, pos := _, after := _, guard := _ }) (v := ?_) rfl (by kernel_rfl) (by kernel_rfl) (by kernel_rfl) (fun _ _ _ h => h) (Or.inl ⟨by rfl, ?_⟩) (by assumption) ?_
  rotate_left
  · intro w hSw
    (try dsimp only at hSw)
    go_simp
    (try with_reducible rfl)
  (try simp only [Act.put, List.setIfInBounds_toArray, List.set_cons_zero, List.set_cons_succ])
  refine wpAnyH_take (i := 2) (oi := { dst := some 44, op := _, type := _, pos := _, after := _, guard := _ }) (v := ?_) rfl (by kernel_rfl) (by kernel_rfl) (by kernel_rfl) (fun _ _ _ h => h) (Or.inl ⟨by rfl, ?_⟩) (by assumption) ?_
  rotate_left
  · intro w hSw
    (try dsimp only at hSw)
    go_simp
    (try with_reducible rfl)
  (try simp only [Act.put, List.setIfInBounds_toArray, List.set_cons_zero, List.set_cons_succ])
  refine wpAnyH_take (i := 3) (oi := { dst := some 45, op := _, type := _, pos := _, after := _, guard := _ }) (v := ?_) rfl (by kernel_rfl) (by kernel_rfl) (by kernel_rfl) (fun _ _ _ h => h) (Or.inl ⟨by rfl, ?_⟩) (by assumption) ?_
  rotate_left
  · intro w hSw
    (try dsimp only at hSw)
    go_simp
    (try with_reducible rfl)
  (try simp only [Act.put, List.setIfInBounds_toArray, List.set_cons_zero, List.set_cons_succ])
  refine wpAnyH_take (i := 4) (oi := { dst := some 46, op := _, type := _, pos := _, after := _, guard := _ }) (v := ?_) rfl (by kernel_rfl) (by kernel_rfl) (by kernel_rfl) (fun _ _ _ h => h) (Or.inl ⟨by rfl, ?_⟩) (by assumption) ?_
  rotate_left
  · intro w hSw
    (try dsimp only at hSw)
    go_simp
    (try with_reducible rfl)
  (try simp only [Act.put, List.setIfInBounds_toArray, List.set_cons_zero, List.set_cons_succ])
  refine wpAnyH_take (i := 5) (oi := { dst := some 47, op := _, type := _, pos := _, after := _, guard := _ }) (v := ?_) rfl (by kernel_rfl) (by kernel_rfl) (by kernel_rfl) (fun _ _ _ h => h) (Or.inl ⟨by rfl, ?_⟩) (by assumption) ?_
  rotate_left
  · intro w hSw
    (try dsimp only at hSw)
    go_simp
    (try with_reducible rfl)
  (try simp only [Act.put, List.setIfInBounds_toArray, List.set_cons_zero, List.set_cons_succ])
  refine wpAnyH_take (i := 6) (oi := { dst := some 8, op := _, type := _, pos := _, after := _, guard := _ }) (v := ?_) rfl (by kernel_rfl) (by kernel_rfl) (by kernel_rfl) (fun _ _ _ h => h) (Or.inl ⟨by rfl, ?_⟩) (by assumption) ?_
  rotate_left
  · intro w hSw
    (try dsimp only at hSw)
    go_simp
    (try with_reducible rfl)
  (try simp only [Act.put, List.setIfInBounds_toArray, List.set_cons_zero, List.set_cons_succ])
  refine wpAnyH_take (i := 7) (oi := { dst := some 9, op := _, type := _, pos := _, after := _, guard := _ }) (v := ?_) rfl (by kernel_rfl) (by kernel_rfl) (by kernel_rfl) (fun _ _ _ h => h) (Or.inl ⟨by rfl, ?_⟩) (by assumption) ?_
  rotate_left
  · intro w hSw
    (try dsimp only at hSw)
    go_simp
    (try with_reducible rfl)
  (try simp only [Act.put, List.setIfInBounds_toArray, List.set_cons_zero, List.set_cons_succ])
  refine wpAnyH_done (by kernel_rfl) ?_ _
  (try rw [HA.out])
  (try rw [HBb.out])
  have HB := Aside0.mk (show Below w.heap.size w w.drew from below_drew (Below.refl _ _))
  go_upto_region 9 with (first
    | (go_at_call 46; (with_reducible refine (json_Parse.calls k s _ _ _ F5.out (HT.out.step HB.out)).mono ?_); rintro e_ w5 ⟨v5, rfl, ho, hb⟩; obtain ⟨A5, c5, rfl⟩ := Kd.R_slice ho; have HC5 := Aside0.mk (Kd.R_reads' ho).2.2; have HL5 := Aside0.mk (Kd.R_reads' ho).2.1; have HB := Aside0.mk (below_step HB.out hb); clear ho hb)
    | (go_at_call 46; (with_reducible refine (json_Parse.calls k (a ++ s) _ _ _ F6.out (HT.out.step HB.out)).mono ?_); rintro e_ w6 ⟨v6, rfl, ho, hb⟩; obtain ⟨A6, c6, rfl⟩ := Kd.R_slice ho; have HC6 := Aside0.mk (Kd.R_reads' ho).2.2; have HL6 := Aside0.mk (Kd.R_reads' ho).2.1; have HC5 := Aside0.mk (Kd.C_below HC5.out hb); have HB := Aside0.mk (below_step HB.out hb); clear ho hb)
    | (go_at_call 46; (with_reducible refine (json_Parse.calls k (a ++ s ++ b) _ _ _ F7.out (HT.out.step HB.out)).mono ?_); rintro e_ w7 ⟨v7, rfl, ho, hb⟩; obtain ⟨A7, c7, rfl⟩ := Kd.R_slice ho; have HC7 := Aside0.mk (Kd.R_reads' ho).2.2; have HL7 := Aside0.mk (Kd.R_reads' ho).2.1; have HC5 := Aside0.mk (Kd.C_below HC5.out hb); have HC6 := Aside0.mk (Kd.C_below HC6.out hb); have HB := Aside0.mk (below_step HB.out hb); clear ho hb)
    | (go_at_call 46; (with_reducible refine (json_Parse.calls k _ _ _ _ F8.out (HT.out.step HB.out)).mono ?_); rintro e_ w8 ⟨v8, rfl, ho, hb⟩; obtain ⟨A8, c8, rfl⟩ := Kd.R_slice ho; have HC8 := Aside0.mk (Kd.R_reads' ho).2.2; have HL8 := Aside0.mk (Kd.R_reads' ho).2.1; have HC5 := Aside0.mk (Kd.C_below HC5.out hb); have HC6 := Aside0.mk (Kd.C_below HC6.out hb); have HC7 := Aside0.mk (Kd.C_below HC7.out hb); have HB := Aside0.mk (below_step HB.out hb); clear ho hb))
  have HB8 := Aside0.mk (Below.refl w8.heap.size w8)
  go_upto_region 11 with (first
    | (go_at_call 45; (with_reducible refine (cracknellaw08_Olds.calls A6 c6 L LO _ (Kd.C_below HC6.out HB8.out) HL6.out FO.out).mono ?_); rintro e_ w9 ⟨v9, rfl, ho, hb⟩; obtain ⟨B6, b6, rfl⟩ := Kd.R_slice ho; have HD6 := Aside0.mk (Kd.R_reads' ho).2.2; have HM6 := Aside0.mk (Kd.R_reads' ho).2.1; have HB8 := Aside0.mk (below_step HB8.out hb); clear ho hb)
    | (go_at_call 45; (with_reducible refine (cracknellaw08_Olds.calls A5 c5 L LO _ (Kd.C_below HC5.out HB8.out) HL5.out FO.out).mono ?_); rintro e_ w10 ⟨v10, rfl, ho, hb⟩; obtain ⟨B5, b5, rfl⟩ := Kd.R_slice ho; have HD5 := Aside0.mk (Kd.R_reads' ho).2.2; have HM5 := Aside0.mk (Kd.R_reads' ho).2.1; (try have HD6 := Aside0.mk (Kd.C_below HD6.out hb)); (try have HD7 := Aside0.mk (Kd.C_below HD7.out hb)); have HB8 := Aside0.mk (below_step HB8.out hb); clear ho hb)
    | (go_at_call 45; (with_reducible refine (cracknellaw08_Olds.calls A7 c7 L LO _ (Kd.C_below HC7.out HB8.out) HL7.out FO.out).mono ?_); rintro e_ w9 ⟨v9, rfl, ho, hb⟩; obtain ⟨B7, b7, rfl⟩ := Kd.R_slice ho; have HD7 := Aside0.mk (Kd.R_reads' ho).2.2; have HM7 := Aside0.mk (Kd.R_reads' ho).2.1; have HB8 := Aside0.mk (below_step HB8.out hb); clear ho hb)
    | (go_at_call 44; (with_reducible refine (cracknelref08_Same.calls k B6 b6 LO B5 b5 LO true _ HD6.out HM6.out HD5.out HM5.out FS.out).mono ?_); rintro e_ w11 ⟨rfl, ⟨nd, rfl⟩⟩; have HB8 := Aside0.mk (pw_below_drewN HB8.out nd))
    | (go_at_call 44; (with_reducible refine (cracknelref08_Same.calls k B7 b7 LO B5 b5 LO true _ HD7.out HM7.out HD5.out HM5.out FS.out).mono ?_); rintro e_ w11 ⟨rfl, ⟨nd, rfl⟩⟩; have HB8 := Aside0.mk (pw_below_drewN HB8.out nd)))
  go_wp2_with (first
    | (go_at_call 40; (with_reducible refine (cracknellaw08_alive.calls true _ rfl (HT.out.step (below_step HB.out HB8.out))).mono ?_); rintro e_ w12 ⟨rfl, hb⟩; have HB8 := Aside0.mk (below_step HB8.out hb); clear hb)
    | (go_at_call 47; (with_reducible refine (json_Print.calls A8 c8 M Q _ (Kd.C_below HC8.out HB8.out) HL8.out FQ.out (HT.out.step (below_step HB.out HB8.out))).mono ?_); rintro e_ w13 ⟨rfl, hb⟩; have HB8 := Aside0.mk (below_step HB8.out hb); clear hb)
    | (go_at_call 47; (with_reducible refine (json_Print.calls A5 c5 L P _ (Kd.C_below HC5.out HB8.out) HL5.out FP.out (HT.out.step (below_step HB.out HB8.out))).mono ?_); rintro e_ w14 ⟨rfl, hb⟩; have HB8 := Aside0.mk (below_step HB8.out hb); clear hb)
    | fail)
  go_ret
  exact ⟨rfl, below_step HB.out HB8.out⟩
end Go.Proofs.YthhmmaihbjhhgaaDoor.Giv
namespace Go.Proofs.YthhmmaihbjhhgaaDoor.Giv
open Go.RowKit Go.Proofs.YthhmmaihbjhhgaaDoorW.PrintWords Go.Proofs.YthhmmaihbjhhgaaDoorW.PrintLast Go.Proofs.YthhmmaihbjhhgaaDoorW.PrintMore
open Go.Proofs.YthhmmaihbjhhgaaDoor.U1 Go.Proofs.YthhmmaihbjhhgaaDoor.Q1 Go.Proofs.YthhmmaihbjhhgaaDoor.J0 Go.Proofs.YthhmmaihbjhhgaaDoor.J1
set_option linter.unusedSimpArgs false
set_option linter.unusedVariables false
theorem top_up (l : B) (n : Nat) (hn : 3 * l.length + 1 ≤ n) : topS l = if (pv n l 0 e0).1 = 0 then (if sk (pv n l 0 e0).2.1 ≠ [] then ([], 80) else ((pv n l 0 e0).2.2, 0)) else ([], (pv n l 0 e0).1) := by
  unfold topS
  rw [pv_up (3 * l.length + 1) n l 0 e0 (Nat.le_refl _) hn]
theorem top_ok (l : B) (n : Nat) (hn : 3 * l.length + 1 ≤ n) (h : (topS l).2 = 0) : (pv n l 0 e0).1 = 0 ∧ bl (pv n l 0 e0).2.1 ∧ (topS l).1 = (pv n l 0 e0).2.2 := by
  rw [top_up l n hn] at h ⊢
  by_cases c : (pv n l 0 e0).1 = 0
  · rw [if_pos c] at h ⊢
    by_cases c2 : sk (pv n l 0 e0).2.1 ≠ []
    · rw [if_pos c2] at h; simp at h
    · rw [if_neg c2]
      exact ⟨c, (sk_nil_iff _).1 (by simpa using c2), rfl⟩
  · rw [if_neg c] at h; exact absurd h c
theorem top_mk (l : B) (n : Nat) (r : B) (rows : List S59) (hn : 3 * l.length + 1 ≤ n) (h : pv n l 0 e0 = (0, r, rows)) (hr : bl r) : topS l = (rows, 0) := by
  rw [top_up l n hn, h, if_pos rfl, if_neg (fun e => e ((sk_nil_iff _).2 hr))]
theorem bl_app {a b : B} (ha : bl a) (hb : bl b) : bl (a ++ b) := fun y hy => by
  rcases List.mem_append.1 hy with h | h
  · exact ha y h
  · exact hb y h
theorem bl_headok {a : B} (ha : bl a) : headok a := by
  have := blank_headok a [] ha rfl
  rwa [List.append_nil] at this
theorem top_ahead (a s : B) (ha : bl a) : topS (a ++ s) = topS s := by
  have hl : 3 * (a ++ s).length + 1 ≤ 3 * (a ++ s).length + 1 := Nat.le_refl _
  rw [top_up (a ++ s) _ hl, pv_blanks _ a s _ _ ha, ← top_up s (3 * (a ++ s).length + 1) (by rw [List.length_append]; omega)]
theorem top_behind (s b : B) (hb : bl b) : (topS (s ++ b)).1 = (topS s).1 ∧ ((topS (s ++ b)).2 = 0 ↔ (topS s).2 = 0) := by
  have hl : 3 * s.length + 1 ≤ 3 * (s ++ b).length + 1 := by rw [List.length_append]; omega
  have key : (topS s).2 = 0 → topS (s ++ b) = ((topS s).1, 0) := by
    intro h
    obtain ⟨h1, h2, h3⟩ := top_ok s _ hl h
    obtain ⟨p, a1, a2, a3⟩ := (loc_all _).1 0 e0 s h1
    simp only at a1 a3
    have a4 := a3 ((pv (3 * (s ++ b).length + 1) s 0 e0).2.1 ++ b) (bl_headok (bl_app h2 hb))
    rw [← List.append_assoc, ← a1] at a4
    rw [h3]
    exact top_mk _ _ _ _ (Nat.le_refl _) a4 (bl_app h2 hb)
  have key2 : (topS (s ++ b)).2 = 0 → (topS s).2 = 0 := by
    intro h
    obtain ⟨h1, h2, h3⟩ := top_ok (s ++ b) _ (Nat.le_refl _) h
    obtain ⟨p, a1, ⟨q, c, hq, hc⟩, a3⟩ := (loc_all _).1 0 e0 (s ++ b) h1
    simp only at a1 a3
    generalize hr : (pv (3 * (s ++ b).length + 1) (s ++ b) 0 e0).2.1 = r at a1 h2
    have hps : ∃ r0, s = p ++ r0 ∧ r = r0 ++ b := by
      rcases List.append_eq_append_iff.1 a1 with ⟨x, x1, x2⟩ | ⟨x, x1, x2⟩
      · cases hx : x with
        | nil => subst hx; exact ⟨[], by rw [x1]; simp, by rw [x2]; simp⟩
        | cons y ys =>
          exfalso
          have : c ∈ x := by
            rw [hq] at x1
            rcases List.eq_nil_or_concat x with e | ⟨z, w, e⟩
            · rw [e] at hx; cases hx
            · rw [e, List.concat_eq_append, ← List.append_assoc] at x1
              have := (List.append_inj' x1 rfl).2
              have hcw : c = w := by simpa using this
              rw [e, List.concat_eq_append, hcw]; simp
          have hb2 := hb c (by rw [x2]; exact List.mem_append_left _ this)
          rw [hc] at hb2; cases hb2
      · exact ⟨x, x1, x2⟩
    obtain ⟨r0, e1, e2⟩ := hps
    have hr0 : bl r0 := fun y hy => h2 y (by rw [e2]; exact List.mem_append_left _ hy)
    have a4 := a3 r0 (bl_headok hr0)
    rw [← e1] at a4
    rw [top_mk s _ _ _ hl a4 hr0]
  refine ⟨?_, fun h => key2 h, fun h => by rw [key h]⟩
  by_cases c : (topS s).2 = 0
  · rw [key c]
  · rw [top_err s c, top_err _ (fun e => c (key2 e))]
/-- the node one deeper -/
def Node.up : Node → Node
  | .v d key => .v (d + 1) key
  | .m d ob keys fst => .m (d + 1) ob keys fst
theorem JV.un {N : Node} {rows : List S59} {t : B} (h : JV N rows t) : ∀ K : Node, N = K.up → ∃ rows0, rows = rows0.map shr ∧ JV K rows0 t := by
  induction h with
  | null d key =>
    intro K hK
    cases K with
    | v d' key' => obtain ⟨rfl, rfl⟩ := Node.v.inj hK; exact ⟨[row d' 1 key e0 0], by rw [row_shr]; rfl, JV.null _ _⟩
    | m => cases hK
  | fls d key =>
    intro K hK
    cases K with
    | v d' key' => obtain ⟨rfl, rfl⟩ := Node.v.inj hK; exact ⟨[row d' 2 key e0 0], by rw [row_shr]; rfl, JV.fls _ _⟩
    | m => cases hK
  | tru d key =>
    intro K hK
    cases K with
    | v d' key' => obtain ⟨rfl, rfl⟩ := Node.v.inj hK; exact ⟨[row d' 3 key e0 0], by rw [row_shr]; rfl, JV.tru _ _⟩
    | m => cases hK
  | num d key n h =>
    intro K hK
    cases K with
    | v d' key' => obtain ⟨rfl, rfl⟩ := Node.v.inj hK; exact ⟨[row d' 4 key e0 n], by rw [row_shr]; rfl, JV.num _ _ n h⟩
    | m => cases hK
  | str d key t h =>
    intro K hK
    cases K with
    | v d' key' => obtain ⟨rfl, rfl⟩ := Node.v.inj hK; exact ⟨[row d' 5 key t 0], by rw [row_shr]; rfl, JV.str _ _ t h⟩
    | m => cases hK
  | arr d key rows t h hm im =>
    intro K hK
    cases K with
    | v d' key' =>
      obtain ⟨rfl, rfl⟩ := Node.v.inj hK
      obtain ⟨r0, e, j⟩ := im (.m (d' + 1) false [] true) rfl
      exact ⟨row d' 6 key e0 0 :: r0, by rw [row_shr, e]; rfl, JV.arr _ _ r0 t (by omega) j⟩
    | m => cases hK
  | obj d key rows t h hm im =>
    intro K hK
    cases K with
    | v d' key' =>
      obtain ⟨rfl, rfl⟩ := Node.v.inj hK
      obtain ⟨r0, e, j⟩ := im (.m (d' + 1) true [] true) rfl
      exact ⟨row d' 7 key e0 0 :: r0, by rw [row_shr, e]; rfl, JV.obj _ _ r0 t (by omega) j⟩
    | m => cases hK
  | none d ob keys fst =>
    intro K hK
    cases K with
    | v => cases hK
    | m d' ob' keys' fst' => exact ⟨[], rfl, JV.none _ _ _ _⟩
  | elem d keys fst rows t rows' t' hv hm iv im =>
    intro K hK
    cases K with
    | v => cases hK
    | m d' ob' keys' fst' =>
      obtain ⟨rfl, rfl, rfl, rfl⟩ := Node.m.inj hK
      obtain ⟨r1, e1, j1⟩ := iv (.v d' e0) rfl
      obtain ⟨r2, e2, j2⟩ := im (.m d' false keys false) rfl
      exact ⟨r1 ++ r2, by rw [e1, e2, List.map_append], JV.elem _ _ _ _ _ _ _ j1 j2⟩
  | memb d keys fst key hk hn rows t rows' t' hv hm iv im =>
    intro K hK
    cases K with
    | v => cases hK
    | m d' ob' keys' fst' =>
      obtain ⟨rfl, rfl, rfl, rfl⟩ := Node.m.inj hK
      obtain ⟨r1, e1, j1⟩ := iv (.v d' key) rfl
      obtain ⟨r2, e2, j2⟩ := im (.m d' true (keys ++ [key]) false) rfl
      exact ⟨r1 ++ r2, by rw [e1, e2, List.map_append], JV.memb _ _ _ key hk hn _ _ _ _ j1 j2⟩
theorem shr_inj : ∀ {a b : List S59}, a.map shr = b.map shr → a = b
  | [], [], _ => rfl
  | [], y :: b, h => by cases h
  | x :: a, [], h => by cases h
  | ⟨x0, x1, x2, x3, x4⟩ :: a, ⟨y0, y1, y2, y3, y4⟩ :: b, h => by
    obtain ⟨h1, h2⟩ := List.cons.inj h
    simp only [shr, S59.mk.injEq] at h1
    obtain ⟨e0, rfl, rfl, rfl, rfl⟩ := h1
    rw [show x0 = y0 by omega, shr_inj h2]
theorem top_array (a s b : B) (ha : bl a) (hb : bl b) (h : (topS s).2 = 0) : topS (91 :: (a ++ s ++ b ++ [93])) = ([], 81) ∨ ∃ t, topS (91 :: (a ++ s ++ b ++ [93])) = (row 0 6 e0 e0 0 :: (topS s).1.map shr, 0) ∧ t.length ≤ 30 * s.length ∧
    JV (.v 0 e0) (topS s).1 t ∧ JV (.v 0 e0) (row 0 6 e0 e0 0 :: (topS s).1.map shr) (91 :: (t ++ [93])) := by
  have hN : 3 * (91 :: (a ++ s ++ b ++ [93]) : B).length + 1 = 3 * (a.length + s.length + b.length) + 4 + 3 := by
    simp only [List.length_cons, List.length_append, List.length_nil]; omega
  obtain ⟨n, hn⟩ : ∃ n, 3 * (a.length + s.length + b.length) + 4 = n := ⟨_, rfl⟩
  rw [hn] at hN
  have hs : 3 * s.length + 1 ≤ n := by omega
  obtain ⟨h1, h2, h3⟩ := top_ok s n hs h
  obtain ⟨p, a1, a2, a3⟩ := (loc_all n).1 0 e0 s h1
  simp only at a1 a3
  generalize hr : (pv n s 0 e0).2.1 = r at a1 h2
  have hok : headok (r ++ (b ++ [93])) := by
    rw [← List.append_assoc]
    exact blank_headok (r ++ b) [93] (bl_app h2 hb) rfl
  have a4 := a3 (r ++ (b ++ [93])) hok
  rw [← List.append_assoc, ← a1] at a4
  -- the same text behind the bracket, one deeper
  have hx : a ++ s ++ b ++ [93] = a ++ (s ++ (b ++ [93])) := by simp
  have hpv : pv n (a ++ s ++ b ++ [93]) 0 e0 = (0, r ++ (b ++ [93]), (topS s).1) := by
    rw [hx, pv_blanks n a _ _ _ ha, a4, h3]
  have hd1 := (p_dp n).1 (a ++ s ++ b ++ [93]) 0 e0 (by rw [hpv])
  rw [hpv] at hd1
  -- it begins with no mark of an end
  obtain ⟨ax, b1, b2, b3⟩ := sk_split s
  have hne : sk s ≠ [] := pv_hd n s 0 e0 h1
  have hstart : (tk1 (a ++ s ++ b ++ [93]) 93).1 = false ∧ sk (a ++ s ++ b ++ [93]) = sk s ++ (b ++ [93]) := by
    have e1 : sk (a ++ s ++ b ++ [93]) = sk s ++ (b ++ [93]) := by
      have hn0 := b3 hne
      have : s ++ (b ++ [93]) = ax ++ (sk s ++ (b ++ [93])) := by
        conv => lhs; rw [b2]
        simp
      rw [hx, sk_app a _ ha, this, sk_app ax _ b1, sk_id]
      unfold notblank at hn0 ⊢
      rw [getD_pre _ _ hne]; exact hn0
    refine ⟨?_, e1⟩
    have e2 : hd (a ++ s ++ b ++ [93]) ≠ 93 := by
      intro e
      have e3 : hd s = 93 := by
        unfold hd at e ⊢
        rw [e1, getD_pre _ _ hne] at e
        exact e
      have h1' := h1
      rw [← pv_skip] at h1'
      obtain ⟨m, rfl⟩ : ∃ m, n = m + 1 := ⟨n - 1, by omega⟩
      rw [pv, hd_sk, sk_sk, e3, if_neg (by decide), if_neg (by decide), if_neg (by decide), if_neg (by decide)] at h1'
      obtain ⟨c, y, hy⟩ := List.exists_cons_of_ne_nil hne
      rw [hy] at h1'
      have hc : c.toNat = 93 := by
        unfold hd at e3
        rw [hy] at e3
        exact e3
      have hc' : c = 93 := UInt8.toNat_inj.1 hc
      subst hc'
      unfold wd at h1'
      rw [if_neg (by rintro ⟨z, hz⟩; simp at hz), if_neg (by rintro ⟨z, hz⟩; simp at hz), if_neg (by rintro ⟨z, hz⟩; simp at hz)] at h1'
      simp at h1'
    unfold tk1
    rw [if_neg (fun x => e2 x.1)]
  have hmid : pv n (sk s ++ (b ++ [93])) 1 e0 = pv n (a ++ s ++ b ++ [93]) 1 e0 := by
    rw [← hstart.2, pv_skip]
  have hpms : pms (n + 2) (a ++ s ++ b ++ [93]) 0 false = pml (n + 1) (sk s ++ (b ++ [93])) 0 false [] := by
    rw [pms, show en false = 93 from rfl, if_neg (by rw [hstart.1]; decide)]
    congr 1
    unfold tk1
    have : ¬ (hd (a ++ s ++ b ++ [93]) = 93 ∧ sk (a ++ s ++ b ++ [93]) ≠ []) := fun e => by
      have := hstart.1
      unfold tk1 at this
      rw [if_pos e] at this; cases this
    rw [if_neg this]
    exact hstart.2
  rcases hd1 with e | e
  · right
    -- the end's mark is found
    have hct : cont (fun x => pml n x 0 false []) (r ++ (b ++ [93])) false = (0, [], []) := by
      have e1 : sk (r ++ (b ++ [93])) = [93] := by
        rw [← List.append_assoc, sk_app (r ++ b) [93] (bl_app h2 hb)]; rfl
      have e2 : tk1 (r ++ (b ++ [93])) 93 = (true, []) := by
        unfold tk1 hd
        rw [e1, if_pos ⟨rfl, by decide⟩]; rfl
      unfold cont
      rw [show en false = 93 from rfl, e2, if_pos rfl]
    have hpml : pml (n + 1) (sk s ++ (b ++ [93])) 0 false [] = (0, [], (topS s).1.map shr ++ []) := by
      rw [pml, if_neg (by decide), hmid, e]
      exact pma_ok _ _ _ _ _ _ hct
    rw [← hpms, List.append_nil] at hpml
    have hall := pv_open (n + 2) (a ++ s ++ b ++ [93]) 0 e0 false (by decide) _ _ hpml
    have hdone : topS (91 :: (a ++ s ++ b ++ [93])) = (row 0 6 e0 e0 0 :: (topS s).1.map shr, 0) :=
      top_mk _ (n + 3) [] _ (by rw [hN]; exact Nat.le_refl _) hall (fun y hy => by (cases hy))
    obtain ⟨t, ht⟩ := (p_sound n).1 (a ++ s ++ b ++ [93]) 1 e0 (by decide) (by rw [e])
    rw [e] at ht
    obtain ⟨r0, hr0, j0⟩ := ht.un (.v 0 e0) rfl
    have hrr : (topS s).1 = r0 := shr_inj hr0
    have hlen : t.length + 6 * e0.size + 4 ≤ 30 * wt r0 := j0.len
    have hwt := (p_wt n).1 s 0 e0 h1
    rw [← h3, hrr] at hwt
    have he0 : e0.size = 0 := rfl
    refine ⟨t, hdone, by omega, by rw [hrr]; exact j0, ?_⟩
    have hm := JV.elem 1 [] true _ t [] [] ht (JV.none 1 false [] false)
    rw [List.append_nil] at hm
    have hm2 := JV.arr 0 e0 _ _ (by decide) hm
    rw [sep_true, List.append_nil] at hm2
    exact hm2
  · left
    have hpml : (pml (n + 1) (sk s ++ (b ++ [93])) 0 false []).1 = 81 := by
      rw [pml, if_neg (by decide), hmid]
      have e' : (pv n (a ++ s ++ b ++ [93]) 1 e0).1 = 81 := e
      unfold pma
      rw [if_neg (by rw [e']; decide)]
      exact e'
    rw [← hpms] at hpml
    have hall : (pv (n + 3) (91 :: (a ++ s ++ b ++ [93])) 0 e0).1 = 81 := by
      have hn0 : notblank (91 :: (a ++ s ++ b ++ [93])) := (rfl : blank 91 = false)
      rw [pv, hd_id hn0, sk_id hn0]
      show (if ((91 : UInt8).toNat) = 91 then _ else _ : Int × B × List S59).1 = 81
      rw [if_pos (by decide), if_neg (by decide)]
      exact hpml
    rw [top_up _ (n + 3) (by rw [hN]; exact Nat.le_refl _), hall, if_neg (by decide)]
end Go.Proofs.YthhmmaihbjhhgaaDoor.Giv
namespace Go.Proofs.YthhmmaihbjhhgaaDoor.Giv
open Go.RowKit Go.Proofs.YthhmmaihbjhhgaaDoorW.PrintWords Go.Proofs.YthhmmaihbjhhgaaDoorW.PrintLast Go.Proofs.YthhmmaihbjhhgaaDoorW.PrintMore
open Go.Proofs.YthhmmaihbjhhgaaDoor.U1 Go.Proofs.YthhmmaihbjhhgaaDoor.Q1 Go.Proofs.YthhmmaihbjhhgaaDoor.J0 Go.Proofs.YthhmmaihbjhhgaaDoor.J1 Go.Proofs.YthhmmaihbjhhgaaDoor.J2
set_option linter.unusedSimpArgs false
set_option linter.unusedVariables false
theorem same81_l0 (l : List S81) (hl : l.length ≤ 1099511627776) : ∀ (n k i : Nat), l.length - i = n → i ≤ l.length → n < k → cracknelref08_Same.l0 k l l (i : Int) = some true
  | 0, k, i, h1, h2, h3 => by
    obtain ⟨k, rfl⟩ : ∃ m, k = m + 1 := ⟨k - 1, by omega⟩
    rw [cracknelref08_Same.l0, if_neg (by omega)]
  | n + 1, k, i, h1, h2, h3 => by
    obtain ⟨k, rfl⟩ : ∃ m, k = m + 1 := ⟨k - 1, by omega⟩
    rw [cracknelref08_Same.l0, if_pos (by omega), if_pos (by omega), if_pos (by omega), if_neg (by simp), w64 (x := (i : Int) + 1) (by omega) (by omega), show (i : Int) + 1 = ((i + 1 : Nat) : Int) by omega]
    exact same81_l0 l hl n k (i + 1) (by omega) (by omega) (by omega)
theorem same81 (l : List S81) (hl : l.length ≤ 1099511627776) (k : Nat) (hk : l.length < k) : cracknelref08_Same.f k l l = some true := by
  unfold cracknelref08_Same.f
  rw [if_pos rfl]
  exact same81_l0 l hl l.length k 0 (by omega) (Nat.zero_le _) hk
theorem olds_f (l : List S59) (h : l.length ≤ 1099511627776) : cracknellaw08_Olds.f l = some (l.map toO) := by
  unfold cracknellaw08_Olds.f
  rw [if_pos (by omega)]
end Go.Proofs.YthhmmaihbjhhgaaDoor.Giv
namespace Go.Proofs.YthhmmaihbjhhgaaDoor.Giv
open Go.RowKit Go.Proofs.YthhmmaihbjhhgaaDoorW.PrintWords Go.Proofs.YthhmmaihbjhhgaaDoorW.PrintLast Go.Proofs.YthhmmaihbjhhgaaDoorW.PrintMore
open Go.Proofs.YthhmmaihbjhhgaaDoor.U1 Go.Proofs.YthhmmaihbjhhgaaDoor.Q1 Go.Proofs.YthhmmaihbjhhgaaDoor.J0 Go.Proofs.YthhmmaihbjhhgaaDoor.J1 Go.Proofs.YthhmmaihbjhhgaaDoor.J2
set_option linter.unusedSimpArgs false
set_option linter.unusedVariables false
abbrev BL : ByteArray := ⟨#[32, 9, 10, 13, 13, 10, 9, 32, 32]⟩
theorem bl_take (p : Nat) : (BL.extract 0 p).data.toList = ([32, 9, 10, 13, 13, 10, 9, 32, 32] : B).take p := by
  rw [ByteArray.data_extract, Array.toList_extract]
  simp
theorem bl_bl (p : Nat) : bl (BL.extract 0 p).data.toList := by
  rw [bl_take]
  intro y hy
  have : ∀ z ∈ ([32, 9, 10, 13, 13, 10, 9, 32, 32] : B), blank z.toNat = true := by decide
  exact this y (List.mem_of_mem_take hy)
theorem bl_size (p : Nat) : (BL.extract 0 p).size ≤ 9 := by
  rw [← data_length, bl_take, List.length_take]
  exact Nat.min_le_right _ _
theorem jsonBlanks_walk (s : ByteArray) (p q : Int) (w : World) (_hs : s.size ≤ 140737488351232) (hpw : (Lit.int .i64 p).wf = true) (hqw : (Lit.int .i64 q).wf = true) (tj : JTabs w) (tb : Tabs w) : Calls Tryd.prog 17 #[.string s, .int .i64 p, .int .i64 q] w fun e w' => e = .returned (.bool true) ∧ Below w.heap.size w w' := by
  by_cases g1 : 500 < s.size
  · exact bl_1 s p q w tj g1
  by_cases g2 : p < 0
  · exact bl_2 s p q w tj g1 g2
  by_cases g3 : 9 < p
  · exact bl_3 s p q w tj g1 g2 g3
  by_cases g4 : q < 0
  · exact bl_4 s p q w tj g1 g2 g3 g4
  by_cases g5 : 9 < q
  · exact bl_5 s p q w tj g1 g2 g3 g4 g5
  obtain ⟨p, rfl⟩ : ∃ m : Nat, p = m := ⟨p.toNat, by omega⟩
  obtain ⟨q, rfl⟩ : ∃ m : Nat, q = m := ⟨q.toNat, by omega⟩
  obtain ⟨a, ha⟩ : ∃ a, BL.extract 0 p = a := ⟨_, rfl⟩
  obtain ⟨b, hb⟩ : ∃ b, BL.extract 0 q = b := ⟨_, rfl⟩
  have za := bl_size p
  have zb := bl_size q
  have ba := bl_bl p
  have bb := bl_bl q
  rw [ha] at za ba
  rw [hb] at zb bb
  have ds := data_length s
  have da := data_length a
  have db := data_length b
  have s6 : (a ++ s).size = a.size + s.size := ByteArray.size_append
  have s7 : (a ++ s ++ b).size = a.size + s.size + b.size := by rw [ByteArray.size_append, s6]
  have l6 : (a ++ s).data.toList = a.data.toList ++ s.data.toList := by rw [ByteArray.data_append, Array.toList_append]
  have l7 : (a ++ s ++ b).data.toList = a.data.toList ++ s.data.toList ++ b.data.toList := by rw [ByteArray.data_append, Array.toList_append, l6]
  have l8 : ((⟨#[91]⟩ : ByteArray) ++ a ++ s ++ b ++ ⟨#[93]⟩).data.toList = 91 :: (a.data.toList ++ s.data.toList ++ b.data.toList ++ [93]) := by
    simp [ByteArray.data_append]
  have s8 : ((⟨#[91]⟩ : ByteArray) ++ a ++ s ++ b ++ ⟨#[93]⟩).size = a.size + s.size + b.size + 2 := by
    rw [← data_length, l8]; simp only [List.length_cons, List.length_append, List.length_nil]; omega
  have h5 := parse_top s (by omega) 100000 (by omega)
  have h6 := parse_top (a ++ s) (by omega) 100000 (by omega)
  have h7 := parse_top (a ++ s ++ b) (by omega) 100000 (by omega)
  have h8 := parse_top ((⟨#[91]⟩ : ByteArray) ++ a ++ s ++ b ++ ⟨#[93]⟩) (by omega) 100000 (by omega)
  rw [l6, top_ahead _ _ ba] at h6
  rw [l7] at h7
  rw [l8] at h8
  obtain ⟨t1, t2⟩ := top_behind (a.data.toList ++ s.data.toList) b.data.toList bb
  rw [top_ahead _ _ ba] at t1 t2
  have h7' : json_Parse.f 100000 (a ++ s ++ b) = some ((topS s.data.toList).1, (topS (a.data.toList ++ s.data.toList ++ b.data.toList)).2) := by rw [h7, ← t1]
  have hL : (topS s.data.toList).1.length ≤ 15000 := by
    by_cases c : (topS s.data.toList).2 = 0
    · obtain ⟨t, j, hl⟩ := top_sound _ c
      have := j.small.1
      omega
    · rw [top_err _ c]; exact Nat.zero_le _
  have hO := olds_f (topS s.data.toList).1 (by omega)
  have hS := same81 ((topS s.data.toList).1.map toO) (by rw [List.length_map]; omega) 100000 (by rw [List.length_map]; omega)
  by_cases c : (topS s.data.toList).2 = 0
  · rcases top_array a.data.toList s.data.toList b.data.toList ba bb c with hd | ⟨t, hd, hl, j1, j2⟩
    · exact bl_deep 100000 s a b p q w tj (by omega) (by omega) (by omega) ha hb za zb (topS s.data.toList).1 (topS (91 :: (a.data.toList ++ s.data.toList ++ b.data.toList ++ [93]))).1 (topS s.data.toList).2 (topS (a.data.toList ++ s.data.toList ++ b.data.toList)).2 (topS (91 :: (a.data.toList ++ s.data.toList ++ b.data.toList ++ [93]))).2 (by omega) h5 h6 h7' h8 hO hS c (t2.2 c) (by rw [hd]) (by rw [hd])
    · refine bl_ok 100000 s a b p q w tj (by omega) (by omega) (by omega) ha hb za zb (topS s.data.toList).1 (topS (91 :: (a.data.toList ++ s.data.toList ++ b.data.toList ++ [93]))).1 (topS s.data.toList).2 (topS (a.data.toList ++ s.data.toList ++ b.data.toList)).2 (topS (91 :: (a.data.toList ++ s.data.toList ++ b.data.toList ++ [93]))).2 (by omega) h5 h6 h7' h8 hO hS c (t2.2 c) (by rw [hd]) (by rw [hd, List.length_cons, List.length_map]) ⟨t.toArray⟩ ⟨(91 :: (t ++ [93]) : B).toArray⟩ ?_ (j1.print_f (by omega)) ?_ ?_
      · show t.toArray.size ≤ _
        rw [List.size_toArray]; omega
      · rw [hd]; exact j2.print_f (by simp only [List.length_cons, List.length_append, List.length_nil]; omega)
      · apply ofList_eq
        simp [ByteArray.data_append]
  · exact bl_err 100000 s a b p q w tj (by omega) (by omega) (by omega) ha hb za zb (topS s.data.toList).1 (topS (91 :: (a.data.toList ++ s.data.toList ++ b.data.toList ++ [93]))).1 (topS s.data.toList).2 (topS (a.data.toList ++ s.data.toList ++ b.data.toList)).2 (topS (91 :: (a.data.toList ++ s.data.toList ++ b.data.toList ++ [93]))).2 (by omega) h5 h6 h7' h8 hO hS c (fun e => c (t2.1 e))
end Go.Proofs.YthhmmaihbjhhgaaDoor.Giv
