/- What the proof of chapter 8's laws, part 6, stands on: cut and merged by a program out of this session's texts. -/
import Derived.Test.YthhmmaihbjhhgaaGreatDoorKY5
import Derived.Deep.AppendSrc
import Derived.Deep.MidRow
import Derived.Orders
import Derived.Below
import Derived.Laws.Slices
import Derived.Laws.IdiomStrings
import Derived.Deep.Upon
import Derived.StillTail
import Derived.Deep.Quiet
import Derived.Laws.StructEq
import Derived.Scope
set_option linter.unusedVariables false
set_option linter.unusedSimpArgs false
set_option linter.unusedSectionVars false
set_option maxHeartbeats 8000000
set_option maxRecDepth 100000
namespace Go.Proofs.NGiv
open Go.RowKit Go.Proofs.Wa Go.Proofs.Wb Go.Proofs.Wc
open Go.Proofs.NU1 Go.Proofs.NQ1 Go.Proofs.NJ0 Go.Proofs.NJ1
theorem ZaW : ∀ (n : Nat) (l : B) (r : B × Int × Int), Xy n l = some r → r.2.2 = 0 → (r.1.length : Int) + 1 ≤ r.2.1
 | 0, l, r, h, _ => by simp [Xy] at h
 | n + 1, l, r, h, he => by
  rw [Xy] at h
  split at h
  ·cases h; simp at he
  ·split at h
   ·cases h; simp
   ·split at h
    ·cases h; simp at he
    ·split at h
     ·rename_i c
      obtain ⟨q, hq, h⟩ := xbh.1 h
      split at h
      ·rename_i c2
       cases h
       have := ZaW n _ q hq c2
       have := one_le l c
       simp only [Xbb]; omega
      ·rename_i c2
       cases h
       exact absurd he c2
     ·rename_i c
      cases h
      exact absurd he c
theorem rq_len2 (l : B) (h : (rq l).2.2 = 0) (hl : l ≠ []) : (rq l).1.length + (rq l).2.1.length + 2 ≤ l.length := by
 unfold rq at h ⊢
 have hl0 : l.length ≠ 0 := fun e => hl (xbg e)
 cases hq : Xy (l.length + 1) (l.drop 1) with
 | none => rw [hq] at h; simp at h
 | some q =>
  rw [hq] at h
  simp only at h ⊢
  by_cases c : q.2.2 = 0
  ·rw [if_pos c]
   have hg := ZU _ _ _ hq c
   have h2 := ZaW _ _ _ hq c
   rw [Zbb] at hg
   simp only
   rw [Zbb]; omega
  ·rw [if_neg c] at h; exact absurd h c
def wt : List S40 → Nat
 | [] => 0
 | x :: l => x.f2.size + x.f3.size + 1 + wt l
theorem YaD : ∀ a b : List S40, wt (a ++ b) = wt a + wt b
 | [], b => by simp [wt]
 | x :: a, b => by rw [Zbl, wt, wt, YaD a b]; omega
theorem pk_len2 (l : B) (keys : List ByteArray) (h : (pk l keys).2.2 = 0) : (pk l keys).1.size + (pk l keys).2.1.length < l.length := by
 unfold pk at h ⊢
 have h0 := YU l
 split at h
 ·rename_i c1
  rw [if_pos c1]
  split at h
  ·rename_i c2
   rw [if_pos c2]
   split at h
   ·simp at h
   ·rename_i c3
    rw [if_neg c3]
    split at h
    ·rename_i c4
     rw [if_pos c4]
     have h1 := rq_len2 (sk l) c2 (XC (by omega))
     have h2 := (Yv (rq (sk l)).2.1 58).1
     show (rq (sk l)).1.toArray.size + (tk1 (rq (sk l)).2.1 58).2.length < _
     rw [Ybo]; omega
    ·simp at h
  ·rename_i c2
   simp only at h; exact absurd h c2
 ·simp at h
theorem wd_wt (l : B) (d : Nat) (key : ByteArray) (h : (wd l d key).1 = 0) : wt (wd l d key).2.2 + (wd l d key).2.1.length ≤ l.length + key.size := by
 unfold wd at h ⊢
 split
 ·rename_i c; have := c.length_le; simp at this; simp only [Zbb, wt, row]; show key.size + 0 + 1 + 0 + _ ≤ _; omega
 ·rename_i c1
  rw [if_neg c1] at h
  split
  ·rename_i c; have := c.length_le; simp at this; simp only [Zbb, wt, row]; show key.size + 0 + 1 + 0 + _ ≤ _; omega
  ·rename_i c2
   rw [if_neg c2] at h
   split
   ·rename_i c; have := c.length_le; simp at this; simp only [Zbb, wt, row]; show key.size + 0 + 1 + 0 + _ ≤ _; omega
   ·rename_i c3
    rw [if_neg c3] at h; simp at h
theorem p_wt : ∀ n : Nat, (∀ l d key, (pv n l d key).1 = 0 → wt (pv n l d key).2.2 + (pv n l d key).2.1.length ≤ l.length + key.size) ∧ (∀ l d ob, (pms n l d ob).1 = 0 → wt (pms n l d ob).2.2 + (pms n l d ob).2.1.length ≤ l.length) ∧ (∀ l d ob keys, (pml n l d ob keys).1 = 0 → wt (pml n l d ob keys).2.2 + (pml n l d ob keys).2.1.length ≤ l.length)
 | 0 => ⟨fun l d key h => by simp [pv] at h, fun l d ob h => by simp [pms] at h, fun l d ob keys h => by simp [pml] at h⟩
 | n + 1 => by
  obtain ⟨iv, im, il⟩ := p_wt n
  have ic : ∀ l d ob keys, (cont (fun x => pml n x d ob keys) l ob).1 = 0 → wt (cont (fun x => pml n x d ob keys) l ob).2.2 + (cont (fun x => pml n x d ob keys) l ob).2.1.length ≤ l.length := by
   intro l d ob keys h
   unfold cont at h ⊢
   have h1 := Yv l (en ob)
   have h2 := Yv (tk1 l (en ob)).2 44
   split
   ·simp only [wt]; omega
   ·rename_i c
    rw [if_neg c] at h
    split
    ·rename_i c2
     rw [if_pos c2] at h
     have h3 := il _ _ _ _ h
     have h4 : ((tk1 (tk1 l (en ob)).2 44).2).length ≤ l.length := by omega
     exact Ybg h3 h4
    ·rename_i c2
     rw [if_neg c2] at h; simp at h
  have ia : ∀ (V : Int × B × List S40) d ob keys m, (V.1 = 0 → wt V.2.2 + V.2.1.length ≤ m) → (pma (fun x => pml n x d ob keys) V ob).1 = 0 → wt (pma (fun x => pml n x d ob keys) V ob).2.2 + (pma (fun x => pml n x d ob keys) V ob).2.1.length ≤ m := by
   intro V d ob keys m hV h
   unfold pma at h ⊢
   split
   ·rename_i c
    rw [if_pos c] at h
    have h1 := hV c
    have := ic V.2.1 d ob keys h
    simp only [YaD]; omega
   ·rename_i c
    rw [if_neg c] at h; exact absurd h c
  refine ⟨fun l d key h => ?_, fun l d ob h => ?_, fun l d ob keys h => ?_⟩
  ·have h0 := YU l
   have hw : ∀ (k : Int) (rows : List S40), wt (row d k key e0 0 :: rows) = key.size + 0 + 1 + wt rows := fun _ _ => rfl
   rw [pv] at h ⊢
   by_cases c1 : hd l = 91
   ·rw [if_pos c1] at h ⊢
    by_cases c2 : 64 ≤ d
    ·rw [if_pos c2] at h; simp at h
    ·rw [if_neg c2] at h ⊢
     have := im _ _ _ h
     have hne : (sk l).length ≠ 0 := fun e => XC (l := l) (by omega) (xbg e)
     rw [Zbb] at this
     simp only [hw]; omega
   ·rw [if_neg c1] at h ⊢
    by_cases c3 : hd l = 123
    ·rw [if_pos c3] at h ⊢
     by_cases c2 : 64 ≤ d
     ·rw [if_pos c2] at h; simp at h
     ·rw [if_neg c2] at h ⊢
      have := im _ _ _ h
      have hne : (sk l).length ≠ 0 := fun e => XC (l := l) (by omega) (xbg e)
      rw [Zbb] at this
      simp only [hw]; omega
    ·rw [if_neg c3] at h ⊢
     by_cases c4 : hd l = 34
     ·rw [if_pos c4] at h ⊢
      by_cases c5 : (rq (sk l)).2.2 = 0
      ·rw [if_pos c5]
       have := rq_len2 (sk l) c5 (XC (by omega))
       show key.size + (rq (sk l)).1.toArray.size + 1 + 0 + _ ≤ _
       rw [Ybo]; simp only; omega
      ·rw [if_neg c5] at h; exact absurd h c5
     ·rw [if_neg c4] at h ⊢
      split at h
      ·rename_i c6
       rw [if_pos c6]
       split at h
       ·rename_i c7
        rw [if_pos c7]
        have := zaV _ c7
        have h9 := Xaq (sk l)
        show key.size + 0 + 1 + 0 + _ ≤ _
        simp only [Zbb]; omega
       ·simp at h
      ·rename_i c6
       rw [if_neg c6]
       have := wd_wt (sk l) d key h
       omega
  ·rw [pms] at h ⊢
   have h1 := Yv l (en ob)
   split at h
   ·rename_i c
    rw [if_pos c]
    simp only [wt]; omega
   ·rename_i c
    rw [if_neg c]
    have := il _ _ _ _ h
    omega
  ·rw [pml] at h ⊢
   cases ob with
   | true =>
    rw [if_pos rfl] at h ⊢
    split at h
    ·rename_i c
     rw [if_pos c]
     have h1 := pk_len2 l keys c
     have := ia _ d true _ (l.length) (fun e => by have := iv _ _ _ e; omega) h
     exact this
    ·rename_i c; exact absurd h c
   | false =>
    rw [if_neg (by decide)] at h ⊢
    exact ia _ d false _ l.length (fun e => by have := iv _ _ _ e; have he : e0.size = 0 := rfl; omega) h
theorem JV.len {K : Node} {rows : List S40} {t : B} (h : JV K rows t) : match K with
  | .v _ key => t.length + 6 * key.size + 4 ≤ 30 * wt rows
  | .m _ _ _ _ => t.length ≤ 30 * wt rows := by
 induction h with
 | null d key => show 4 + 6 * key.size + 4 ≤ 30 * (key.size + 0 + 1 + 0); omega
 | fls d key => show 5 + 6 * key.size + 4 ≤ 30 * (key.size + 0 + 1 + 0); omega
 | tru d key => show 4 + 6 * key.size + 4 ≤ 30 * (key.size + 0 + 1 + 0); omega
 | num d key n h => have := Zaz n h; show _ + 6 * key.size + 4 ≤ 30 * (key.size + 0 + 1 + 0); omega
 | str d key s h =>
  have := YaC s
  show (YG s.data.toList).length + 6 * key.size + 4 ≤ 30 * (key.size + s.size + 1 + 0)
  rw [zaf]; omega
 | arr d key rows t h hm im =>
  show (91 :: (t ++ [93])).length + 6 * key.size + 4 ≤ 30 * (key.size + 0 + 1 + wt rows)
  have : t.length ≤ 30 * wt rows := im
  simp only [Xbd, Xbb, Xbg]; omega
 | obj d key rows t h hm im =>
  show (123 :: (t ++ [125])).length + 6 * key.size + 4 ≤ 30 * (key.size + 0 + 1 + wt rows)
  have : t.length ≤ 30 * wt rows := im
  simp only [Xbd, Xbb, Xbg]; omega
 | none => exact Ybm _
 | elem d keys fst rows t rows' t' hv hm iv im =>
  have h1 : t.length + 6 * e0.size + 4 ≤ 30 * wt rows := iv
  have h2 : t'.length ≤ 30 * wt rows' := im
  have h3 : (sepa fst).length ≤ 1 := by cases fst <;> decide
  show (sepa fst ++ (t ++ t')).length ≤ 30 * wt (rows ++ rows')
  rw [YaD]
  simp only [Xbb]; omega
 | memb d keys fst key hk hn rows t rows' t' hv hm iv im =>
  have h1 : t.length + 6 * key.size + 4 ≤ 30 * wt rows := iv
  have h2 : t'.length ≤ 30 * wt rows' := im
  have h3 : (sepa fst).length ≤ 1 := by cases fst <;> decide
  have h4 := YaC key
  have h5 := zaf key.data.toList
  show (sepa fst ++ (YG key.data.toList ++ (58 :: (t ++ t')))).length ≤ 30 * wt (rows ++ rows')
  rw [YaD]
  simp only [Xbb, Xbd]; omega
def topS (l : B) : List S40 × Int := if (pv (3 * l.length + 1) l 0 e0).1 = 0 then (if sk (pv (3 * l.length + 1) l 0 e0).2.1 ≠ [] then ([], 80) else ((pv (3 * l.length + 1) l 0 e0).2.2, 0)) else ([], (pv (3 * l.length + 1) l 0 e0).1)
theorem parse_top (s : ByteArray) (hs : s.size ≤ 1073741824) (k : Nat) (hk : 4 * s.size + 60 ≤ k) : Xs.f k s = some (topS s.data.toList) := by
 have hl := data_length s
 obtain ⟨C, hC⟩ : ∃ C, k = (3 * s.data.toList.length + 1) + C := ⟨k - (3 * s.data.toList.length + 1), by omega⟩
 obtain ⟨p', o', e1, e2, e3⟩ := (sim_all s (by omega) C (by omega) (3 * s.data.toList.length + 1)).1 s.data.toList 0 e0 0 [] xbt (Ybm _) (by omega) (by rw [Xbg]; omega) ((p_total _).1 _ _ _ (Xbc _))
 unfold Xs.f topS
 rw [if_pos (by omega), hC, show z0 = ⟨((0 : Nat) : Int), 0, e0, ⟨#[]⟩, 0⟩ from rfl, e1, Zbf]
 simp only
 rw [if_pos e2]
 by_cases c : (pv (3 * s.data.toList.length + 1) s.data.toList 0 e0).1 = 0
 ·rw [if_pos c, if_pos c]
  obtain ⟨f1, f2⟩ := e3 c
  obtain ⟨_, _, _, g4⟩ := Yaq s p' _ f1 e2
  by_cases c2 : sk (pv (3 * s.data.toList.length + 1) s.data.toList 0 e0).2.1 ≠ []
  ·rw [if_pos (g4.2 c2), if_pos c2]
  ·rw [if_neg (fun x => c2 (g4.1 x)), if_neg c2, f2]; rfl
 ·rw [if_neg c, if_neg c]
theorem top_sound (l : B) (h : (topS l).2 = 0) : ∃ t, JV (.v 0 e0) (topS l).1 t ∧ t.length ≤ 30 * l.length := by
 unfold topS at h ⊢
 by_cases c : (pv (3 * l.length + 1) l 0 e0).1 = 0
 ·rw [if_pos c] at h ⊢
  by_cases c2 : sk (pv (3 * l.length + 1) l 0 e0).2.1 ≠ []
  ·rw [if_pos c2] at h; simp at h
  ·rw [if_neg c2]
   obtain ⟨t, ht⟩ := (p_sound (3 * l.length + 1)).1 l 0 e0 (by omega) c
   refine ⟨t, ht, ?_⟩
   have h1 : t.length + 6 * e0.size + 4 ≤ 30 * wt (pv (3 * l.length + 1) l 0 e0).2.2 := ht.len
   have h2 := (p_wt (3 * l.length + 1)).1 l 0 e0 c
   have he : e0.size = 0 := rfl
   omega
 ·rw [if_neg c] at h; exact absurd h c
theorem top_err (l : B) (h : (topS l).2 ≠ 0) : (topS l).1 = [] := by
 unfold topS at h ⊢
 split
 ·rename_i c
  rw [if_pos c] at h
  split
  ·rfl
  ·rename_i c2
   rw [if_neg c2] at h; exact absurd rfl h
 ·rfl
end Go.Proofs.NGiv
namespace Go.Ev
open Go Go.RowKit
class Inv where
 I : World → Prop
 step : ∀ {w w' : World}, I w → Below w.heap.size w w' → I w'
variable [Inv]
def InvAt (b : Nat) (w : World) : Prop := ∃ w0, Inv.I w0 ∧ w0.heap.size ≤ b ∧ Below w0.heap.size w0 w
theorem InvAt.below {b : Nat} {w w' : World} (h : InvAt b w) (hb : Below b w w') : InvAt b w' := let ⟨w0, h1, h2, h3⟩ := h; ⟨w0, h1, h2, h3.trans (hb.mono h2)⟩
theorem InvAt.out {b : Nat} {w : World} (h : InvAt b w) : Inv.I w := let ⟨_, h1, _, h3⟩ := h; Inv.step h1 h3
theorem Xa7 {w : World} (h : Inv.I w) : InvAt w.heap.size w := ⟨w, h, Xbc _, ybd _ _⟩
inductive AV where
 | any
 | cell
 | lit (x : Value)
 | sl (full : Bool) (sz n : Nat) (f : Nat → List Value)
 | gr (i n : Nat)
 | ptr (i off : Nat)
 | cp (l : List Value)
 | bs (i sz n : Nat)
 | fn (f : FuncId) (cap : List AV)
 | agg (l : List AV)
 | tup (l : List AV)
 deriving Inhabited
structure Mem where
 boxes : List (List AV)
 gros : List (Nat × List (List Value))
structure St where
 tmps : List AV
 mem : Mem
def calm {α : Type} (P : Program) : Sem α → Option α
 | .pure a => some a
 | .program k => calm P (k P)
 | .mark _ k => calm P k
 | _ => none
theorem calm_run {α : Type} {P : Program} {s : Sem α} {a : α} (h : calm P s = some a) (w : World) : s.run P w = .ok a w := by
 induction s with
 | pure b => simp only [calm, Option.some.injEq] at h; rw [h]; rfl
 | program k ih => exact ih P (by simpa [calm] using h)
 | mark m k ih => exact ih (by simpa [calm] using h)
 | _ => simp [calm] at h
structure Gh where
 base : Nat
 S : Nat → Nat → Prop
 box : List (Option Nat)
 gro : List (Option (Nat × Nat))
def Gh.St (g : Gh) (m : Mem) (b o : Nat) : Prop :=
 (b < g.base ∧ g.S b o) ∨ (g.base ≤ b ∧ (∀ i : Nat, g.box[i]? ≠ some (some b)) ∧ ∀ (i : Nat) b' c sz L, g.gro[i]? = some (some (b', c)) → m.gros[i]? = some (sz, L) → b' = b → o < L.length * sz)
structure Row (St : Nat → Nat → Prop) (w : World) (a : Option Addr) (sz : Nat) (l : List (List Value)) : Prop where
 even : ∀ e ∈ l, e.length = sz
 one : ∀ e ∈ l, ∀ u ∈ e, u.oneCell' = true
 lies : l = [] ∨ ∃ b off, a = some ⟨b, off, none⟩ ∧ w.rangeAt b off l.flatten ∧ ∀ j, j < l.flatten.length → St b (off + j)
def LSl (g : Gh) (m : Mem) (w : World) (full : Bool) (sz : Nat) (l : List (List Value)) (v : Value) : Prop :=
 ∃ a c, v = .slice a l.length c ∧ l.length ≤ c ∧ (full = true → c = l.length) ∧ Row (g.St m) w a sz l
def LGr (g : Gh) (m : Mem) (w : World) (i n : Nat) (v : Value) : Prop :=
 ∃ sz L a c, m.gros[i]? = some (sz, L) ∧ n ≤ L.length ∧ v = .slice a n c ∧ n ≤ c ∧ Row (g.St m) w a sz (L.take n) ∧
  (n = L.length → c = n ∨ ∃ b, a = some ⟨b, 0, none⟩ ∧ g.gro[i]? = some (some (b, c)))
def LPtr (g : Gh) (i off : Nat) (v : Value) : Prop := ∃ b, g.box[i]? = some (some b) ∧ v = .pointer (some ⟨b, off, none⟩)
def LCp (g : Gh) (m : Mem) (w : World) (l : List Value) (v : Value) : Prop :=
 ∃ b off, v = .pointer (some ⟨b, off, none⟩) ∧ w.rangeAt b off l ∧ ∀ j, j < l.length → g.St m b (off + j)
def LBs (g : Gh) (i n : Nat) (v : Value) : Prop := ∃ b c, g.box[i]? = some (some b) ∧ v = .slice (some ⟨b, 0, none⟩) n c ∧ n ≤ c
def Zf (n : Nat) (f : Nat → List Value) : List (List Value) := (List.range n).map f
theorem elems_length (n : Nat) (f : Nat → List Value) : (Zf n f).length = n := by simp [Zf]
theorem xT {n : Nat} {f : Nat → List Value} {k : Nat} (h : k < n) : (Zf n f)[k]? = some (f k) := by simp [Zf, h]
theorem yP {l : List (List Value)} {n : Nat} (h : n ≤ l.length) : Zf n (fun k => l.getD k []) = l.take n := by
 apply Zbr
 intro k
 rcases ybn k n with hk | hk
 ·rw [xT hk, Ybi, if_pos hk, zbe, zbf (by omega)]; rfl
 ·rw [Zbk (by rw [elems_length]; exact hk), Zbk (by simp; omega)]
theorem elems_cut {n k h : Nat} {f : Nat → List Value} (hk : k ≤ h) (hh : h ≤ n) : Zf (h - k) (fun q => f (k + q)) = ((Zf n f).drop k).take (h - k) := by
 apply Zbr
 intro q
 rcases ybn q (h - k) with hq | hq
 ·rw [xT hq, Ybi, if_pos hq, zbn, xT (by omega)]
 ·rw [Zbk (by rw [elems_length]; exact hq), Zbk (by simp; omega)]
mutual
def Rep (g : Gh) (m : Mem) (w : World) : AV → Value → Prop
 | .any, _ => True
 | .cell, v => v.oneCell' = true
 | .lit x, v => v = x
 | .sl full sz n f, v => LSl g m w full sz (Zf n f) v
 | .gr i n, v => LGr g m w i n v
 | .ptr i off, v => LPtr g i off v
 | .cp l, v => LCp g m w l v
 | .bs i sz n, v => LBs g i n v
 | .fn f cap, v => ∃ vs, v = .func (.func f) #[] vs.toArray ∧ RepL g m w cap vs
 | .agg l, v => ∃ vs, v = .agg vs.toArray ∧ RepL g m w l vs
 | .tup l, v => ∃ vs, v = .tuple vs.toArray ∧ RepL g m w l vs
def RepL (g : Gh) (m : Mem) (w : World) : List AV → List Value → Prop
 | [], vs => vs = []
 | x :: xs, vs => ∃ u us, vs = u :: us ∧ Rep g m w x u ∧ RepL g m w xs us
end
structure Leaf (g : Gh) (m : Mem) (w : World) (g' : Gh) (m' : Mem) (w' : World) : Prop where
 st : ∀ b o, b < w.heap.size → g.St m b o → g'.St m' b o
 cell : ∀ b o, b < w.heap.size → g.St m b o → w'.cell? ⟨b, o, none⟩ = w.cell? ⟨b, o, none⟩
 box : ∀ (i : Nat) b, g.box[i]? = some (some b) → g'.box[i]? = some (some b)
 gro : ∀ (i : Nat) sz L, m.gros[i]? = some (sz, L) → ∃ X, m'.gros[i]? = some (sz, L ++ X) ∧ (X = [] → g'.gro[i]? = g.gro[i]?)
theorem Z1 {w : World} {b off : Nat} {cs : List Value} (h : w.rangeAt b off cs) {j : Nat} (hj : j < cs.length) : b < w.heap.size :=
 ybr w ⟨b, off + j, none⟩ (h j _ (zbf hj))
theorem XaD {g : Gh} {m : Mem} {w : World} {g' : Gh} {m' : Mem} {w' : World} (E : Leaf g m w g' m' w') {b off : Nat} {cs : List Value} (h : w.rangeAt b off cs) (hs : ∀ j, j < cs.length → g.St m b (off + j)) :
  w'.rangeAt b off cs ∧ ∀ j, j < cs.length → g'.St m' b (off + j) :=
 ⟨fun j v hv => by
  have hj : j < cs.length := (xbe.1 hv).1
  rw [E.cell b _ (Z1 h hj) (hs j hj)]; exact h j v hv,
  fun j hj => E.st b _ (Z1 h hj) (hs j hj)⟩
theorem Row.keep {g : Gh} {m : Mem} {w : World} {g' : Gh} {m' : Mem} {w' : World} (E : Leaf g m w g' m' w') {a : Option Addr} {sz : Nat} {l : List (List Value)} (h : Row (g.St m) w a sz l) : Row (g'.St m') w' a sz l :=
 ⟨h.even, h.one, h.lies.imp id fun ⟨b, off, ha, hr, hs⟩ => let k := XaD E hr hs; ⟨b, off, ha, k.1, k.2⟩⟩
theorem LSl.keep {g : Gh} {m : Mem} {w : World} {g' : Gh} {m' : Mem} {w' : World} (E : Leaf g m w g' m' w') {full : Bool} {sz : Nat} {l : List (List Value)} {v : Value} (h : LSl g m w full sz l v) : LSl g' m' w' full sz l v :=
 let ⟨a, c, h1, h2, h3, h4⟩ := h; ⟨a, c, h1, h2, h3, h4.keep E⟩
theorem LGr.keep {g : Gh} {m : Mem} {w : World} {g' : Gh} {m' : Mem} {w' : World} (E : Leaf g m w g' m' w') {i n : Nat} {v : Value} (h : LGr g m w i n v) : LGr g' m' w' i n v := by
 obtain ⟨sz, L, a, c, h1, h2, h3, h4, h5, h6⟩ := h
 obtain ⟨X, k1, k2⟩ := E.gro i sz L h1
 refine ⟨sz, L ++ X, a, c, k1, by simp; omega, h3, h4, ?_, fun hn => ?_⟩
 ·rw [ybq h2]; exact h5.keep E
 ·have hX : X = [] := by
   have : X.length = 0 := by simp at hn; omega
   exact xbg this
  subst hX
  rcases h6 (by simpa using hn) with h | ⟨b, hb, hg⟩
  ·exact .inl h
  ·exact .inr ⟨b, hb, by rw [k2 rfl]; exact hg⟩
mutual
theorem Rep.keep {g : Gh} {m : Mem} {w : World} {g' : Gh} {m' : Mem} {w' : World} (E : Leaf g m w g' m' w') : ∀ (x : AV) (v : Value), Rep g m w x v → Rep g' m' w' x v
 | .any, _, _ => by simp [Rep]
 | .cell, v, h => by simpa [Rep] using h
 | .lit x, v, h => by simpa [Rep] using h
 | .sl full sz n f, v, h => by simp only [Rep] at h ⊢; exact h.keep E
 | .gr i n, v, h => by simp only [Rep] at h ⊢; exact h.keep E
 | .ptr i off, v, h => by simp only [Rep] at h ⊢; exact let ⟨b, h1, h2⟩ := h; ⟨b, E.box i b h1, h2⟩
 | .cp l, v, h => by simp only [Rep] at h ⊢; exact let ⟨b, off, h1, h2, h3⟩ := h; let k := XaD E h2 h3; ⟨b, off, h1, k.1, k.2⟩
 | .bs i sz n, v, h => by simp only [Rep] at h ⊢; exact let ⟨b, c, h1, h2⟩ := h; ⟨b, c, E.box i b h1, h2⟩
 | .fn f cap, v, h => by simp only [Rep] at h ⊢; exact let ⟨vs, h1, h2⟩ := h; ⟨vs, h1, RepL.keep E cap vs h2⟩
 | .agg l, v, h => by simp only [Rep] at h ⊢; exact let ⟨vs, h1, h2⟩ := h; ⟨vs, h1, RepL.keep E l vs h2⟩
 | .tup l, v, h => by simp only [Rep] at h ⊢; exact let ⟨vs, h1, h2⟩ := h; ⟨vs, h1, RepL.keep E l vs h2⟩
theorem RepL.keep {g : Gh} {m : Mem} {w : World} {g' : Gh} {m' : Mem} {w' : World} (E : Leaf g m w g' m' w') : ∀ (xs : List AV) (vs : List Value), RepL g m w xs vs → RepL g' m' w' xs vs
 | [], vs, h => by simpa [RepL] using h
 | x :: xs, vs, h => by simp only [RepL] at h ⊢; exact let ⟨u, us, h1, h2, h3⟩ := h; ⟨u, us, h1, Rep.keep E x u h2, RepL.keep E xs us h3⟩
end
structure Rel (g : Gh) (m : Mem) (w : World) : Prop where
 nb : g.box.length = m.boxes.length
 ng : g.gro.length = m.gros.length
 base : g.base ≤ w.heap.size
 box : ∀ (i : Nat) b cs, g.box[i]? = some (some b) → m.boxes[i]? = some cs → g.base ≤ b ∧ ∃ vs rest ty fr, w.heap[b]? = some (.cells (vs ++ rest).toArray ty fr) ∧ RepL g m w cs vs ∧ ∀ o, o < vs.length → (decide (fr.1 ≤ o) && decide (o < fr.2)) = false
 gro : ∀ (i : Nat) b c sz L, g.gro[i]? = some (some (b, c)) → m.gros[i]? = some (sz, L) → g.base ≤ b ∧ ∃ cs ty, w.heap[b]? = some (.cells cs ty (0, 0)) ∧ cs.size = c * sz ∧ L.length ≤ c
 boxInj : ∀ (i j : Nat) b, g.box[i]? = some (some b) → g.box[j]? = some (some b) → i = j
 groInj : ∀ (i j : Nat) b c c', g.gro[i]? = some (some (b, c)) → g.gro[j]? = some (some (b, c')) → i = j
 apart : ∀ (i j : Nat) b c, g.box[i]? = some (some b) → g.gro[j]? = some (some (b, c)) → False
 inv : InvAt g.base w
structure Ext (g : Gh) (m : Mem) (w : World) (g' : Gh) (m' : Mem) (w' : World) : Prop extends Leaf g m w g' m' w' where
 gbase : g'.base = g.base
 gS : g'.S = g.S
 below : Below g.base w w'
theorem Leaf.refl (g : Gh) (m : Mem) (w : World) : Leaf g m w g m w :=
 ⟨fun _ _ _ h => h, fun _ _ _ _ => rfl, fun _ _ h => h, fun i sz L h => ⟨[], by simpa using h, fun _ => rfl⟩⟩
theorem Ext.refl (g : Gh) (m : Mem) (w : World) : Ext g m w g m w := ⟨Leaf.refl g m w, rfl, rfl, ybd _ _⟩
theorem Leaf.trans {g : Gh} {m : Mem} {w : World} {g' : Gh} {m' : Mem} {w' : World} {g'' : Gh} {m'' : Mem} {w'' : World} (h : Leaf g m w g' m' w') (hs : w.heap.size ≤ w'.heap.size) (k : Leaf g' m' w' g'' m'' w'') : Leaf g m w g'' m'' w'' where
 st b o hb hst := k.st b o (by omega) (h.st b o hb hst)
 cell b o hb hst := (k.cell b o (by omega) (h.st b o hb hst)).trans (h.cell b o hb hst)
 box i b hb := k.box i b (h.box i b hb)
 gro i sz L hL := by
  obtain ⟨X, h1, h2⟩ := h.gro i sz L hL
  obtain ⟨Y, k1, k2⟩ := k.gro i sz _ h1
  refine ⟨X ++ Y, by rw [k1, xbj], fun e => ?_⟩
  have hX := (List.append_eq_nil_iff.1 e).1
  have hY := (List.append_eq_nil_iff.1 e).2
  rw [k2 hY, h2 hX]
theorem Ext.trans {g : Gh} {m : Mem} {w : World} {g' : Gh} {m' : Mem} {w' : World} {g'' : Gh} {m'' : Mem} {w'' : World} (h : Ext g m w g' m' w') (k : Ext g' m' w' g'' m'' w'') : Ext g m w g'' m'' w'' :=
 ⟨h.toLeaf.trans h.below.size k.toLeaf, k.gbase.trans h.gbase, k.gS.trans h.gS, h.below.trans (by have := k.below; rwa [h.gbase] at this)⟩
theorem Rep.ext {g : Gh} {m : Mem} {w : World} {g' : Gh} {m' : Mem} {w' : World} (E : Ext g m w g' m' w') {x : AV} {v : Value} (h : Rep g m w x v) : Rep g' m' w' x v := Rep.keep E.toLeaf x v h
structure SRel (g : Gh) (st : St) (w : World) (a : Act) : Prop where
 rel : Rel g st.mem w
 defers : a.defers = []
 tmps : ∀ (t : Nat) x, st.tmps[t]? = some x → ∃ v, a.tmps[t]? = some v ∧ Rep g st.mem w x v
end Go.Ev
namespace Go.Ev
open Go Go.RowKit
variable [Inv]
theorem RepL.get {g : Gh} {m : Mem} {w : World} : ∀ {xs : List AV} {vs : List Value}, RepL g m w xs vs → ∀ (i : Nat) x, xs[i]? = some x → ∃ v, vs[i]? = some v ∧ Rep g m w x v
 | [], _, h, i, x, e => by simp at e
 | y :: ys, vs, h, i, x, e => by
  simp only [RepL] at h
  obtain ⟨u, us, rfl, h1, h2⟩ := h
  cases i with
  | zero => simp at e; subst e; exact ⟨u, rfl, h1⟩
  | succ i => simpa using RepL.get h2 i x (by simpa using e)
theorem RepL.length {g : Gh} {m : Mem} {w : World} : ∀ {xs : List AV} {vs : List Value}, RepL g m w xs vs → vs.length = xs.length
 | [], vs, h => by simp only [RepL] at h; subst h; rfl
 | y :: ys, vs, h => by
  simp only [RepL] at h
  obtain ⟨u, us, rfl, h1, h2⟩ := h
  simp [RepL.length h2]
theorem RepL.mk {g : Gh} {m : Mem} {w : World} : ∀ {xs : List AV} {vs : List Value}, vs.length = xs.length → (∀ (i : Nat) x v, xs[i]? = some x → vs[i]? = some v → Rep g m w x v) → RepL g m w xs vs
 | [], vs, h, _ => by simp only [RepL]; exact xbg h
 | y :: ys, [], h, _ => by simp at h
 | y :: ys, u :: us, h, k => by
  simp only [RepL]
  exact ⟨u, us, rfl, k 0 y u rfl rfl, RepL.mk (by simpa using h) fun i x v e1 e2 => k (i + 1) x v (by simpa using e1) (by simpa using e2)⟩
theorem RepL.append {g : Gh} {m : Mem} {w : World} {xs ys : List AV} {us vs : List Value} (h : RepL g m w xs us) (k : RepL g m w ys vs) : RepL g m w (xs ++ ys) (us ++ vs) := by
 refine RepL.mk (by simp [h.length, k.length]) fun i x v e1 e2 => ?_
 have hl := h.length
 rw [List.getElem?_append] at e1 e2
 rw [hl] at e2
 split at e1
 ·rename_i hi
  rw [if_pos hi] at e2
  obtain ⟨v', h1, h2⟩ := h.get i x e1
  rw [h1] at e2; cases e2; exact h2
 ·rename_i hi
  rw [if_neg hi] at e2
  obtain ⟨v', h1, h2⟩ := k.get _ x e1
  rw [h1] at e2; cases e2; exact h2
theorem RepL.take {g : Gh} {m : Mem} {w : World} {xs : List AV} {us : List Value} (h : RepL g m w xs us) (n : Nat) : RepL g m w (xs.take n) (us.take n) := by
 refine RepL.mk (by simp [h.length]) fun i x v e1 e2 => ?_
 rw [Ybi] at e1 e2
 split at e1
 ·rename_i hi
  rw [if_pos hi] at e2
  obtain ⟨v', h1, h2⟩ := h.get i x e1
  rw [h1] at e2; cases e2; exact h2
 ·cases e1
theorem RepL.drop {g : Gh} {m : Mem} {w : World} {xs : List AV} {us : List Value} (h : RepL g m w xs us) (n : Nat) : RepL g m w (xs.drop n) (us.drop n) := by
 refine RepL.mk (by simp [h.length]) fun i x v e1 e2 => ?_
 rw [zbn] at e1 e2
 obtain ⟨v', h1, h2⟩ := h.get _ x e1
 rw [h1] at e2; cases e2; exact h2
theorem RepL.lit {g : Gh} {m : Mem} {w : World} (vs : List Value) : RepL g m w (vs.map .lit) vs := by
 refine RepL.mk (by simp) fun i x v e1 e2 => ?_
 simp only [Xbn, e2, xbo, Option.some.injEq] at e1
 subst e1; simp [Rep]
def splice {α : Type} (l : List α) (o : Nat) (u : List α) : List α := l.take o ++ u ++ l.drop (o + u.length)
theorem RepL.splice {g : Gh} {m : Mem} {w : World} {xs ys : List AV} {us vs : List Value} (h : RepL g m w xs us) (k : RepL g m w ys vs) (o : Nat) : RepL g m w (splice xs o ys) (splice us o vs) := by
 unfold Go.Ev.splice
 rw [k.length]
 exact ((h.take o).append k).append (h.drop _)
theorem Zaj {α : Type} (l : List α) (o : Nat) (u : List α) (h : o + u.length ≤ l.length) : (splice l o u).length = l.length := by
 unfold splice; simp; omega
theorem zaE {α : Type} (l : List α) (o : Nat) : splice l o [] = l := by unfold splice; simp
theorem Yav {α : Type} (l : List α) (o : Nat) (v : α) (r : List α) (h : o + (v :: r).length ≤ l.length) : splice (l.set o v) (o + 1) r = splice l o (v :: r) := by
 unfold splice
 apply Zbr
 intro i
 simp only [List.getElem?_append, Xbb, ybc, List.length_set, Ybi, zbn, List.getElem?_set, Xbd] at h ⊢
 by_cases h1 : i < o
 ·simp [show i < min (o + 1) l.length + r.length by omega, show i < min (o + 1) l.length by omega, show i < min o l.length + (r.length + 1) by omega, show i < min o l.length by omega, show i < o + 1 by omega, show ¬ o = i by omega, h1]
 ·by_cases h2 : i = o
  ·subst h2
   simp [show i < min (i + 1) l.length + r.length by omega, show i < min (i + 1) l.length by omega, show i < min i l.length + (r.length + 1) by omega, show ¬ i < min i l.length by omega, show i - min i l.length = 0 by omega, show i < l.length by omega]
  ·by_cases h3 : i < o + 1 + r.length
   ·simp [show i < min (o + 1) l.length + r.length by omega, show ¬ i < min (o + 1) l.length by omega, show i < min o l.length + (r.length + 1) by omega, show ¬ i < min o l.length by omega]
    rw [show i - min o l.length = (i - min (o + 1) l.length) + 1 by omega, xbr]
   ·simp [show ¬ i < min (o + 1) l.length + r.length by omega, show ¬ i < min o l.length + (r.length + 1) by omega, show ¬ o = o + 1 + r.length + (i - (min (o + 1) l.length + r.length)) by omega]
    congr 1; omega
theorem yaR {α : Type} (l r : List α) (o : Nat) (u : List α) (h : o + u.length ≤ l.length) : splice (l ++ r) o u = splice l o u ++ r := by
 unfold splice
 rw [ybq (by omega), List.drop_append_of_le_length h]
 simp
theorem yZ (b : Nat) : ∀ (us : List Value) (o : Nat) (w : World) (xs : List Value) (ty : TypeId) (fr : Nat × Nat), w.heap[b]? = some (.cells xs.toArray ty fr) → o + us.length ≤ xs.length → (w.setCells b o us).heap[b]? = some (.cells (splice xs o us).toArray ty fr)
 | [], o, w, xs, ty, fr, h, _ => by rw [zaE]; exact h
 | v :: r, o, w, xs, ty, fr, h, hl => by
  rw [World.setCells, ← Yav xs o v r hl]
  refine yZ b r (o + 1) _ (xs.set o v) ty fr ?_ (by simp at hl ⊢; omega)
  simp [World.setCell, Array.getElem?_modify, h]
theorem ZH (b : Nat) : ∀ (us : List Value) (o : Nat) (w0 w : World) (B : Nat), B ≤ b → Below B w0 w → Below B w0 (w.setCells b o us)
 | [], _, _, _, _, _, h => h
 | v :: r, o, w0, w, B, hb, h => ZH b r (o + 1) w0 _ B hb (h.setCell hb v)
theorem xB (b : Nat) : ∀ (us : List Value) (o : Nat) (w : World) (k : Nat), k ≠ b → (w.setCells b o us).heap[k]? = w.heap[k]?
 | [], _, _, _, _ => rfl
 | v :: r, o, w, k, h => (xB b r (o + 1) _ k h).trans (Ybt w ⟨b, o, none⟩ v k h)
theorem xZ (b : Nat) : ∀ (us : List Value) (o : Nat) (w : World), (w.setCells b o us).heap.size = w.heap.size
 | [], _, _ => rfl
 | v :: r, o, w => (xZ b r (o + 1) _).trans (World.size_setCell ..)
theorem Yw {w : World} {b : Nat} {o : Obj} (h : w.heap[b]? = some o) : b < w.heap.size := (Xbk.1 h).1
section
variable {g : Gh} {m : Mem} {w : World}
theorem Leaf.of_below {w' : World} (h : Below w.heap.size w w') : Leaf g m w g m w' :=
 ⟨fun _ _ _ h => h, fun b o hb _ => h.cell (p := ⟨b, o, none⟩) hb, fun _ _ h => h, fun i sz L h => ⟨[], by simpa using h, fun _ => rfl⟩⟩
theorem Ext.of_below (hr : Rel g m w) {w' : World} (h : Below w.heap.size w w') : Ext g m w g m w' := ⟨Leaf.of_below h, rfl, rfl, h.mono hr.base⟩
theorem Rel.of_below (hr : Rel g m w) {w' : World} (h : Below w.heap.size w w') : Rel g m w' where
 nb := hr.nb
 ng := hr.ng
 base := Ybg hr.base h.size
 inv := hr.inv.below (h.mono hr.base)
 box i b cs h1 h2 := by
  obtain ⟨k1, vs, rest, ty, fr, k2, k3, k4⟩ := hr.box i b cs h1 h2
  exact ⟨k1, vs, rest, ty, fr, (h.block b (Yw k2)).trans k2, RepL.keep (Leaf.of_below h) _ _ k3, k4⟩
 gro i b c sz L h1 h2 := by
  obtain ⟨k1, cs, ty, k2, k3⟩ := hr.gro i b c sz L h1 h2
  exact ⟨k1, cs, ty, (h.block b (Yw k2)).trans k2, k3⟩
 boxInj := hr.boxInj
 groInj := hr.groInj
 apart := hr.apart
theorem Rel.box_lt (hr : Rel g m w) {i b : Nat} (h : g.box[i]? = some (some b)) : b < w.heap.size ∧ g.base ≤ b := by
 have hi : i < m.boxes.length := by rw [← hr.nb]; exact (xbe.1 h).1
 obtain ⟨k1, vs, rest, ty, fr, k2, k3⟩ := hr.box i b _ h (zbf hi)
 exact ⟨Yw k2, k1⟩
theorem Rel.gro_lt (hr : Rel g m w) {i b c : Nat} (h : g.gro[i]? = some (some (b, c))) : b < w.heap.size ∧ g.base ≤ b := by
 have hi : i < m.gros.length := by rw [← hr.ng]; exact (xbe.1 h).1
 obtain ⟨k1, cs, ty, k2, k3⟩ := hr.gro i b c _ _ h (zbf hi)
 exact ⟨Yw k2, k1⟩
def Gh.add (g : Gh) (b : Nat) : Gh := { g with box := g.box ++ [some b] }
def Mem.add (m : Mem) (cs : List AV) : Mem := { m with boxes := m.boxes ++ [cs] }
theorem ZE {α : Type} {l : List α} {x y : α} {i : Nat} (h : (l ++ [x])[i]? = some y) : l[i]? = some y ∨ (i = l.length ∧ x = y) := by
 rw [List.getElem?_append] at h
 split at h
 ·exact .inl h
 ·rename_i hi
  rcases ybn l.length i with hk | hk
  ·rw [show i - l.length = (i - l.length - 1) + 1 by omega] at h; simp at h
  ·have : i = l.length := by omega
   subst this; simp at h; exact .inr ⟨rfl, h⟩
theorem YaW (hr : Rel g m w) (cs : List AV) {w' : World} (h : Below w.heap.size w w') (b : Nat) (hb : w.heap.size ≤ b) : Leaf g m w (g.add b) (m.add cs) w' where
 st b' o hb' hs := by
  rcases hs with hs | ⟨h1, h2, h3⟩
  ·exact .inl hs
  ·refine .inr ⟨h1, fun i hi => ?_, h3⟩
   rcases ZE hi with hi | ⟨_, hi⟩
   ·exact h2 i hi
   ·cases hi; omega
 cell b o hb _ := h.cell (p := ⟨b, o, none⟩) hb
 box i b' hi := by
  show (g.box ++ [some b])[i]? = _
  rw [Ybj (xbe.1 hi).1]; exact hi
 gro i sz L h := ⟨[], by simpa [Mem.add] using h, fun _ => rfl⟩
theorem Rel.addW (hr : Rel g m w) {cs : List AV} {vs : List Value} (hv : RepL g m w cs vs) (rest : List Value) (ty : TypeId) (fr : Nat × Nat) (hfr : ∀ o, o < vs.length → (decide (fr.1 ≤ o) && decide (o < fr.2)) = false) : Rel (g.add w.heap.size) (m.add cs) (w.alloc (.cells (vs ++ rest).toArray ty fr)) := by
 have hB : Below w.heap.size w (w.alloc (.cells (vs ++ rest).toArray ty fr)) := (ybd _ w).alloc (Xbc _) _
 have hL := YaW hr cs hB w.heap.size (Xbc _)
 refine ⟨by simp [Gh.add, Mem.add, hr.nb], hr.ng, by have := hr.base; simp [Gh.add]; omega, ?_, ?_, ?_, hr.groInj, ?_, hr.inv.below (hB.mono hr.base)⟩
 ·intro i b cs' h1 h2
  rcases ZE h1 with h1 | ⟨hi, h1⟩
  ·have hi := (xbe.1 h1).1
   have h2' : m.boxes[i]? = some cs' := by
    rw [← h2]; show _ = (m.boxes ++ [cs])[i]?
    rw [Ybj (by rw [← hr.nb]; exact hi)]
   obtain ⟨k1, us, rest', ty', fr', k2, k3, k4⟩ := hr.box i b cs' h1 h2'
   exact ⟨k1, us, rest', ty', fr', (hB.block b (Yw k2)).trans k2, RepL.keep hL _ _ k3, k4⟩
  ·cases h1
   have : cs' = cs := by
    have h2 : (m.boxes ++ [cs])[i]? = some cs' := h2
    rw [hi, hr.nb] at h2; simpa using h2.symm
   subst this
   refine ⟨hr.base, vs, rest, ty, fr, ?_, RepL.keep hL _ _ hv, hfr⟩
   show (w.heap.push _)[w.heap.size]? = _
   simp
 ·intro i b c sz L h1 h2
  obtain ⟨k1, us, ty', k2, k3⟩ := hr.gro i b c sz L h1 h2
  exact ⟨k1, us, ty', (hB.block b (Yw k2)).trans k2, k3⟩
 ·intro i j b h1 h2
  rcases ZE h1 with h1 | ⟨hi, h1⟩ <;> rcases ZE h2 with h2 | ⟨hj, h2⟩
  ·exact hr.boxInj i j b h1 h2
  ·cases h2; have := (hr.box_lt h1).1; omega
  ·cases h1; have := (hr.box_lt h2).1; omega
  ·omega
 ·intro i j b c h1 h2
  rcases ZE h1 with h1 | ⟨hi, h1⟩
  ·exact hr.apart i j b c h1 h2
  ·cases h1; have := (hr.gro_lt h2).1; omega
theorem Rel.add (hr : Rel g m w) {cs : List AV} {vs : List Value} (hv : RepL g m w cs vs) (ty : TypeId) : Rel (g.add w.heap.size) (m.add cs) (w.alloc (.cells vs.toArray ty)) := by
 have := hr.addW hv [] ty (0, 0) (by simp)
 simpa using this
theorem Ext.add (hr : Rel g m w) (cs : List AV) (ob : Obj) : Ext g m w (g.add w.heap.size) (m.add cs) (w.alloc ob) :=
 have hB : Below w.heap.size w (w.alloc ob) := (ybd _ w).alloc (Xbc _) _
 ⟨YaW hr cs hB _ (Xbc _), rfl, rfl, hB.mono hr.base⟩
theorem add_ptr (hr : Rel g m w) (cs : List AV) (W : World) : Rep (g.add w.heap.size) (m.add cs) W (.ptr m.boxes.length 0) (.pointer (some ⟨w.heap.size, 0, none⟩)) := by
 simp only [Rep]
 refine ⟨w.heap.size, ?_, rfl⟩
 show (g.box ++ [some w.heap.size])[m.boxes.length]? = _
 rw [← hr.nb]; simp
def Mem.put (m : Mem) (i : Nat) (cs : List AV) : Mem := { m with boxes := m.boxes.set i cs }
theorem za8 {i b : Nat} (hr : Rel g m w) (hb : g.box[i]? = some (some b)) (cs : List AV) (off : Nat) (us : List Value) : Leaf g m w g (m.put i cs) (w.setCells b off us) where
 st _ _ _ h := h
 cell b' o _ hs := by
  have hne : b' ≠ b := fun e => by
   subst e
   have := (hr.box_lt hb).2
   rcases hs with ⟨h1, _⟩ | ⟨_, h2, _⟩
   ·omega
   ·exact h2 i hb
  exact World.cell?_of_block (w := w) (xB b us off w b' hne)
 box _ _ h := h
 gro i sz L h := ⟨[], by simpa [Mem.put] using h, fun _ => rfl⟩
theorem Rel.store {i b off : Nat} (hr : Rel g m w) (hb : g.box[i]? = some (some b)) {cs ys : List AV} (hc : m.boxes[i]? = some cs) {us : List Value} (hu : RepL g m w ys us) (hl : off + ys.length ≤ cs.length) :
  Rel g (m.put i (splice cs off ys)) (w.setCells b off us) ∧ Ext g m w g (m.put i (splice cs off ys)) (w.setCells b off us) := by
 have hL := za8 hr hb (splice cs off ys) off us
 obtain ⟨hb1, vs, rest, ty, fr, hb2, hb3, hb4⟩ := hr.box i b cs hb hc
 refine ⟨⟨by simp [Mem.put, hr.nb], hr.ng, by rw [xZ]; exact hr.base, ?_, ?_, hr.boxInj, hr.groInj, hr.apart, hr.inv.below (ZH b us off w w _ hb1 (ybd _ _))⟩, ⟨hL, rfl, rfl, ZH b us off w w _ hb1 (ybd _ _)⟩⟩
 ·intro j b' cs' h1 h2
  by_cases hij : i = j
  ·subst hij
   rw [hb] at h1; cases h1
   have : cs' = splice cs off ys := by
    have h2 : (m.boxes.set i (splice cs off ys))[i]? = some cs' := h2
    rw [ybo (xbe.1 hc).1] at h2; exact (Option.some.inj h2).symm
   subst this
   have hle : off + us.length ≤ vs.length := by rw [hu.length, hb3.length]; exact hl
   refine ⟨hb1, splice vs off us, rest, ty, fr, ?_, RepL.keep hL _ _ (hb3.splice hu off), by rw [Zaj _ _ _ hle]; exact hb4⟩
   rw [yZ b us off w (vs ++ rest) ty _ hb2 (by simp; omega), yaR _ _ _ _ hle]
  ·have h2' : m.boxes[j]? = some cs' := by
    have h2 : (m.boxes.set i (splice cs off ys))[j]? = some cs' := h2
    rwa [ybp hij] at h2
   obtain ⟨k1, us', rest', ty', fr', k2, k3, k4⟩ := hr.box j b' cs' h1 h2'
   have hne : b' ≠ b := fun e => by subst e; exact hij (hr.boxInj i j b' hb h1)
   exact ⟨k1, us', rest', ty', fr', (xB b us off w b' hne).trans k2, RepL.keep hL _ _ k3, k4⟩
 ·intro j b' c sz L h1 h2
  obtain ⟨k1, us', ty', k2, k3⟩ := hr.gro j b' c sz L h1 h2
  have hne : b' ≠ b := fun e => by subst e; exact hr.apart i j b' c hb h1
  exact ⟨k1, us', ty', (xB b us off w b' hne).trans k2, k3⟩
end
def St.val (st : St) : Operand → AV
 | .tmp t => st.tmps.getD t .any
 | .const v => .lit v
 | .global g => .lit (.pointer (some ⟨g, 0, none⟩))
 | .func f => .lit (.func (.func f) #[] #[])
def AV.isLit : AV → Bool
 | .lit _ => true
 | _ => false
def AV.v : AV → Value
 | .lit v => v
 | _ => undef
def AV.cells : AV → Option (List AV)
 | .any => none
 | .tup _ => none
 | .agg l => some l
 | .lit (.agg cs) => some (cs.toList.map .lit)
 | .lit (.tuple _) => none
 | x => some [x]
def AV.one : AV → Bool
 | .lit x => x.oneCell'
 | .any | .agg _ | .tup _ => false
 | _ => true
def lits : List AV → Option (List Value)
 | [] => some []
 | .lit x :: r => (lits r).map (x :: ·)
 | _ :: _ => none
def Z9 (l : List AV) : AV := match lits l with
 | some vs => .lit (.agg vs.toArray)
 | none => .agg l
def Op.quiet : Op → Bool
 | .select .. => false
 | _ => true
def St.allLit (st : St) (o : Op) : Bool := Op.quiet o && o.operands.all fun x => (st.val x).isLit
def St.env (st : St) (x : Operand) : Value := (st.val x).v
def Zv (P : Program) (st : St) (o : Oper) : Option AV :=
 if st.allLit o.op then match calm P (execOp st.env o) with
  | some (.value v) => some (.lit v)
  | _ => none
 else none
def Zac (P : Program) (t : TypeId) : Option (Bool × Nat) :=
 match P.underlying t, P.info? t with
 | some d, some i => some (d.isRow, i.size)
 | _, _ => none
def xY (P : Program) (m : Mem) (t : TypeId) (x : AV) : Option AV :=
 match Zac P t with
 | some (row, n) => match x with
  | .ptr i off => match m.boxes[i]? with
   | some cs => if row then (if off + n ≤ cs.length then some (Z9 ((cs.drop off).take n)) else none) else cs[off]?
   | none => none
  | .cp l => if row then (if n ≤ l.length then some (.lit (.agg (l.take n).toArray)) else none) else (l[0]?).map .lit
  | _ => none
 | none => none
def ZaJ (P : Program) (m : Mem) (t : TypeId) (x y : AV) : Option Mem :=
 match Zac P t, x, y.cells with
 | some (_, n), .ptr i off, some ys => match m.boxes[i]? with
  | some cs => if ys.length = n ∧ off + n ≤ cs.length ∧ ys.all AV.one = true then some (m.put i (splice cs off ys)) else none
  | none => none
 | _, _, _ => none
def xX (P : Program) (s : TypeId) (x : AV) (f : Nat) : Option AV :=
 match P.underlying s with
 | some (.struct fs) => match fs[f]? with
  | some fl => match P.info? fl.type with
   | some i => if i.size = 0 then none else match x with
    | .ptr b off => some (.ptr b (off + fl.offset))
    | .cp l => some (.cp (l.drop fl.offset))
    | _ => none
   | none => none
  | none => none
 | _ => none
def xQ (P : Program) (m : Mem) (t : TypeId) (x ix : AV) : Option AV :=
 match ix with
 | .lit (.int k j) => match P.underlying t with
  | some (.array n e) => match P.info? e, x with
   | some i, .ptr b off => if 0 ≤ j ∧ j < n then some (.ptr b (off + j.toNat * i.size)) else none
   | _, _ => none
  | some (.slice e) => match P.info? e, x with
   | some i, .sl _ sz n f => if sz = i.size ∧ 0 ≤ j ∧ j.toNat < n then some (.cp (f j.toNat)) else none
   | some i, .gr q n => match m.gros[q]? with
    | some (sz, L) => if sz = i.size ∧ 0 ≤ j ∧ j.toNat < n then some (.cp (L.getD j.toNat [])) else none
    | none => none
   | some i, .bs b sz n => if sz = i.size ∧ 0 ≤ j ∧ j < n then some (.ptr b (j.toNat * sz)) else none
   | _, _ => none
  | _ => none
 | _ => none
def yar (place : Nat → Option (Nat × Nat)) (cells : List AV) : List (Nat × AV) → Option (List AV)
 | [] => some cells
 | (i, x) :: rest => match place i, x.cells with
  | some (off, size), some ys => if ys.length ≠ size ∨ off + ys.length > cells.length then none else yar place (splice cells off ys) rest
  | _, _ => none
def YaJ (P : Program) (st : St) (t : TypeId) (parts : Array (Nat × Operand)) : Option AV :=
 match (P.info? t).bind (·.zero) with
 | some z => match P.underlying t with
  | some (.struct fs) => if fs.all (fun f => (P.info? f.type).isSome) then (yar (fun k => (fs[k]?).map fun f => (f.offset, ((P.info? f.type).map (·.size)).getD 0)) (z.cells.toList.map .lit) (parts.toList.map fun p => (p.1, st.val p.2))).map Z9 else none
  | some (.array _ e) => match P.info? e with
   | some i => (yar (fun k => some (k * i.size, i.size)) (z.cells.toList.map .lit) (parts.toList.map fun p => (p.1, st.val p.2))).map Z9
   | none => none
  | _ => none
 | none => none
def xar (P : Program) (t : TypeId) (x : AV) (f : Nat) : Option AV :=
 match P.underlying t, x with
 | some (.struct fs), .agg l => match fs[f]? with
  | some fl => match Zac P fl.type with
   | some (row, n) => if row then (if fl.offset + n ≤ l.length then some (Z9 ((l.drop fl.offset).take n)) else none) else l[fl.offset]?
   | none => none
  | none => none
 | _, _ => none
theorem Yal {g : Gh} {m : Mem} {w : World} {x : AV} {v : Value} {cs : List AV} (h : Rep g m w x v) (hc : x.cells = some cs) : ∃ vs, v.cells = vs.toArray ∧ RepL g m w cs vs := by
 have one : ∀ (x : AV) (v : Value), Rep g m w x v → (∀ cs, v ≠ .agg cs) → ∃ vs : List Value, v.cells = vs.toArray ∧ RepL g m w [x] vs := fun x v h hv =>
  ⟨[v], by cases v <;> first | rfl | (exact absurd rfl (hv _)), by simp only [RepL]; exact ⟨v, [], rfl, h, rfl⟩⟩
 cases x with
 | any => simp [AV.cells] at hc
 | cell =>
  simp only [AV.cells, Option.some.injEq] at hc; subst hc
  exact one _ _ h (by simp only [Rep] at h; intro cs e; subst e; simp [Value.oneCell'] at h)
 | tup l => simp [AV.cells] at hc
 | agg l =>
  simp only [AV.cells, Option.some.injEq] at hc; subst hc
  simp only [Rep] at h
  obtain ⟨vs, rfl, h2⟩ := h
  exact ⟨vs, rfl, h2⟩
 | lit y =>
  simp only [Rep] at h; subst h
  cases v with
  | agg c => simp only [AV.cells, Option.some.injEq] at hc; subst hc; exact ⟨c.toList, by simp [Value.cells], RepL.lit _⟩
  | tuple c => simp [AV.cells] at hc
  | _ => simp only [AV.cells, Option.some.injEq] at hc; subst hc; exact one _ _ (by simp [Rep]) (by intro _ e; cases e)
 | sl full sz n f =>
  simp only [AV.cells, Option.some.injEq] at hc; subst hc
  exact one _ _ h (by simp only [Rep] at h; obtain ⟨a, c, rfl, _⟩ := h; intro _ e; cases e)
 | gr i n =>
  simp only [AV.cells, Option.some.injEq] at hc; subst hc
  exact one _ _ h (by simp only [Rep] at h; obtain ⟨_, _, a, c, _, _, rfl, _⟩ := h; intro _ e; cases e)
 | ptr i off =>
  simp only [AV.cells, Option.some.injEq] at hc; subst hc
  exact one _ _ h (by simp only [Rep] at h; obtain ⟨_, _, rfl⟩ := h; intro _ e; cases e)
 | cp l =>
  simp only [AV.cells, Option.some.injEq] at hc; subst hc
  exact one _ _ h (by simp only [Rep] at h; obtain ⟨_, _, rfl, _⟩ := h; intro _ e; cases e)
 | bs i sz n =>
  simp only [AV.cells, Option.some.injEq] at hc; subst hc
  exact one _ _ h (by simp only [Rep] at h; obtain ⟨_, _, _, rfl, _⟩ := h; intro _ e; cases e)
 | fn f cap =>
  simp only [AV.cells, Option.some.injEq] at hc; subst hc
  exact one _ _ h (by simp only [Rep] at h; obtain ⟨_, rfl, _⟩ := h; intro _ e; cases e)
theorem rep_one {g : Gh} {m : Mem} {w : World} {x : AV} {v : Value} (h : Rep g m w x v) (ho : x.one = true) : v.oneCell' = true := by
 cases x with
 | any => simp [AV.one] at ho
 | cell => simpa [Rep] using h
 | agg l => simp [AV.one] at ho
 | tup l => simp [AV.one] at ho
 | lit y => simp only [Rep] at h; subst h; exact ho
 | sl full sz n f => simp only [Rep] at h; obtain ⟨a, c, rfl, _⟩ := h; rfl
 | gr i n => simp only [Rep] at h; obtain ⟨_, _, a, c, _, _, rfl, _⟩ := h; rfl
 | ptr i off => simp only [Rep] at h; obtain ⟨_, _, rfl⟩ := h; rfl
 | cp l => simp only [Rep] at h; obtain ⟨_, _, rfl, _⟩ := h; rfl
 | bs i sz n => simp only [Rep] at h; obtain ⟨_, _, _, rfl, _⟩ := h; rfl
 | fn f cap => simp only [Rep] at h; obtain ⟨_, rfl, _⟩ := h; rfl
theorem Xal {g : Gh} {m : Mem} {w : World} : ∀ {l : List AV} {vs us : List Value}, RepL g m w l vs → lits l = some us → vs = us
 | [], vs, us, h, e => by simp only [RepL] at h; simp only [lits, Option.some.injEq] at e; rw [h, e]
 | x :: r, vs, us, h, e => by
  simp only [RepL] at h
  obtain ⟨u, us', rfl, h1, h2⟩ := h
  cases x <;> simp only [lits, reduceCtorEq] at e
  rename_i y
  simp only [Rep] at h1; subst h1
  cases hr : lits r with
  | none => rw [hr] at e; cases e
  | some q => rw [hr] at e; simp only [xbo, Option.some.injEq] at e; subst e; rw [Xal h2 hr]
theorem ZT {g : Gh} {m : Mem} {w : World} {l : List AV} {vs : List Value} (h : RepL g m w l vs) : Rep g m w (Z9 l) (.agg vs.toArray) := by
 unfold Z9
 split
 ·rename_i us hu; simp only [Rep]; rw [Xal h hu]
 ·simp only [Rep]; exact ⟨vs, rfl, h⟩
def Fine (P : Program) (g : Gh) (m : Mem) (w : World) (a : Act) (o : Oper) (r : AV) (m' : Mem) : Prop :=
 ∀ (next : Act → World → Prop) (Q : Exit → Act → World → Prop), (∀ v g' w', Rel g' m' w' → Ext g m w g' m' w' → Rep g' m' w' r v → next (a.put o.dst v) w') → o.wp P a w next Q
def Still (P : Program) (g : Gh) (m : Mem) (w : World) (a : Act) (o : Oper) (r : AV) : Prop :=
 ∃ v, Rep g m w r v ∧ ∀ w', Below w.heap.size w w' → (execOp a.eval o).run P w' = .ok (.value v) w'
section
variable {P : Program} {g : Gh} {st : St} {w : World} {a : Act}
theorem Xw {m m' : Mem} {o : Oper} {r : AV} {v : Value} {g' : Gh} {w' : World} (hrun : (execOp a.eval o).run P w = .ok (.value v) w') (h1 : Rel g' m' w') (h2 : Ext g m w g' m' w') (h3 : Rep g' m' w' r v) : Fine P g m w a o r m' := fun next Q hn => by
 unfold Oper.wp; rw [hrun]; exact hn v g' w' h1 h2 h3
theorem fine_skip {m m' : Mem} {o : Oper} {g' : Gh} {w' : World} (hrun : (execOp a.eval o).run P w = .ok .skip w') (h1 : Rel g' m' w') (h2 : Ext g m w g' m' w') : Fine P g m w a o .any m' := fun next Q hn => by
 unfold Oper.wp; rw [hrun]; exact hn undef g' w' h1 h2 (by simp [Rep])
theorem YF (hs : SRel g st w a) {o : Oper} {r : AV} (h : Still P g st.mem w a o r) : Fine P g st.mem w a o r st.mem :=
 let ⟨v, h1, h2⟩ := h
 Xw (h2 w (ybd _ _)) hs.rel (Ext.refl _ _ _) h1
theorem zk (hs : SRel g st w a) (x : Operand) : Rep g st.mem w (st.val x) (a.eval x) := by
 cases x with
 | tmp t =>
  simp only [St.val, Act.eval, zbe]
  cases h : st.tmps[t]? with
  | none => simp [Rep]
  | some y =>
   obtain ⟨v, h1, h2⟩ := hs.tmps t y h
   have : a.tmps.getD t undef = v := by simp [Array.getD_eq_getD_getElem?, h1]
   rw [this]; exact h2
 | const v => simp [St.val, Act.eval, Rep]
 | global q => simp [St.val, Act.eval, Rep]
 | func f => simp [St.val, Act.eval, Rep]
theorem val_lit (hs : SRel g st w a) {x : Operand} (h : (st.val x).isLit = true) : a.eval x = st.env x := by
 have := zk hs x
 unfold St.env
 revert h this
 cases st.val x <;> simp [AV.isLit, AV.v, Rep]
theorem zz (hs : SRel g st w a) {o : Oper} {r : AV} (h : Zv P st o = some r) : Still P g st.mem w a o r := by
 unfold Zv at h
 split at h
 ·rename_i hl
  simp only [St.allLit, zbi, Ybn] at hl
  split at h
  ·rename_i v hv
   cases h
   refine ⟨v, by simp [Rep], fun w' _ => ?_⟩
   have he : execOp a.eval o = execOp st.env o := execOp_congr o (fun cs b e => by have := hl.1; rw [e] at this; simp [Op.quiet] at this) fun x hx => val_lit hs (hl.2 x hx)
   rw [he]; exact calm_run hv w'
  ·cases h
 ·cases h
theorem z6 {t : TypeId} {row : Bool} {n : Nat} (h : Zac P t = some (row, n)) : ∃ d i, P.underlying t = some d ∧ P.info? t = some i ∧ d.isRow = row ∧ i.size = n := by
 unfold Zac at h
 split at h
 ·rename_i d i h1 h2; cases h; exact ⟨d, i, h1, h2, rfl, rfl⟩
 ·cases h
theorem YT {t : TypeId} {d : TypeDesc} (h : P.underlying t = some d) (w : World) : (isAgg t).run P w = .ok d.isRow w := by
 unfold isAgg
 rw [ybl, run_underlying h w]
 cases d <;> rfl
theorem Yac {t : TypeId} {d : TypeDesc} (h : P.underlying t = some d) (hd : d.isRow = false) {b off : Nat} {v : Value} (hc : w.cell? ⟨b, off, none⟩ = some v) :
  (Instr.loadAt t (.pointer (some ⟨b, off, none⟩))).run P w = .ok v w := by
 simp [Instr.loadAt, Instr.sureAddr, loadVar, YT h, hd, hc]
theorem Xac {b : Nat} {vs rest : List Value} {ty : TypeId} {fr : Nat × Nat} (hb : w.heap[b]? = some (.cells (vs ++ rest).toArray ty fr)) (off n : Nat) : w.rangeAt b off ((vs.drop off).take n) := fun j v hv => by
 rw [cell_of_row w b (off + j) _ ty fr hb]
 rw [Ybi] at hv
 split at hv
 ·rw [zbn] at hv
  rw [List.getElem?_toArray, Ybj (xbe.1 hv).1]; exact hv
 ·cases hv
theorem Xaf (hs : SRel g st w a) {o : Oper} {t : TypeId} {x : Operand} (ho : o.op = .load t x) {r : AV} (h : xY P st.mem t (st.val x) = some r) : Still P g st.mem w a o r := by
 have hx := zk hs x
 unfold xY at h
 split at h
 ·rename_i row n hrs
  obtain ⟨d, i, h1, h2, h3, h4⟩ := z6 hrs
  have hrun : ∀ v, (∀ w', Below w.heap.size w w' → (Instr.loadAt t (a.eval x)).run P w' = .ok v w') → ∀ w', Below w.heap.size w w' → (execOp a.eval o).run P w' = .ok (.value v) w' := fun v hv w' hw => by
   simp [execOp, ho, hv w' hw]
  split at h
  ·rename_i i' off hp
   rw [hp] at hx
   simp only [Rep] at hx
   obtain ⟨b, hb, hv⟩ := hx
   split at h
   ·rename_i cs hcs
    obtain ⟨hb1, vs, rest, ty, fr, hb2, hb3, hb4⟩ := hs.rel.box i' b cs hb hcs
    split at h
    ·rename_i hrow
     split at h
     ·rename_i hle
      cases h
      refine ⟨_, ZT ((hb3.drop off).take n), hrun _ fun w' hw => ?_⟩
      rw [hv]
      refine run_loadAt_mid w' b off t _ d (Xac ((hw.block b (Yw hb2)).trans hb2) off n) h1 (by rw [h3]; exact hrow) ?_
      rw [h2]; simp [h4, hb3.length]; omega
     ·cases h
    ·rename_i hrow
     obtain ⟨v, hv1, hv2⟩ := hb3.get off r h
     refine ⟨v, hv2, hrun v fun w' hw => ?_⟩
     rw [hv]
     exact Yac h1 (by rw [h3]; simpa using hrow) ((cell_of_row w' b off _ ty _ ((hw.block b (Yw hb2)).trans hb2)).trans (by rw [List.getElem?_toArray, Ybj (xbe.1 hv1).1]; exact hv1))
   ·cases h
  ·rename_i l hp
   rw [hp] at hx
   simp only [Rep] at hx
   obtain ⟨b, off, hv, hl, hst⟩ := hx
   split at h
   ·rename_i hrow
    split at h
    ·rename_i hle
     cases h
     refine ⟨.agg (l.take n).toArray, by simp [Rep], hrun _ fun w' hw => ?_⟩
     rw [hv]
     refine run_loadAt_mid w' b off t _ d (fun j u hu => ?_) h1 (by rw [h3]; exact hrow) (by rw [h2]; simp [h4]; omega)
     rw [Ybi] at hu
     split at hu
     ·have := hl j u hu
      exact (hw.cell (p := ⟨b, off + j, none⟩) (ybr w _ this)).trans this
     ·cases hu
    ·cases h
   ·rename_i hrow
    cases hl0 : l[0]? with
    | none => rw [hl0] at h; cases h
    | some u =>
     rw [hl0] at h
     simp only [xbo, Option.some.injEq] at h; subst h
     refine ⟨u, by simp [Rep], hrun u fun w' hw => ?_⟩
     rw [hv]
     have := hl 0 u hl0
     exact Yac h1 (by rw [h3]; simpa using hrow) ((hw.cell (p := ⟨b, off + 0, none⟩) (ybr w _ this)).trans this)
  ·cases h
 ·cases h
theorem ya8 (hs : SRel g st w a) {o : Oper} {t : TypeId} {x y : Operand} (ho : o.op = .store t x y) {m' : Mem} (h : ZaJ P st.mem t (st.val x) (st.val y) = some m') : Fine P g st.mem w a o .any m' := by
 have hx := zk hs x
 have hy := zk hs y
 unfold ZaJ at h
 split at h
 ·rename_i q n i off ys hrs hp hys
  obtain ⟨d, ti, h1, h2, h3, h4⟩ := z6 hrs
  rw [hp] at hx
  simp only [Rep] at hx
  obtain ⟨b, hb, hv⟩ := hx
  obtain ⟨us, hu1, hu2⟩ := Yal hy hys
  split at h
  ·rename_i cs hcs
   split at h
   ·rename_i hc
    obtain ⟨c1, c2, c3⟩ := hc
    cases h
    obtain ⟨hb1, vs, rest, ty, fr, hb2, hb3, hb4⟩ := hs.rel.box i b cs hb hcs
    have hS := hs.rel.store hb hcs hu2 (off := off) (by rw [c1]; exact c2)
    refine fine_skip ?_ hS.1 hS.2
    have hone : ∀ v ∈ us, v.oneCell' = true := fun v hv' => by
     obtain ⟨k, hk, rfl⟩ := List.getElem_of_mem hv'
     have hk' : k < ys.length := by rw [hu2.length] at hk; exact hk
     obtain ⟨v', e1, e2⟩ := hu2.get k ys[k] (zbf hk')
     rw [zbf hk] at e1; cases e1
     exact rep_one e2 (ybs.1 c3 _ (List.getElem_mem hk'))
    have hlen : us.length = n := by rw [hu2.length, c1]
    have hst := run_storeCells_cells (P := P) b off us 0 w
     (fun j hj => by
      rw [show off + 0 + j = off + j by omega, cell_of_row w b (off + j) _ ty _ hb2]
      have : off + j < (vs ++ rest).length := by rw [Xbb, hb3.length]; omega
      rw [List.getElem?_toArray, zbf this]; rfl)
     (fun j hj => by
      have := hb4 (off + 0 + j) (by rw [hb3.length]; omega)
      simp only [World.frozen?, hb2]; exact this) hone
    simp only [Nat.add_zero] at hst
    have hsz : us.length = ti.size := by rw [hlen, h4]
    simp [execOp, ho, Instr.storeAt, Instr.sureAddr, hv, storeVar, sizeOf, typeInfo, h2, hu1, hsz, hst]
   ·cases h
  ·cases h
 ·cases h
theorem Y9 (hs : SRel g st w a) {o : Oper} {s : TypeId} {x : Operand} {f : Nat} (ho : o.op = .fieldAddr s x f) {r : AV} (h : xX P s (st.val x) f = some r) : Still P g st.mem w a o r := by
 have hx := zk hs x
 unfold xX at h
 split at h
 ·rename_i fs hu
  split at h
  ·rename_i fl hf
   split at h
   ·rename_i i hi
    split at h
    ·cases h
    ·rename_i hnz
     have key : ∀ b off, a.eval x = .pointer (some ⟨b, off, none⟩) → ∀ w', Below w.heap.size w w' → (execOp a.eval o).run P w' = .ok (.value (.pointer (some ⟨b, off + fl.offset, none⟩))) w' := fun b off he w' _ => by
      simp [execOp, ho, Instr.fieldAt, run_underlying hu, hf, Instr.sureAddr, he, fieldPlace, sizeOf, typeInfo, hi, hnz, Addr.add_mid]
     split at h
     ·rename_i b off hp
      cases h
      rw [hp] at hx
      simp only [Rep] at hx
      obtain ⟨bb, hb, hv⟩ := hx
      exact ⟨_, by simp only [Rep]; exact ⟨bb, hb, rfl⟩, key _ _ hv⟩
     ·rename_i l hp
      cases h
      rw [hp] at hx
      simp only [Rep] at hx
      obtain ⟨bb, off, hv, hl, hst⟩ := hx
      refine ⟨_, ?_, key _ _ hv⟩
      simp only [Rep]
      refine ⟨bb, off + fl.offset, rfl, fun j u hu' => ?_, fun j hj => ?_⟩
      ·rw [zbn] at hu'
       rw [Zbi]; exact hl _ u hu'
      ·rw [Zbi]; exact hst _ (by simp at hj; omega)
     ·cases h
   ·cases h
  ·cases h
 ·cases h
end
theorem Yx {l : List (List Value)} {sz : Nat} (h : ∀ e ∈ l, e.length = sz) : l.flatten.length = l.length * sz := by
 induction l with
 | nil => simp
 | cons x r ih =>
  simp only [List.flatten_cons, Xbb, Xbd, h x (by simp), ih fun e he => h e (by simp [he])]
  rw [Xbr]; omega
theorem flat_drop {l : List (List Value)} {sz : Nat} (h : ∀ e ∈ l, e.length = sz) (k : Nat) (hk : k ≤ l.length) : l.flatten.drop (k * sz) = (l.drop k).flatten := by
 have e : l.flatten = (l.take k).flatten ++ (l.drop k).flatten := by rw [← List.flatten_append, List.take_append_drop]
 rw [e, ← flat_len_take h k hk, List.drop_left]
where
 flat_len_take {l : List (List Value)} {sz : Nat} (h : ∀ e ∈ l, e.length = sz) (k : Nat) (hk : k ≤ l.length) : (l.take k).flatten.length = k * sz := by
  rw [Yx (sz := sz) fun e he => h e (List.mem_of_mem_take he), ybc, zbq hk]
theorem Yaj {l : List (List Value)} {sz : Nat} (h : ∀ e ∈ l, e.length = sz) (k : Nat) (hk : k ≤ l.length) : (l.take k).flatten.length = k * sz := by
 rw [Yx (sz := sz) fun e he => h e (List.mem_of_mem_take he), ybc, zbq hk]
theorem Row.sub {S : Nat → Nat → Prop} {w : World} {a : Option Addr} {sz : Nat} {l : List (List Value)} (h : Row S w a sz l) (k n : Nat) (hk : k + n ≤ l.length) : Row S w (a.map (·.add (k * sz))) sz ((l.drop k).take n) := by
 refine ⟨fun e he => h.even e (List.mem_of_mem_drop (List.mem_of_mem_take he)), fun e he => h.one e (List.mem_of_mem_drop (List.mem_of_mem_take he)), ?_⟩
 rcases h.lies with h0 | ⟨b, off, ha, hr, hs⟩
 ·subst h0; left; simp
 ·right
  have hl := Yx h.even
  have hd : ∀ j, j < n * sz → ((l.drop k).take n).flatten[j]? = l.flatten[k * sz + j]? := fun j hj => by
   rw [← zbn, flat_drop h.even k (by omega)]
   have e : (l.drop k).flatten = ((l.drop k).take n).flatten ++ ((l.drop k).drop n).flatten := by rw [← List.flatten_append, List.take_append_drop]
   rw [e, Ybj]
   rw [Yaj (sz := sz) (fun e he => h.even e (List.mem_of_mem_drop he)) n (by simp; omega)]; exact hj
  have hlen : ((l.drop k).take n).flatten.length = n * sz := Yaj (sz := sz) (fun e he => h.even e (List.mem_of_mem_drop he)) n (by simp; omega)
  have hle : k * sz + n * sz ≤ l.flatten.length := by rw [hl, ← Xbr]; exact Ybp _ hk
  refine ⟨b, off + k * sz, by rw [ha]; simp [Addr.add_mid], fun j v hv => ?_, fun j hj => ?_⟩
  ·have hj : j < n * sz := by rw [← hlen]; exact (xbe.1 hv).1
   rw [hd j hj] at hv
   rw [Zbi]; exact hr _ v hv
  ·rw [Zbi]; exact hs _ (by omega)
theorem Row.elem {S : Nat → Nat → Prop} {w : World} {a : Option Addr} {sz : Nat} {l : List (List Value)} (h : Row S w a sz l) (k : Nat) (e : List Value) (he : l[k]? = some e) : ∃ b off, a = some ⟨b, off, none⟩ ∧ w.rangeAt b (off + k * sz) e ∧ ∀ j, j < e.length → S b (off + k * sz + j) := by
 have hk := (xbe.1 he).1
 have hs := h.sub k 1 (by omega)
 have e1 : (l.drop k).take 1 = [e] := by
  rw [List.take_one, List.head?_drop, he]; rfl
 rw [e1] at hs
 rcases hs.lies with h0 | ⟨b, off, ha, hr, hst⟩
 ·cases h0
 ·cases a with
  | none => simp at ha
  | some ad =>
   rcases h.lies with h0 | ⟨b', off', ha', _, _⟩
   ·subst h0; simp at hk
   ·cases ha'
    simp only [xbo, Addr.add_mid, Option.some.injEq, Addr.mk.injEq] at ha
    obtain ⟨rfl, rfl, _⟩ := ha
    exact ⟨_, _, rfl, by simpa using hr, by simpa using hst⟩
theorem Row.below {S : Nat → Nat → Prop} {w w' : World} {a : Option Addr} {sz : Nat} {l : List (List Value)} (h : Row S w a sz l) (hw : Below w.heap.size w w') : Row S w' a sz l :=
 ⟨h.even, h.one, h.lies.imp id fun ⟨b, off, ha, hr, hs⟩ => ⟨b, off, ha, fun j v hv => (hw.cell (p := ⟨b, off + j, none⟩) (ybr w _ (hr j v hv))).trans (hr j v hv), hs⟩⟩
section
variable {P : Program} {g : Gh} {st : St} {w : World} {a : Act}
theorem Xav {t e : TypeId} {i : TypeInfo} (ht : P.underlying t = some (.slice e)) (hi : P.info? e = some i) {b off len cap : Nat} {k : IntKind} {j : Int} (h0 : 0 ≤ j) (h1 : j.toNat < len) :
  (Instr.indexAt t (.slice (some ⟨b, off, none⟩) len cap) (.int k j)).run P w = .ok (.pointer (some ⟨b, off + j.toNat * i.size, none⟩)) w := by
 have h2 : j < (len : Int) := by omega
 simp [Instr.indexAt, asIntOf, run_underlying ht, h0, h2, sizeOf, typeInfo, hi, Addr.add_mid]
theorem Xat {t e : TypeId} {n : Nat} {i : TypeInfo} (ht : P.underlying t = some (.array n e)) (hi : P.info? e = some i) {b off : Nat} {k : IntKind} {j : Int} (h0 : 0 ≤ j) (h1 : j < n) :
  (Instr.indexAt t (.pointer (some ⟨b, off, none⟩)) (.int k j)).run P w = .ok (.pointer (some ⟨b, off + j.toNat * i.size, none⟩)) w := by
 simp [Instr.indexAt, asIntOf, run_underlying ht, h0, h1, sizeOf, typeInfo, hi, Addr.add_mid, Instr.sureAddr]
theorem xV (hs : SRel g st w a) {o : Oper} {t : TypeId} {x ix : Operand} (ho : o.op = .indexAddr t x ix) {r : AV} (h : xQ P st.mem t (st.val x) (st.val ix) = some r) : Still P g st.mem w a o r := by
 have hx := zk hs x
 have hix := zk hs ix
 unfold xQ at h
 split at h
 ·rename_i k j hj
  rw [hj] at hix; simp only [Rep] at hix
  have hop : ∀ v w', (Instr.indexAt t (a.eval x) (.int k j)).run P w' = .ok v w' → (execOp a.eval o).run P w' = .ok (.value v) w' := fun v w' hv => by
   simp [execOp, ho, hix, hv]
  split at h
  ·rename_i n e hu
   split at h
   ·rename_i i b off hi hp
    rw [hp] at hx; simp only [Rep] at hx
    obtain ⟨bb, hb, hv⟩ := hx
    split at h
    ·rename_i hc
     cases h
     refine ⟨_, by simp only [Rep]; exact ⟨bb, hb, rfl⟩, fun w' _ => hop _ w' ?_⟩
     rw [hv]; exact Xat hu hi hc.1 hc.2
    ·cases h
   ·cases h
  ·rename_i e hu
   have key : ∀ (l : List (List Value)) (sz : Nat) (ad : Option Addr) (len c : Nat) (i : TypeInfo) (el : List Value), P.info? e = some i → a.eval x = .slice ad len c → l.length ≤ len → Row (g.St st.mem) w ad sz l → sz = i.size → 0 ≤ j → l[j.toNat]? = some el → Still P g st.mem w a o (.cp el) := by
    intro l sz ad len c i el hi hv hl hrow hsz h0 he
    obtain ⟨b, off, rfl, hr, hst⟩ := hrow.elem _ el he
    have hk := (xbe.1 he).1
    subst hsz
    refine ⟨.pointer (some ⟨b, off + j.toNat * i.size, none⟩), by simp only [Rep]; exact ⟨b, _, rfl, hr, hst⟩, fun w' _ => hop _ w' ?_⟩
    rw [hv]; exact Xav hu hi h0 (by omega)
   split at h
   ·rename_i i _ sz n f hi hp
    rw [hp] at hx; simp only [Rep] at hx
    obtain ⟨ad, c, hv, hc, _, hrow⟩ := hx
    split at h
    ·rename_i hcc
     cases h
     exact key (Zf n f) sz ad _ c i _ hi hv (Xbc _) hrow hcc.1 hcc.2.1 (xT hcc.2.2)
    ·cases h
   ·rename_i i q n hi hp
    rw [hp] at hx; simp only [Rep] at hx
    obtain ⟨sz, L, ad, c, hL, hn, hv, hc, hrow, _⟩ := hx
    rw [hL] at h
    simp only at h
    split at h
    ·rename_i hcc
     cases h
     refine key (L.take n) sz ad _ c i _ hi hv (by simp; omega) hrow hcc.1 hcc.2.1 ?_
     rw [Ybi, if_pos hcc.2.2, zbe, zbf (by omega)]; rfl
    ·cases h
   ·rename_i i b sz n hi hp
    rw [hp] at hx; simp only [Rep] at hx
    obtain ⟨bb, c, hb, hv, hc⟩ := hx
    split at h
    ·rename_i hcc
     cases h
     obtain ⟨h1, h2, h3⟩ := hcc
     subst h1
     refine ⟨_, by simp only [Rep]; exact ⟨bb, hb, rfl⟩, fun w' _ => hop _ w' ?_⟩
     have := Xav (P := P) (w := w') hu hi (b := bb) (off := 0) (len := n) (cap := c) (k := k) h2 (by omega)
     rw [hv]; simpa using this
    ·cases h
   ·cases h
  ·cases h
 ·cases h
theorem xP (hs : SRel g st w a) {o : Oper} {x : Operand} (ho : o.op = .move x ∨ o.op = .assign x) : Still P g st.mem w a o (st.val x) := by
 refine ⟨a.eval x, zk hs x, fun w' _ => ?_⟩
 rcases ho with ho | ho <;> simp [execOp, ho]
theorem zag (hs : SRel g st w a) {o : Oper} {c x y : Operand} (ho : o.op = .pick c x y) {t : Bool} (hc : st.val c = .lit (.bool t)) : Still P g st.mem w a o (bif t then st.val x else st.val y) := by
 have h1 := zk hs c
 rw [hc] at h1; simp only [Rep] at h1
 refine ⟨if t then a.eval x else a.eval y, ?_, fun w' _ => by cases t <;> simp [execOp, ho, h1, asBool]⟩
 cases t
 ·exact zk hs y
 ·exact zk hs x
theorem zad (hs : SRel g st w a) {o : Oper} {x : Operand} (ho : o.op = .nilCheck x) (hx : (∃ i off, st.val x = .ptr i off) ∨ ∃ l, st.val x = .cp l) : Still P g st.mem w a o (st.val x) := by
 have h1 := zk hs x
 refine ⟨a.eval x, h1, fun w' _ => ?_⟩
 rcases hx with ⟨i, off, hx⟩ | ⟨l, hx⟩
 ·rw [hx] at h1; simp only [Rep] at h1
  obtain ⟨b, _, hv⟩ := h1
  simp [execOp, ho, hv]
 ·rw [hx] at h1; simp only [Rep] at h1
  obtain ⟨b, off, hv, _⟩ := h1
  simp [execOp, ho, hv]
theorem yaN (hs : SRel g st w a) (l : List Operand) : RepL g st.mem w (l.map st.val) (l.map a.eval) := by
 refine RepL.mk (by simp) fun i x v e1 e2 => ?_
 simp only [Xbn] at e1 e2
 cases h : l[i]? with
 | none => rw [h] at e1; cases e1
 | some q =>
  rw [h] at e1 e2
  simp only [xbo, Option.some.injEq] at e1 e2
  subst e1; subst e2; exact zk hs q
theorem yaK (hs : SRel g st w a) {o : Oper} {f : FuncId} {cap : Array Operand} (ho : o.op = .makeFunc (.func f) #[] cap) : Still P g st.mem w a o (.fn f (cap.toList.map st.val)) := by
 refine ⟨.func (.func f) #[] (cap.toList.map a.eval).toArray, by simp only [Rep]; exact ⟨_, rfl, yaN hs _⟩, fun w' _ => ?_⟩
 have : cap.map a.eval = (cap.toList.map a.eval).toArray := by rw [← Array.toList_map, Xbm]
 simp only [execOp, ho, Instr.makeFunc, this]; simp
theorem Xaj (hs : SRel g st w a) {o : Oper} {x : Operand} {i : Nat} (ho : o.op = .extract x i) {l : List AV} (hx : st.val x = .tup l) {r : AV} (hr : l[i]? = some r) : Still P g st.mem w a o r := by
 have h1 := zk hs x
 rw [hx] at h1; simp only [Rep] at h1
 obtain ⟨vs, hv, h2⟩ := h1
 obtain ⟨v, h3, h4⟩ := h2.get i r hr
 exact ⟨v, h4, fun w' _ => by simp [execOp, ho, Instr.extract, hv, h3]⟩
theorem zaw (hs : SRel g st w a) {o : Oper} {t : TypeId} {x : Operand} {f : Nat} (ho : o.op = .field t x f) {r : AV} (h : xar P t (st.val x) f = some r) : Still P g st.mem w a o r := by
 have h1 := zk hs x
 unfold xar at h
 split at h
 ·rename_i fs l hu hx
  rw [hx] at h1; simp only [Rep] at h1
  obtain ⟨vs, hv, h2⟩ := h1
  split at h
  ·rename_i fl hf
   split at h
   ·rename_i row n hrs
    obtain ⟨d, i, k1, k2, k3, k4⟩ := z6 hrs
    split at h
    ·rename_i hrow
     split at h
     ·rename_i hle
      cases h
      refine ⟨.agg ((vs.drop fl.offset).take n).toArray, ZT ((h2.drop _).take _), fun w' _ => ?_⟩
      have e : vs.toArray.extract fl.offset (fl.offset + n) = ((vs.drop fl.offset).take n).toArray := by
       simp [List.extract_eq_take_drop]
      simp [execOp, ho, Instr.field, run_underlying hu, hf, hv, asAgg, part, YT k1, k3, hrow, sizeOf, typeInfo, k2, k4, e]
     ·cases h
    ·rename_i hrow
     obtain ⟨v, h3, h4⟩ := h2.get _ r h
     exact ⟨v, h4, fun w' _ => by simp [execOp, ho, Instr.field, run_underlying hu, hf, hv, asAgg, part, YT k1, k3, hrow, h3]⟩
   ·cases h
  ·cases h
 ·cases h
theorem fill_fold (us : List Value) (off : Nat) (vcells : List Value) (h : off + us.length ≤ vcells.length) : us.zipIdx.foldl (fun cs (x : Value × Nat) => cs.setIfInBounds (off + x.2) x.1) vcells.toArray = (splice vcells off us).toArray := by
 have key : ∀ (us : List Value) (k : Nat) (cs : List Value), off + k + us.length ≤ cs.length → (us.zipIdx k).foldl (fun cs (x : Value × Nat) => cs.setIfInBounds (off + x.2) x.1) cs.toArray = (splice cs (off + k) us).toArray := by
  intro us
  induction us with
  | nil => intro k cs _; simp [zaE]
  | cons u us ih =>
   intro k cs hk
   simp only [List.zipIdx_cons, List.foldl_cons, qA]
   rw [ih (k + 1) _ (by simp at hk ⊢; omega), ← Yav cs (off + k) u us (by simp at hk ⊢; omega)]
   rfl
 exact key us 0 vcells (by simpa using h)
theorem Xaz (hs : SRel g st w a) {place : Nat → Option (Nat × Nat)} : ∀ (parts : List (Nat × Operand)) (cells : List AV) (vcells : List Value) (r : List AV), RepL g st.mem w cells vcells →
  yar place cells (parts.map fun p => (p.1, st.val p.2)) = some r → ∃ vr, Instr.fill place vcells.toArray (parts.map fun p => (p.1, a.eval p.2)) = some vr.toArray ∧ RepL g st.mem w r vr
 | [], cells, vcells, r, hc, h => by
  simp only [yar, ybg, Option.some.injEq] at h; subst h
  exact ⟨vcells, by simp [Instr.fill], hc⟩
 | (i, x) :: rest, cells, vcells, r, hc, h => by
  simp only [yar, Xbf] at h
  split at h
  ·rename_i off size ys hpl hys
   obtain ⟨us, hu1, hu2⟩ := Yal (zk hs x) hys
   split at h
   ·cases h
   ·rename_i hcond
    have hlen : us.length = ys.length := hu2.length
    have hcl : vcells.length = cells.length := hc.length
    obtain ⟨vr, k1, k2⟩ := Xaz hs rest _ (splice vcells off us) r (hc.splice hu2 off) h
    refine ⟨vr, ?_, k2⟩
    have c1 : us.length = size := by omega
    have c2 : ¬ (off + us.length > vcells.length) := by omega
    simp only [Xbf, Instr.fill, hpl, hu1]
    rw [if_neg (by simp [c1]; omega)]
    rw [← k1]; congr 1
    rw [← fill_fold us off vcells (by omega), ← Array.foldl_toList, Array.toList_zipIdx]
  ·cases h
def Zar (f : Field) : Sem (Nat × Nat) := do pure (f.offset, ← sizeOf f.type)
def placeIn (P : Program) (f : Field) : Nat × Nat := (f.offset, ((P.info? f.type).map (·.size)).getD 0)
theorem za2 (f : Field) (h : (P.info? f.type).isSome = true) (w : World) : (Zar f).run P w = .ok (placeIn P f) w := by
 obtain ⟨i, hi⟩ := Option.isSome_iff_exists.1 h
 simp [Zar, placeIn, sizeOf, typeInfo, hi]
theorem yaE (w : World) : ∀ (L : List Field), (∀ f ∈ L, (P.info? f.type).isSome = true) → (L.mapM Zar).run P w = .ok (L.map (placeIn P)) w
 | [], _ => by simp
 | f :: L, h => by simp [List.mapM_cons, za2 f (h f (by simp)) w, yaE w L fun f hf => h f (by simp [hf])]
theorem ya2 (hs : SRel g st w a) {o : Oper} {t : TypeId} {parts : Array (Nat × Operand)} (ho : o.op = .build t parts) {r : AV} (h : YaJ P st t parts = some r) : Still P g st.mem w a o r := by
 unfold YaJ at h
 split at h
 ·rename_i z hz
  obtain ⟨ti, hti, hz'⟩ := Ybe.1 hz
  have hop : (parts.map fun (p : Nat × Operand) => (p.1, a.eval p.2)).toList = parts.toList.map fun p => (p.1, a.eval p.2) := by simp
  split at h
  ·rename_i fs hu
   split at h
   ·rename_i hall
    obtain ⟨cs, hc, rfl⟩ := xbh.1 h
    obtain ⟨vr, k1, k2⟩ := Xaz hs parts.toList _ z.cells.toList cs (RepL.lit _) hc
    refine ⟨.agg vr.toArray, ZT k2, fun w' _ => ?_⟩
    have hm : (fs.mapM Zar).run P w' = .ok (fs.toList.map (placeIn P)).toArray w' := by
     rw [Array.mapM_eq_mapM_toList]
     simp [yaE w' fs.toList fun f hf => by
      have := Ybn.1 hall f (by simpa using hf)
      exact this]
    have k1' : Instr.fill ((fs.toList.map (placeIn P)).toArray[·]?) z.cells (parts.toList.map fun p => (p.1, a.eval p.2)) = some vr.toArray := by
     rw [← k1, Xbm]
     have : (fun k : Nat => (fs.toList.map (placeIn P)).toArray[k]?) = fun k => (fs[k]?).map fun f => (f.offset, ((P.info? f.type).map (·.size)).getD 0) := by
      funext k
      simp only [List.getElem?_toArray, Xbn, Array.getElem?_toList]; rfl
     exact congrArg (fun q => Instr.fill q z.cells (parts.toList.map fun p => (p.1, a.eval p.2))) this
    have hm' : (fs.mapM fun (f : Field) => (do pure (f.offset, ← sizeOf f.type) : Sem (Nat × Nat))).run P w' = .ok (fs.toList.map (placeIn P)).toArray w' := hm
    simp only [execOp, ho, Instr.build, ybl, zeroValue, typeInfo, run_program, xbi, hti, Ybl, hz', run_underlying hu, hop]
    rw [hm']
    simp only [xbi, k1', Ybl]
   ·cases h
  ·rename_i n e hu
   split at h
   ·rename_i i hi
    obtain ⟨cs, hc, rfl⟩ := xbh.1 h
    obtain ⟨vr, k1, k2⟩ := Xaz hs parts.toList _ z.cells.toList cs (RepL.lit _) hc
    refine ⟨.agg vr.toArray, ZT k2, fun w' _ => ?_⟩
    rw [Xbm] at k1
    simp only [execOp, ho, Instr.build, ybl, zeroValue, typeInfo, run_program, xbi, hti, Ybl, hz', run_underlying hu, hop, sizeOf, hi, Sem.run_map, Ybl]
    simp only [xbi, k1, Ybl]
   ·cases h
  ·cases h
 ·cases h
end
def zQ (sz : Nat) : Nat → List Value → List (List Value)
 | 0, _ => []
 | n + 1, l => l.take sz :: zQ sz n (l.drop sz)
theorem yaw (sz : Nat) : ∀ (n : Nat) (l : List Value), l.length = n * sz → (zQ sz n l).flatten = l ∧ (zQ sz n l).length = n ∧ ∀ e ∈ zQ sz n l, e.length = sz
 | 0, l, h => by simp at h; subst h; simp [zQ]
 | n + 1, l, h => by
  rw [Xbr, Nat.one_mul] at h
  obtain ⟨h1, h2, h3⟩ := yaw sz n (l.drop sz) (by simp; omega)
  refine ⟨by simp [zQ, h1], by simp [zQ, h2], fun e he => ?_⟩
  simp only [zQ, zbr] at he
  rcases he with rfl | he
  ·simp; omega
  ·exact h3 e he
def intsOf : List Value → Option (List Int)
 | [] => some []
 | .int .u8 n :: r => (intsOf r).map (n :: ·)
 | _ :: _ => none
def YJ (l : List Int) : ByteArray := ⟨(l.map fun n => UInt8.ofNat n.toNat).toArray⟩
theorem yag : ∀ {l : List Value} {ns : List Int}, intsOf l = some ns → l = ns.map (Value.int .u8)
 | [], ns, h => by simp only [intsOf, Option.some.injEq] at h; subst h; rfl
 | x :: r, ns, h => by
  cases x with
  | int k n =>
   cases k <;> simp only [intsOf, reduceCtorEq] at h
   cases hr : intsOf r with
   | none => rw [hr] at h; cases h
   | some q => rw [hr] at h; simp only [xbo, Option.some.injEq] at h; subst h; rw [yag hr]; rfl
  | _ => simp [intsOf] at h
theorem Ya8 (ns : List Int) : ∀ (r : ByteArray), ns.foldl (fun r n => r.push (UInt8.ofNat n.toNat)) r = ⟨r.data ++ (ns.map fun n => UInt8.ofNat n.toNat).toArray⟩ := by
 induction ns with
 | nil => intro r; simp
 | cons n ns ih => intro r; simp only [List.foldl_cons, ih]; simp [ByteArray.push]
def St.bound (st : St) (x : Option Operand) (d : Nat) : Option Nat :=
 match x with
 | none => some d
 | some y => match st.val y with
  | .lit (.int _ j) => if 0 ≤ j then some j.toNat else none
  | _ => none
def YN (P : Program) (st : St) (t : TypeId) (len : Nat) (parts : Array (Nat × Operand)) : Option AV :=
 match P.underlying t with
 | some (.slice e) => match P.info? e with
  | some i => match i.zero with
   | some z =>
    if parts.all (fun p => (st.val p.2).isLit) ∧ len * i.size ≤ 16777216 then
     match Instr.fill (fun k => some (k * i.size, i.size)) (if len * i.size = 0 then #[] else (Array.range (len * i.size)).map (z.cells[· % z.cells.size]!)) (parts.toList.map fun p => (p.1, st.env p.2)) with
     | some cells => if cells.size = len * i.size ∧ cells.toList.all (·.oneCell') then some (.sl true i.size len (fun k => (zQ i.size len cells.toList).getD k [])) else none
     | none => none
    else none
   | none => none
  | none => none
 | _ => none
def zab (P : Program) (st : St) (t : TypeId) (n c : Operand) : Option (AV × Mem) :=
 match P.underlying t, st.val n, st.val c with
 | some (.slice e), .lit (.int .i64 n), .lit (.int .i64 c) => match P.info? e with
  | some i => match i.zero with
   | some z => if 0 ≤ n ∧ n ≤ 1073741824 ∧ c = n ∧ i.bytes ≤ 65536 then
     some (.bs st.mem.boxes.length i.size n.toNat, st.mem.add ((((Array.range (n.toNat * i.size)).map (z.cells[· % z.cells.size]!)).toList).map .lit)) else none
   | none => none
  | none => none
 | _, _, _ => none
def zam (P : Program) (st : St) (src dst : TypeId) (x : AV) : Option (AV × Mem) :=
 match P.underlying src, P.underlying dst with
 | some .string, some (.slice e) => match P.underlying e, x with
  | some (.int .u8), .lit (.string s) => some (.bs st.mem.boxes.length 1 s.size, st.mem.add ((byteCells s).map .lit))
  | _, _ => none
 | some (.slice e), some .string => match P.underlying e with
  | some (.int .u8) => match x with
   | .bs i sz n => match st.mem.boxes[i]? with
    | some cs => if n ≤ cs.length then match lits (cs.take n) with
     | some vs => (intsOf vs).map fun ns => (.lit (.string (YJ ns)), st.mem)
     | none => none else none
    | none => none
   | .sl _ sz n f => if sz = 1 then (intsOf (Zf n f).flatten).map fun ns => (.lit (.string (YJ ns)), st.mem) else none
   | .gr i n => match st.mem.gros[i]? with
    | some (sz, L) => if sz = 1 then (intsOf (L.take n).flatten).map fun ns => (.lit (.string (YJ ns)), st.mem) else none
    | none => none
   | .lit (.slice none _ _) => some (.lit (.string ⟨#[]⟩), st.mem)
   | _ => none
  | _ => none
 | _, _ => none
def yam (full : Bool) (lo hi mx : Option Operand) (h m : Nat) : Bool :=
 match mx, hi with
 | some _, _ => decide (m = h)
 | none, none => full
 | none, some _ => false
def Yag (st : St) (lo hi mx : Option Operand) (size : Nat) (full : Bool) (sz n : Nat) (f : Nat → List Value) : Option AV :=
 match st.bound lo 0, st.bound hi n, st.bound mx n with
 | some k, some h, some m => if sz = size ∧ k ≤ h ∧ h ≤ m ∧ m ≤ n ∧ (mx.isSome = true → hi.isSome = true) then
   some (.sl (yam full lo hi mx h m) sz (h - k) (fun q => f (k + q))) else none
 | _, _, _ => none
def Y3 (P : Program) (st : St) (t : TypeId) (x : AV) (lo hi mx : Option Operand) : Option AV :=
 match P.underlying t with
 | some (.slice e) => match P.info? e with
  | some i => match x with
   | .sl full sz n f => Yag st lo hi mx i.size full sz n f
   | .gr q n => match st.mem.gros[q]? with
    | some (sz, L) => Yag st lo hi mx i.size false sz n (fun k => L.getD k [])
    | none => none
   | _ => none
  | none => none
 | _ => none
def evLen (P : Program) (st : St) (t : TypeId) (x : AV) : Option AV :=
 match P.underlying t with
 | some (.slice _) => match x with
  | .sl _ _ n _ => some (.lit (.int .i64 (n : Nat)))
  | .gr _ n => some (.lit (.int .i64 (n : Nat)))
  | .bs _ _ n => some (.lit (.int .i64 (n : Nat)))
  | _ => none
 | _ => none
section
variable {P : Program} {g : Gh} {st : St} {w : World} {a : Act}
theorem new_St (hr : Rel g st.mem w) (o : Nat) : g.St st.mem w.heap.size o :=
 .inr ⟨hr.base, fun i hi => by have := (hr.box_lt hi).1; omega, fun i b' c sz L h1 h2 e => by subst e; have := (hr.gro_lt h1).1; omega⟩
theorem Xa8 (hs : SRel g st w a) {o : Oper} {e : TypeId} (ho : o.op = .alloc e) {z : Value} (hz : (P.info? e).bind (·.zero) = some z) : Fine P g st.mem w a o (.ptr st.mem.boxes.length 0) (st.mem.add (z.cells.toList.map .lit)) := by
 obtain ⟨ti, hti, hz'⟩ := Ybe.1 hz
 have h1 := hs.rel.add (RepL.lit z.cells.toList) e
 refine Xw (v := .pointer (some ⟨w.heap.size, 0, none⟩)) ?_ h1 (Ext.add hs.rel _ _) (add_ptr hs.rel _ _)
 simp only [execOp, ho, Instr.alloc, ybl, zeroValue, typeInfo, run_program, xbi, hti, Ybl, hz', newVar, newRow, run_newObj]
 simp [World.alloc_eq]
theorem fine_box (hs : SRel g st w a) {o : Oper} {e : TypeId} {x : Operand} (ho : o.op = .box e x) {cs : List AV} (hc : (st.val x).cells = some cs) : Fine P g st.mem w a o (.ptr st.mem.boxes.length 0) (st.mem.add cs) := by
 obtain ⟨us, h1, h2⟩ := Yal (zk hs x) hc
 refine Xw (v := .pointer (some ⟨w.heap.size, 0, none⟩)) ?_ (hs.rel.add h2 e) (Ext.add hs.rel _ _) (add_ptr hs.rel _ _)
 simp only [execOp, ho, Instr.box, ybl, newVar, newRow, run_newObj, xbi, Ybl, h1]
 simp [World.alloc_eq]
theorem X9 (hs : SRel g st w a) {o : Oper} {t : TypeId} {len : Nat} {parts : Array (Nat × Operand)} (ho : o.op = .buildSlice t len parts) {r : AV} (h : YN P st t len parts = some r) : Fine P g st.mem w a o r st.mem := by
 unfold YN at h
 split at h
 ·rename_i e hu
  split at h
  ·rename_i i hi
   split at h
   ·rename_i z hz
    split at h
    ·rename_i hc
     obtain ⟨hc1, hc2⟩ := hc
     split at h
     ·rename_i cells hf
      split at h
      ·rename_i hcs
       cases h
       obtain ⟨hn, hone⟩ := hcs
       obtain ⟨f1, f2, f3⟩ := yaw i.size len cells.toList (by simpa using hn)
       have hB : Below w.heap.size w (w.alloc (.cells cells e)) := (ybd _ w).alloc (Xbc _) _
       have hop : (parts.map fun (p : Nat × Operand) => (p.1, a.eval p.2)).toList = parts.toList.map fun p => (p.1, st.env p.2) := by
        rw [Array.toList_map]
        refine List.map_congr_left fun p hp => ?_
        rw [val_lit hs (Ybn.1 hc1 p (by simpa using hp))]
       have hrel := hs.rel.of_below hB
       refine Xw (v := .slice (some ⟨w.heap.size, 0, none⟩) len len) ?_ hrel (Ext.of_below hs.rel hB) ?_
       ·have hle : ¬ (2 ^ 24 < len * i.size) := by omega
        simp only [execOp, ho, Instr.buildSlice, ybl, run_underlying hu, sizeOf, typeInfo, run_program, xbi, hi, Ybl, hop]
        by_cases h0 : len * i.size = 0
        ·rw [if_pos h0] at hf
         simp [h0, hi, newRow, hf, World.alloc_eq, show Array.range 0 = #[] from rfl]
        ·rw [if_neg h0] at hf
         simp [h0, hi, hle, zeroValue, typeInfo, hz, newRow, hf, World.alloc_eq]
       ·simp only [Rep]
        rw [yP (Nat.le_of_eq f2.symm), Zbj (Nat.le_of_eq f2)]
        refine ⟨some ⟨w.heap.size, 0, none⟩, len, by rw [f2], by rw [f2]; exact Xbc _, fun _ => by rw [f2], f3, fun q hq u hu' => ?_, .inr ⟨w.heap.size, 0, rfl, ?_, fun j hj => ?_⟩⟩
        ·have : u ∈ cells.toList := by rw [← f1]; exact List.mem_flatten.2 ⟨q, hq, hu'⟩
         exact ybs.1 hone u this
        ·rw [f1]
         intro j v hv
         rw [cell_of_row _ w.heap.size (0 + j) cells e (0, 0) (by show (w.heap.push _)[w.heap.size]? = _; simp)]
         simpa using hv
        ·have := new_St hs.rel (0 + j)
         exact this
      ·cases h
     ·cases h
    ·cases h
   ·cases h
  ·cases h
 ·cases h
theorem xaK (hs : SRel g st w a) {o : Oper} {t : TypeId} {n c : Operand} (ho : o.op = .makeSlice t n c) {r : AV} {m' : Mem} (h : zab P st t n c = some (r, m')) : Fine P g st.mem w a o r m' := by
 unfold zab at h
 split at h
 ·rename_i e x y hu hn hc
  have h1 := zk hs n
  have h2 := zk hs c
  rw [hn] at h1; rw [hc] at h2; simp only [Rep] at h1 h2
  split at h
  ·rename_i i hi
   split at h
   ·rename_i z hz
    split at h
    ·rename_i hcc
     obtain ⟨c1, c2, c3, c4⟩ := hcc
     subst c3
     cases h
     refine Xw (v := .slice (some ⟨w.heap.size, 0, none⟩) y.toNat y.toNat) ?_ (hs.rel.add (RepL.lit _) e) (Ext.add hs.rel _ _) ?_
     ·have hw : IntKind.i64.wrap y = y := by
       simp only [IntKind.wrap]; simp [IntKind.bits, IntKind.signed]; omega
      have hb : (i.bytes : Int) * y ≤ 281474976710656 := by
       have : (i.bytes : Int) * y ≤ 65536 * 1073741824 := Int.mul_le_mul (by omega) c2 c1 (by omega)
       omega
      have hb' : ¬ (281474976710656 < (i.bytes : Int) * y) := by omega
      have hn0 : ¬ (y < 0) := by omega
      by_cases h0 : y.toNat * i.size = 0
      ·simp [execOp, ho, Instr.makeSlice, run_underlying hu, h1, h2, asInt, asIntOf, typeInfo, hi, hw, hb', hn0, sizeOf, h0, newRow, World.alloc_eq, show Array.range 0 = #[] from rfl]
      ·simp [execOp, ho, Instr.makeSlice, run_underlying hu, h1, h2, asInt, asIntOf, typeInfo, hi, hw, hb', hn0, sizeOf, h0, zeroValue, hz, newRow, World.alloc_eq]
       refine congrArg (fun q => w.alloc (Obj.cells q e)) (Array.ext' ?_)
       simp
     ·simp only [Rep]
      refine ⟨w.heap.size, y.toNat, ?_, rfl, Xbc _⟩
      show (g.box ++ [some w.heap.size])[st.mem.boxes.length]? = _
      rw [← hs.rel.nb]; simp
    ·cases h
   ·cases h
  ·cases h
 ·cases h
theorem xaN (hs : SRel g st w a) {o : Oper} {t : TypeId} {x : Operand} (ho : o.op = .call ⟨.builtin .len, #[x], #[t]⟩) {r : AV} (h : evLen P st t (st.val x) = some r) : Still P g st.mem w a o r := by
 have h1 := zk hs x
 unfold evLen at h
 split at h
 ·rename_i e hu
  have key : ∀ ad n c, a.eval x = .slice ad n c → ∀ w', (execOp a.eval o).run P w' = .ok (.value (.int .i64 (n : Nat))) w' := fun ad n c he w' => by
   simp [execOp, ho, resolve, he, invoke, builtin, Builtin.len_, run_underlying hu, goInt]
  split at h
  ·rename_i full sz n f hx
   cases h
   rw [hx] at h1; simp only [Rep] at h1
   obtain ⟨ad, c, hv, _⟩ := h1
   rw [elems_length] at hv
   exact ⟨_, by simp [Rep], fun w' _ => key _ _ _ hv w'⟩
  ·rename_i i n hx
   cases h
   rw [hx] at h1; simp only [Rep] at h1
   obtain ⟨_, _, ad, c, _, _, hv, _⟩ := h1
   exact ⟨_, by simp [Rep], fun w' _ => key _ _ _ hv w'⟩
  ·rename_i i sz n hx
   cases h
   rw [hx] at h1; simp only [Rep] at h1
   obtain ⟨b, c, _, hv, _⟩ := h1
   exact ⟨_, by simp [Rep], fun w' _ => key _ _ _ hv w'⟩
  ·cases h
 ·cases h
def IsB (a : Act) (d k : Nat) : Option Operand → Prop
 | none => k = d
 | some y => ∃ q j, a.eval y = .int q j ∧ 0 ≤ j ∧ j.toNat = k
theorem Xag (hs : SRel g st w a) {x : Option Operand} {d k : Nat} (h : st.bound x d = some k) : IsB a d k x := by
 unfold St.bound at h
 cases x with
 | none => simpa [IsB] using h.symm
 | some y =>
  simp only [IsB] at h ⊢
  have h1 := zk hs y
  split at h
  ·rename_i q j hj
   rw [hj] at h1; simp only [Rep] at h1
   split at h
   ·rename_i h0; exact ⟨q, j, h1, h0, by simpa using h⟩
   ·cases h
  ·cases h
theorem run_cut {t e : TypeId} {i : TypeInfo} (hu : P.underlying t = some (.slice e)) (hi : P.info? e = some i) {ad : Option Addr} {len cap : Nat} {lo hi' mx : Option Value} {k h m : Nat} (hb : (Instr.sliceBounds true len cap lo hi' mx).run P w = .ok (k, h, m) w) :
  (Instr.sliceAt t (.slice ad len cap) lo hi' mx).run P w = .ok (.slice (if m = k then ad else ad.map (·.add (k * i.size))) (h - k) (m - k)) w := by
 simp [Instr.sliceAt, Instr.slice, run_underlying hu, hb, sizeOf, typeInfo, hi]
theorem xaE (hs : SRel g st w a) (isS : Bool) {lo hi mx : Option Operand} {len cap k h m : Nat} (hcap : len ≤ cap) (hk : st.bound lo 0 = some k) (hh : st.bound hi len = some h) (hm : st.bound mx len = some m) (h1 : k ≤ h) (h2 : h ≤ m) (h3 : m ≤ len) (h4 : mx.isSome = true → hi.isSome = true) (w' : World) :
  (Instr.sliceBounds isS len cap (lo.map a.eval) (hi.map a.eval) (mx.map a.eval)).run P w' = .ok (k, h, if mx.isSome then m else cap) w' := by
 have e1 := Xag hs hk
 have e2 := Xag hs hh
 have e3 := Xag hs hm
 have fin : ∀ (q : IntKind) (j : Int) (y n : Nat) (code : BoundsCode), 0 ≤ j → j.toNat = n → n ≤ y → (Instr.sliceBound (.int q j) y code).run P w' = .ok n w' := fun q j y n code h0 hn hy => by
  rw [Go.run_sliceBound w' q j y code h0 (by omega), hn]
 cases mx with
 | none =>
  simp only [IsB] at e3; subst e3
  cases hi with
  | none =>
   simp only [IsB] at e2; subst e2
   cases lo with
   | none => simp only [IsB] at e1; subst e1; simp [Instr.sliceBounds]
   | some l =>
    obtain ⟨q, j, v1, v2, v3⟩ := e1
    simp [Instr.sliceBounds, v1, fin q j _ k _ v2 v3 h1]
  | some hh' =>
   obtain ⟨q, j, v1, v2, v3⟩ := e2
   cases lo with
   | none => simp only [IsB] at e1; subst e1; simp [Instr.sliceBounds, v1, fin q j cap h _ v2 v3 (by omega)]
   | some l =>
    obtain ⟨q', j', u1, u2, u3⟩ := e1
    simp [Instr.sliceBounds, v1, u1, fin q j cap h _ v2 v3 (by omega), fin q' j' _ k _ u2 u3 h1]
 | some mm =>
  obtain ⟨q, j, v1, v2, v3⟩ := e3
  cases hi with
  | none => simp at h4
  | some hh' =>
   obtain ⟨q', j', u1, u2, u3⟩ := e2
   cases lo with
   | none => simp only [IsB] at e1; subst e1; simp [Instr.sliceBounds, v1, u1, fin q j cap m _ v2 v3 (by omega), fin q' j' m h _ u2 u3 h2]
   | some l =>
    obtain ⟨q'', j'', t1, t2, t3⟩ := e1
    simp [Instr.sliceBounds, v1, u1, t1, fin q j cap m _ v2 v3 (by omega), fin q' j' m h _ u2 u3 h2, fin q'' j'' _ k _ t2 t3 h1]
theorem ZaN (hs : SRel g st w a) {o : Oper} {t e : TypeId} {x : Operand} {lo hi mx : Option Operand} (ho : o.op = .slice t x lo hi mx) {i : TypeInfo} (hu : P.underlying t = some (.slice e)) (hi' : P.info? e = some i)
  {full : Bool} {sz n : Nat} {f : Nat → List Value} {ad : Option Addr} {c : Nat} {r : AV} (hv : a.eval x = .slice ad n c) (hc : n ≤ c) (hfull : full = true → c = n) (hrow : Row (g.St st.mem) w ad sz (Zf n f))
  (hr : Yag st lo hi mx i.size full sz n f = some r) : Still P g st.mem w a o r := by
 unfold Yag at hr
 split at hr
 ·rename_i k h m hk hh hm
  split at hr
  ·rename_i hcc
   obtain ⟨c1, c2, c3, c4, c5⟩ := hcc
   cases hr
   subst c1
   refine ⟨.slice (if (if mx.isSome then m else c) = k then ad else ad.map (·.add (k * i.size))) (h - k) ((if mx.isSome then m else c) - k), ?_, fun w' _ => ?_⟩
   ·simp only [Rep]
    have hlen : (Zf (h - k) fun q => f (k + q)).length = h - k := elems_length _ _
    refine ⟨_, _, by rw [hlen], ?_, ?_, ?_⟩
    ·rw [hlen]; split <;> omega
    ·rw [hlen]
     cases mx with
     | some _ => simp only [yam, Zbd]; intro e; simp [e]
     | none =>
      cases hi with
      | some _ => intro e; cases e
      | none =>
       intro e
       have := hfull e
       have hh' : h = n := by simpa [St.bound] using hh.symm
       simp [this, hh']
    ·have hsub := hrow.sub k (h - k) (by rw [elems_length]; omega)
     rw [← elems_cut c2 (by omega)] at hsub
     by_cases he : (if mx.isSome then m else c) = k
     ·have : h - k = 0 := by
       cases mx with
       | some _ => simp at he; omega
       | none => simp at he; omega
      rw [this]
      exact ⟨by simp [Zf], by simp [Zf], .inl rfl⟩
     ·rw [if_neg he]; exact hsub
   ·have hb := xaE (P := P) hs true hc hk hh hm c2 c3 c4 c5 w'
    have := run_cut (w := w') hu hi' (ad := ad) hb
    simp only [execOp, ho, ybl, hv, this, xbi, Ybl]
  ·cases hr
 ·cases hr
theorem xaw (hs : SRel g st w a) {o : Oper} {t : TypeId} {x : Operand} {lo hi mx : Option Operand} (ho : o.op = .slice t x lo hi mx) {r : AV} (h : Y3 P st t (st.val x) lo hi mx = some r) : Still P g st.mem w a o r := by
 have hx := zk hs x
 unfold Y3 at h
 split at h
 ·rename_i e hu
  split at h
  ·rename_i i hi'
   split at h
   ·rename_i full sz n f hxv
    rw [hxv] at hx; simp only [Rep] at hx
    obtain ⟨ad, c, hv, hc, hf, hrow⟩ := hx
    rw [elems_length] at hv hc hf
    exact ZaN hs ho hu hi' hv hc hf hrow h
   ·rename_i q n hxv
    rw [hxv] at hx; simp only [Rep] at hx
    obtain ⟨sz, L, ad, c, hL, hn, hv, hc, hrow, _⟩ := hx
    rw [hL] at h
    exact ZaN hs ho hu hi' hv hc (by intro e; cases e) (by rw [yP hn]; exact hrow) h
   ·cases h
  ·cases h
 ·cases h
theorem run_b2s {src dst e : TypeId} (hs : P.underlying src = some (.slice e)) (he : P.underlying e = some (.int .u8)) (hd : P.underlying dst = some .string) {b off n c : Nat} {ns : List Int} (hn : ns.length = n) (hr : w.rangeAt b off (ns.map (Value.int .u8))) :
  (convert src dst (.slice (some ⟨b, off, none⟩) n c)).run P w = .ok (.string (YJ ns)) w := by
 rw [run_convert_bytes_string w src dst e _ n c hs he hd]
 have hl := run_loadCells_list (P := P) w ⟨b, off, none⟩ (ns.map (Value.int .u8)) (fun j v hv => by rw [Addr.add_mid]; exact hr j v hv)
 rw [xbk, hn] at hl
 rw [run_bytesToString w _ n c ns hl, Ya8]
 simp only [YJ]
 have : ByteArray.empty.data = #[] := rfl
 rw [this]; simp
theorem XaW (hs : SRel g st w a) {o : Oper} {src dst : TypeId} {x : Operand} (ho : o.op = .convert src dst x) {r : AV} {m' : Mem} (h : zam P st src dst (st.val x) = some (r, m')) : Fine P g st.mem w a o r m' := by
 have hx := zk hs x
 have hop : ∀ v w', (convert src dst (a.eval x)).run P w = .ok v w' → (execOp a.eval o).run P w = .ok (.value v) w' := fun v w' hv => by simp [execOp, ho, hv]
 unfold zam at h
 split at h
 ·rename_i e h1 h2
  split at h
  ·rename_i s h3 hxv
   cases h
   rw [hxv] at hx; simp only [Rep] at hx
   have hB : Below w.heap.size w w.drew := (ybd _ _).drew
   have hr := hs.rel.of_below hB
   have hrun := run_bytes_of_string (P := P) w src dst e s h1 h2 h3
   have hrow : bytesRow s (grownCap w s.size 0 e) = (byteCells s ++ List.replicate (grownCap w s.size 0 e - s.size) (Value.int .u8 0)).toArray := by
    unfold bytesRow byteCells
    apply Array.ext'
    simp
   rw [hrow] at hrun
   have hadd := hr.addW (RepL.lit (byteCells s)) (List.replicate (grownCap w s.size 0 e - s.size) (Value.int .u8 0)) e (((byteCells s ++ List.replicate (grownCap w s.size 0 e - s.size) (Value.int .u8 0)).toArray).size, ((byteCells s ++ List.replicate (grownCap w s.size 0 e - s.size) (Value.int .u8 0)).toArray).size + 1) (fun o ho => by simp; omega)
   refine Xw (v := .slice (some ⟨w.heap.size, 0, none⟩) s.size (grownCap w s.size 0 e)) (hop _ _ (by rw [hx]; exact hrun)) hadd ((Ext.of_below hs.rel hB).trans (Ext.add hr _ _)) ?_
   simp only [Rep]
   refine ⟨w.heap.size, _, ?_, rfl, ?_⟩
   ·show (g.box ++ [some w.heap.size])[st.mem.boxes.length]? = _
    rw [← hs.rel.nb]; simp
   ·simp only [grownCap, Question.cut]; omega
  ·cases h
 ·rename_i e h1 h2
  split at h
  ·rename_i h3
   have still : ∀ s, (convert src dst (a.eval x)).run P w = .ok (.string s) w → Fine P g st.mem w a o (.lit (.string s)) st.mem := fun s hv =>
    Xw (hop _ _ hv) hs.rel (Ext.refl _ _ _) (by simp [Rep])
   have rows : ∀ (l : List (List Value)) (ad : Option Addr) (n c : Nat) (ns : List Int), a.eval x = .slice ad n c → l.length = n → Row (g.St st.mem) w ad 1 l → intsOf l.flatten = some ns → (convert src dst (a.eval x)).run P w = .ok (.string (YJ ns)) w := by
    intro l ad n c ns hv hn hrow hns
    have e1 := yag hns
    have hl := Yx hrow.even
    rw [hv]
    rcases hrow.lies with h0 | ⟨b, off, rfl, hr, _⟩
    ·subst h0
     simp only [List.flatten_nil, intsOf, Option.some.injEq] at hns; subst hns
     simp only [Xbg] at hn; subst hn
     rw [run_convert_bytes_string w src dst e _ 0 c h1 h3 h2]
     have he : YJ [] = ByteArray.empty := rfl
     rw [he]
     cases ad with
     | none => simp [Conv.bytesToString]
     | some q => simp [Conv.bytesToString, loadCells, loadCellsFrom]
    ·rw [e1] at hr hl
     exact run_b2s h1 h3 h2 (by simp at hl; omega) hr
   split at h
   ·rename_i i sz n hxv
    split at h
    ·rename_i cs hcs
     split at h
     ·rename_i hle
      split at h
      ·rename_i vs hvs
       obtain ⟨ns, hns, he⟩ := xbh.1 h
       cases he
       rw [hxv] at hx; simp only [Rep] at hx
       obtain ⟨b, c, hb, hv, hc⟩ := hx
       obtain ⟨_, us, rest, ty, fr, hb2, hb3, _⟩ := hs.rel.box i b cs hb hcs
       have e1 := Xal (hb3.take n) hvs
       have e2 := yag hns
       refine still _ ?_
       rw [hv]
       refine run_b2s h1 h3 h2 ?_ ?_
       ·have := congrArg List.length (e1.trans e2); simp [hb3.length] at this; omega
       ·rw [← e2, ← e1]; have := Xac hb2 0 n; simpa using this
      ·cases h
     ·cases h
    ·cases h
   ·rename_i full sz n f hxv
    split at h
    ·rename_i hsz
     obtain ⟨ns, hns, he⟩ := xbh.1 h
     cases he
     rw [hxv] at hx; simp only [Rep] at hx
     obtain ⟨ad, c, hv, _, _, hrow⟩ := hx
     subst hsz
     exact still _ (rows (Zf n f) ad _ c ns hv rfl hrow hns)
    ·cases h
   ·rename_i i n hxv
    split at h
    ·rename_i sz L hL
     split at h
     ·rename_i hsz
      obtain ⟨ns, hns, he⟩ := xbh.1 h
      cases he
      rw [hxv] at hx; simp only [Rep] at hx
      obtain ⟨sz', L', ad, c, hL', hn, hv, _, hrow, _⟩ := hx
      rw [hL] at hL'; cases hL'
      subst hsz
      exact still _ (rows (L.take n) ad _ c ns hv (by simp; omega) hrow hns)
     ·cases h
    ·cases h
   ·rename_i q r' hxv
    cases h
    rw [hxv] at hx; simp only [Rep] at hx
    refine still _ ?_
    rw [hx, run_convert_bytes_string w src dst e _ _ _ h1 h3 h2]
    have he : (⟨#[]⟩ : ByteArray) = ByteArray.empty := rfl
    rw [he]; simp [Conv.bytesToString]
   ·cases h
  ·cases h
 ·cases h
end
def zah (P : Program) (m : Mem) (size : Nat) (tx : TypeId) (x : AV) : Option (List (List Value)) :=
 match P.underlying tx with
 | some (.slice _) => match x with
  | .sl _ sz n f => if sz = size then some (Zf n f) else none
  | .gr q n => match m.gros[q]? with
   | some (sz, L) => if sz = size then some (L.take n) else none
   | none => none
  | .lit (.slice none 0 _) => some []
  | _ => none
 | some .string => match x with
  | .lit (.string s) => if size = 1 then some ((byteCells s).map ([·])) else none
  | _ => none
 | _ => none
def lim : Nat := 1073741824
def YE (P : Program) (m : Mem) (t tx : TypeId) (s x : AV) : Option (AV × Mem) :=
 match P.underlying t with
 | some (.slice e) => match P.info? e with
  | some i => match i.zero with
   | some z => if z.cells.size = i.size ∧ i.bytes ≤ 4096 then match zah P m i.size tx x with
    | some xs => match s with
     | .lit (.slice none 0 0) => if xs.length ≤ lim then some (.gr m.gros.length xs.length, { m with gros := m.gros ++ [(i.size, xs)] }) else none
     | .sl true sz n f => if sz = i.size ∧ n + xs.length ≤ lim then some (.gr m.gros.length (n + xs.length), { m with gros := m.gros ++ [(i.size, Zf n f ++ xs)] }) else none
     | .gr q n => match m.gros[q]? with
      | some (sz, L) => if sz = i.size ∧ n = L.length ∧ n + xs.length ≤ lim then some (.gr q (n + xs.length), { m with gros := m.gros.set q (sz, L ++ xs) }) else none
      | none => none
     | _ => none
    | none => none else none
   | none => none
  | none => none
 | _ => none
theorem YaN (n : Nat) : ∀ (r c : Nat), Builtin.growBy n r c ≤ max c (n + (n + 768) / 4)
 | 0, c => by unfold Builtin.growBy; omega
 | r + 1, c => by
  unfold Builtin.growBy
  split
  ·omega
  ·rename_i h
   have := YaN n r (c + (c + 768) / 4)
   omega
theorem next_le (n c : Nat) (h : c ≤ n) : Builtin.nextslicecap n c ≤ 2 * n + 256 := by
 unfold Builtin.nextslicecap
 split
 ·omega
 ·split
  ·omega
  ·have := YaN n 4 c
   omega
theorem next_fit {n c b : Nat} (h : c ≤ n) (hn : n ≤ lim) (hb : b ≤ 4096) : Builtin.nextslicecap n c * b ≤ 281474976710656 := by
 unfold lim at hn
 have h1 := next_le n c h
 calc Builtin.nextslicecap n c * b ≤ (2 * 1073741824 + 256) * 4096 := Nat.mul_le_mul (by omega) hb
  _ ≤ _ := by omega
section
variable {P : Program} {g : Gh} {m : Mem} {w : World}
def Mem.gadd (m : Mem) (x : Nat × List (List Value)) : Mem := { m with gros := m.gros ++ [x] }
def Gh.gadd (g : Gh) (x : Option (Nat × Nat)) : Gh := { g with gro := g.gro ++ [x] }
def Mem.gput (m : Mem) (q : Nat) (x : Nat × List (List Value)) : Mem := { m with gros := m.gros.set q x }
def Gh.gput (g : Gh) (q : Nat) (x : Option (Nat × Nat)) : Gh := { g with gro := g.gro.set q x }
theorem gadd_ok (hr : Rel g m w) (sz : Nat) (L : List (List Value)) {w' : World} (hw : Below w.heap.size w w') (x : Option (Nat × Nat)) (hx : ∀ b c, x = some (b, c) → b = w.heap.size ∧ ∃ cs ty, w'.heap[b]? = some (.cells cs ty (0, 0)) ∧ cs.size = c * sz ∧ L.length ≤ c) :
  Rel (g.gadd x) (m.gadd (sz, L)) w' ∧ Ext g m w (g.gadd x) (m.gadd (sz, L)) w' := by
 have hL : Leaf g m w (g.gadd x) (m.gadd (sz, L)) w' := {
  st := fun b o hb hs => by
   rcases hs with hs | ⟨h1, h2, h3⟩
   ·exact .inl hs
   ·refine .inr ⟨h1, h2, fun i b' c sz' L' k1 k2 e => ?_⟩
    rcases ZE k1 with k1 | ⟨hi, k1⟩
    ·have hi := (xbe.1 k1).1
     refine h3 i b' c sz' L' k1 ?_ e
     have k2 : (m.gros ++ [(sz, L)])[i]? = some (sz', L') := k2
     rwa [Ybj (by rw [← hr.ng]; exact hi)] at k2
    ·have := (hx b' c k1).1; omega
  cell := fun b o hb _ => hw.cell (p := ⟨b, o, none⟩) hb
  box := fun _ _ h => h
  gro := fun i sz' L' h => by
   have hi := (xbe.1 h).1
   refine ⟨[], ?_, fun _ => ?_⟩
   ·show (m.gros ++ [(sz, L)])[i]? = _
    rw [Ybj hi]; simpa using h
   ·show (g.gro ++ [x])[i]? = _
    rw [Ybj (by rw [hr.ng]; exact hi)] }
 refine ⟨⟨hr.nb, by simp [Gh.gadd, Mem.gadd, hr.ng], Ybg hr.base hw.size, ?_, ?_, hr.boxInj, ?_, ?_, hr.inv.below (hw.mono hr.base)⟩, ⟨hL, rfl, rfl, hw.mono hr.base⟩⟩
 ·intro i b cs h1 h2
  obtain ⟨k1, vs, rest, ty, fr, k2, k3, k4⟩ := hr.box i b cs h1 h2
  exact ⟨k1, vs, rest, ty, fr, (hw.block b (Yw k2)).trans k2, RepL.keep hL _ _ k3, k4⟩
 ·intro i b c sz' L' h1 h2
  have h2 : (m.gros ++ [(sz, L)])[i]? = some (sz', L') := h2
  rcases ZE h1 with h1 | ⟨hi, h1⟩
  ·have hi := (xbe.1 h1).1
   rw [Ybj (by rw [← hr.ng]; exact hi)] at h2
   obtain ⟨k1, cs, ty, k2, k3⟩ := hr.gro i b c sz' L' h1 h2
   exact ⟨k1, cs, ty, (hw.block b (Yw k2)).trans k2, k3⟩
  ·rw [hi, hr.ng] at h2
   simp at h2
   obtain ⟨rfl, rfl⟩ := h2
   obtain ⟨hb, cs, ty, k⟩ := hx b c h1
   exact ⟨by rw [hb]; exact hr.base, cs, ty, k⟩
 ·intro i j b c c' h1 h2
  rcases ZE h1 with h1 | ⟨hi, h1⟩ <;> rcases ZE h2 with h2 | ⟨hj, h2⟩
  ·exact hr.groInj i j b c c' h1 h2
  ·have := (hr.gro_lt h1).1; have := (hx b c' h2).1; omega
  ·have := (hr.gro_lt h2).1; have := (hx b c h1).1; omega
  ·omega
 ·intro i j b c h1 h2
  rcases ZE h2 with h2 | ⟨hj, h2⟩
  ·exact hr.apart i j b c h1 h2
  ·have := (hr.box_lt h1).1; have := (hx b c h2).1; omega
theorem gmove_ok (hr : Rel g m w) {q sz : Nat} {L xs : List (List Value)} (hq : m.gros[q]? = some (sz, L)) (hne : xs ≠ []) {w' : World} (hw : Below w.heap.size w w') (c : Nat)
  (hx : ∃ cs ty, w'.heap[w.heap.size]? = some (.cells cs ty (0, 0)) ∧ cs.size = c * sz ∧ (L ++ xs).length ≤ c) :
  Rel (g.gput q (some (w.heap.size, c))) (m.gput q (sz, L ++ xs)) w' ∧ Ext g m w (g.gput q (some (w.heap.size, c))) (m.gput q (sz, L ++ xs)) w' := by
 have hqm := (xbe.1 hq).1
 have hqg : q < g.gro.length := by rw [hr.ng]; exact hqm
 have hget : ∀ (i : Nat) y, (g.gput q (some (w.heap.size, c))).gro[i]? = some y → (i = q ∧ y = some (w.heap.size, c)) ∨ (i ≠ q ∧ g.gro[i]? = some y) := fun i y h => by
  have h : (g.gro.set q (some (w.heap.size, c)))[i]? = some y := h
  by_cases e : q = i
  ·subst e; rw [ybo hqg] at h; exact .inl ⟨rfl, (Option.some.inj h).symm⟩
  ·rw [ybp e] at h; exact .inr ⟨Ne.symm e, h⟩
 have hgm : ∀ (i : Nat), i ≠ q → (m.gput q (sz, L ++ xs)).gros[i]? = m.gros[i]? := fun i e => by
  show (m.gros.set q _)[i]? = _
  rw [ybp (Ne.symm e)]
 have hgq : (m.gput q (sz, L ++ xs)).gros[q]? = some (sz, L ++ xs) := by
  show (m.gros.set q _)[q]? = _
  rw [ybo hqm]
 have hL : Leaf g m w (g.gput q (some (w.heap.size, c))) (m.gput q (sz, L ++ xs)) w' := {
  st := fun b o hb hs => by
   rcases hs with hs | ⟨h1, h2, h3⟩
   ·exact .inl hs
   ·refine .inr ⟨h1, h2, fun i b' c' sz' L' k1 k2 e => ?_⟩
    rcases hget i _ k1 with ⟨_, k1⟩ | ⟨hi, k1⟩
    ·cases k1; omega
    ·exact h3 i b' c' sz' L' k1 (by rw [← hgm i hi]; exact k2) e
  cell := fun b o hb _ => hw.cell (p := ⟨b, o, none⟩) hb
  box := fun _ _ h => h
  gro := fun i sz' L' h => by
   by_cases e : i = q
   ·subst e
    rw [hq] at h; cases h
    exact ⟨xs, hgq, fun e => absurd e hne⟩
   ·exact ⟨[], by rw [hgm i e]; simpa using h, fun _ => by
     show (g.gro.set q _)[i]? = _
     rw [ybp (Ne.symm e)]⟩ }
 refine ⟨⟨hr.nb, by simp [Gh.gput, Mem.gput, hr.ng], Ybg hr.base hw.size, ?_, ?_, hr.boxInj, ?_, ?_, hr.inv.below (hw.mono hr.base)⟩, ⟨hL, rfl, rfl, hw.mono hr.base⟩⟩
 ·intro i b cs h1 h2
  obtain ⟨k1, vs, rest, ty, fr, k2, k3, k4⟩ := hr.box i b cs h1 h2
  exact ⟨k1, vs, rest, ty, fr, (hw.block b (Yw k2)).trans k2, RepL.keep hL _ _ k3, k4⟩
 ·intro i b c' sz' L' h1 h2
  rcases hget i _ h1 with ⟨hi, k1⟩ | ⟨hi, k1⟩
  ·rw [hi, hgq] at h2
   cases h2; cases k1
   obtain ⟨cs, ty, k⟩ := hx
   exact ⟨hr.base, cs, ty, k⟩
  ·rw [hgm i hi] at h2
   obtain ⟨k1, cs, ty, k2, k3⟩ := hr.gro i b c' sz' L' k1 h2
   exact ⟨k1, cs, ty, (hw.block b (Yw k2)).trans k2, k3⟩
 ·intro i j b c1 c2 h1 h2
  rcases hget i _ h1 with ⟨hi, h1⟩ | ⟨hi, h1⟩ <;> rcases hget j _ h2 with ⟨hj, h2⟩ | ⟨hj, h2⟩
  ·omega
  ·cases h1; have := (hr.gro_lt h2).1; omega
  ·cases h2; have := (hr.gro_lt h1).1; omega
  ·exact hr.groInj i j b c1 c2 h1 h2
 ·intro i j b c1 h1 h2
  rcases hget j _ h2 with ⟨hj, h2⟩ | ⟨hj, h2⟩
  ·cases h2; have := (hr.box_lt h1).1; omega
  ·exact hr.apart i j b c1 h1 h2
theorem gstay_ok (hr : Rel g m w) {q sz b c : Nat} {L xs : List (List Value)} (hq : m.gros[q]? = some (sz, L)) (hg : g.gro[q]? = some (some (b, c))) (hle : (L ++ xs).length ≤ c) (hev : ∀ e ∈ xs, e.length = sz) :
  Rel g (m.gput q (sz, L ++ xs)) (w.setCells b (L.length * sz) xs.flatten) ∧ Ext g m w g (m.gput q (sz, L ++ xs)) (w.setCells b (L.length * sz) xs.flatten) := by
 have hqm := (xbe.1 hq).1
 obtain ⟨hb1, cs, ty, hb2, hb3, hb4⟩ := hr.gro q b c sz L hg hq
 have hgm : ∀ (i : Nat), i ≠ q → (m.gput q (sz, L ++ xs)).gros[i]? = m.gros[i]? := fun i e => by
  show (m.gros.set q _)[i]? = _
  rw [ybp (Ne.symm e)]
 have hgq : (m.gput q (sz, L ++ xs)).gros[q]? = some (sz, L ++ xs) := by
  show (m.gros.set q _)[q]? = _
  rw [ybo hqm]
 have hL : Leaf g m w g (m.gput q (sz, L ++ xs)) (w.setCells b (L.length * sz) xs.flatten) := {
  st := fun b' o hb hs => by
   rcases hs with hs | ⟨h1, h2, h3⟩
   ·exact .inl hs
   ·refine .inr ⟨h1, h2, fun i b'' c' sz' L' k1 k2 e => ?_⟩
    by_cases hi : i = q
    ·subst hi
     rw [hgq] at k2; cases k2
     have := h3 i b'' c' sz L k1 hq e
     simp only [Xbb, Xbr]; omega
    ·exact h3 i b'' c' sz' L' k1 (by rw [← hgm i hi]; exact k2) e
  cell := fun b' o hb hs => by
   by_cases e : b' = b
   ·subst e
    refine World.cell?_setCells_out b' _ _ w _ (fun _ _ => .inl ?_)
    rcases hs with ⟨h1, _⟩ | ⟨_, _, h3⟩
    ·omega
    ·exact h3 q b' c sz L hg hq rfl
   ·exact World.cell?_of_block (w := w) (xB b _ _ w b' e)
  box := fun _ _ h => h
  gro := fun i sz' L' h => by
   by_cases e : i = q
   ·subst e
    rw [hq] at h; cases h
    exact ⟨xs, hgq, fun _ => rfl⟩
   ·exact ⟨[], by rw [hgm i e]; simpa using h, fun _ => rfl⟩ }
 refine ⟨⟨hr.nb, by simp [Mem.gput, hr.ng], by rw [xZ]; exact hr.base, ?_, ?_, hr.boxInj, hr.groInj, hr.apart, hr.inv.below (ZH b _ _ w w _ hb1 (ybd _ _))⟩, ⟨hL, rfl, rfl, ZH b _ _ w w _ hb1 (ybd _ _)⟩⟩
 ·intro i b' cs' h1 h2
  obtain ⟨k1, vs, rest, ty', fr, k2, k3, k4⟩ := hr.box i b' cs' h1 h2
  have hne : b' ≠ b := fun e => by subst e; exact hr.apart i q b' c h1 hg
  exact ⟨k1, vs, rest, ty', fr, (xB b _ _ w b' hne).trans k2, RepL.keep hL _ _ k3, k4⟩
 ·intro i b' c' sz' L' h1 h2
  by_cases hi : i = q
  ·subst hi
   rw [hg] at h1; cases h1
   rw [hgq] at h2; cases h2
   have hfl := Yx hev
   have hfit : L.length * sz + xs.flatten.length ≤ cs.toList.length := by
    have e : cs.toList.length = c * sz := by simpa using hb3
    rw [hfl, ← Xbr, e]
    exact Ybp _ (by simpa using hle)
   have := yZ b xs.flatten (L.length * sz) w cs.toList ty (0, 0) (by simpa using hb2) hfit
   refine ⟨hb1, _, ty, this, ?_, hle⟩
   simp only [Ybo, Zaj _ _ _ hfit, Array.length_toList, hb3]
  ·rw [hgm i hi] at h2
   obtain ⟨k1, us, ty', k2, k3⟩ := hr.gro i b' c' sz' L' h1 h2
   have hne : b' ≠ b := fun e => by subst e; exact hi (hr.groInj i q b' _ _ h1 hg)
   exact ⟨k1, us, ty', (xB b _ _ w b' hne).trans k2, k3⟩
end
section
variable {P : Program} {g : Gh} {st : St} {w : World} {a : Act}
theorem row_src {size : Nat} {tx e' : TypeId} (hk : P.underlying tx = some (.slice e')) {S : Nat → Nat → Prop} {l : List (List Value)} {ad : Option Addr} {c n : Nat} (hn : n = l.length) (h : Row S w ad size l) :
  Src P size tx (.slice ad n c) n l.flatten w := by
 subst hn
 have hl := Yx h.even
 have h1 : ∀ u ∈ l.flatten, u.oneCell' = true := fun u hu => by
  obtain ⟨e, he, hu⟩ := List.mem_flatten.1 hu
  exact h.one e he u hu
 cases ad with
 | none =>
  have : l = [] := by
   rcases h.lies with h0 | ⟨_, _, h0, _⟩
   ·exact h0
   ·cases h0
  subst this
  exact Src.ofNil w hk c
 | some q =>
  refine Src.ofSlice w hk q l.length c l.flatten hl (fun j u hu => ?_) h1
  rcases h.lies with h0 | ⟨b, off, ha, hr, _⟩
  ·subst h0; simp at hu
  ·cases ha
   rw [Addr.add_mid]; exact hr j u hu
theorem src_ok (hs : SRel g st w a) {size : Nat} {tx : TypeId} {x : Operand} {xs : List (List Value)} (h : zah P st.mem size tx (st.val x) = some xs) :
  Src P size tx (a.eval x) xs.length xs.flatten w ∧ (∀ e ∈ xs, e.length = size) ∧ ∀ e ∈ xs, ∀ u ∈ e, u.oneCell' = true := by
 have hx := zk hs x
 unfold zah at h
 split at h
 ·rename_i e' hk
  split at h
  ·rename_i full sz n f hxv
   split at h
   ·rename_i hsz
    cases h; subst hsz
    rw [hxv] at hx; simp only [Rep] at hx
    obtain ⟨ad, c, hv, _, _, hrow⟩ := hx
    rw [hv]
    exact ⟨row_src hk rfl hrow, hrow.even, hrow.one⟩
   ·cases h
  ·rename_i q n hxv
   split at h
   ·rename_i sz L hL
    split at h
    ·rename_i hsz
     cases h; subst hsz
     rw [hxv] at hx; simp only [Rep] at hx
     obtain ⟨sz', L', ad, c, hL', hn, hv, _, hrow, _⟩ := hx
     rw [hL] at hL'; cases hL'
     rw [hv]
     have hl : (L.take n).length = n := by simp; omega
     rw [hl]
     exact ⟨row_src hk hl.symm hrow, hrow.even, hrow.one⟩
    ·cases h
   ·cases h
  ·rename_i c hxv
   cases h
   rw [hxv] at hx; simp only [Rep] at hx
   rw [hx]
   exact ⟨Src.ofNil w hk c, by simp, by simp⟩
  ·cases h
 ·rename_i hk
  split at h
  ·rename_i s hxv
   split at h
   ·rename_i hsz
    cases h; subst hsz
    rw [hxv] at hx; simp only [Rep] at hx
    rw [hx]
    have e1 : ((byteCells s).map ([·])).flatten = byteCells s := by
     rw [← List.flatMap_def]; simp
    have e2 : ((byteCells s).map fun v => [v]).length = s.size := by rw [xbk, byteCells_length]
    rw [e1, e2]
    refine ⟨Src.ofString w hk s, fun e he => ?_, fun e he u hu => ?_⟩
    ·obtain ⟨_, _, rfl⟩ := List.mem_map.1 he; rfl
    ·obtain ⟨v, hv, rfl⟩ := List.mem_map.1 he
     simp only [Zbm] at hu; subst hu
     obtain ⟨_, _, rfl⟩ := List.mem_map.1 hv
     rfl
   ·cases h
  ·cases h
 ·cases h
theorem zeroCells_size (zero : Array Value) (n : Nat) : (Builtin.zeroCells zero n).size = n * zero.size := by simp [Builtin.zeroCells]
theorem zaX (hs : SRel g st w a) {o : Oper} {t tx e : TypeId} {s x : Operand} (ho : o.op = .call ⟨.builtin .append, #[s, x], #[t, tx]⟩) {i : TypeInfo} {z : Value} (ht : P.underlying t = some (.slice e)) (hi : P.info? e = some i) (hz : i.zero = some z) (hzs : z.cells.size = i.size) (hb : i.bytes ≤ 4096)
  {xs : List (List Value)} (hsrc : zah P st.mem i.size tx (st.val x) = some xs) {L : List (List Value)} {ad : Option Addr} {n c : Nat} (hv : a.eval s = .slice ad n c) (hn : n = L.length) {S : Nat → Nat → Prop} (hrow : Row S w ad i.size L) (hc : c < n + xs.length) (hlim : n + xs.length ≤ lim) :
  ∃ c' w', (execOp a.eval o).run P w = .ok (.value (.slice (some ⟨w.heap.size, 0, none⟩) (n + xs.length) c')) w' ∧ Below w.heap.size w w' ∧ n + xs.length ≤ c' ∧ w'.rangeAt w.heap.size 0 (L ++ xs).flatten ∧
   ∃ cs ty, w'.heap[w.heap.size]? = some (.cells cs ty (0, 0)) ∧ cs.size = c' * i.size ∧ (L ++ xs).length ≤ c' := by
 obtain ⟨s1, s2, s3⟩ := src_ok hs hsrc
 have hold : (Builtin.firstCells i.size n (.slice ad n c)).run P w.drew = .ok L.flatten.toArray w.drew := by
  have hB : Below w.heap.size w w.drew := (ybd _ _).drew
  have hrow' := hrow.below hB
  subst hn
  cases ad with
  | none =>
   have : L = [] := by
    rcases hrow.lies with h0 | ⟨_, _, h0, _⟩
    ·exact h0
    ·cases h0
   subst this
   exact run_firstCells_none w.drew i.size _ _ c
  | some q =>
   refine run_firstCells_some w.drew i.size _ q _ c L.flatten (Yx hrow.even) fun j u hu => ?_
   rcases hrow'.lies with h0 | ⟨b, off, ha, hr, _⟩
   ·subst h0; simp at hu
   ·cases ha; rw [Addr.add_mid]; exact hr j u hu
 have hlim' := hlim
 unfold lim at hlim'
 have hrun := run_append_grow_src (P := P) w t tx o.type e i z ht hi hz ad n c L.flatten hold (a.eval x) xs.length xs.flatten s1 hc (by omega) (next_fit (by omega) hlim hb)
 have hgc : n + xs.length ≤ grownCap w (n + xs.length) c e := by simp only [grownCap, Question.cut]; omega
 have hB : Below w.heap.size w (w.drew.alloc (.cells ((L.flatten ++ xs.flatten).toArray ++ Builtin.zeroCells z.cells (grownCap w (n + xs.length) c e - (n + xs.length))) e)) :=
  ((ybd _ _).drew).alloc (Xbc _) _
 have hh : (w.drew.alloc (.cells ((L.flatten ++ xs.flatten).toArray ++ Builtin.zeroCells z.cells (grownCap w (n + xs.length) c e - (n + xs.length))) e)).heap[w.heap.size]? = some (.cells ((L.flatten ++ xs.flatten).toArray ++ Builtin.zeroCells z.cells (grownCap w (n + xs.length) c e - (n + xs.length))) e (0, 0)) := by
  show (w.heap.push _)[w.heap.size]? = _
  simp
 refine ⟨grownCap w (n + xs.length) c e, _, ?_, hB, hgc, fun j v hj => ?_, _, e, hh, ?_, ?_⟩
 ·simp [execOp, ho, resolve, invoke, builtin, hv, hrun]
 ·rw [cell_of_row _ w.heap.size (0 + j) _ e (0, 0) hh]
  rw [List.flatten_append] at hj
  have := (xbe.1 hj).1
  rw [xbl, Array.getElem?_append_left (by simpa using this)]
  simpa using hj
 ·rw [Array.size_append, zeroCells_size, hzs]
  simp only [Ybo, Xbb, Yx hrow.even, Yx s2]
  rw [← hn, ← Xbr, ← Xbr]
  congr 1; omega
 ·rw [Xbb, ← hn]; exact hgc
theorem YK {sz : Nat} {L xs : List (List Value)} (h1 : ∀ e ∈ L, e.length = sz) (h2 : ∀ e ∈ xs, e.length = sz) : ∀ e ∈ L ++ xs, e.length = sz := fun e he => by
 rcases Xbp.1 he with h | h
 ·exact h1 e h
 ·exact h2 e h
theorem yah {L xs : List (List Value)} (h1 : ∀ e ∈ L, ∀ u ∈ e, u.oneCell' = true) (h2 : ∀ e ∈ xs, ∀ u ∈ e, u.oneCell' = true) : ∀ e ∈ L ++ xs, ∀ u ∈ e, u.oneCell' = true := fun e he => by
 rcases Xbp.1 he with h | h
 ·exact h1 e h
 ·exact h2 e h
theorem ZaE (hs : SRel g st w a) {o : Oper} {t tx e : TypeId} {s x : Operand} (ho : o.op = .call ⟨.builtin .append, #[s, x], #[t, tx]⟩) {i : TypeInfo} {z : Value} (ht : P.underlying t = some (.slice e)) (hi : P.info? e = some i) (hz : i.zero = some z) (hzs : z.cells.size = i.size) (hb : i.bytes ≤ 4096)
  {xs : List (List Value)} (hsrc : zah P st.mem i.size tx (st.val x) = some xs) {L : List (List Value)} {ad : Option Addr} (hv : a.eval s = .slice ad L.length L.length) (hrow : Row (g.St st.mem) w ad i.size L) (hlim : L.length + xs.length ≤ lim) :
  Fine P g st.mem w a o (.gr st.mem.gros.length (L.length + xs.length)) (st.mem.gadd (i.size, L ++ xs)) := by
 obtain ⟨s1, s2, s3⟩ := src_ok hs hsrc
 have hgm : (st.mem.gadd (i.size, L ++ xs)).gros[st.mem.gros.length]? = some (i.size, L ++ xs) := by
  show (st.mem.gros ++ [_])[st.mem.gros.length]? = _
  simp
 by_cases hx : xs = []
 ·subst hx
  have hok := gadd_ok hs.rel i.size (L ++ []) (ybd _ w) none (by intro b c h; cases h)
  have hnot := run_append_nothing (P := P) w t tx o.type e i ht hi ad L.length L.length (Xbc _) (a.eval x) (by simpa using s1)
  refine Xw (v := .slice ad L.length L.length) ?_ hok.1 hok.2 ?_
  ·simp [execOp, ho, resolve, invoke, builtin, hv, hnot]
  ·simp only [Rep]
   have hk : Row _ w ad i.size L := hrow.keep hok.2.toLeaf
   exact ⟨i.size, L ++ [], ad, L.length, hgm, by simp, rfl, Xbc _, by simpa using hk, fun _ => .inl (by simp)⟩
 ·have hpos : 0 < xs.length := Ybr.2 hx
  obtain ⟨c', w', r1, r2, r3, r4, r5⟩ := zaX hs ho ht hi hz hzs hb hsrc hv rfl hrow (by omega) hlim
  have hok := gadd_ok hs.rel i.size (L ++ xs) r2 (some (w.heap.size, c')) (by intro b c h; cases h; exact ⟨rfl, r5⟩)
  refine Xw r1 hok.1 hok.2 ?_
  simp only [Rep]
  have hlen : (L ++ xs).length = L.length + xs.length := Xbb
  have hgg : (g.gadd (some (w.heap.size, c'))).gro[st.mem.gros.length]? = some (some (w.heap.size, c')) := by
   show (g.gro ++ [_])[st.mem.gros.length]? = _
   rw [← hs.rel.ng]; simp
  refine ⟨i.size, L ++ xs, _, c', hgm, by omega, rfl, r3, ?_, fun _ => .inr ⟨w.heap.size, rfl, hgg⟩⟩
  rw [Zbj (by omega)]
  refine ⟨YK hrow.even s2, yah hrow.one s3, .inr ⟨w.heap.size, 0, rfl, r4, fun j hj => ?_⟩⟩
  refine .inr ⟨hs.rel.base, fun k hk => by have := (hs.rel.box_lt hk).1; omega, fun k b' c'' sz' L' k1 k2 e => ?_⟩
  rcases ZE k1 with k1 | ⟨hi, k1⟩
  ·have := (hs.rel.gro_lt k1).1; omega
  ·rw [hi, hs.rel.ng, hgm] at k2; cases k2
   rw [Yx (YK hrow.even s2)] at hj
   omega
theorem xa2 (hs : SRel g st w a) {o : Oper} {t tx e : TypeId} {s x : Operand} (ho : o.op = .call ⟨.builtin .append, #[s, x], #[t, tx]⟩) {i : TypeInfo} {z : Value} (ht : P.underlying t = some (.slice e)) (hi : P.info? e = some i) (hz : i.zero = some z) (hzs : z.cells.size = i.size) (hb : i.bytes ≤ 4096)
  {xs : List (List Value)} (hsrc : zah P st.mem i.size tx (st.val x) = some xs) {q : Nat} {L : List (List Value)} (hq : st.mem.gros[q]? = some (i.size, L)) (hv : st.val s = .gr q L.length) (hlim : L.length + xs.length ≤ lim) :
  Fine P g st.mem w a o (.gr q (L.length + xs.length)) (st.mem.gput q (i.size, L ++ xs)) := by
 obtain ⟨s1, s2, s3⟩ := src_ok hs hsrc
 have hqm := (xbe.1 hq).1
 have hgm : (st.mem.gput q (i.size, L ++ xs)).gros[q]? = some (i.size, L ++ xs) := by
  show (st.mem.gros.set q _)[q]? = _
  rw [ybo hqm]
 have h1 := zk hs s
 rw [hv] at h1; simp only [Rep] at h1
 obtain ⟨sz', L', ad, c, hL', hn, hva, hc, hrow, hown⟩ := h1
 rw [hq] at hL'; cases hL'
 rw [Zbj (Xbc _)] at hrow
 have hlen : (L ++ xs).length = L.length + xs.length := Xbb
 by_cases hroom : L.length + xs.length ≤ c
 ·by_cases hx : xs = []
  ·subst hx
   have hm : st.mem.gput q (i.size, L ++ []) = st.mem := by
    unfold Mem.gput
    rw [ybk]
    have : st.mem.gros.set q (i.size, L) = st.mem.gros := by
     apply Zbr
     intro k
     by_cases e : q = k
     ·subst e; rw [ybo hqm, hq]
     ·rw [ybp e]
    rw [this]
   rw [hm]
   have hnot := run_append_nothing (P := P) w t tx o.type e i ht hi ad L.length c hc (a.eval x) (by simpa using s1)
   refine Xw (v := .slice ad L.length c) ?_ hs.rel (Ext.refl _ _ _) ?_
   ·simp [execOp, ho, resolve, invoke, builtin, hva, hnot]
   ·simp only [Rep]
    exact ⟨i.size, L, ad, c, hq, by simp, by simp, hc, by simpa using hrow, fun _ => hown rfl⟩
  ·have hpos : 0 < xs.length := Ybr.2 hx
   rcases hown rfl with h | ⟨b, hab, hgb⟩
   ·omega
   ·subst hab
    obtain ⟨hb1, cs, ty, hb2, hb3, hb4⟩ := hs.rel.gro q b c i.size L hgb hq
    have hok := gstay_ok hs.rel hq hgb (by omega : (L ++ xs).length ≤ c) s2
    have hfl := Yx s2
    have hfit : ∀ j, j < xs.flatten.length → 0 + L.length * i.size + j < cs.size := fun j hj => by
     have : L.length * i.size + xs.flatten.length ≤ c * i.size := by
      rw [hfl, ← Xbr]; exact Ybp _ hroom
     omega
    have hrun := run_append_room_src (P := P) w t tx o.type e i ht hi b 0 L.length c (a.eval x) xs.length xs.flatten s1 hroom
     (fun j hj => by
      rw [cell_of_row w b _ cs ty _ hb2, Zbn (hfit j hj)]; rfl)
     (fun j hj => by simp [World.frozen?, hb2])
    rw [xbl] at hrun
    refine Xw (v := .slice (some ⟨b, 0, none⟩) (L.length + xs.length) c) ?_ hok.1 hok.2 ?_
    ·simp [execOp, ho, resolve, invoke, builtin, hva, hrun]
    ·simp only [Rep]
     refine ⟨i.size, L ++ xs, _, c, hgm, by omega, rfl, hroom, ?_, fun _ => .inr ⟨b, rfl, hgb⟩⟩
     rw [Zbj (by omega)]
     refine ⟨YK hrow.even s2, yah hrow.one s3, .inr ⟨b, 0, rfl, ?_, fun j hj => ?_⟩⟩
     ·intro j v hj
      rw [List.flatten_append] at hj
      have hLf := Yx hrow.even
      rcases ybn j L.flatten.length with hlt | hge
      ·rw [Ybj hlt] at hj
       rw [World.cell?_setCells_out b _ _ w _ (fun _ _ => .inl (by show 0 + j < _; omega))]
       rcases hrow.lies with h0 | ⟨b', off, ha, hr, _⟩
       ·subst h0; simp at hlt
       ·cases ha; exact hr j v hj
      ·rw [Zbp hge] at hj
       have hk := (xbe.1 hj).1
       have := World.cell?_setCells_in b xs.flatten (L.length * i.size) w (fun k hk' => by
        have := hfit k hk'
        rw [cell_of_row w b _ cs ty _ hb2, Zbn (by omega)]; rfl) _ hk
       rw [show 0 + j = L.length * i.size + (j - L.flatten.length) by omega, this, ← hj, zbf hk]
     ·refine .inr ⟨hb1, fun k hk => hs.rel.apart k q b c hk hgb, fun k b' c'' sz' L' k1 k2 e => ?_⟩
      subst e
      have : k = q := hs.rel.groInj k q b' _ _ k1 hgb
      subst this
      rw [hgm] at k2; cases k2
      rw [Yx (YK hrow.even s2)] at hj
      omega
 ·have hx : xs ≠ [] := fun e => by subst e; simp at hroom; omega
  obtain ⟨c', w', r1, r2, r3, r4, r5⟩ := zaX hs ho ht hi hz hzs hb hsrc hva rfl hrow (by omega) hlim
  have hok := gmove_ok hs.rel hq hx r2 c' r5
  refine Xw r1 hok.1 hok.2 ?_
  simp only [Rep]
  have hgg : (g.gput q (some (w.heap.size, c'))).gro[q]? = some (some (w.heap.size, c')) := by
   show (g.gro.set q _)[q]? = _
   rw [ybo (by rw [hs.rel.ng]; exact hqm)]
  refine ⟨i.size, L ++ xs, _, c', hgm, by omega, rfl, r3, ?_, fun _ => .inr ⟨w.heap.size, rfl, hgg⟩⟩
  rw [Zbj (by omega)]
  refine ⟨YK hrow.even s2, yah hrow.one s3, .inr ⟨w.heap.size, 0, rfl, r4, fun j hj => ?_⟩⟩
  refine .inr ⟨hs.rel.base, fun k hk => by have := (hs.rel.box_lt hk).1; omega, fun k b' c'' sz' L' k1 k2 e => ?_⟩
  by_cases hk : k = q
  ·subst hk
   rw [hgm] at k2; cases k2
   rw [Yx (YK hrow.even s2)] at hj
   omega
  ·have k1 : (g.gro.set q (some (w.heap.size, c')))[k]? = some (some (b', c'')) := k1
   rw [ybp (Ne.symm hk)] at k1
   have := (hs.rel.gro_lt k1).1; omega
theorem Zaw (hs : SRel g st w a) {o : Oper} {t tx : TypeId} {s x : Operand} (ho : o.op = .call ⟨.builtin .append, #[s, x], #[t, tx]⟩) {r : AV} {m' : Mem} (h : YE P st.mem t tx (st.val s) (st.val x) = some (r, m')) : Fine P g st.mem w a o r m' := by
 have h1 := zk hs s
 unfold YE at h
 split at h
 ·rename_i e ht
  split at h
  ·rename_i i hi
   split at h
   ·rename_i z hz
    split at h
    ·rename_i hc
     split at h
     ·rename_i xs hsrc
      split at h
      ·rename_i hsv
       split at h
       ·rename_i hlim
        cases h
        rw [hsv] at h1; simp only [Rep] at h1
        have := ZaE hs ho ht hi hz hc.1 hc.2 hsrc (L := []) (ad := none) (by simpa using h1) ⟨by simp, by simp, .inl rfl⟩ (by simpa using hlim)
        simpa [Mem.gadd] using this
       ·cases h
      ·rename_i sz n f hsv
       split at h
       ·rename_i hcc
        cases h
        rw [hsv] at h1; simp only [Rep] at h1
        obtain ⟨ad, c, hv, hle, hf, hrow⟩ := h1
        have hcl := hf rfl
        subst hcl
        obtain ⟨e1, e2⟩ := hcc
        subst e1
        have := ZaE hs ho ht hi hz hc.1 hc.2 hsrc hv hrow (by rw [elems_length]; exact e2)
        rw [elems_length] at this
        exact this
       ·cases h
      ·rename_i q n hsv
       split at h
       ·rename_i sz L hL
        split at h
        ·rename_i hcc
         cases h
         obtain ⟨e1, e2, e3⟩ := hcc
         subst e1; subst e2
         exact xa2 hs ho ht hi hz hc.1 hc.2 hsrc hL hsv e3
        ·cases h
       ·cases h
      ·cases h
     ·cases h
    ·cases h
   ·cases h
  ·cases h
 ·cases h
end
abbrev CallF := FuncId → List AV → Mem → Option (AV × Mem)
def zv (P : Program) (f : FuncId) : Bool := match P.funcs[f]? with
 | some fn => fn.body.isSome
 | none => false
def AV.callee : AV → Option (FuncId × List AV)
 | .lit (.func (.func f) a b) => if a.size = 0 ∧ b.size = 0 then some (f, []) else none
 | .fn f cap => some (f, cap)
 | _ => none
def xW (P : Program) (st : St) (o : Oper) : Option AV :=
 match o.op with
 | .move x => some (st.val x)
 | .assign x => some (st.val x)
 | .pick c x y => match st.val c with
  | .lit (.bool t) => some (bif t then st.val x else st.val y)
  | _ => none
 | .load t x => xY P st.mem t (st.val x)
 | .fieldAddr s x f => xX P s (st.val x) f
 | .indexAddr t x ix => xQ P st.mem t (st.val x) (st.val ix)
 | .build t ps => YaJ P st t ps
 | .field t x f => match st.val x with
  | .agg _ => xar P t (st.val x) f
  | _ => Zv P st o
 | .extract x i => match st.val x with
  | .tup l => l[i]?
  | _ => Zv P st o
 | .makeFunc (.func f) first cap => if first.size = 0 then some (.fn f (cap.toList.map st.val)) else none
 | .nilCheck x => match st.val x with
  | .ptr _ _ => some (st.val x)
  | .cp _ => some (st.val x)
  | _ => Zv P st o
 | .slice t x lo hi mx => match st.val x with
  | .lit _ => Zv P st o
  | _ => Y3 P st t (st.val x) lo hi mx
 | _ => Zv P st o
def ZY (P : Program) (st : St) (o : Oper) (b : Builtin) (args : List Operand) (tys : List TypeId) : Option (AV × Mem) :=
 match b, args, tys with
 | .len, [x], [t] => match st.val x with
  | .lit _ => (Zv P st o).map (·, st.mem)
  | _ => (evLen P st t (st.val x)).map (·, st.mem)
 | .append, [s, x], [t, tx] => YE P st.mem t tx (st.val s) (st.val x)
 | _, _, _ => (Zv P st o).map (·, st.mem)
def evOp (P : Program) (call : CallF) (st : St) (o : Oper) : Option (AV × Mem) :=
 match o.op with
 | .alloc e => match (P.info? e).bind (·.zero) with
  | some z => some (.ptr st.mem.boxes.length 0, st.mem.add (z.cells.toList.map .lit))
  | none => none
 | .box e x => match (st.val x).cells with
  | some cs => some (.ptr st.mem.boxes.length 0, st.mem.add cs)
  | none => none
 | .store t x y => (ZaJ P st.mem t (st.val x) (st.val y)).map (.any, ·)
 | .buildSlice t n ps => (YN P st t n ps).map (·, st.mem)
 | .makeSlice t n c => zab P st t n c
 | .convert src dst x => match zam P st src dst (st.val x) with
  | some r => some r
  | none => (Zv P st o).map (·, st.mem)
 | .call c => match c.callee with
  | .value x => match (st.val x).callee with
   | some (f, cap) => if zv P f then call f (c.args.toList.map st.val ++ cap) st.mem else (Zv P st o).map (·, st.mem)
   | none => none
  | .builtin b => ZY P st o b c.args.toList c.argTypes.toList
  | .invoke _ _ => none
 | _ => (xW P st o).map (·, st.mem)
def Plain (P : Program) : Prop := ∀ (f : FuncId) fn, P.funcs[f]? = some fn → fn.body.isSome = true → (fn.name == "runtime.NumGoroutine") = false
def CallOk (P : Program) (call : CallF) : Prop := ∀ f args m r m', zv P f = true → call f args m = some (r, m') → ∀ g w vs, Rel g m w → RepL g m w args vs →
 Calls P f vs.toArray w fun e w' => ∃ v g', e = .returned v ∧ Rel g' m' w' ∧ Ext g m w g' m' w' ∧ Rep g' m' w' r v
section
variable {P : Program} {g : Gh} {st : St} {w : World} {a : Act}
theorem yaX (hs : SRel g st w a) {o : Oper} {r : AV} (h : xW P st o = some r) : Still P g st.mem w a o r := by
 unfold xW at h
 split at h
 ·rename_i x ho; cases h; exact xP hs (.inl ho)
 ·rename_i x ho; cases h; exact xP hs (.inr ho)
 ·rename_i c x y ho
  split at h
  ·rename_i t hc; cases h; exact zag hs ho hc
  ·cases h
 ·rename_i t x ho; exact Xaf hs ho h
 ·rename_i s x f ho; exact Y9 hs ho h
 ·rename_i t x ix ho; exact xV hs ho h
 ·rename_i t ps ho; exact ya2 hs ho h
 ·rename_i t x f ho
  split at h
  ·exact zaw hs ho h
  ·exact zz hs h
 ·rename_i x i ho
  split at h
  ·rename_i l hx; exact Xaj hs ho hx h
  ·exact zz hs h
 ·rename_i f first cap ho
  split at h
  ·rename_i hf
   cases h
   have : first = #[] := Array.eq_empty_of_size_eq_zero hf
   subst this
   exact yaK hs ho
  ·cases h
 ·rename_i x ho
  split at h
  ·rename_i i off hx; cases h; exact zad hs ho (.inl ⟨i, off, hx⟩)
  ·rename_i l hx; cases h; exact zad hs ho (.inr ⟨l, hx⟩)
  ·exact zz hs h
 ·rename_i t x lo hi mx ho
  split at h
  ·exact zz hs h
  ·exact xaw hs ho h
 ·exact zz hs h
theorem Yar (hs : SRel g st w a) {o : Oper} {r : AV} {m' : Mem} (h : (Zv P st o).map (·, st.mem) = some (r, m')) : Fine P g st.mem w a o r m' := by
 obtain ⟨x, h1, h2⟩ := xbh.1 h
 cases h2
 exact YF hs (zz hs h1)
theorem zaA (hp : Plain P) (hs : SRel g st w a) {o : Oper} {c : Call} {x : Operand} (ho : o.op = .call c) (hcx : c.callee = .value x) {f : FuncId} {cap : List AV} (hf : (st.val x).callee = some (f, cap)) (hb : zv P f = true) :
  ∃ vs : List Value, (∀ w', (execOp a.eval o).run P w' = .ok (.enter f vs.toArray) w') ∧ RepL g st.mem w (c.args.toList.map st.val ++ cap) vs := by
 have hx := zk hs x
 have hval : ∃ vs, a.eval x = .func (.func f) #[] vs.toArray ∧ RepL g st.mem w cap vs := by
  unfold AV.callee at hf
  split at hf
  ·rename_i f' aa bb hxv
   split at hf
   ·rename_i hc
    cases hf
    rw [hxv] at hx; simp only [Rep] at hx
    have e1 : aa = #[] := Array.eq_empty_of_size_eq_zero hc.1
    have e2 : bb = #[] := Array.eq_empty_of_size_eq_zero hc.2
    exact ⟨[], by rw [hx, e1, e2], by simp [RepL]⟩
   ·cases hf
  ·rename_i f' cap' hxv
   cases hf
   rw [hxv] at hx; simp only [Rep] at hx
   exact hx
  ·cases hf
 obtain ⟨vs, hv, hcap⟩ := hval
 refine ⟨_, fun w' => ?_, (yaN hs c.args.toList).append hcap⟩
 unfold zv at hb
 cases hfn : P.funcs[f]? with
 | none => rw [hfn] at hb; cases hb
 | some fn =>
  rw [hfn] at hb
  simp only at hb
  have hname := hp f fn hfn hb
  have hbody : fn.body.isNone = false := by
   cases hbb : fn.body <;> simp_all
  have e : c.args.map a.eval = (c.args.toList.map a.eval).toArray := by rw [← Array.toList_map, Xbm]
  simp only [execOp, ho, resolve, hcx, hv, Deferred.ofValue, ybl, Ybl, xbi, invoke, callFunc, run_program, hfn]
  rw [if_neg (by rw [hname]; simp), if_neg (by rw [hbody]; simp)]
  simp only [Ybl, e, Array.empty_append, List.append_toArray, Xbi]
theorem fine_call (hp : Plain P) {call : CallF} (hcall : CallOk P call) (hs : SRel g st w a) {o : Oper} {c : Call} {x : Operand} (ho : o.op = .call c) (hcx : c.callee = .value x) {f : FuncId} {cap : List AV} (hf : (st.val x).callee = some (f, cap)) (hb : zv P f = true) {r : AV} {m' : Mem}
  (h : call f (c.args.toList.map st.val ++ cap) st.mem = some (r, m')) : Fine P g st.mem w a o r m' := by
 obtain ⟨vs, hrun, hargs⟩ := zaA hp hs ho hcx hf hb
 intro next Q hn
 unfold Oper.wp
 rw [hrun w, Oper.upon_enter]
 refine (hcall f _ st.mem r m' hb h g w _ hs.rel hargs).mono ?_
 rintro e w' ⟨v, g', rfl, k1, k2, k3⟩
 exact hn v g' w' k1 k2 k3
theorem op_ok (hp : Plain P) {call : CallF} (hcall : CallOk P call) (hs : SRel g st w a) {o : Oper} {r : AV} {m' : Mem} (h : evOp P call st o = some (r, m')) : Fine P g st.mem w a o r m' := by
 unfold evOp at h
 split at h
 ·rename_i e ho
  split at h
  ·rename_i z hz; cases h; exact Xa8 hs ho hz
  ·cases h
 ·rename_i e x ho
  split at h
  ·rename_i cs hc; cases h; exact fine_box hs ho hc
  ·cases h
 ·rename_i t x y ho
  obtain ⟨q, h1, h2⟩ := xbh.1 h
  cases h2; exact ya8 hs ho h1
 ·rename_i t n ps ho
  obtain ⟨q, h1, h2⟩ := xbh.1 h
  cases h2; exact X9 hs ho h1
 ·rename_i t n c ho; exact xaK hs ho h
 ·rename_i src dst x ho
  split at h
  ·rename_i q hq; cases h; exact XaW hs ho hq
  ·exact Yar hs h
 ·rename_i c ho
  split at h
  ·rename_i x hcx
   split at h
   ·rename_i f cap hf
    split at h
    ·rename_i hb; exact fine_call hp hcall hs ho hcx hf hb h
    ·exact Yar hs h
   ·cases h
  ·rename_i b hcx
   obtain ⟨callee, args, tys⟩ := c
   simp only at hcx h
   subst hcx
   unfold ZY at h
   split at h
   ·rename_i x t e1 e2
    have e1 : args = #[x] := by rw [← Xbm (xs := args), e1]
    have e2 : tys = #[t] := by rw [← Xbm (xs := tys), e2]
    subst e1; subst e2
    split at h
    ·exact Yar hs h
    ·obtain ⟨q, h1, h2⟩ := xbh.1 h
     cases h2; exact YF hs (xaN hs ho h1)
   ·rename_i s x t tx e1 e2
    have e1 : args = #[s, x] := by rw [← Xbm (xs := args), e1]
    have e2 : tys = #[t, tx] := by rw [← Xbm (xs := tys), e2]
    subst e1; subst e2
    exact Zaw hs ho h
   ·exact Yar hs h
  ·cases h
 ·obtain ⟨q, h1, h2⟩ := xbh.1 h
  cases h2; exact YF hs (yaX hs h1)
end
def yad (ops : Array Oper) (st : St) (o : Oper) : Option Bool :=
 match o.guard with
 | none => some true
 | some (j, want) => match (ops[j]?).bind (·.dst) with
  | some t => match st.tmps.getD t .any with
   | .lit (.bool b) => some (b == want)
   | .lit (.tuple _) => some false
   | _ => none
  | none => some false
def St.put (st : St) (dst : Option Tmp) (x : AV) (m : Mem) : St :=
 match dst with
 | some d => ⟨st.tmps.set d x, m⟩
 | none => ⟨st.tmps, m⟩
section
variable {P : Program} {g : Gh} {st : St} {w : World} {a : Act}
theorem xah (hs : SRel g st w a) {ops : Array Oper} {o : Oper} {b : Bool} (h : yad ops st o = some b) : Region.wanted o (yielded ops a.tmps) = b := by
 unfold yad at h
 unfold Region.wanted
 split at h
 ·rename_i hg; cases h; rw [hg]
 ·rename_i j want hg
  (try rw [hg])
  simp only
  unfold yielded
  split at h
  ·rename_i t ht
   rw [ht]
   simp only [Zbf]
   rw [zbe] at h
   cases hx : st.tmps[t]? with
   | none => rw [hx] at h; simp at h
   | some y =>
    rw [hx] at h
    obtain ⟨v, h1, h2⟩ := hs.tmps t y hx
    rw [h1]
    simp only [ybt] at h
    split at h
    ·rename_i bb
     simp only [Rep] at h2; subst h2
     cases h
     cases bb <;> cases want <;> rfl
    ·simp only [Rep] at h2; subst h2
     cases h; rfl
    ·cases h
  ·rename_i ht
   rw [ht]; cases h; rfl
theorem SRel.put (hs : SRel g st w a) {g' : Gh} {m' : Mem} {w' : World} (h1 : Rel g' m' w') (h2 : Ext g st.mem w g' m' w') {dst : Option Tmp} {r : AV} {v : Value} (h3 : Rep g' m' w' r v) : SRel g' (st.put dst r m') w' (a.put dst v) := by
 have hm : (st.put dst r m').mem = m' := by cases dst <;> rfl
 refine ⟨by rw [hm]; exact h1, by cases dst <;> exact hs.defers, fun t x hx => ?_⟩
 rw [hm]
 cases dst with
 | none =>
  obtain ⟨u, k1, k2⟩ := hs.tmps t x hx
  exact ⟨u, k1, k2.ext h2⟩
 | some d =>
  have hx : (st.tmps.set d r)[t]? = some x := hx
  by_cases e : d = t
  ·subst e
   have hd : d < st.tmps.length := by
    have := (xbe.1 hx).1; simpa using this
   rw [ybo hd] at hx
   cases hx
   obtain ⟨u, k1, _⟩ := hs.tmps d _ (zbf hd)
   have hd' := (Xbk.1 k1).1
   exact ⟨v, by simp [Act.put, hd'], h3⟩
  ·rw [ybp e] at hx
   obtain ⟨u, k1, k2⟩ := hs.tmps t x hx
   exact ⟨u, by simp [Act.put, Array.getElem?_setIfInBounds_ne e, k1], k2.ext h2⟩
theorem xad (st : St) (dst : Option Tmp) (r : AV) (m : Mem) : (st.put dst r m).mem = m := by cases dst <;> rfl
end
inductive Out where
 | norm
 | exit (id : Nat)
 | ret
def Out.to : Out → Exit
 | .norm => .normal
 | .exit id => .exit id
 | .ret => .ret
def Zy : Code → Option Nat
 | .region id _ _ => some id
 | .seq x y => match Zy x with
  | some i => some i
  | none => Zy y
 | .cond _ x y => match Zy x with
  | some i => some i
  | none => Zy y
 | .block _ c => Zy c
 | .loop c => Zy c
 | .scope c => Zy c
 | _ => none
def xF (ks : List Tmp) : List AV → Nat → List AV
 | [], _ => []
 | x :: r, i => (if ks.contains i then x else .any) :: xF ks r (i + 1)
def St.kill (K : Nat → Option (List Tmp)) (c : Code) (st : St) : St :=
 match (Zy c).bind K with
 | some ks => ⟨xF ks st.tmps 0, st.mem⟩
 | none => st
theorem xan {ks : List Tmp} : ∀ {l : List AV} {k i : Nat} {x : AV}, (xF ks l k)[i]? = some x → x = .any ∨ l[i]? = some x
 | [], k, i, x, h => by simp [xF] at h
 | y :: r, k, 0, x, h => by
  simp only [xF, zbm, Option.some.injEq] at h
  split at h
  ·right; simp [h]
  ·left; exact h.symm
 | y :: r, k, i + 1, x, h => by
  simp only [xF, xbr] at h ⊢
  exact xan h
theorem Z6 {ks : List Tmp} : ∀ (l : List AV) (k : Nat), (xF ks l k).length = l.length
 | [], _ => rfl
 | x :: r, k => by simp [xF, Z6 r]
theorem kill_ok {g : Gh} {st : St} {w : World} {a : Act} (hs : SRel g st w a) (K : Nat → Option (List Tmp)) (c : Code) : SRel g (st.kill K c) w a ∧ (st.kill K c).mem = st.mem := by
 unfold St.kill
 split
 ·rename_i ks hk
  refine ⟨⟨hs.rel, hs.defers, fun t x hx => ?_⟩, rfl⟩
  have hx : (xF ks st.tmps 0)[t]? = some x := hx
  rcases xan hx with rfl | h
  ·have ht : t < st.tmps.length := by
    have := (xbe.1 hx).1; rwa [Z6] at this
   obtain ⟨v, k1, _⟩ := hs.tmps t _ (zbf ht)
   exact ⟨v, k1, by simp [Rep]⟩
  ·exact hs.tmps t x h
 ·exact ⟨hs, rfl⟩
section
variable {P : Program} {ops : Array Oper} {md : Region.Mode} {C : World → Prop}
def Zad (P : Program) (md : Region.Mode) (ops : Array Oper) (C : World → Prop) (n : Nat) (L : Array Bool → Act → Prop) : Nat → Array Bool → Act → Prop
 | 0, listed, a => L listed a
 | f + 1, listed, a =>
  Region.ready md ops listed ≠ [] ∧ ∀ i ∈ Region.ready md ops listed, i < n ∧ qOp P ops C i (Zad P md ops C n L f (listed.setIfInBounds i true)) a
theorem Yad {n g : Nat} {L : Array Bool → Act → Prop} {Q' : Exit → Act → World → Prop} (hL : ∀ listed a w, C w → L listed a → wpAny P md ops Q' g listed a w) :
  ∀ (f : Nat) (listed : Array Bool) (a : Act) (w : World), C w → Zad P md ops C n L f listed a → wpAny P md ops Q' (f + g) listed a w
 | 0, listed, a, w, hw, h => by rw [xbl]; exact hL _ _ _ hw h
 | f + 1, listed, a, w, hw, h => by
  rw [show f + 1 + g = (f + g) + 1 by omega]
  exact ⟨fun h0 => absurd h0 h.1, fun i hi => wpOp_of_qOp hw (fun a' w' hw' h' => Yad hL f _ a' w' hw' h') (h.2 i hi).2⟩
theorem xaR {n i : Nat} {oi : Oper} {v : Value} {L : Array Bool → Act → Prop} (hi : ops[i]? = some oi) (hsel : ∀ (j : Nat) (o : Oper) cs b, ops[j]? = some o → o.op ≠ .select cs b)
  (hs : Region.sinkB md ops n = true) (hc : Region.chainB md ops n = true) (hn : n < ops.size) (hin : i < n)
  (hdone : ∀ listed a, L listed a → ∀ j ∈ Region.ready md ops listed, n ≤ j) :
  ∀ (f : Nat) (listed : Array Bool) (a : Act), HeadInv md ops n listed →
   (∀ j oj, ops[j]? = some oj → j ≠ i → listed.getD j true = false → (∀ e ∈ oj.after, Region.binds md e = true → e.on ≠ i) → oi.apart ops oj = true) →
   i ∈ Region.ready md ops listed → YieldsIn P ops C oi v a →
   Zad P md ops C n L f (listed.setIfInBounds i true) (a.put oi.dst v) → Zad P md ops C n L (f + 1) listed a := by
 intro f
 induction f with
 | zero =>
  intro listed a inv _ hr hy H
  have hun := (mem_ready.1 hr).1
  refine ⟨fun h => (by rw [h] at hr; cases hr), fun j hj => ?_⟩
  have hjn : j < n := by
   rcases ybn j n with h | h
   ·exact h
   ·exact absurd hj (tail_waits hs hc hn inv _ i rfl hin hun j h)
  refine ⟨hjn, ?_⟩
  by_cases hji : j = i
  ·subst hji; exact hy.qOp hi H
  ·have := hdone _ _ H j (ready_mono hj hji)
   omega
 | succ f ih =>
  intro listed a inv hfree hr hy H
  have hun := (mem_ready.1 hr).1
  refine ⟨fun h => (by rw [h] at hr; cases hr), fun j hj => ?_⟩
  have hjn : j < n := by
   rcases ybn j n with h | h
   ·exact h
   ·exact absurd hj (tail_waits hs hc hn inv _ i rfl hin hun j h)
  refine ⟨hjn, ?_⟩
  by_cases hji : j = i
  ·subst hji; exact hy.qOp hi H
  ·have h1 := (H.2 j (ready_mono hj hji)).2
   obtain ⟨hjun, oj, hoj, hall⟩ := mem_ready.1 hj
   have hnot : ∀ e ∈ oj.after, Region.binds md e = true → e.on ≠ i := fun e he hb heq => by
    have h1 := hall e he hb
    rw [heq, getD_both hun] at h1
    cases h1
   have h2 := qOp_put hoj (hfree j oj hoj hji hjun hnot) (fun cs b => hsel i oi cs b hi) (fun cs b => hsel j oj cs b hoj) hy h1
   have hfree' : ∀ k ok, ops[k]? = some ok → k ≠ i → (listed.setIfInBounds j true).getD k true = false →
     (∀ e ∈ ok.after, Region.binds md e = true → e.on ≠ i) → oi.apart ops ok = true := fun k ok hk hki hun hno => by
    refine hfree k ok hk hki ?_ hno
    by_cases hjk : j = k
    ·subst hjk; exact hjun
    ·rw [getD_set_ne true hjk] at hun; exact hun
   refine qOp_mono (fun a' h3 => ih (listed.setIfInBounds j true) a' (inv.set hj hjn) hfree' (ready_mono hr (Ne.symm hji)) h3.1 ?_) h2
   rw [Array.setIfInBounds_comm _ _ hji]
   exact h3.2
theorem Yaw {n g : Nat} {Lq : Act → Prop} (hsel : Region.noSelect ops = true) (hs : Region.sinkB md ops n = true) (hc : Region.chainB md ops n = true) (hn : n < ops.size) :
  ∀ (l : List Oper) (k : Nat) (listed : Array Bool) (a : Act), (∀ j, j < l.length → l[j]? = ops[k + j]?) → k + l.length = n → HeadInv md ops n listed →
  Region.lexHead md ops g l.length k listed = true → wpQuiet P ops C Lq l a →
  Zad P md ops C n (fun listed' a' => Region.seqB md ops g n listed' = true ∧ Lq a') l.length listed a
 | [], k, listed, a, _, hk, _, hB, h => by
  have : k = n := by simpa using hk
  subst this
  exact ⟨by simpa [Region.lexHead] using hB, h⟩
 | o :: l, k, listed, a, hl, hk, inv, hB, h => by
  have h0 : ops[k]? = some o := by simpa using (hl 0 (by simp)).symm
  simp only [Xbd, Region.lexHead, zbi] at hB
  obtain ⟨⟨hr, hf⟩, hB'⟩ := hB
  have hkn : k < n := by simp only [Xbd] at hk; omega
  have hr' : k ∈ Region.ready md ops listed := by simpa using hr
  have hst : qOp P ops C k (wpQuiet P ops C Lq l) a := by unfold qOp; simp only [h0]; exact h
  obtain ⟨v, hy, hK⟩ := yieldsIn_of_qOp h0 hst
  exact xaR h0 (Region.noSelect_spec hsel) hs hc hn hkn (fun listed' a' hL => seqB_ready hL.1) l.length listed a inv (Region.free_spec h0 hf) hr' hy
   (Yaw hsel hs hc hn l (k + 1) _ _ (fun j hj => by have := hl (j + 1) (by simp; omega); simpa [Zbi, Nat.add_comm 1 j] using this) (by simp only [Xbd] at hk; omega) (inv.set hr' hkn) hB' hK)
theorem Zah {id : Nat} {Q : Exit → Act → World → Prop} {a : Act} {w : World} (n : Nat) (hm : P.follows .mixedOrders = true) (hB : Region.lexTailB .any ops n = true) (hC : C { w with drawn := w.drawn + 1 })
  (h : wpQuiet P ops C (fun a' => ∀ w', C w' → wpList P ops Q (ops.toList.drop n) a' w') (ops.toList.take n) a) : (Code.region id ops true).wp P Q a w := by
 simp only [Region.lexTailB, zbi, Zbd] at hB
 obtain ⟨⟨⟨⟨hsel, hn⟩, hs⟩, hc⟩, hlex⟩ := hB
 have htl : (ops.toList.take n).length = n := by simp; omega
 have hdl : (ops.toList.drop n).length = ops.size - n := by simp
 have inv0 : HeadInv .any ops n (Array.replicate ops.size false) :=
  ⟨by simp, fun j oj _ hl => (by rw [getD_replicate_false] at hl; cases hl), fun t _ ht => getD_in (by simpa using ht) (getD_replicate_false _ _)⟩
 have H := Yaw (C := C) (md := .any) (g := ops.size - n) hsel hs hc hn (ops.toList.take n) 0 _ a (fun j hj => by
  have hj' : j < n := by rw [htl] at hj; exact hj
  simp [hj']) (by simpa using htl) inv0 (by rw [htl]; exact hlex) h
 refine wp_region_any hm ?_
 have := Yad (Q' := Q) (g := ops.size - n) (fun listed a' w' hw' hL => by
  have := wpAny_of_seq (md := .any) (Q' := Q) (ops.toList.drop n) n listed a' w' (fun j => by simp [zbn]) (by rw [hdl]; exact hL.1) (hL.2 w' hw')
  rwa [hdl] at this) _ _ _ _ hC H
 rw [htl, show n + (ops.size - n) = ops.size by omega] at this
 exact this
end
section
variable {P : Program} {g : Gh} {st : St} {w : World} {a : Act}
theorem ZaK {o : Oper} {r : AV} {K : Act → Prop} (h : Still P g st.mem w a o r) (hk : ∀ v, Rep g st.mem w r v → K (a.put o.dst v)) : o.quiet P a (fun w' => Below w.heap.size w w') K := by
 obtain ⟨v, h1, h2⟩ := h
 refine ⟨v, fun w' hw' => ?_, hk v h1⟩
 unfold Oper.quietAt
 rw [h2 w' hw']
 exact ⟨rfl, rfl⟩
theorem SRel.below (hs : SRel g st w a) {w' : World} (hw : Below w.heap.size w w') : SRel g st w' a :=
 ⟨hs.rel.of_below hw, hs.defers, fun t x hx => let ⟨u, k1, k2⟩ := hs.tmps t x hx; ⟨u, k1, Rep.keep (Leaf.of_below hw) _ _ k2⟩⟩
end
mutual
def AV.under (nb ng : Nat) : AV → Bool
 | .gr i _ => decide (i < ng)
 | .ptr i _ => decide (i < nb)
 | .bs i _ _ => decide (i < nb)
 | .fn _ cap => zB nb ng cap
 | .agg l => zB nb ng l
 | .tup l => zB nb ng l
 | _ => true
def zB (nb ng : Nat) : List AV → Bool
 | [] => true
 | x :: r => x.under nb ng && zB nb ng r
end
structure Shift (nb ng : Nat) (g : Gh) (m : Mem) (w : World) (g' : Gh) (m' : Mem) : Prop where
 st : ∀ b o, b < w.heap.size → g.St m b o → g'.St m' b o
 box : ∀ i, i < nb → g'.box[i]? = g.box[i]?
 gro : ∀ i, i < ng → g'.gro[i]? = g.gro[i]? ∧ m'.gros[i]? = m.gros[i]?
theorem Row.shift {g : Gh} {m : Mem} {w : World} {g' : Gh} {m' : Mem} (st : ∀ b o, b < w.heap.size → g.St m b o → g'.St m' b o) {a : Option Addr} {sz : Nat} {l : List (List Value)} (h : Row (g.St m) w a sz l) : Row (g'.St m') w a sz l :=
 ⟨h.even, h.one, h.lies.imp id fun ⟨b, off, ha, hr, hs⟩ => ⟨b, off, ha, hr, fun j hj => st b _ (Z1 hr hj) (hs j hj)⟩⟩
mutual
theorem Rep.shift {nb ng : Nat} {g : Gh} {m : Mem} {w : World} {g' : Gh} {m' : Mem} (S : Shift nb ng g m w g' m') : ∀ (x : AV) (v : Value), x.under nb ng = true → Rep g m w x v → Rep g' m' w x v
 | .any, _, _, _ => by simp [Rep]
 | .cell, v, _, h => by simpa [Rep] using h
 | .lit x, v, _, h => by simpa [Rep] using h
 | .sl full sz n f, v, _, h => by simp only [Rep] at h ⊢; exact let ⟨a, c, h1, h2, h3, h4⟩ := h; ⟨a, c, h1, h2, h3, h4.shift S.st⟩
 | .gr i n, v, hb, h => by
  simp only [AV.under, Zbd] at hb
  simp only [Rep] at h ⊢
  obtain ⟨sz, L, a, c, h1, h2, h3, h4, h5, h6⟩ := h
  obtain ⟨k1, k2⟩ := S.gro i hb
  exact ⟨sz, L, a, c, by rw [k2]; exact h1, h2, h3, h4, h5.shift S.st, fun hn => by rw [k1]; exact h6 hn⟩
 | .ptr i off, v, hb, h => by
  simp only [AV.under, Zbd] at hb
  simp only [Rep] at h ⊢; exact let ⟨b, h1, h2⟩ := h; ⟨b, by rw [S.box i hb]; exact h1, h2⟩
 | .cp l, v, _, h => by simp only [Rep] at h ⊢; exact let ⟨b, off, h1, h2, h3⟩ := h; ⟨b, off, h1, h2, fun j hj => S.st b _ (Z1 h2 hj) (h3 j hj)⟩
 | .bs i sz n, v, hb, h => by
  simp only [AV.under, Zbd] at hb
  simp only [Rep] at h ⊢; exact let ⟨b, c, h1, h2⟩ := h; ⟨b, c, by rw [S.box i hb]; exact h1, h2⟩
 | .fn f cap, v, hb, h => by simp only [AV.under] at hb; simp only [Rep] at h ⊢; exact let ⟨vs, h1, h2⟩ := h; ⟨vs, h1, RepL.shift S cap vs hb h2⟩
 | .agg l, v, hb, h => by simp only [AV.under] at hb; simp only [Rep] at h ⊢; exact let ⟨vs, h1, h2⟩ := h; ⟨vs, h1, RepL.shift S l vs hb h2⟩
 | .tup l, v, hb, h => by simp only [AV.under] at hb; simp only [Rep] at h ⊢; exact let ⟨vs, h1, h2⟩ := h; ⟨vs, h1, RepL.shift S l vs hb h2⟩
theorem RepL.shift {nb ng : Nat} {g : Gh} {m : Mem} {w : World} {g' : Gh} {m' : Mem} (S : Shift nb ng g m w g' m') : ∀ (xs : List AV) (vs : List Value), zB nb ng xs = true → RepL g m w xs vs → RepL g' m' w xs vs
 | [], vs, _, h => by simpa [RepL] using h
 | x :: xs, vs, hb, h => by
  simp only [zB, zbi] at hb
  simp only [RepL] at h ⊢; exact let ⟨u, us, h1, h2, h3⟩ := h; ⟨u, us, h1, Rep.shift S x u hb.1 h2, RepL.shift S xs us hb.2 h3⟩
end
def XaE (P : Program) : Nat → TypeId → List (Option Nat)
 | 0, _ => []
 | d + 1, t => match P.underlying t with
  | some (.struct fs) => fs.toList.flatMap fun f => XaE P d f.type
  | some (.array n e) => (List.replicate n (XaE P d e)).flatten
  | some (.slice e) => [(P.info? e).map (·.size)]
  | _ => [none]
def zaa (m : Mem) (ng : Nat) (s : Option Nat) (x : AV) : AV :=
 match s with
 | none => x
 | some sz => match x with
  | .lit (.slice none 0 _) => .sl false sz 0 (fun _ => [])
  | .sl _ q n f => .sl false q n f
  | .gr i n => if i < ng then x else match m.gros[i]? with
   | some (q, L) => .sl false q n (fun k => L.getD k [])
   | none => x
  | _ => x
def Y6 (m : Mem) (ng : Nat) : List (Option Nat) → List AV → List AV
 | s :: ss, x :: xs => zaa m ng s x :: Y6 m ng ss xs
 | _, xs => xs
def allNone : List (Option Nat) → Bool
 | [] => true
 | none :: r => allNone r
 | some _ :: _ => false
def canon (P : Program) (m : Mem) (ng : Nat) (t : TypeId) (x : AV) : AV :=
 let ss := XaE P 9 t
 if allNone ss then x else match x with
  | .agg l => Z9 (Y6 m ng ss l)
  | .lit (.agg cs) => Z9 (Y6 m ng ss (cs.toList.map .lit))
  | _ => zaa m ng (ss.headD none) x
section
variable {P : Program} {g : Gh} {m : Mem} {w : World}
theorem Zan {s : Option Nat} {ng : Nat} {x : AV} {v : Value} (h : Rep g m w x v) : Rep g m w (zaa m ng s x) v := by
 unfold zaa
 split
 ·exact h
 ·split
  ·simp only [Rep] at h ⊢
   subst h
   exact ⟨none, _, rfl, Ybm _, (by intro e; cases e), by simp [Zf], by simp [Zf], .inl rfl⟩
  ·simp only [Rep] at h ⊢
   obtain ⟨a, c, h1, h2, h3, h4⟩ := h
   exact ⟨a, c, h1, h2, (by intro e; cases e), h4⟩
  ·rename_i i n
   split
   ·exact h
   ·split
    ·rename_i q L hL
     simp only [Rep] at h ⊢
     obtain ⟨sz, L', a, c, h1, h2, h3, h4, h5, h6⟩ := h
     rw [hL] at h1; cases h1
     have hl : (L.take n).length = n := by simp; omega
     rw [yP h2]
     exact ⟨a, c, by rw [hl]; exact h3, by rw [hl]; exact h4, (by intro e; cases e), h5⟩
    ·exact h
  ·exact h
theorem Yan {ng : Nat} : ∀ (ss : List (Option Nat)) (xs : List AV) (vs : List Value), RepL g m w xs vs → RepL g m w (Y6 m ng ss xs) vs
 | s :: ss, x :: xs, vs, h => by
  simp only [RepL] at h
  obtain ⟨u, us, rfl, h1, h2⟩ := h
  simp only [Y6, RepL]
  exact ⟨u, us, rfl, Zan h1, Yan ss xs us h2⟩
 | [], xs, vs, h => by cases xs <;> simpa [Y6] using h
 | s :: ss, [], vs, h => by simpa [Y6] using h
theorem xaX {ng : Nat} {t : TypeId} {x : AV} {v : Value} (h : Rep g m w x v) : Rep g m w (canon P m ng t x) v := by
 unfold canon
 simp only
 split
 ·exact h
 ·split
  ·simp only [Rep] at h
   obtain ⟨vs, rfl, h2⟩ := h
   exact ZT (Yan _ _ _ h2)
  ·rename_i cs
   simp only [Rep] at h; subst h
   have := ZT (Yan (ng := ng) (XaE P 9 t) _ _ (RepL.lit (g := g) (m := m) (w := w) cs.toList))
   simpa using this
  ·exact Zan h
end
def XN (P : Program) (m : Mem) (ng : Nat) : List TypeId → List AV → List AV
 | t :: ts, x :: xs => canon P m ng t x :: XN P m ng ts xs
 | _, xs => xs
theorem Xan {P : Program} {g : Gh} {m : Mem} {w : World} {ng : Nat} : ∀ (ts : List TypeId) (xs : List AV) (vs : List Value), RepL g m w xs vs → RepL g m w (XN P m ng ts xs) vs
 | t :: ts, x :: xs, vs, h => by
  simp only [RepL] at h
  obtain ⟨u, us, rfl, h1, h2⟩ := h
  simp only [XN, RepL]
  exact ⟨u, us, rfl, xaX h1, Xan ts xs us h2⟩
 | [], xs, vs, h => by cases xs <;> simpa [XN] using h
 | t :: ts, [], vs, h => by simpa [XN] using h
def Good (P : Program) (f : FuncId) (args : List AV) (r : AV) : Prop :=
 ∀ (S : Nat → Nat → Prop) (w : World) (vs : List Value), Inv.I w → RepL ⟨w.heap.size, S, [], []⟩ ⟨[], []⟩ w args vs →
  Calls P f vs.toArray w fun e w' => ∃ v, e = .returned v ∧ Below w.heap.size w w' ∧ Rep ⟨w.heap.size, S, [], []⟩ ⟨[], []⟩ w' r v
def yaA (P : Program) (f : FuncId) : List TypeId := match P.funcs[f]? with
 | some fn => fn.params.toList
 | none => []
def zaF (P : Program) (st : St) : ResultVar → Option AV
 | .tmp t => some (st.tmps.getD t .any)
 | .cell a t => xY P st.mem t (st.tmps.getD a .any)
def ZP (P : Program) (st : St) (ng : Nat) : List ResultVar → List TypeId → Option (List AV)
 | [], _ => some []
 | r :: rs, t :: ts => match zaF P st r, ZP P st ng rs ts with
  | some x, some xs => some (canon P st.mem ng t x :: xs)
  | _, _ => none
 | _ :: _, [] => none
def Yah : List AV → AV
 | [x] => x
 | l => .tup l
def XE (nb ng : Nat) : List (List AV) → Bool
 | [] => true
 | x :: r => zB nb ng x && XE nb ng r
def zao (m0 m : Mem) (r : AV) : Option (AV × Mem) :=
 let bs := m.boxes.take m0.boxes.length
 if r.under m0.boxes.length m0.gros.length && XE m0.boxes.length m0.gros.length bs then some (r, ⟨bs, m.gros.take m0.gros.length⟩) else none
def anys : Nat → List AV
 | 0 => []
 | n + 1 => .any :: anys n
def yaF (tmps : Array Value) : ResultVar → Sem Value
 | .tmp t => pure (tmps.getD t undef)
 | .cell a t => do loadVar t (← asAddr (tmps.getD a undef))
theorem za9 (fn : Func) (tmps : Array Value) : results fn tmps = (do
  let vs ← fn.results.mapM (yaF tmps)
  pure (if h : vs.size = 1 then vs[0] else .tuple vs)) := by
 unfold results
 congr 1
theorem ya9 {P : Program} {g : Gh} {st : St} {w : World} {a : Act} (hs : SRel g st w a) {r : ResultVar} {x : AV} (h : zaF P st r = some x) :
  ∃ v, (yaF a.tmps r).run P w = .ok v w ∧ Rep g st.mem w x v := by
 cases r with
 | tmp t =>
  simp only [zaF, Option.some.injEq] at h; subst h
  exact ⟨_, rfl, zk hs (.tmp t)⟩
 | cell q t =>
  simp only [zaF] at h
  have hq := zk hs (.tmp q)
  obtain ⟨v, h1, h2⟩ := Xaf (P := P) hs (o := { dst := none, op := .load t (.tmp q), type := 0, pos := "", after := #[], guard := none }) (t := t) (x := .tmp q) rfl h
  refine ⟨v, ?_, h1⟩
  have h3 := h2 w (ybd _ _)
  have hptr : ∃ p, a.tmps.getD q undef = .pointer (some p) := by
   have hq : Rep g st.mem w (st.tmps.getD q .any) (a.tmps.getD q undef) := hq
   unfold xY at h
   split at h
   ·split at h
    ·rename_i i off hp
     rw [hp] at hq; simp only [Rep] at hq
     obtain ⟨b, _, hv⟩ := hq; exact ⟨_, hv⟩
    ·rename_i l hp
     rw [hp] at hq; simp only [Rep] at hq
     obtain ⟨b, off, hv, _⟩ := hq; exact ⟨_, hv⟩
    ·cases h
   ·cases h
  obtain ⟨p, hp⟩ := hptr
  have h3 : (do let v ← Instr.loadAt t (a.tmps.getD q undef); pure (Next.value v) : Sem Next).run P w = .ok (.value v) w := h3
  rw [hp] at h3
  show (do loadVar t (← asAddr (a.tmps.getD q undef)) : Sem Value).run P w = _
  rw [hp]
  simp only [Instr.loadAt, Instr.sureAddr, ybl, Ybl, xbi] at h3
  simp only [asAddr, ybl, Ybl, xbi]
  revert h3
  cases (loadVar t p).run P w with
  | ok u w' => simp only [xbi]; intro h3; cases h3; rfl
  | halt x w' => simp only [Result.andThen_halt]; intro h3; cases h3
theorem Xaw {P : Program} {g : Gh} {st : St} {w : World} {a : Act} (hs : SRel g st w a) {ng : Nat} : ∀ (rs : List ResultVar) (ts : List TypeId) (l : List AV), ZP P st ng rs ts = some l →
  ∃ vs : List Value, (rs.mapM (yaF a.tmps)).run P w = .ok vs w ∧ RepL g st.mem w l vs
 | [], ts, l, h => by
  simp only [ZP, Option.some.injEq] at h; subst h
  exact ⟨[], by simp, by simp [RepL]⟩
 | r :: rs, [], l, h => by simp [ZP] at h
 | r :: rs, t :: ts, l, h => by
  simp only [ZP] at h
  split at h
  ·rename_i x xs h1 h2
   cases h
   obtain ⟨v, k1, k2⟩ := ya9 (P := P) hs h1
   obtain ⟨vs, k3, k4⟩ := Xaw hs rs ts xs h2
   refine ⟨v :: vs, ?_, by simp only [RepL]; exact ⟨v, vs, rfl, xaX k2, k4⟩⟩
   rw [List.mapM_cons, ybl, k1, xbi, ybl, k3, xbi, Ybl]
  ·cases h
theorem xa9 {P : Program} {g : Gh} {st : St} {w : World} {a : Act} (hs : SRel g st w a) {ng : Nat} {fn : Func} {l : List AV} (h : ZP P st ng fn.results.toList fn.resultTypes.toList = some l) :
  ∃ v, (results fn a.tmps).run P w = .ok v w ∧ Rep g st.mem w (Yah l) v := by
 obtain ⟨vs, h1, h2⟩ := Xaw hs _ _ _ h
 have h3 : (fn.results.mapM (yaF a.tmps)).run P w = .ok vs.toArray w := by
  rw [Array.mapM_eq_mapM_toList, Sem.run_map, h1, xbi]
 refine ⟨if h : vs.toArray.size = 1 then vs.toArray[0] else .tuple vs.toArray, ?_, ?_⟩
 ·rw [za9, ybl, h3, xbi, Ybl]
 ·match l, vs, h2 with
  | [], vs, h2 => simp only [RepL] at h2; subst h2; simp [Yah, Rep, RepL]
  | [x], vs, h2 =>
   simp only [RepL] at h2
   obtain ⟨u, us, rfl, k1, rfl⟩ := h2
   simpa [Yah] using k1
  | x :: y :: r, vs, h2 =>
   have hl := h2.length
   have : ¬ vs.toArray.size = 1 := by simp [hl]
   rw [dif_neg this]
   simp only [Yah, Rep]
   exact ⟨vs, rfl, h2⟩
theorem ZaX : ∀ (n i : Nat) (x : AV), (anys n)[i]? = some x → x = .any ∧ i < n
 | 0, i, x, h => by simp [anys] at h
 | n + 1, 0, x, h => by simp only [anys, zbm, Option.some.injEq] at h; exact ⟨h.symm, by omega⟩
 | n + 1, i + 1, x, h => by
  simp only [anys, xbr] at h
  have := ZaX n i x h
  exact ⟨this.1, by omega⟩
theorem X6 {nb ng : Nat} : ∀ {bs : List (List AV)} {i : Nat} {x : List AV}, XE nb ng bs = true → bs[i]? = some x → zB nb ng x = true
 | [], i, x, _, h => by simp at h
 | y :: r, 0, x, hb, h => by
  simp only [XE, zbi] at hb
  simp only [zbm, Option.some.injEq] at h; subst h; exact hb.1
 | y :: r, i + 1, x, hb, h => by
  simp only [XE, zbi] at hb
  exact X6 hb.2 (by simpa using h)
theorem finish_ok {g0 g : Gh} {m0 m m' : Mem} {w0 w : World} {r r' : AV} {v : Value} (h : zao m0 m r = some (r', m')) (hr0 : Rel g0 m0 w0) (hr : Rel g m w) (he : Ext g0 m0 w0 g m w) (hv : Rep g m w r v) :
  ∃ g', Rel g' m' w ∧ Ext g0 m0 w0 g' m' w ∧ Rep g' m' w r' v := by
 unfold zao at h
 simp only at h
 split at h
 ·rename_i hc
  simp only [zbi] at hc
  cases h
  have hgb : ∀ i, i < m0.boxes.length → (g.box.take m0.boxes.length)[i]? = g.box[i]? := fun i hi => by rw [Ybi, if_pos hi]
  have hgg : ∀ i, i < m0.gros.length → (g.gro.take m0.gros.length)[i]? = g.gro[i]? := fun i hi => by rw [Ybi, if_pos hi]
  have hmg : ∀ i, i < m0.gros.length → (m.gros.take m0.gros.length)[i]? = m.gros[i]? := fun i hi => by rw [Ybi, if_pos hi]
  have tk : ∀ {α : Type} (l : List α) (n i : Nat) (y : α), (l.take n)[i]? = some y → i < n ∧ l[i]? = some y := fun l n i y h => by
   rw [Ybi] at h
   split at h
   ·exact ⟨‹_›, h⟩
   ·cases h
  have hst : ∀ b o, g.St m b o → Gh.St { g with box := g.box.take m0.boxes.length, gro := g.gro.take m0.gros.length } ⟨m.boxes.take m0.boxes.length, m.gros.take m0.gros.length⟩ b o := fun b o hs => by
   rcases hs with hs | ⟨h1, h2, h3⟩
   ·exact .inl hs
   ·exact .inr ⟨h1, fun i hi => h2 i (tk _ _ _ _ hi).2, fun i b' c sz L k1 k2 e => h3 i b' c sz L (tk _ _ _ _ k1).2 (tk _ _ _ _ k2).2 e⟩
  have S : Shift m0.boxes.length m0.gros.length g m w { g with box := g.box.take m0.boxes.length, gro := g.gro.take m0.gros.length } ⟨m.boxes.take m0.boxes.length, m.gros.take m0.gros.length⟩ :=
   ⟨fun b o _ hs => hst b o hs, fun i hi => hgb i hi, fun i hi => ⟨hgg i hi, hmg i hi⟩⟩
  refine ⟨{ g with box := g.box.take m0.boxes.length, gro := g.gro.take m0.gros.length }, ⟨?_, ?_, hr.base, ?_, ?_, ?_, ?_, ?_, hr.inv⟩, ⟨⟨?_, ?_, ?_, ?_⟩, he.gbase, he.gS, he.below⟩, Rep.shift S _ _ hc.1 hv⟩
  ·simp [hr.nb]
  ·simp [hr.ng]
  ·intro i b cs h1 h2
   obtain ⟨_, h1⟩ := tk _ _ _ _ h1
   obtain ⟨_, h2'⟩ := tk _ _ _ _ h2
   obtain ⟨k1, vs, rest, ty, fr, k2, k3, k4⟩ := hr.box i b cs h1 h2'
   exact ⟨k1, vs, rest, ty, fr, k2, RepL.shift S _ _ (X6 hc.2 h2) k3, k4⟩
  ·intro i b c sz L h1 h2
   exact hr.gro i b c sz L (tk _ _ _ _ h1).2 (tk _ _ _ _ h2).2
  ·intro i j b h1 h2; exact hr.boxInj i j b (tk _ _ _ _ h1).2 (tk _ _ _ _ h2).2
  ·intro i j b c c' h1 h2; exact hr.groInj i j b c c' (tk _ _ _ _ h1).2 (tk _ _ _ _ h2).2
  ·intro i j b c h1 h2; exact hr.apart i j b c (tk _ _ _ _ h1).2 (tk _ _ _ _ h2).2
  ·intro b o hb hs; exact hst b o (he.st b o hb hs)
  ·exact he.cell
  ·intro i b hi
   have hlt : i < m0.boxes.length := by rw [← hr0.nb]; exact (xbe.1 hi).1
   show (g.box.take _)[i]? = _
   rw [hgb i hlt]; exact he.box i b hi
  ·intro i sz L hL
   have hlt := (xbe.1 hL).1
   obtain ⟨X, h1, h2⟩ := he.gro i sz L hL
   exact ⟨X, by show (m.gros.take _)[i]? = _; rw [hmg i hlt]; exact h1, fun e => by show (g.gro.take _)[i]? = _; rw [hgg i hlt]; exact h2 e⟩
 ·cases h
abbrev Ans := AV × Mem
def asrt (c : Bool) (X : Option Ans) : Option Ans := bif c then X else none
theorem XF {c : Prop} [Decidable c] {X : Option Ans} {b : Ans} (h : asrt (decide c) X = some b) : c ∧ X = some b := by
 unfold asrt at h
 by_cases hc : c
 ·rw [decide_eq_true hc] at h; exact ⟨hc, h⟩
 ·rw [zbd hc] at h; cases h
def St.int (st : St) (x : Option Operand) (d : Int) : Option Int :=
 match x with
 | none => some d
 | some y => match st.val y with
  | .lit (.int _ j) => some j
  | _ => none
def Xah (k : IntKind) : List Value → Option (List Int)
 | [] => some []
 | .int k' n :: r => if k = k' then (Xah k r).map (n :: ·) else none
 | _ :: _ => none
def zai : List Value → Option (List ByteArray)
 | [] => some []
 | .string s :: r => (zai r).map (s :: ·)
 | _ :: _ => none
def cutK (st : St) (lo hi mx : Option Operand) (size : Nat) (full : Bool) (sz n : Nat) (f : Nat → List Value) (K : AV → Option Ans) : Option Ans :=
 match st.int lo 0, st.int hi n, st.int mx n with
 | some k, some h, some m => if sz = size ∧ (mx.isSome = true → hi.isSome = true) then
   asrt (decide (0 ≤ k ∧ k ≤ h ∧ h ≤ m ∧ m ≤ n)) (K (.sl (yam full lo hi mx h.toNat m.toNat) sz (h.toNat - k.toNat) (fun q => f (k.toNat + q)))) else none
 | _, _, _ => none
def eqS (P : Program) : List Field → Array Value → Array Value → Option Bool
 | [], _, _ => some true
 | f :: fs, xs, ys => if f.name = "_" then none else match P.underlying f.type, xs[f.offset]?, ys[f.offset]? with
  | some .string, some (.string a), some (.string b) => (eqS P fs xs ys).map (decide (a = b) && ·)
  | some (.int _), some (.int k a), some (.int k' b) => if k = k' then (eqS P fs xs ys).map (decide (a = b) && ·) else none
  | some .bool, some (.bool a), some (.bool b) => (eqS P fs xs ys).map ((a == b) && ·)
  | _, _, _ => none
def eqOf (P : Program) (t : TypeId) (x y : AV) : Option Bool :=
 match x, y with
 | .lit (.string a), .lit (.string b) => some (decide (a = b))
 | .lit (.agg xs), .lit (.agg ys) => match P.underlying t with
  | some (.struct fs) => if P.stoodInHeld t = false ∧ P.eqGuardType P.depth t = false then eqS P fs.toList xs ys else none
  | _ => none
 | _, _ => none
def fastInt (op : BinOp) (k : IntKind) (a b : Int) : Option Value :=
 match op with
 | .add => some (.int k (k.wrap (a + b)))
 | .sub => some (.int k (k.wrap (a - b)))
 | .mul => some (.int k (k.wrap (a * b)))
 | .eql => some (.bool (a == b))
 | .neq => some (.bool (a != b))
 | .lss => some (.bool (a < b))
 | .leq => some (.bool (a ≤ b))
 | .gtr => some (.bool (a > b))
 | .geq => some (.bool (a ≥ b))
 | _ => none
def Xar (op : BinOp) (x y : AV) : Option Value :=
 match x with
 | .lit (.int k a) => match y with
  | .lit (.int k' b) => if k = k' then fastInt op k a b else none
  | _ => none
 | _ => none
def slowBin (P : Program) (st : St) (o : Oper) (op : BinOp) (t : TypeId) (x y : Operand) (K : AV → Option Ans) : Option Ans :=
 match op with
 | .eql => match eqOf P t (st.val x) (st.val y) with
  | some b => K (.lit (.bool b))
  | none => match Zv P st o with
   | some r => K r
   | none => none
 | .neq => match eqOf P t (st.val x) (st.val y) with
  | some b => K (.lit (.bool !b))
  | none => match Zv P st o with
   | some r => K r
   | none => none
 | .add => match st.val x, st.val y with
  | .lit (.string a), .lit (.string b) => asrt (decide (a.size + b.size ≤ 4611686018427387904)) (K (.lit (.string (a ++ b))))
  | _, _ => match Zv P st o with
   | some r => K r
   | none => none
 | _ => match Zv P st o with
  | some r => K r
  | none => none
def yai (P : Program) (st : St) (o : Oper) (K : AV → Option Ans) : Option Ans :=
 match o.op with
 | .move x => K (st.val x)
 | .assign x => K (st.val x)
 | .binOp op t x y _ => match Xar op (st.val x) (st.val y) with
  | some v => K (.lit v)
  | none => slowBin P st o op t x y K
 | .pick c x y => match st.val c with
  | .lit (.bool t) => bif t then K (st.val x) else K (st.val y)
  | _ => none
 | .index t x ix => match P.underlying t with
  | some .string => match st.val x, st.val ix with
   | .lit (.string s), .lit (.int _ i) => asrt (decide (0 ≤ i ∧ i.toNat < s.size)) (K (.lit (.int .u8 ((s.data.toList.getD i.toNat 0).toNat : Nat))))
   | _, _ => none
  | some (.array n e) => match P.underlying e, P.info? e, st.val x, st.val ix with
   | some (.int k), some i, .lit (.agg cs), .lit (.int _ j) => match Xah k cs.toList with
    | some l => if i.size = 1 ∧ l.length = n then asrt (decide (0 ≤ j ∧ j < n)) (K (.lit (.int k (l.getD j.toNat 0)))) else none
    | none => none
   | some .string, some i, .lit (.agg cs), .lit (.int _ j) => match zai cs.toList with
    | some l => if i.size = 1 ∧ l.length = n then asrt (decide (0 ≤ j ∧ j < n)) (K (.lit (.string (l.getD j.toNat ⟨#[]⟩)))) else none
    | none => none
   | _, _, _, _ => none
  | _ => none
 | .slice t x lo hi mx => match st.val x with
  | .lit (.string s) => match P.underlying t, mx, st.int lo 0, st.int hi s.size with
   | some .string, none, some l, some h => asrt (decide (0 ≤ l ∧ l ≤ h ∧ h ≤ s.size)) (K (.lit (.string (s.extract l.toNat h.toNat))))
   | _, _, _, _ => none
  | .sl full sz n f => match P.underlying t with
   | some (.slice e) => match P.info? e with
    | some i => cutK st lo hi mx i.size full sz n f K
    | none => none
   | _ => none
  | .gr q n => match P.underlying t, st.mem.gros[q]? with
   | some (.slice e), some (sz, L) => match P.info? e with
    | some i => cutK st lo hi mx i.size false sz n (fun k => L.getD k []) K
    | none => none
   | _, _ => none
  | _ => match xW P st o with
   | some r => K r
   | none => none
 | .indexAddr t x ix => match P.underlying t, st.val x, st.val ix with
  | some (.slice e), .sl _ sz n f, .lit (.int _ j) => match P.info? e with
   | some i => if sz = i.size then asrt (decide (0 ≤ j ∧ j.toNat < n)) (K (.cp (f j.toNat))) else none
   | none => none
  | some (.slice e), .gr q n, .lit (.int _ j) => match P.info? e, st.mem.gros[q]? with
   | some i, some (sz, L) => if sz = i.size then asrt (decide (0 ≤ j ∧ j.toNat < n)) (K (.cp (L.getD j.toNat []))) else none
   | _, _ => none
  | _, _, _ => match xW P st o with
   | some r => K r
   | none => none
 | _ => match xW P st o with
  | some r => K r
  | none => none
section
variable {P : Program} {g : Gh} {st : St} {w : World} {a : Act}
theorem zO {x : Option Operand} {d : Nat} {j : Int} (h : st.int x d = some j) (h0 : 0 ≤ j) : st.bound x d = some j.toNat := by
 unfold St.int at h
 unfold St.bound
 cases x with
 | none => simp only [Option.some.injEq] at h ⊢; subst h; rfl
 | some y =>
  simp only at h ⊢
  split at h
  ·rename_i q k hk
   cases h
   (try rw [hk]); simp only [if_pos h0]
  ·cases h
theorem cutK_ok {lo hi mx : Option Operand} {size : Nat} {full : Bool} {sz n : Nat} {f : Nat → List Value} {K : AV → Option Ans} {b : Ans} (h : cutK st lo hi mx size full sz n f K = some b) : ∃ r, Yag st lo hi mx size full sz n f = some r ∧ K r = some b := by
 unfold cutK at h
 split at h
 ·rename_i k hh m h1 h2 h3
  split at h
  ·rename_i hc
   obtain ⟨⟨d1, d2, d3, d4⟩, h⟩ := XF h
   refine ⟨_, ?_, h⟩
   unfold Yag
   rw [zO (d := 0) (by simpa using h1) d1, zO h2 (by omega), zO h3 (by omega)]
   simp only
   rw [if_pos ⟨hc.1, by omega, by omega, by omega, hc.2⟩]
  ·cases h
 ·cases h
theorem XG {m : Mem} {o : Oper} {v : Value} (h : ∀ w', (execOp a.eval o).run P w' = .ok (.value v) w') : Still P g m w a o (.lit v) := ⟨v, by simp [Rep], fun w' _ => h w'⟩
theorem yao (hs : SRel g st w a) {o : Oper} {t : TypeId} {x ix : Operand} (ho : o.op = .index t x ix) (ht : P.underlying t = some .string) {s : ByteArray} {k : IntKind} {i : Int} (hx : st.val x = .lit (.string s)) (hi : st.val ix = .lit (.int k i)) (h0 : 0 ≤ i) (h1 : i.toNat < s.size) :
  Still P g st.mem w a o (.lit (.int .u8 ((s.data.toList.getD i.toNat 0).toNat : Nat))) := by
 have e1 := zk hs x
 have e2 := zk hs ix
 rw [hx] at e1; rw [hi] at e2
 simp only [Rep] at e1 e2
 refine XG fun w' => ?_
 have hb : s[i.toNat]? = some s[i.toNat] := by simp [h1]
 have hg : s.data.toList.getD i.toNat 0 = s[i.toNat] := by
  have : i.toNat < s.data.toList.length := by simpa using h1
  rw [zbe, zbf this]; rfl
 simp only [execOp, ho, Instr.index, ybl, e1, e2, asIntOf, Ybl, xbi, run_underlying ht, if_pos h0, hb, hg]
theorem xao (hs : SRel g st w a) {o : Oper} {t : TypeId} {x : Operand} {lo hi : Option Operand} (ho : o.op = .slice t x lo hi none) (ht : P.underlying t = some .string) {s : ByteArray} (hx : st.val x = .lit (.string s)) {l h : Int} (hl : st.int lo 0 = some l) (hh : st.int hi s.size = some h) (h0 : 0 ≤ l) (h1 : l ≤ h) (h2 : h ≤ s.size) :
  Still P g st.mem w a o (.lit (.string (s.extract l.toNat h.toNat))) := by
 have e1 := zk hs x
 rw [hx] at e1
 simp only [Rep] at e1
 refine XG fun w' => ?_
 have hb := xaE (P := P) hs false (lo := lo) (hi := hi) (mx := none) (len := s.size) (cap := s.size) (Xbc _) (zO (d := 0) (by simpa using hl) h0) (zO hh (by omega)) (m := s.size) rfl (by omega) (by omega) (Xbc _) (by simp) w'
 simp only [Option.isSome_none, Zbg, if_false, Option.map_none] at hb
 simp [execOp, ho, Instr.sliceAt, run_underlying ht, Instr.slice, e1, hb]
theorem XaN {k : IntKind} : ∀ {vs : List Value} {l : List Int}, Xah k vs = some l → vs = l.map (Value.int k)
 | [], l, h => by simp only [Xah, Option.some.injEq] at h; subst h; rfl
 | v :: r, l, h => by
  cases v with
  | int k' n =>
   simp only [Xah] at h
   split at h
   ·rename_i e
    cases hr : Xah k r with
    | none => rw [hr] at h; cases h
    | some q => rw [hr] at h; simp only [xbo, Option.some.injEq] at h; subst h; subst e; rw [XaN hr]; rfl
   ·cases h
  | _ => simp [Xah] at h
theorem zaO : ∀ {vs : List Value} {l : List ByteArray}, zai vs = some l → vs = l.map Value.string
 | [], l, h => by simp only [zai, Option.some.injEq] at h; subst h; rfl
 | v :: r, l, h => by
  cases v with
  | string s =>
   simp only [zai] at h
   cases hr : zai r with
   | none => rw [hr] at h; cases h
   | some q => rw [hr] at h; simp only [xbo, Option.some.injEq] at h; subst h; rw [zaO hr]; rfl
  | _ => simp [zai] at h
theorem YZ (hs : SRel g st w a) {o : Oper} {t e : TypeId} {x ix : Operand} {n : Nat} {i : TypeInfo} {d : TypeDesc} (ho : o.op = .index t x ix) (ht : P.underlying t = some (.array n e)) (he : P.underlying e = some d) (hd : d.isRow = false) (hi : P.info? e = some i) (hsz : i.size = 1) {cs : Array Value} {k : IntKind} {j : Int} (hx : st.val x = .lit (.agg cs)) (hj : st.val ix = .lit (.int k j)) (h0 : 0 ≤ j) (h1 : j < n) {v : Value} (hv : cs[j.toNat]? = some v) :
  Still P g st.mem w a o (.lit v) := by
 have e1 := zk hs x
 have e2 := zk hs ix
 rw [hx] at e1; rw [hj] at e2
 simp only [Rep] at e1 e2
 refine XG fun w' => ?_
 simp [execOp, ho, Instr.index, e1, e2, asIntOf, run_underlying ht, h0, h1, sizeOf, typeInfo, hi, hsz, part, YT he, hd, hv]
theorem yaO (a b : ByteArray) : (a == b) = decide (a = b) := by
 obtain ⟨x⟩ := a
 obtain ⟨y⟩ := b
 have : ((⟨x⟩ : ByteArray) == ⟨y⟩) = (x == y) := rfl
 rw [this, Bool.eq_iff_iff]
 simp
theorem run_eqS (w : World) (d : Nat) {xs ys : Array Value} : ∀ (fs : List Field) (b : Bool), eqS P fs xs ys = some b → (Op.eqFields (d + 1) xs ys fs).run P w = .ok b w
 | [], b, h => by simp only [eqS, Option.some.injEq] at h; subst h; simp [Op.eqFields]
 | f :: fs, b, h => by
  simp only [eqS] at h
  split at h
  ·cases h
  ·rename_i hn
   have step : ∀ {desc : TypeDesc} {x y : Value} {c r : Bool}, P.underlying f.type = some desc → desc.isRow = false → xs[f.offset]? = some x → ys[f.offset]? = some y → (Op.equalIn (d + 1) f.type x y).run P w = .ok c w → eqS P fs xs ys = some r → (c && r) = b → (Op.eqFields (d + 1) xs ys (f :: fs)).run P w = .ok b w := by
    intro desc x y c r hu hd hx hy hc hr hb
    have p1 : (part f.type xs f.offset).run P w = .ok x w := by simp [part, YT hu, hd, hx]
    have p2 : (part f.type ys f.offset).run P w = .ok y w := by simp [part, YT hu, hd, hy]
    simp only [Op.eqFields, hn, ne_eq, not_false_eq_true, if_true, ybl, p1, p2, hc, xbi]
    cases c
    ·simp at hb; subst hb; simp
    ·simp at hb; subst hb; simpa using run_eqS w d fs r hr
   split at h
   ·rename_i a c hu hx hy
    obtain ⟨r, h1, h2⟩ := xbh.1 h
    refine step hu rfl hx hy ?_ h1 h2
    rw [run_equalIn_string w d f.type a c hu, ← beq_toListBytes, yaO]
   ·rename_i k a k' c hu hx hy
    split at h
    ·rename_i e
     subst e
     obtain ⟨r, h1, h2⟩ := xbh.1 h
     refine step hu rfl hx hy ?_ h1 h2
     rw [run_equalIn_int w d f.type k _ a c hu]; rfl
    ·cases h
   ·rename_i a c hu hx hy
    obtain ⟨r, h1, h2⟩ := xbh.1 h
    exact step hu rfl hx hy (run_equalIn_bool' w d f.type a c hu) h1 h2
   ·cases h
theorem YaX (hs : SRel g st w a) {o : Oper} {t ty : TypeId} {x y : Operand} {b : Bool} (h : eqOf P t (st.val x) (st.val y) = some b) :
  (o.op = .binOp .eql t x y ty → Still P g st.mem w a o (.lit (.bool b))) ∧ (o.op = .binOp .neq t x y ty → Still P g st.mem w a o (.lit (.bool !b))) := by
 have h1 := zk hs x
 have h2 := zk hs y
 unfold eqOf at h
 split at h
 ·rename_i s c hx hy
  cases h
  rw [hx] at h1; rw [hy] at h2; simp only [Rep] at h1 h2
  have e : (s.toList == c.toList) = decide (s = c) := by rw [← beq_toListBytes, yaO]
  refine ⟨fun ho => XG fun w' => ?_, fun ho => XG fun w' => ?_⟩ <;>
   simp only [execOp, ho, h1, h2, eqGuard, ybl, Ybl, xbi, binOp, Op.stringOp, e] <;> simp
 ·rename_i xs ys hx hy
  rw [hx] at h1; rw [hy] at h2; simp only [Rep] at h1 h2
  split at h
  ·rename_i fs hu
   split at h
   ·rename_i hc
    have hf : P.fieldsOf t = fs := by simp [Program.fieldsOf, hu]
    have hr : ∀ w', (Op.equalIn 10000 t (.agg xs) (.agg ys)).run P w' = .ok b w' := fun w' => by
     rw [run_equalIn_struct w' 9999 t xs ys (by rw [hf]; exact hu) hc.1, hf]
     exact run_eqS w' 9998 fs.toList b h
    refine ⟨fun ho => XG fun w' => ?_, fun ho => XG fun w' => ?_⟩
    ·simp only [execOp, ho, h1, h2, ybl, run_eqGuard_agg w' .eql t x y xs ys hc.2, xbi, run_eql_struct, hr w', Ybl]
    ·simp only [execOp, ho, h1, h2, ybl, run_eqGuard_agg w' .neq t x y xs ys hc.2, xbi, run_neq_struct, hr w', Ybl]
   ·cases h
  ·cases h
 ·cases h
theorem xaF (hs : SRel g st w a) {o : Oper} {op : BinOp} {t ty : TypeId} {x y : Operand} (ho : o.op = .binOp op t x y ty) {v : Value} (h : Xar op (st.val x) (st.val y) = some v) : Still P g st.mem w a o (.lit v) := by
 have h1 := zk hs x
 have h2 := zk hs y
 unfold Xar at h
 split at h
 ·rename_i k p hx
  split at h
  ·rename_i k' q hy
   split at h
   ·rename_i e
    subst e
    rw [hx] at h1; rw [hy] at h2; simp only [Rep] at h1 h2
    refine XG fun w' => ?_
    unfold fastInt at h
    split at h <;> first
     | (cases h; done)
     | (cases h; simp only [execOp, ho, h1, h2, eqGuard, ybl, Ybl, xbi, binOp, Op.intArith, Op.intCmp]; simp [Op.intArith, Op.intCmp])
   ·cases h
  ·cases h
 ·cases h
theorem xaO {o : Oper} {K : AV → Option Ans} {b : Ans} (h : yai P st o K = some b) : ∃ r, (∀ g w a, SRel g st w a → Still P g st.mem w a o r) ∧ K r = some b := by
 unfold yai at h
 have dflt : (match xW P st o with
   | some r => K r
   | none => none) = some b → ∃ r, (∀ g w a, SRel g st w a → Still P g st.mem w a o r) ∧ K r = some b := fun h => by
  split at h
  ·rename_i r hr; exact ⟨r, fun g w a hs => yaX hs hr, h⟩
  ·cases h
 split at h
 ·rename_i x ho; exact ⟨_, fun g w a hs => xP hs (.inl ho), h⟩
 ·rename_i x ho; exact ⟨_, fun g w a hs => xP hs (.inr ho), h⟩
 ·rename_i op t x y ty ho
  split at h
  ·rename_i v hv
   exact ⟨_, fun g w a hs => xaF hs ho hv, h⟩
  ·unfold slowBin at h
   have dflt' : (match Zv P st o with
     | some r => K r
     | none => none) = some b → ∃ r, (∀ g w a, SRel g st w a → Still P g st.mem w a o r) ∧ K r = some b := fun h => by
    split at h
    ·rename_i r hr; exact ⟨r, fun g w a hs => zz hs hr, h⟩
    ·cases h
   split at h
   ·split at h
    ·rename_i c hc; exact ⟨_, fun g w a hs => (YaX hs hc).1 ho, h⟩
    ·exact dflt' h
   ·split at h
    ·rename_i c hc; exact ⟨_, fun g w a hs => (YaX hs hc).2 ho, h⟩
    ·exact dflt' h
   ·split at h
    ·rename_i s c hx hy
     obtain ⟨hle, h⟩ := XF h
     ·refine ⟨_, fun g w a hs => ?_, h⟩
      have h1 := zk hs x
      have h2 := zk hs y
      rw [hx] at h1; rw [hy] at h2; simp only [Rep] at h1 h2
      refine XG fun w' => ?_
      have hn : ¬ (((s.size + c.size : Nat) : Int) > IntKind.i64.max) := by
       have : IntKind.i64.max = 9223372036854775807 := by rfl
       rw [this]; omega
      simp only [execOp, ho, h1, h2, eqGuard, ybl, Ybl, xbi, binOp, Op.stringOp, if_neg hn]
      simp
    ·exact dflt' h
   ·exact dflt' h
 ·rename_i c x y ho
  split at h
  ·rename_i t hc
   cases t
   ·exact ⟨st.val y, fun g w a hs => by simpa using zag hs ho hc, h⟩
   ·exact ⟨st.val x, fun g w a hs => by simpa using zag hs ho hc, h⟩
  ·cases h
 ·rename_i t x ix ho
  split at h
  ·rename_i ht
   split at h
   ·rename_i s k i hx hi
    obtain ⟨hc, h⟩ := XF h
    exact ⟨_, fun g w a hs => yao hs ho ht hx hi hc.1 hc.2, h⟩
   ·cases h
  ·rename_i n e ht
   split at h
   ·rename_i k i cs k' j he hi hx hj
    split at h
    ·rename_i l hl
     split at h
     ·rename_i hc
      obtain ⟨hd, h⟩ := XF h
      ·refine ⟨_, fun g w a hs => YZ hs ho ht he rfl hi hc.1 hx hj hd.1 hd.2 ?_, h⟩
       have := XaN hl
       rw [← Array.getElem?_toList, this, Xbn, zbe, zbf (by omega)]; rfl
     ·cases h
    ·cases h
   ·rename_i i cs k' j he hi hx hj
    split at h
    ·rename_i l hl
     split at h
     ·rename_i hc
      obtain ⟨hd, h⟩ := XF h
      ·refine ⟨_, fun g w a hs => YZ hs ho ht he rfl hi hc.1 hx hj hd.1 hd.2 ?_, h⟩
       have := zaO hl
       rw [← Array.getElem?_toList, this, Xbn, zbe, zbf (by omega)]; rfl
     ·cases h
    ·cases h
   ·cases h
  ·cases h
 ·rename_i t x lo hi mx ho
  have cut : ∀ {e : TypeId} {i : TypeInfo} {full : Bool} {sz n : Nat} {f : Nat → List Value}, P.underlying t = some (.slice e) → P.info? e = some i → (∀ r, Yag st lo hi mx i.size full sz n f = some r → Y3 P st t (st.val x) lo hi mx = some r) → cutK st lo hi mx i.size full sz n f K = some b → ∃ r, (∀ g w a, SRel g st w a → Still P g st.mem w a o r) ∧ K r = some b := fun hu hi' hr h => by
   obtain ⟨r, h1, h2⟩ := cutK_ok h
   exact ⟨r, fun g w a hs => xaw hs ho (hr r h1), h2⟩
  split at h
  ·rename_i s hx
   split at h
   ·rename_i l hh ht hl hhh
    obtain ⟨hc, h⟩ := XF h
    exact ⟨_, fun g w a hs => xao hs ho ht hx hl hhh hc.1 hc.2.1 hc.2.2, h⟩
   ·cases h
  ·rename_i full sz n f hx
   split at h
   ·rename_i e hu
    split at h
    ·rename_i i hi'
     exact cut hu hi' (fun r hr => by unfold Y3; rw [hu, hx]; simp only [hi']; exact hr) h
    ·cases h
   ·cases h
  ·rename_i q n hx
   split at h
   ·rename_i e sz L hu hL
    split at h
    ·rename_i i hi'
     exact cut hu hi' (fun r hr => by unfold Y3; rw [hu, hx]; simp only [hi', hL]; exact hr) h
    ·cases h
   ·cases h
  ·exact dflt h
 ·rename_i t x ix ho
  split at h
  ·rename_i e full sz n f k j hu hx hj
   split at h
   ·rename_i i hi'
    split at h
    ·rename_i hsz
     obtain ⟨hc, h⟩ := XF h
     refine ⟨_, fun g w a hs => xV hs ho ?_, h⟩
     unfold xQ
     rw [hj, hx]; simp only [hu, hi']
     rw [if_pos ⟨hsz, hc.1, hc.2⟩]
    ·cases h
   ·cases h
  ·rename_i e q n k j hu hx hj
   split at h
   ·rename_i i sz L hi' hL
    split at h
    ·rename_i hsz
     obtain ⟨hc, h⟩ := XF h
     refine ⟨_, fun g w a hs => xV hs ho ?_, h⟩
     unfold xQ
     rw [hj, hx]; simp only [hu, hi', hL]
     rw [if_pos ⟨hsz, hc.1, hc.2⟩]
    ·cases h
   ·cases h
  ·exact dflt h
 ·exact dflt h
end
inductive Tr (α : Type) where
 | one (x : α)
 | two (c : Bool) (a b : Tr α)
 | no
def Tr.run {α : Type} : Tr α → (α → Option Ans) → Option Ans
 | .one x, K => K x
 | .two c a b, K => bif c then a.run K else b.run K
 | .no, _ => none
def Tr.sel {α : Type} : Tr α → Option α
 | .one x => some x
 | .two c a b => bif c then a.sel else b.sel
 | .no => none
theorem Tr.run_ok {α : Type} {K : α → Option Ans} {b : Ans} : ∀ {t : Tr α}, t.run K = some b → ∃ x, t.sel = some x ∧ K x = some b
 | .one x, h => ⟨x, rfl, h⟩
 | .two c u v, h => by
  cases c
  ·exact Tr.run_ok (t := v) h
  ·exact Tr.run_ok (t := u) h
 | .no, h => by cases h
theorem Tr.run_of_sel {α : Type} {K : α → Option Ans} {x : α} : ∀ {t : Tr α}, t.sel = some x → t.run K = K x
 | .one y, h => by cases h; rfl
 | .two c u v, h => by
  cases c
  ·exact Tr.run_of_sel (t := v) h
  ·exact Tr.run_of_sel (t := u) h
 | .no, h => by cases h
abbrev CallK := FuncId → List AV → Mem → (AV → Mem → Option Ans) → Option Ans
def ZaF : CallF := fun _ _ _ => none
def xai (P : Program) (m : Mem) (t tx : TypeId) (s x : AV) : Option (Nat × AV × Mem) :=
 match P.underlying t with
 | some (.slice e) => match P.info? e with
  | some i => match i.zero with
   | some z => if z.cells.size = i.size ∧ i.bytes ≤ 4096 then match zah P m i.size tx x with
    | some xs => match s with
     | .lit (.slice none 0 0) => some (xs.length, .gr m.gros.length xs.length, { m with gros := m.gros ++ [(i.size, xs)] })
     | .sl true sz n f => if sz = i.size then some (n + xs.length, .gr m.gros.length (n + xs.length), { m with gros := m.gros ++ [(i.size, Zf n f ++ xs)] }) else none
     | .gr q n => match m.gros[q]? with
      | some (sz, L) => if sz = i.size then some (n + xs.length, .gr q (n + xs.length), { m with gros := m.gros.set q (sz, L ++ xs) }) else none
      | none => none
     | _ => none
    | none => none else none
   | none => none
  | none => none
 | _ => none
def grLen (m : Mem) : AV → Option (Nat × Nat)
 | .gr q n => match m.gros[q]? with
  | some (_, L) => some (n, L.length)
  | none => none
 | _ => none
def Xad (P : Program) (m : Mem) (t tx : TypeId) (s x : AV) (K : AV → Mem → Option Ans) : Option Ans :=
 match xai P m t tx s x with
 | some (tot, r, m') => match grLen m s with
  | some (n, len) => asrt (decide (n = len ∧ tot ≤ lim)) (K r m')
  | none => asrt (decide (tot ≤ lim)) (K r m')
 | none => none
def evOpK (P : Program) (callK : CallK) (st : St) (o : Oper) (K : AV → Mem → Option Ans) : Option Ans :=
 match o.op with
 | .alloc _ | .box _ _ | .store _ _ _ | .buildSlice _ _ _ | .makeSlice _ _ _ | .convert _ _ _ => match evOp P ZaF st o with
  | some (r, m) => K r m
  | none => none
 | .call c => match c.callee with
  | .value x => match (st.val x).callee with
   | some (f, cap) => if zv P f then callK f (c.args.toList.map st.val ++ cap) st.mem K else match Zv P st o with
    | some r => K r st.mem
    | none => none
   | none => none
  | .builtin b => match b, c.args.toList, c.argTypes.toList with
   | .append, [s, x], [t, tx] => Xad P st.mem t tx (st.val s) (st.val x) K
   | _, _, _ => match ZY P st o b c.args.toList c.argTypes.toList with
    | some (r, m) => K r m
    | none => none
  | .invoke _ _ => none
 | _ => yai P st o fun r => K r st.mem
def St.fix (st : St) (t : Tmp) (b : Bool) : St := ⟨st.tmps.set t (.lit (.bool b)), st.mem⟩
def YaF (ops : Array Oper) (st : St) (o : Oper) (X Y : St → Option Ans) : Option Ans :=
 match o.guard with
 | none => X st
 | some (j, want) => match (ops[j]?).bind (·.dst) with
  | some t => match st.tmps.getD t .any with
   | .lit (.bool b) => bif want then (bif b then X (st.fix t true) else Y (st.fix t false)) else (bif b then Y (st.fix t true) else X (st.fix t false))
   | .lit (.tuple _) => Y st
   | _ => none
  | none => Y st
def zae (P : Program) (callK : CallK) (ops : Array Oper) : List Oper → St → (St → Option Ans) → Option Ans
 | [], st, K => K st
 | o :: rest, st, K => YaF ops st o (fun st => evOpK P callK st o fun r m => zae P callK ops rest (st.put o.dst r m) K) (fun st => zae P callK ops rest (st.put o.dst (.lit undef) st.mem) K)
abbrev OraB := FuncId → List AV → Option (Tr AV)
def OraBOk (P : Program) (ora : OraB) : Prop := ∀ f args t r, ora f args = some t → t.sel = some r → Good P f args r
def YY (P : Program) (ora : OraB) (m : Mem) (f : FuncId) (args : List AV) : Option (Tr AV) :=
 let args' := XN P m 0 (yaA P f) args
 if zB 0 0 args' then ora f args' else none
abbrev PureB := Mem → FuncId → List AV → Option (Tr AV)
def evQK (P : Program) (pure : PureB) (st : St) (o : Oper) (K : AV → Option Ans) : Option Ans :=
 match o.op with
 | .call c => match c.callee with
  | .value x => match (st.val x).callee with
   | some (f, cap) => if zv P f then match pure st.mem f (c.args.toList.map st.val ++ cap) with
    | some t => t.run fun r => match r with
     | .lit v => K (.lit v)
     | _ => none
    | none => none else match Zv P st o with
    | some r => K r
    | none => none
   | none => none
  | .builtin b => match evBuiltinQ P st o b c.args.toList c.argTypes.toList with
   | some r => K r
   | none => none
  | .invoke _ _ => none
 | .alloc _ | .box _ _ | .store _ _ _ | .buildSlice _ _ _ | .makeSlice _ _ _ => none
 | _ => yai P st o K
where
 evBuiltinQ (P : Program) (st : St) (o : Oper) (b : Builtin) (args : List Operand) (tys : List TypeId) : Option AV :=
  match b, args, tys with
  | .len, [x], [t] => match st.val x with
   | .lit _ => Zv P st o
   | _ => evLen P st t (st.val x)
  | .append, _, _ => none
  | _, _, _ => Zv P st o
def zas (P : Program) (pure : PureB) (ops : Array Oper) : List Oper → St → (St → Option Ans) → Option Ans
 | [], st, K => K st
 | o :: rest, st, K => YaF ops st o (fun st => evQK P pure st o fun r => zas P pure ops rest (st.put o.dst r st.mem) K) (fun st => zas P pure ops rest (st.put o.dst (.lit undef) st.mem) K)
def dep (ops : Array Oper) (i j : Nat) : Bool := match ops[i]? with
 | some o => o.after.any fun e => Region.binds .any e && e.on == j
 | none => false
def YQ (ops : Array Oper) (j : Nat) : Option Tmp := (ops[j]?).bind (·.dst)
def zx (ops : Array Oper) (val : Nat → AV) : Nat → List AV → List AV
 | 0, t => t
 | n + 1, t => match YQ ops n with
  | some d => (zx ops val n t).set d (val n)
  | none => zx ops val n t
def ZX (ops : Array Oper) (i : Nat) (rs : List AV) (j : Nat) : AV := if dep ops i j then rs.getD j .any else .any
def Zai (o : Oper) : Bool := match o.op with
 | .call ⟨.builtin .append, _, _⟩ => true
 | _ => false
def XQ (ops : Array Oper) (i : Nat) : Bool := match ops[i]? with
 | some o => Zai o
 | none => false
def XaF (P : Program) (tm : List AV) (boxes : List (List AV)) (o : Oper) : Option AV :=
 match o.op with
 | .move x => some (St.val ⟨tm, ⟨boxes, []⟩⟩ x)
 | .assign x => some (St.val ⟨tm, ⟨boxes, []⟩⟩ x)
 | .load t x => xY P ⟨boxes, []⟩ t (St.val ⟨tm, ⟨boxes, []⟩⟩ x)
 | .fieldAddr s x f => xX P s (St.val ⟨tm, ⟨boxes, []⟩⟩ x) f
 | .field t x f => xar P t (St.val ⟨tm, ⟨boxes, []⟩⟩ x) f
 | .extract x i => match St.val ⟨tm, ⟨boxes, []⟩⟩ x with
  | .tup l => l[i]?
  | _ => none
 | .binOp op _ x y _ => (Xar op (St.val ⟨tm, ⟨boxes, []⟩⟩ x) (St.val ⟨tm, ⟨boxes, []⟩⟩ y)).map .lit
 | _ => none
def yaa (P : Program) (ops : Array Oper) (n : Nat) (tmps : List AV) : List Oper → List AV → Mem → (List AV → Mem → Option Ans) → Option Ans
 | [], rs, m, K => K rs m
 | o :: l, rs, m, K =>
  match o.op with
  | .buildSlice t k ps => match YN P ⟨zx ops (ZX ops rs.length rs) n tmps, ⟨m.boxes, []⟩⟩ t k ps with
   | some r => yaa P ops n tmps l (rs ++ [r]) m K
   | none => none
  | .call ⟨.builtin .append, args, tys⟩ => match args.toList, tys.toList with
   | [s, x], [t, tx] => Xad P m t tx (St.val ⟨zx ops (ZX ops rs.length rs) n tmps, m⟩ s) (St.val ⟨zx ops (ZX ops rs.length rs) n tmps, m⟩ x) fun r m' => yaa P ops n tmps l (rs ++ [r]) m' K
   | _, _ => none
  | _ => match XaF P (zx ops (ZX ops rs.length rs) n tmps) m.boxes o with
   | some r => yaa P ops n tmps l (rs ++ [r]) m K
   | none => none
def allN (n : Nat) (p : Nat → Bool) : Bool := (List.range n).all p
def yas (ops : Array Oper) : Bool :=
 decide (0 < ops.size) && ops.all (fun o => o.guard.isNone) && allN ops.size (fun i => match ops[i]? with
  | some o => o.after.all fun e => !(Region.binds .any e) || decide (e.on < i)
  | none => true) && allN (ops.size - 1) (dep ops (ops.size - 1)) && allN ops.size (fun i => allN i fun q => !(XQ ops i && XQ ops q) || dep ops i q) && allN ops.size (fun i => allN i fun q => match YQ ops i, YQ ops q with
  | some d, some e => decide (d ≠ e)
  | _, _ => true)
def Zao (P : Program) (callK : CallK) (ops : Array Oper) (st : St) (K : St → Option Ans) : Option Ans :=
 if yas ops then yaa P ops (ops.size - 1) st.tmps (ops.toList.take (ops.size - 1)) [] st.mem fun rs m => match ops[ops.size - 1]? with
  | some o => evOpK P callK ⟨zx ops (fun j => rs.getD j .any) (ops.size - 1) st.tmps, m⟩ o fun r m' => K (St.put ⟨zx ops (fun j => rs.getD j .any) (ops.size - 1) st.tmps, m⟩ o.dst r m')
  | none => none
 else none
def makes (ops : Array Oper) : Bool := ops.any fun o => match o.op with
 | .buildSlice _ _ _ => true
 | _ => Zai o
def lastLoud (ops : Array Oper) : Bool := match ops[ops.size - 1]? with
 | some o => match o.op with
  | .store _ _ _ | .alloc _ | .box _ _ | .makeSlice _ _ _ => true
  | _ => false
 | none => false
def drawnK (P : Program) (callK : CallK) (pure : PureB) (ops : Array Oper) (st : St) (K : St → Option Ans) : Option Ans :=
 if makes ops then Zao P callK ops st K
 else if !(lastLoud ops) && Region.lexB .any ops then zas P pure ops ops.toList st K
 else if Region.lexTailB .any ops (ops.size - 1) then zas P pure ops (ops.toList.take (ops.size - 1)) st fun st' => zae P callK ops (ops.toList.drop (ops.size - 1)) st' K
 else none
abbrev LoopB := Nat → St → Option (Tr (Out × St))
def zR (f : St → (Out → St → Option Ans) → Option Ans) (kl : St → St) : Nat → St → (Out → St → Option Ans) → Option Ans
 | 0, _, _ => none
 | n + 1, st, K => f (kl st) fun o st' => match o with
  | .norm => zR f kl n st' K
  | o => K o st'
def big : Nat := 1000000000
def cutB (tmps : List AV) (boxes : List (List AV)) (nb : Nat) : Nat → Nat
 | 0 => 0
 | n + 1 => if decide (nb ≤ n) && (zB n big tmps && XE n big (boxes.take n)) then cutB tmps boxes nb n else n + 1
def cutG (tmps : List AV) (boxes : List (List AV)) (ng : Nat) : Nat → Nat
 | 0 => 0
 | n + 1 => if decide (ng ≤ n) && (zB big n tmps && XE big n boxes) then cutG tmps boxes ng n else n + 1
def Y1 (b k : Nat) (st : St) : St := if zB b k st.tmps && XE b k (st.mem.boxes.take b) then ⟨st.tmps, ⟨st.mem.boxes.take b, st.mem.gros.take k⟩⟩ else st
def tidy (nb ng : Nat) (st : St) : St :=
 Y1 (cutB st.tmps st.mem.boxes nb st.mem.boxes.length) (cutG st.tmps (st.mem.boxes.take (cutB st.tmps st.mem.boxes nb st.mem.boxes.length)) ng st.mem.gros.length) st
def St.head (nb ng : Nat) (K : Nat → Option (List Tmp)) (c : Code) (st : St) : St := tidy nb ng (St.kill K c st)
structure Ctx where
 P : Program
 callK : CallK
 pure : PureB
 loops : LoopB
 keep : Nat → Option (List Tmp)
 fuel : Nat
 nb : Nat
 ng : Nat
def evK (C : Ctx) : Code → St → (Out → St → Option Ans) → Option Ans
 | .skip, st, K => K .norm st
 | .label _, st, K => K .norm st
 | .region _ ops false, st, K => zae C.P C.callK ops ops.toList st fun st' => K .norm st'
 | .region _ ops true, st, K => drawnK C.P C.callK C.pure ops st fun st' => K .norm st'
 | .seq x y, st, K => evK C x st fun o st' => match o with
  | .norm => evK C y st' K
  | o => K o st'
 | .cond c x y, st, K => match st.val c with
  | .lit (.bool t) => bif t then evK C x st K else evK C y st K
  | _ => none
 | .block id c, st, K => evK C c st fun o st' => match o with
  | .exit id' => if id' = id then K .norm st' else K (.exit id') st'
  | o => K o st'
 | .loop c, st, K => match (Zy c).bind fun k => if C.nb = 0 ∧ C.ng = 0 then C.loops k (St.head 0 0 C.keep c st) else none with
  | some t => t.run fun x => K x.1 x.2
  | none => zR (evK C c) (St.head C.nb C.ng C.keep c) C.fuel st K
 | .scope c, st, K => evK C c st K
 | .exit id, st, K => K (.exit id) st
 | .ret, st, K => K .ret st
 | _, _, _ => none
section
variable {P : Program} {st : St}
theorem ZW {m : Mem} {t tx : TypeId} {s x : AV} {tot : Nat} {r : AV} {m' : Mem} (h : xai P m t tx s x = some (tot, r, m')) (hl : tot ≤ lim) (hg : ∀ n len, grLen m s = some (n, len) → n = len) : YE P m t tx s x = some (r, m') := by
 unfold xai at h
 split at h
 ·rename_i e ht
  split at h
  ·rename_i i hi
   split at h
   ·rename_i z hz
    split at h
    ·rename_i hc
     split at h
     ·rename_i xs hxs
      split at h
      ·cases h
       unfold YE
       rw [ht]; simp only; rw [hi]; simp only; rw [hz]; simp only; rw [if_pos hc, hxs]; simp only; rw [if_pos hl]
      ·rename_i sz n f
       split at h
       ·rename_i hsz
        cases h
        unfold YE
        rw [ht]; simp only; rw [hi]; simp only; rw [hz]; simp only; rw [if_pos hc, hxs]; simp only; rw [if_pos ⟨hsz, hl⟩]
       ·cases h
      ·rename_i q n
       split at h
       ·rename_i sz L hL
        split at h
        ·rename_i hsz
         cases h
         have := hg n L.length (by simp [grLen, hL])
         unfold YE
         rw [ht]; simp only; rw [hi]; simp only; rw [hz]; simp only; rw [if_pos hc, hxs]; simp only; rw [hL]; simp only; rw [if_pos ⟨hsz, this, hl⟩]
        ·cases h
       ·cases h
      ·cases h
     ·cases h
    ·cases h
   ·cases h
  ·cases h
 ·cases h
def CallRuns (P : Program) (f : FuncId) (args : List AV) (m : Mem) (r : AV) (m' : Mem) : Prop := ∀ g w vs, Rel g m w → RepL g m w args vs →
 Calls P f vs.toArray w fun e w' => ∃ v g', e = .returned v ∧ Rel g' m' w' ∧ Ext g m w g' m' w' ∧ Rep g' m' w' r v
def CallKOk (P : Program) (callK : CallK) : Prop := ∀ f args m K b, zv P f = true → callK f args m K = some b → ∃ r m', CallRuns P f args m r m' ∧ K r m' = some b
def OpRuns (P : Program) (st : St) (o : Oper) (r : AV) (m' : Mem) : Prop := ∀ g w a, SRel g st w a → Fine P g st.mem w a o r m'
theorem ZaO : CallOk P ZaF := fun f args m r m' _ h => by cases h
theorem opK_ok (hp : Plain P) {callK : CallK} (hcall : CallKOk P callK) {o : Oper} {K : AV → Mem → Option Ans} {b : Ans} (h : evOpK P callK st o K = some b) : ∃ r m', OpRuns P st o r m' ∧ K r m' = some b := by
 have mem : (match evOp P ZaF st o with
  | some (r, m) => K r m
  | none => none) = some b → ∃ r m', OpRuns P st o r m' ∧ K r m' = some b := fun h => by
  split at h
  ·rename_i r m hr; exact ⟨r, m, fun g w a hs => op_ok hp ZaO hs hr, h⟩
  ·cases h
 have calm : (match Zv P st o with
   | some r => K r st.mem
   | none => none) = some b → ∃ r m', OpRuns P st o r m' ∧ K r m' = some b := fun h => by
  split at h
  ·rename_i r hr; exact ⟨r, st.mem, fun g w a hs => YF hs (zz hs hr), h⟩
  ·cases h
 unfold evOpK at h
 split at h
 all_goals first | exact mem h | skip
 ·rename_i c ho
  split at h
  ·rename_i x hcx
   split at h
   ·rename_i f cap hf
    split at h
    ·rename_i hb
     obtain ⟨r, m', h1, h2⟩ := hcall f _ st.mem K b hb h
     refine ⟨r, m', fun g w a hs => ?_, h2⟩
     obtain ⟨vs, hrun, hargs⟩ := zaA hp hs ho hcx hf hb
     intro next Q hn
     unfold Oper.wp
     rw [hrun w, Oper.upon_enter]
     refine (h1 g w _ hs.rel hargs).mono ?_
     rintro e w' ⟨v, g', rfl, k1, k2, k3⟩
     exact hn v g' w' k1 k2 k3
    ·exact calm h
   ·cases h
  ·rename_i bb hcx
   have bi : ∀ r m, ZY P st o bb c.args.toList c.argTypes.toList = some (r, m) → OpRuns P st o r m := fun r m hr g w a hs => by
    refine op_ok (call := ZaF) hp ZaO hs ?_
    unfold evOp
    rw [ho]; simp only [hcx]; exact hr
   split at h
   ·rename_i s x t tx e1 e2
    unfold Xad at h
    split at h
    ·rename_i tot r m' hprep
     have fin : tot ≤ lim → (∀ n len, grLen st.mem (st.val s) = some (n, len) → n = len) → K r m' = some b → ∃ r m', OpRuns P st o r m' ∧ K r m' = some b := fun hl hg hk => by
      refine ⟨r, m', bi r m' ?_, hk⟩
      unfold ZY
      rw [e1, e2]
      exact ZW hprep hl hg
     split at h
     ·rename_i n len hgl
      obtain ⟨hc, h⟩ := XF h
      exact fin hc.2 (fun n' len' hh => by rw [hgl] at hh; cases hh; exact hc.1) h
     ·rename_i hgl
      obtain ⟨hc, h⟩ := XF h
      exact fin hc (fun n' len' hh => by rw [hgl] at hh; cases hh) h
    ·cases h
   ·split at h
    ·rename_i r m hr; exact ⟨r, m, bi r m hr, h⟩
    ·cases h
  ·cases h
 ·obtain ⟨r, h1, h2⟩ := xaO h
  exact ⟨r, st.mem, fun g w a hs => YF hs (h1 g w a hs), h2⟩
theorem fix_same {t : Tmp} {b : Bool} (h : st.tmps.getD t .any = .lit (.bool b)) : st.fix t b = st := by
 obtain ⟨l, m⟩ := st
 simp only [St.fix, St.mk.injEq, and_true]
 rw [zbe] at h
 apply Zbr
 intro k
 by_cases e : t = k
 ·subst e
  cases hk : l[t]? with
  | none => simp only at h; rw [hk] at h; simp at h
  | some y =>
   have ht := (xbe.1 hk).1
   simp only at h
   rw [hk] at h
   simp only [ybt] at h
   rw [ybo ht, h]
 ·rw [ybp e]
theorem YaO {ops : Array Oper} {o : Oper} {X Y : St → Option Ans} {b : Ans} (h : YaF ops st o X Y = some b) : (yad ops st o = some true ∧ X st = some b) ∨ (yad ops st o = some false ∧ Y st = some b) := by
 unfold YaF at h
 unfold yad
 split at h
 ·rename_i hg; (try rw [hg]); exact .inl ⟨rfl, h⟩
 ·rename_i j want hg
  (try rw [hg])
  (try simp only)
  split at h
  ·rename_i t ht
   (try rw [ht])
   (try simp only)
   split at h
   ·rename_i bb hb
    (try rw [hb])
    (try simp only)
    cases want <;> cases bb <;> simp only [cond_true, cond_false] at h <;> rw [fix_same hb] at h
    ·exact .inl ⟨rfl, h⟩
    ·exact .inr ⟨rfl, h⟩
    ·exact .inr ⟨rfl, h⟩
    ·exact .inl ⟨rfl, h⟩
   ·rename_i vs hb
    (try rw [hb]); exact .inr ⟨rfl, h⟩
   ·cases h
  ·rename_i ht
   (try rw [ht]); exact .inr ⟨rfl, h⟩
def ListRuns (P : Program) (ops : Array Oper) (l : List Oper) (st st' : St) : Prop := ∀ g w a (Q : Exit → Act → World → Prop), SRel g st w a → (∀ g' w' a', SRel g' st' w' a' → Ext g st.mem w g' st'.mem w' → Q .normal a' w') → wpList P ops Q l a w
theorem xas (hp : Plain P) {callK : CallK} (hcall : CallKOk P callK) {ops : Array Oper} {b : Ans} : ∀ (l : List Oper) (st : St) (K : St → Option Ans), zae P callK ops l st K = some b → ∃ st', ListRuns P ops l st st' ∧ K st' = some b
 | [], st, K, h => ⟨st, fun g w a Q hs hq => hq g w a hs (Ext.refl _ _ _), h⟩
 | o :: rest, st, K, h => by
  simp only [zae] at h
  rcases YaO h with ⟨hg, h⟩ | ⟨hg, h⟩
  ·obtain ⟨r, m', h1, h2⟩ := opK_ok hp hcall h
   obtain ⟨st', h3, h4⟩ := xas hp hcall rest _ K h2
   refine ⟨st', fun g w a Q hs hq => ?_, h4⟩
   unfold wpList
   rw [xah hs hg]
   simp only [if_true]
   left
   refine h1 g w a hs _ _ fun v g' w' k1 k2 k3 => ?_
   refine h3 g' w' _ Q (hs.put k1 k2 k3) fun g'' w'' a'' j1 j2 => hq g'' w'' a'' j1 ?_
   rw [xad] at j2
   exact k2.trans j2
  ·obtain ⟨st', h3, h4⟩ := xas hp hcall rest _ K h
   refine ⟨st', fun g w a Q hs hq => ?_, h4⟩
   unfold wpList
   rw [xah hs hg]
   simp only [Zbg, if_false]
   refine h3 g w _ Q (hs.put hs.rel (Ext.refl _ _ _) (v := undef) (by simp [Rep])) fun g'' w'' a'' j1 j2 => hq g'' w'' a'' j1 ?_
   rw [xad] at j2
   exact j2
def PureBOk (P : Program) (pure : PureB) : Prop := ∀ m f args t v, zv P f = true → pure m f args = some t → t.sel = some (.lit v) → ∀ g w vs, Rel g m w → RepL g m w args vs → Calls P f vs.toArray w fun e w' => e = .returned v ∧ Below w.heap.size w w'
def QRuns (P : Program) (st : St) (o : Oper) (r : AV) : Prop := ∀ g w a (K : Act → Prop), SRel g st w a → (∀ v, Rep g st.mem w r v → K (a.put o.dst v)) → o.quiet P a (fun w' => Below w.heap.size w w') K
theorem qK_ok (hp : Plain P) {pure : PureB} (hpure : PureBOk P pure) {o : Oper} {K : AV → Option Ans} {b : Ans} (h : evQK P pure st o K = some b) : ∃ r, QRuns P st o r ∧ K r = some b := by
 have still : ∀ r, (∀ g w a, SRel g st w a → Still P g st.mem w a o r) → QRuns P st o r := fun r hr g w a K' hs hk => ZaK (hr g w a hs) hk
 unfold evQK at h
 split at h
 ·rename_i c ho
  split at h
  ·rename_i x hcx
   split at h
   ·rename_i f cap hf
    split at h
    ·rename_i hb
     split at h
     ·rename_i tr hpv
      obtain ⟨r0, hsel, h⟩ := Tr.run_ok h
      split at h
      ·rename_i v
       refine ⟨.lit v, fun g w a K' hs hk => ?_, h⟩
       refine ⟨v, fun w' hw' => ?_, hk v (by simp [Rep])⟩
       obtain ⟨vs, hrun, hargs⟩ := zaA hp hs ho hcx hf hb
       unfold Oper.quietAt
       rw [hrun w']
       have hw' : Below w.heap.size w w' := hw'
       exact ⟨rfl, (hpure st.mem f _ tr v hb hpv hsel g w' vs (hs.rel.of_below hw') (RepL.keep (Leaf.of_below hw') _ _ hargs)).mono fun e w'' he => ⟨he.1, hw'.trans (he.2.mono hw'.size)⟩⟩
      ·cases h
     ·cases h
    ·split at h
     ·rename_i r hr; exact ⟨r, still r fun g w a hs => zz hs hr, h⟩
     ·cases h
   ·cases h
  ·rename_i bb hcx
   obtain ⟨callee, args, tys⟩ := c
   simp only at hcx h
   subst hcx
   split at h
   ·rename_i r hr
    refine ⟨r, still r fun g w a hs => ?_, h⟩
    unfold evQK.evBuiltinQ at hr
    split at hr
    ·rename_i x t e1 e2
     have e1 : args = #[x] := by rw [← Xbm (xs := args), e1]
     have e2 : tys = #[t] := by rw [← Xbm (xs := tys), e2]
     subst e1; subst e2
     split at hr
     ·exact zz hs hr
     ·exact xaN hs ho hr
    ·cases hr
    ·exact zz hs hr
   ·cases h
  ·cases h
 all_goals first | (cases h; done) | skip
 obtain ⟨r, h1, h2⟩ := xaO h
 exact ⟨r, still r h1, h2⟩
def QsRuns (P : Program) (ops : Array Oper) (l : List Oper) (st st' : St) : Prop := ∀ g w a (K : Act → Prop), SRel g st w a → (∀ a', SRel g st' w a' → K a') → wpQuiet P ops (fun w' => Below w.heap.size w w') K l a
theorem zaG (hp : Plain P) {pure : PureB} (hpure : PureBOk P pure) {ops : Array Oper} {b : Ans} : ∀ (l : List Oper) (st : St) (K : St → Option Ans), zas P pure ops l st K = some b → ∃ st', QsRuns P ops l st st' ∧ st'.mem = st.mem ∧ K st' = some b
 | [], st, K, h => ⟨st, fun g w a K' hs hk => hk a hs, rfl, h⟩
 | o :: rest, st, K, h => by
  simp only [zas] at h
  rcases YaO h with ⟨hg, h⟩ | ⟨hg, h⟩
  ·obtain ⟨r, h1, h2⟩ := qK_ok hp hpure h
   obtain ⟨st', h3, h4, h5⟩ := zaG hp hpure rest _ K h2
   refine ⟨st', fun g w a K' hs hk => ?_, by rw [h4, xad], h5⟩
   unfold wpQuiet
   rw [xah hs hg]
   simp only [if_true]
   exact h1 g w a _ hs fun v hv => h3 g w _ K' (hs.put hs.rel (Ext.refl _ _ _) hv) hk
  ·obtain ⟨st', h3, h4, h5⟩ := zaG hp hpure rest _ K h
   refine ⟨st', fun g w a K' hs hk => ?_, by rw [h4, xad], h5⟩
   unfold wpQuiet
   rw [xah hs hg]
   simp only [Zbg, if_false]
   exact h3 g w _ K' (hs.put hs.rel (Ext.refl _ _ _) (v := undef) (by simp [Rep])) hk
def RunsE (P : Program) (c : Code) (st : St) (out : Out) (st' : St) : Prop := ∀ g w a (Q : Exit → Act → World → Prop), SRel g st w a → (∀ g' w' a', SRel g' st' w' a' → Ext g st.mem w g' st'.mem w' → Q out.to a' w') → c.wp P Q a w
end
section
variable {P : Program} {ops : Array Oper} {n : Nat}
theorem z7 (val : Nat → AV) (t : List AV) : ∀ n, (zx ops val n t).length = t.length
 | 0 => rfl
 | n + 1 => by
  unfold zx
  split
  ·rw [List.length_set]; exact z7 val t n
  ·exact z7 val t n
theorem Yao (val : Nat → AV) (tm : List AV) : ∀ (n t : Nat) (x : AV), (zx ops val n tm)[t]? = some x → (∃ j, j < n ∧ YQ ops j = some t ∧ x = val j) ∨ ((∀ j, j < n → YQ ops j ≠ some t) ∧ tm[t]? = some x)
 | 0, t, x, h => .inr ⟨fun j hj => by omega, h⟩
 | n + 1, t, x, h => by
  unfold zx at h
  split at h
  ·rename_i d hd
   by_cases e : d = t
   ·subst e
    have hlt : d < (zx ops val n tm).length := by
     have := (xbe.1 h).1; simpa using this
    rw [ybo hlt] at h
    cases h
    exact .inl ⟨n, by omega, hd, rfl⟩
   ·rw [ybp e] at h
    rcases Yao val tm n t x h with ⟨j, h1, h2, h3⟩ | ⟨h1, h2⟩
    ·exact .inl ⟨j, by omega, h2, h3⟩
    ·refine .inr ⟨fun j hj => ?_, h2⟩
     rcases ybn j n with h' | h'
     ·exact h1 j h'
     ·rw [show j = n by omega, hd]; intro q; cases q; exact e rfl
  ·rename_i hd
   rcases Yao val tm n t x h with ⟨j, h1, h2, h3⟩ | ⟨h1, h2⟩
   ·exact .inl ⟨j, by omega, h2, h3⟩
   ·refine .inr ⟨fun j hj => ?_, h2⟩
    rcases ybn j n with h' | h'
    ·exact h1 j h'
    ·rw [show j = n by omega, hd]; intro q; cases q
theorem XaX {m m' : Mem} {t tx : TypeId} {s x r : AV} (h : YE P m t tx s x = some (r, m')) : m'.boxes = m.boxes := by
 unfold YE at h
 repeat' split at h
 all_goals first | (cases h; rfl) | cases h
def StepOk (P : Program) (ops : Array Oper) (n : Nat) (tmps : List AV) (o : Oper) (pre : List AV) (r : AV) (m m' : Mem) : Prop :=
 (Zai o = true ∧ ∃ s x t tx, o.op = .call ⟨.builtin .append, #[s, x], #[t, tx]⟩ ∧ YE P m t tx (St.val ⟨zx ops (ZX ops pre.length pre) n tmps, m⟩ s) (St.val ⟨zx ops (ZX ops pre.length pre) n tmps, m⟩ x) = some (r, m')) ∨
 (Zai o = false ∧ m' = m ∧ ((∃ t k ps, o.op = .buildSlice t k ps ∧ YN P ⟨zx ops (ZX ops pre.length pre) n tmps, ⟨m.boxes, []⟩⟩ t k ps = some r) ∨ XaF P (zx ops (ZX ops pre.length pre) n tmps) m.boxes o = some r))
theorem Za9 {m : Mem} {t tx : TypeId} {s x : AV} {K : AV → Mem → Option Ans} {b : Ans} (h : Xad P m t tx s x K = some b) : ∃ r m', YE P m t tx s x = some (r, m') ∧ K r m' = some b := by
 unfold Xad at h
 split at h
 ·rename_i tot r m' hp
  split at h
  ·rename_i k len hg
   obtain ⟨⟨e1, e2⟩, h⟩ := XF h
   exact ⟨r, m', ZW hp e2 (fun a c hac => by rw [hg] at hac; cases hac; exact e1), h⟩
  ·rename_i hg
   obtain ⟨e2, h⟩ := XF h
   exact ⟨r, m', ZW hp e2 (fun a c hac => by rw [hg] at hac; cases hac), h⟩
 ·cases h
theorem Ya9 {tmps : List AV} {o : Oper} {l : List Oper} {pre : List AV} {m : Mem} {K : List AV → Mem → Option Ans} {b : Ans} (h : yaa P ops n tmps (o :: l) pre m K = some b) : ∃ r m', StepOk P ops n tmps o pre r m m' ∧ yaa P ops n tmps l (pre ++ [r]) m' K = some b := by
 unfold yaa at h
 split at h
 ·rename_i t k ps ho
  split at h
  ·rename_i r hr
   exact ⟨r, m, .inr ⟨by unfold Zai; rw [ho], rfl, .inl ⟨t, k, ps, ho, hr⟩⟩, h⟩
  ·cases h
 ·rename_i args tys ho
  split at h
  ·rename_i s x t tx e1 e2
   have e1 : args = #[s, x] := by rw [← Xbm (xs := args), e1]
   have e2 : tys = #[t, tx] := by rw [← Xbm (xs := tys), e2]
   subst e1; subst e2
   obtain ⟨r, m', h1, h2⟩ := Za9 h
   exact ⟨r, m', .inl ⟨by unfold Zai; rw [ho], s, x, t, tx, ho, h1⟩, h2⟩
  ·cases h
 ·rename_i hn1 hn2
  split at h
  ·rename_i r hr
   refine ⟨r, m, .inr ⟨?_, rfl, .inr hr⟩, h⟩
   unfold Zai
   split
   ·rename_i x y ho; exact absurd ho (hn2 x y)
   ·rfl
  ·cases h
theorem zaY {tmps : List AV} {K : List AV → Mem → Option Ans} {b : Ans} : ∀ (l : List Oper) (pre : List AV) (m : Mem), yaa P ops n tmps l pre m K = some b → ∃ (rs : List AV) (ms : Nat → Mem), rs.length = pre.length + l.length ∧ rs.take pre.length = pre ∧ ms pre.length = m ∧
  (∀ k o, l[k]? = some o → ∃ r, rs[pre.length + k]? = some r ∧ StepOk P ops n tmps o (rs.take (pre.length + k)) r (ms (pre.length + k)) (ms (pre.length + k + 1))) ∧ K rs (ms (pre.length + l.length)) = some b
 | [], pre, m, h => ⟨pre, fun _ => m, rfl, List.take_length, rfl, fun k o ho => by simp at ho, h⟩
 | o :: l, pre, m, h => by
  obtain ⟨r, m', h1, h2⟩ := Ya9 h
  obtain ⟨rs, ms, k1, k2, k3, k4, k5⟩ := zaY l (pre ++ [r]) m' h2
  have hl : (pre ++ [r]).length = pre.length + 1 := by simp
  rw [hl] at k1 k2 k3 k4 k5
  have t0 : rs.take pre.length = pre := by
   have := congrArg (List.take pre.length) k2
   rw [zbt, zbq (Nat.le_succ _), List.take_left] at this; exact this
  have g0 : rs[pre.length]? = some r := by
   have := congrArg (fun q => q[pre.length]?) k2
   simp only [Ybi, Nat.lt_succ_self, if_true] at this
   rw [this]; simp
  refine ⟨rs, fun i => if i = pre.length then m else ms i, by rw [k1, Xbd]; omega, t0, by simp, fun k o' ho => ?_, ?_⟩
  ·cases k with
   | zero =>
    simp only [zbm, Option.some.injEq] at ho; subst ho
    refine ⟨r, by simpa using g0, ?_⟩
    simp only [Nat.add_zero, t0, if_true, Nat.succ_ne_self, if_false, k3]
    exact h1
   | succ k =>
    obtain ⟨r', j1, j2⟩ := k4 k o' (by simpa using ho)
    refine ⟨r', by rw [show pre.length + (k + 1) = pre.length + 1 + k by omega]; exact j1, ?_⟩
    simp only [show ¬ pre.length + (k + 1) = pre.length by omega, show ¬ pre.length + (k + 1) + 1 = pre.length by omega, if_false]
    rw [show pre.length + (k + 1) = pre.length + 1 + k by omega]; exact j2
  ·simp only [Xbd, show ¬ pre.length + (l.length + 1) = pre.length by omega, if_false]
   rw [show pre.length + (l.length + 1) = pre.length + 1 + l.length by omega]; exact k5
end
section
variable {P : Program} {ops : Array Oper} {st : St} {rs : List AV} {ms : Nat → Mem} {g0 : Gh} {w0 : World}
structure BInv (ops : Array Oper) (st : St) (rs : List AV) (ms : Nat → Mem) (g0 : Gh) (w0 : World) (listed : Array Bool) (a : Act) (w : World) : Prop where
 size : listed.size = ops.size
 last : listed.getD (ops.size - 1) true = false
 defers : a.defers = []
 ex : ∃ g p, p ≤ ops.size - 1 ∧ Rel g (ms p) w ∧ Ext g0 st.mem w0 g (ms p) w ∧ (∀ q, q < ops.size - 1 → XQ ops q = true → (listed.getD q true = true ↔ q < p)) ∧
  ∀ (t : Nat) x, st.tmps[t]? = some x → ∃ v, a.tmps[t]? = some v ∧ ((∀ j, j < ops.size - 1 → YQ ops j ≠ some t) → Rep g (ms p) w x v) ∧ ∀ j, j < ops.size - 1 → listed.getD j true = true → YQ ops j = some t → Rep g (ms p) w (rs.getD j .any) v
structure BPlan (P : Program) (ops : Array Oper) (st : St) (rs : List AV) (ms : Nat → Mem) : Prop where
 len : rs.length = ops.size - 1
 zero : ms 0 = st.mem
 step : ∀ k o, k < ops.size - 1 → ops[k]? = some o → ∃ r, rs[k]? = some r ∧ StepOk P ops (ops.size - 1) st.tmps o (rs.take k) r (ms k) (ms (k + 1))
theorem yO {n : Nat} {p : Nat → Bool} (h : allN n p = true) {i : Nat} (hi : i < n) : p i = true := ybs.1 h i (by simpa using hi)
theorem BPlan.boxes (pl : BPlan P ops st rs ms) : ∀ k, k ≤ ops.size - 1 → (ms k).boxes = st.mem.boxes
 | 0, _ => by rw [pl.zero]
 | k + 1, h => by
  have ih := pl.boxes k (by omega)
  obtain ⟨r, _, hs⟩ := pl.step k (ops[k]'(by omega)) (by omega) (Zbn (by omega))
  rcases hs with ⟨_, s, x, t, tx, _, h2⟩ | ⟨_, h2, _⟩
  ·rw [XaX h2, ih]
  ·rw [h2, ih]
theorem BPlan.same (pl : BPlan P ops st rs ms) (p : Nat) : ∀ k, p + k ≤ ops.size - 1 → (∀ q, p ≤ q → q < p + k → XQ ops q = false) → ms (p + k) = ms p
 | 0, _, _ => rfl
 | k + 1, h, hq => by
  have ih := pl.same p k (by omega) (fun q h1 h2 => hq q h1 (by omega))
  have hlt : p + k < ops.size := by omega
  obtain ⟨r, _, hs⟩ := pl.step (p + k) ops[p + k] (by omega) (Zbn hlt)
  have hn := hq (p + k) (by omega) (by omega)
  unfold XQ at hn
  rw [Zbn hlt] at hn
  rcases hs with ⟨h1, _⟩ | ⟨_, h2, _⟩
  ·simp only at hn; rw [hn] at h1; cases h1
  ·show ms (p + k + 1) = _; rw [h2, ih]
end
section
variable {P : Program} {ops : Array Oper} {st : St} {rs : List AV} {ms : Nat → Mem} {g0 : Gh} {w0 : World}
theorem dep_on {i j : Nat} {o : Oper} (ho : ops[i]? = some o) {listed : Array Bool} (hr : ∀ e ∈ o.after, Region.binds .any e = true → listed.getD e.on false = true) (hd : dep ops i j = true) : listed.getD j false = true := by
 unfold dep at hd
 rw [ho] at hd
 obtain ⟨i, hi, h⟩ := Array.any_eq_true.1 hd
 simp only [zbi, Ybf] at h
 rw [← h.2]
 exact hr _ (Array.getElem_mem hi) h.1
theorem YaK {listed : Array Bool} {j : Nat} (h : listed.getD j false = true) : listed.getD j true = true := by
 unfold Array.getD at h ⊢
 split at h
 ·rename_i hlt; rw [dif_pos hlt]; exact h
 ·cases h
theorem yaY {g : Gh} {M : Mem} {w : World} {a : Act} {listed : Array Bool} {val : Nat → AV} (hr : Rel g M w) (hd : a.defers = [])
  (hs : ∀ (t : Nat) x, st.tmps[t]? = some x → ∃ v, a.tmps[t]? = some v ∧ ((∀ j, j < ops.size - 1 → YQ ops j ≠ some t) → Rep g M w x v) ∧ ∀ j, j < ops.size - 1 → listed.getD j true = true → YQ ops j = some t → Rep g M w (rs.getD j .any) v)
  (hv : ∀ j, j < ops.size - 1 → val j = .any ∨ (val j = rs.getD j .any ∧ listed.getD j true = true)) : SRel g ⟨zx ops val (ops.size - 1) st.tmps, M⟩ w a := by
 refine ⟨hr, hd, fun t x hx => ?_⟩
 have hx : (zx ops val (ops.size - 1) st.tmps)[t]? = some x := hx
 have hlt : t < st.tmps.length := by
  have := (xbe.1 hx).1; rwa [z7] at this
 obtain ⟨v, h1, h2, h3⟩ := hs t _ (zbf hlt)
 refine ⟨v, h1, ?_⟩
 rcases Yao val st.tmps (ops.size - 1) t x hx with ⟨j, k1, k2, rfl⟩ | ⟨k1, k2⟩
 ·rcases hv j k1 with e | ⟨e, hl⟩
  ·rw [e]; simp [Rep]
  ·rw [e]; exact h3 j k1 hl k2
 ·rw [zbf hlt] at k2; cases k2
  exact h2 k1
theorem xaY {m : Mem} {b : List (List AV)} (h : m.boxes = b) (t : TypeId) (x : AV) : xY P ⟨b, []⟩ t x = xY P m t x := by
 subst h; rfl
theorem Xa9 {g : Gh} {M : Mem} {w : World} {a : Act} {tm : List AV} {boxes : List (List AV)} {o : Oper} {r : AV} (hs : SRel g ⟨tm, M⟩ w a) (hb : M.boxes = boxes) (h : XaF P tm boxes o = some r) : Still P g M w a o r := by
 have hv : ∀ x, St.val ⟨tm, ⟨boxes, []⟩⟩ x = St.val ⟨tm, M⟩ x := fun x => by cases x <;> rfl
 unfold XaF at h
 split at h
 ·rename_i x ho; cases h; rw [hv]; exact xP hs (.inl ho)
 ·rename_i x ho; cases h; rw [hv]; exact xP hs (.inr ho)
 ·rename_i t x ho; rw [hv, xaY hb] at h; exact Xaf hs ho h
 ·rename_i s x f ho; rw [hv] at h; exact Y9 hs ho h
 ·rename_i t x f ho; rw [hv] at h; exact zaw hs ho h
 ·rename_i x i ho
  split at h
  ·rename_i l hx; rw [hv] at hx; exact Xaj hs ho hx h
  ·cases h
 ·rename_i op t x y ty ho
  rw [hv, hv] at h
  obtain ⟨v, h1, h2⟩ := xbh.1 h
  cases h2
  exact xaF hs ho h1
 ·cases h
theorem BInv.next (pl : BPlan P ops st rs ms) (hB : yas ops = true) {listed : Array Bool} {a : Act} {w : World} (inv : BInv ops st rs ms g0 w0 listed a w) {i : Nat} {o : Oper} (ho : ops[i]? = some o) (hi : i < ops.size - 1) (hun : listed.getD i true = false) (hr : ∀ e ∈ o.after, Region.binds .any e = true → listed.getD e.on false = true)
  {K : Act → World → Prop} {Q : Exit → Act → World → Prop} (hK : ∀ a' w', BInv ops st rs ms g0 w0 (listed.setIfInBounds i true) a' w' → K a' w') : o.wp P a w K Q := by
 obtain ⟨g, p, hp, hrel, hext, happ, hsl⟩ := inv.ex
 obtain ⟨r, hri, hst⟩ := pl.step i o hi ho
 have hlen : (rs.take i).length = i := by rw [ybc, pl.len]; omega
 have hrd : rs.getD i .any = r := by rw [zbe, hri]; rfl
 simp only [yas, zbi, Zbd] at hB
 obtain ⟨⟨⟨⟨⟨hpos, _⟩, _⟩, _⟩, hch⟩, hds⟩ := hB
 have hS : SRel g ⟨zx ops (ZX ops (rs.take i).length (rs.take i)) (ops.size - 1) st.tmps, ms p⟩ w a := by
  refine yaY hrel inv.defers hsl fun j hj => ?_
  unfold ZX
  rw [hlen]
  cases hd : dep ops i j with
  | false => exact .inl rfl
  | true =>
   rw [if_pos rfl]
   by_cases hji : j < i
   ·refine .inr ⟨?_, YaK (dep_on ho hr hd)⟩
    rw [zbe, Ybi, if_pos hji, ← zbe]
   ·refine .inl ?_
    rw [zbe, Zbk (by rw [hlen]; omega)]; rfl
 have after : ∀ (p' : Nat) (v : Value) (g' : Gh) (w' : World), p' ≤ ops.size - 1 → Rel g' (ms p') w' → Ext g (ms p) w g' (ms p') w' → Rep g' (ms p') w' r v → (∀ q, q < ops.size - 1 → XQ ops q = true → ((listed.setIfInBounds i true).getD q true = true ↔ q < p')) → K (a.put o.dst v) w' := by
  intro p' v g' w' hp' hr' he hv happ'
  refine hK _ _ ⟨by rw [Array.size_setIfInBounds]; exact inv.size, ?_, ?_, g', p', hp', hr', hext.trans he, happ', ?_⟩
  ·rw [getD_set_ne true (by omega)]; exact inv.last
  ·cases o.dst <;> exact inv.defers
  ·intro t x hx
   obtain ⟨u, h1, h2, h3⟩ := hsl t x hx
   have hdo : YQ ops i = o.dst := by unfold YQ; rw [ho]; rfl
   by_cases hd : o.dst = some t
   ·have ht : t < a.tmps.size := (Xbk.1 h1).1
    refine ⟨v, by rw [hd]; simp [Act.put, ht], fun hno => absurd (by rw [hdo, hd]) (hno i hi), fun j hj hl hjt => ?_⟩
    by_cases hij : j = i
    ·subst hij; rw [hrd]; exact hv
    ·exfalso
     have hdi : YQ ops i = some t := by rw [hdo, hd]
     rcases Nat.lt_or_gt_of_ne hij with h' | h'
     ·have := yO (yO hds (show i < ops.size by omega)) h'
      rw [hdi, hjt] at this
      simp at this
     ·have := yO (yO hds (show j < ops.size by omega)) h'
      rw [hdi, hjt] at this
      simp at this
   ·refine ⟨u, ?_, fun hno => (h2 hno).ext he, fun j hj hl hjt => ?_⟩
    ·cases hdd : o.dst with
     | none => exact h1
     | some d =>
      have : d ≠ t := fun e => hd (by rw [hdd, e])
      simp [Act.put, Array.getElem?_setIfInBounds_ne this, h1]
    ·by_cases hij : j = i
     ·subst hij; rw [hdo] at hjt; exact absurd hjt hd
     ·rw [getD_set_ne true (fun e => hij e.symm)] at hl
      exact (h3 j hj hl hjt).ext he
 rcases hst with ⟨ha, s, x, t, tx, hop, hev⟩ | ⟨ha, hm, hev⟩
 ·have hai : XQ ops i = true := by unfold XQ; rw [ho]; exact ha
  have hpi : p ≤ i := by
   rcases ybn i p with h | h
   ·have := (happ i hi hai).2 h; rw [hun] at this; cases this
   ·exact h
  have hnone : ∀ q, p ≤ q → q < i → XQ ops q = false := fun q h1 h2 => by
   cases hq : XQ ops q with
   | false => rfl
   | true =>
    exfalso
    have h3 := yO (yO hch (show i < ops.size by omega)) h2
    rw [hai, hq] at h3
    have h4 := YaK (dep_on ho hr (by simpa using h3))
    have := (happ q (by omega) hq).1 h4
    omega
  have hmp : ms i = ms p := by
   have := pl.same p (i - p) (by omega) (fun q h1 h2 => hnone q h1 (by omega))
   rwa [show p + (i - p) = i by omega] at this
  rw [hmp] at hev
  refine Zaw hS hop hev K Q fun v g' w' k1 k2 k3 => after (i + 1) v g' w' (by omega) k1 k2 k3 fun q hq haq => ?_
  by_cases hqi : q = i
  ·subst hqi
   have hlt : q < listed.size := by rw [inv.size]; omega
   simp [Array.getD, hlt]
  ·rw [getD_set_ne true (fun e => hqi e.symm), happ q hq haq]
   constructor
   ·intro h; omega
   ·intro h
    rcases ybn q p with h' | h'
    ·exact h'
    ·have := hnone q h' (by omega); rw [haq] at this; cases this
 ·have hbx : (ms p).boxes = (ms i).boxes := by rw [pl.boxes p hp, pl.boxes i (by omega)]
  have hF : Fine P g (ms p) w a o r (ms p) := by
   rcases hev with ⟨t, k, ps, hop, hb⟩ | hf
   ·refine X9 hS hop (Eq.trans ?_ hb)
    rfl
   ·exact YF hS (Xa9 hS hbx hf)
  refine hF K Q fun v g' w' k1 k2 k3 => after p v g' w' hp k1 k2 k3 fun q hq haq => ?_
  have hqi : q ≠ i := fun e => by subst e; unfold XQ at haq; rw [ho] at haq; simp only at haq; rw [ha] at haq; cases haq
  rw [getD_set_ne true (fun e => hqi e.symm)]; exact happ q hq haq
end
section
variable {P : Program} {ops : Array Oper} {st : St} {rs : List AV} {ms : Nat → Mem} {g0 : Gh} {w0 : World}
theorem Xao : ∀ (l : List Bool) (i : Nat), l[i]? = some false → (l.set i true).count false < l.count false
 | [], i, h => by simp at h
 | b :: l, 0, h => by simp only [zbm, Option.some.injEq] at h; subst h; simp
 | b :: l, i + 1, h => by
  have := Xao l i (by simpa using h)
  simp only [qC, List.count_cons]
  omega
theorem getD_ft {listed : Array Bool} {j : Nat} (h : listed.getD j true = false) : listed.toList[j]? = some false := by
 unfold Array.getD at h
 split at h
 ·rename_i hlt
  simp only [Array.getElem?_toList, Zbn hlt]
  exact congrArg some h
 ·cases h
theorem body_any (pl : BPlan P ops st rs ms) (hB : yas ops = true) {Q : Exit → Act → World → Prop} {o : Oper} (ho : ops[ops.size - 1]? = some o) {r : AV} {m' : Mem}
  (hop : OpRuns P ⟨zx ops (fun j => rs.getD j .any) (ops.size - 1) st.tmps, ms (ops.size - 1)⟩ o r m')
  (hq : ∀ g' w' a', SRel g' (St.put ⟨zx ops (fun j => rs.getD j .any) (ops.size - 1) st.tmps, ms (ops.size - 1)⟩ o.dst r m') w' a' → Ext g0 st.mem w0 g' m' w' → Q .normal a' w') :
  ∀ (f : Nat) (listed : Array Bool) (a : Act) (w : World), BInv ops st rs ms g0 w0 listed a w → listed.toList.count false ≤ f → wpAny P .any ops Q f listed a w := by
 have hB0 := hB
 simp only [yas, zbi, Zbd] at hB
 obtain ⟨⟨⟨⟨⟨hpos, hgd⟩, hback⟩, hlast⟩, hch⟩, hds⟩ := hB
 intro f
 induction f with
 | zero =>
  intro listed a w inv hc
  exfalso
  have := getD_ft inv.last
  have h2 := List.count_pos_iff.2 (List.mem_of_getElem? this)
  omega
 | succ f ih =>
  intro listed a w inv hc
  refine ⟨fun hnil => ?_, fun i hi => ?_⟩
  ·exfalso
   have hex : ∃ j, j < ops.size ∧ listed.getD j true = false := ⟨ops.size - 1, by omega, inv.last⟩
   obtain ⟨j, ⟨hj, hjf⟩, hmin⟩ : ∃ j, (j < ops.size ∧ listed.getD j true = false) ∧ ∀ k, k < j → ¬ (k < ops.size ∧ listed.getD k true = false) := by
    have key : ∀ n : Nat, (∃ j, j ≤ n ∧ j < ops.size ∧ listed.getD j true = false) → ∃ j, (j < ops.size ∧ listed.getD j true = false) ∧ ∀ k, k < j → ¬ (k < ops.size ∧ listed.getD k true = false) := by
     intro n
     induction n with
     | zero => rintro ⟨j, h1, h2, h3⟩; exact ⟨j, ⟨h2, h3⟩, fun k hk => by omega⟩
     | succ n ihn =>
      rintro ⟨j, h1, h2, h3⟩
      by_cases hlow : ∃ j, j ≤ n ∧ j < ops.size ∧ listed.getD j true = false
      ·exact ihn hlow
      ·exact ⟨j, ⟨h2, h3⟩, fun k hk hkk => hlow ⟨k, by omega, hkk.1, hkk.2⟩⟩
    obtain ⟨j, h1, h2⟩ := hex
    exact key j ⟨j, Xbc _, h1, h2⟩
   have hbk := yO hback hj
   rw [Zbn hj] at hbk
   have : j ∈ Region.ready .any ops listed := mem_ready.2 ⟨hjf, ops[j], Zbn hj, fun e he hb => by
    have h1 := Ybn.1 hbk e he
    rw [hb] at h1
    have h2 : e.on < j := by simpa using h1
    cases hl : listed.getD e.on true with
    | true =>
     have hlt : e.on < listed.size := by rw [inv.size]; omega
     unfold Array.getD at hl ⊢
     rw [dif_pos hlt] at hl ⊢; exact hl
    | false => exact absurd ⟨by omega, hl⟩ (hmin e.on h2)⟩
   rw [hnil] at this; cases this
  ·obtain ⟨hun, oi, hoi, hdeps⟩ := mem_ready.1 hi
   have hlt : i < ops.size := (Xbk.1 hoi).1
   have hg : oi.guard = none := by
    have := Ybn.1 hgd oi (Array.mem_of_getElem? hoi)
    simpa using this
   unfold wpOp
   rw [hoi]
   simp only [Region.wanted, hg, if_true]
   refine .inl ?_
   have hset := Xao listed.toList i (getD_ft hun)
   have hcount : (listed.setIfInBounds i true).toList.count false ≤ f := by
    rw [Array.toList_setIfInBounds]; omega
   by_cases hin : i < ops.size - 1
   ·exact inv.next pl hB0 hoi hin hun hdeps fun a' w' hi' => ih _ a' w' hi' hcount
   ·have hin : i = ops.size - 1 := by omega
    subst hin
    rw [ho] at hoi; cases hoi
    obtain ⟨g, p, hp, hrel, hext, happ, hsl⟩ := inv.ex
    have hall : ∀ q, q < ops.size - 1 → listed.getD q true = true := fun q hq => YaK (dep_on ho hdeps (yO hlast hq))
    have hmp : ms (ops.size - 1) = ms p := by
     have := pl.same p (ops.size - 1 - p) (by omega) (fun q h1 h2 => by
      cases hq : XQ ops q with
      | false => rfl
      | true => exfalso; have := (happ q (by omega) hq).1 (hall q (by omega)); omega)
     rwa [show p + (ops.size - 1 - p) = ops.size - 1 by omega] at this
    have hS : SRel g ⟨zx ops (fun j => rs.getD j .any) (ops.size - 1) st.tmps, ms (ops.size - 1)⟩ w a := by
     rw [hmp]
     exact yaY hrel inv.defers hsl fun j hj => .inr ⟨rfl, hall j hj⟩
    refine hop g w a hS _ Q fun v g' w' k1 k2 k3 => ?_
    have hS' := hS.put k1 k2 (dst := o.dst) k3
    have hnone : Region.ready .any ops (listed.setIfInBounds (ops.size - 1) true) = [] := by
     refine List.eq_nil_iff_forall_not_mem.2 fun j hj => ?_
     obtain ⟨h1, oj, hoj, _⟩ := mem_ready.1 hj
     have hjl : j < ops.size := (Xbk.1 hoj).1
     by_cases hjn : j = ops.size - 1
     ·subst hjn
      have : ops.size - 1 < listed.size := by rw [inv.size]; omega
      simp [Array.getD, this] at h1
     ·rw [getD_set_ne true (fun e => hjn e.symm), hall j (by omega)] at h1; cases h1
    have hQ : Q .normal (a.put o.dst v) w' := hq g' w' _ hS' (hext.trans (by rw [hmp] at k2; exact k2))
    cases f with
    | zero => exact ⟨hnone, hQ⟩
    | succ f => exact ⟨fun _ => hQ, fun i hi => by rw [hnone] at hi; cases hi⟩
theorem body_runs (hm : P.follows .mixedOrders = true) (pl : BPlan P ops st rs ms) (hB : yas ops = true) {o : Oper} (ho : ops[ops.size - 1]? = some o) {r : AV} {m' : Mem}
  (hop : OpRuns P ⟨zx ops (fun j => rs.getD j .any) (ops.size - 1) st.tmps, ms (ops.size - 1)⟩ o r m') (id : Nat) : RunsE P (.region id ops true) st .norm (St.put ⟨zx ops (fun j => rs.getD j .any) (ops.size - 1) st.tmps, ms (ops.size - 1)⟩ o.dst r m') := by
 intro g w a Q hs hq
 have hC : Below w.heap.size w { w with drawn := w.drawn + 1 } := (ybd _ w).drew
 have hpos : 0 < ops.size := (by have := (Xbk.1 ho).1; omega)
 have hs' := hs.below hC
 refine wp_region_any hm (body_any (g0 := g) (w0 := w) pl hB ho hop (fun g' w' a' k1 k2 => hq g' w' a' k1 (by rw [xad]; exact k2)) _ _ _ _ ?_ ?_)
 ·have hf : ∀ j, (Array.replicate ops.size false).getD j true = true → ¬ j < ops.size := fun j h hj => by simp [Array.getD, hj] at h
  refine ⟨by simp, by simp [Array.getD]; omega, hs.defers, g, 0, Ybm _, by rw [pl.zero]; exact hs'.rel, by rw [pl.zero]; exact Ext.of_below hs.rel hC, fun q hq _ => ⟨fun h => absurd (by omega) (hf q h), fun h => by omega⟩, fun t x hx => ?_⟩
  obtain ⟨v, h1, h2⟩ := hs'.tmps t x hx
  exact ⟨v, h1, fun _ => by rw [pl.zero]; exact h2, fun j hj h => absurd (by omega) (hf j h)⟩
 ·rw [Array.toList_replicate, List.count_replicate]; simp
theorem ZaY (hp : Plain P) (hm : P.follows .mixedOrders = true) {callK : CallK} (hcall : CallKOk P callK) {K : St → Option Ans} {b : Ans} (id : Nat) (h : Zao P callK ops st K = some b) : ∃ st', RunsE P (.region id ops true) st .norm st' ∧ K st' = some b := by
 unfold Zao at h
 split at h
 ·rename_i hB
  obtain ⟨rs, ms, k1, k2, k3, k4, k5⟩ := zaY _ _ _ h
  simp only [Xbg, xbl] at k1 k3 k4 k5
  have hl : (ops.toList.take (ops.size - 1)).length = ops.size - 1 := by simp
  rw [hl] at k1 k5
  split at k5
  ·rename_i o ho
   obtain ⟨r, m', j1, j2⟩ := opK_ok hp hcall k5
   have pl : BPlan P ops st rs ms := ⟨k1, k3, fun k o hk hko => k4 k o (by rw [Ybi, if_pos hk]; simpa using hko)⟩
   exact ⟨_, body_runs hm pl hB ho j1 id, j2⟩
  ·cases k5
 ·cases h
end
section
variable {P : Program} {st : St}
theorem drawnK_ok (hp : Plain P) (hm : P.follows .mixedOrders = true) {callK : CallK} (hcall : CallKOk P callK) {pure : PureB} (hpure : PureBOk P pure) {ops : Array Oper} {K : St → Option Ans} {b : Ans} (id : Nat) (h : drawnK P callK pure ops st K = some b) : ∃ st', RunsE P (.region id ops true) st .norm st' ∧ K st' = some b := by
 unfold drawnK at h
 split at h
 ·exact ZaY hp hm hcall id h
 split at h
 ·rename_i hB
  have hB := (zbi _ _ ▸ hB).2
  obtain ⟨st', h1, h2, h3⟩ := zaG hp hpure _ _ _ h
  refine ⟨st', fun g w a Q hs hq => ?_, h3⟩
  have hC : Below w.heap.size w { w with drawn := w.drawn + 1 } := (ybd _ w).drew
  refine wp_region_quiet (C := fun w' => Below w.heap.size w w') hm hB hC ?_
  refine h1 g w a _ hs fun a' k1 w' hw' => hq g w' a' (k1.below hw') ?_
  rw [h2]; exact Ext.of_below hs.rel hw'
 ·split at h
  ·rename_i hB
   obtain ⟨s1, h1, h2, h3⟩ := zaG hp hpure _ _ _ h
   obtain ⟨st', h4, h5⟩ := xas hp hcall _ _ _ h3
   refine ⟨st', fun g w a Q hs hq => ?_, h5⟩
   have hC : Below w.heap.size w { w with drawn := w.drawn + 1 } := (ybd _ w).drew
   refine Zah (C := fun w' => Below w.heap.size w w') (ops.size - 1) hm hB hC ?_
   refine h1 g w a _ hs fun a' k1 w' hw' => ?_
   refine h4 g w' a' Q (k1.below hw') fun g'' w'' a'' j1 j2 => hq g'' w'' a'' j1 ?_
   rw [h2] at j2
   exact (Ext.of_below hs.rel hw').trans j2
  ·cases h
end
def Zl : Code → List Code
 | .seq x y => Zl x ++ Zl y
 | .cond _ x y => Zl x ++ Zl y
 | .block _ c => Zl c
 | .loop c => c :: Zl c
 | .scope c => Zl c
 | _ => []
structure Anc (nb ng : Nat) where
 g : Gh
 m : Mem
 w : World
 hb : g.box.length ≤ nb
 hg : m.gros.length ≤ ng
def Anc.ext {nb ng : Nat} (A : Anc nb ng) (g : Gh) (m : Mem) (w : World) : Prop := Ext A.g A.m A.w g m w
def Runs (P : Program) (nb ng : Nat) (c : Code) (st : St) (out : Out) (st' : St) : Prop := ∀ (A : Anc nb ng) g w a (Q : Exit → Act → World → Prop), SRel g st w a → A.ext g st.mem w → (∀ g' w' a', SRel g' st' w' a' → A.ext g' st'.mem w' → Q out.to a' w') → c.wp P Q a w
theorem RunsE.runs {P : Program} {nb ng : Nat} {c : Code} {st : St} {out : Out} {st' : St} (h : RunsE P c st out st') : Runs P nb ng c st out st' := fun A g w a Q hs he hq => h g w a Q hs fun g' w' a' k1 k2 => hq g' w' a' k1 (Ext.trans he k2)
theorem Zas (tmps : List AV) (boxes : List (List AV)) (nb : Nat) : ∀ n, cutB tmps boxes nb n ≤ n ∧ (nb ≤ cutB tmps boxes nb n ∨ cutB tmps boxes nb n = n)
 | 0 => ⟨Xbc _, .inr rfl⟩
 | n + 1 => by
  unfold cutB
  split
  ·rename_i h
   simp only [zbi, Zbd] at h
   obtain ⟨h1, h2⟩ := Zas tmps boxes nb n
   exact ⟨by omega, .inl (by omega)⟩
  ·exact ⟨Xbc _, .inr rfl⟩
theorem Yas (tmps : List AV) (boxes : List (List AV)) (ng : Nat) : ∀ n, cutG tmps boxes ng n ≤ n ∧ (ng ≤ cutG tmps boxes ng n ∨ cutG tmps boxes ng n = n)
 | 0 => ⟨Xbc _, .inr rfl⟩
 | n + 1 => by
  unfold cutG
  split
  ·rename_i h
   simp only [zbi, Zbd] at h
   obtain ⟨h1, h2⟩ := Yas tmps boxes ng n
   exact ⟨by omega, .inl (by omega)⟩
  ·exact ⟨Xbc _, .inr rfl⟩
theorem XaO (tmps : List AV) (boxes : List (List AV)) (nb : Nat) : ∀ n, cutB tmps (boxes.take (cutB tmps boxes nb n)) nb (cutB tmps boxes nb n) = cutB tmps boxes nb n
 | 0 => rfl
 | n + 1 => by
  by_cases h : (decide (nb ≤ n) && (zB n big tmps && XE n big (boxes.take n))) = true
  ·rw [show cutB tmps boxes nb (n + 1) = cutB tmps boxes nb n by rw [cutB, if_pos h]]
   exact XaO tmps boxes nb n
  ·rw [show cutB tmps boxes nb (n + 1) = n + 1 by rw [cutB, if_neg h], cutB, zbt, zbq (Nat.le_succ n), if_neg h]
theorem zaP (tmps : List AV) (boxes : List (List AV)) (ng : Nat) : ∀ n, cutG tmps boxes ng (cutG tmps boxes ng n) = cutG tmps boxes ng n
 | 0 => rfl
 | n + 1 => by
  by_cases h : (decide (ng ≤ n) && (zB big n tmps && XE big n boxes)) = true
  ·rw [show cutG tmps boxes ng (n + 1) = cutG tmps boxes ng n by rw [cutG, if_pos h]]
   exact zaP tmps boxes ng n
  ·rw [show cutG tmps boxes ng (n + 1) = n + 1 by rw [cutG, if_neg h], cutG, if_neg h]
theorem yaG {nb ng : Nat} : ∀ {l : List AV} {t : Nat} {x : AV}, zB nb ng l = true → l[t]? = some x → x.under nb ng = true
 | [], t, x, _, h => by simp at h
 | y :: r, 0, x, hb, h => by
  simp only [zB, zbi] at hb
  simp only [zbm, Option.some.injEq] at h; subst h; exact hb.1
 | y :: r, t + 1, x, hb, h => by
  simp only [zB, zbi] at hb
  exact yaG hb.2 (by simpa using h)
theorem tidy_idem (nb ng : Nat) (st : St) : tidy nb ng (tidy nb ng st) = tidy nb ng st := by
 obtain ⟨tmps, boxes, gros⟩ := st
 obtain ⟨b, hb⟩ : ∃ b, cutB tmps boxes nb boxes.length = b := ⟨_, rfl⟩
 obtain ⟨k, hk⟩ : ∃ k, cutG tmps (boxes.take b) ng gros.length = k := ⟨_, rfl⟩
 have b1 := (Zas tmps boxes nb boxes.length).1
 have k1 := (Yas tmps (boxes.take b) ng gros.length).1
 rw [hb] at b1
 rw [hk] at k1
 have i1 := XaO tmps boxes nb boxes.length
 have i2 := zaP tmps (boxes.take b) ng gros.length
 rw [hb] at i1
 rw [hk] at i2
 have e0 : tidy nb ng ⟨tmps, ⟨boxes, gros⟩⟩ = Y1 b k ⟨tmps, ⟨boxes, gros⟩⟩ := by unfold tidy; simp only [hb, hk]
 rw [e0]
 unfold Y1
 by_cases c : (zB b k tmps && XE b k (boxes.take b)) = true
 ·rw [if_pos c]
  unfold tidy
  have l1 : (boxes.take b).length = b := by rw [ybc]; omega
  have l2 : (gros.take k).length = k := by rw [ybc]; omega
  simp only [l1, l2, i1, zbt, Nat.min_self, i2]
  unfold Y1
  simp only [zbt, Nat.min_self]
  rw [if_pos c]
 ·rw [if_neg c, e0]
  unfold Y1
  rw [if_neg c]
theorem cut_ok {g : Gh} {st : St} {w : World} {a : Act} (hs : SRel g st w a) (nb ng b k : Nat) (hb : nb ≤ b ∨ b = st.mem.boxes.length) (hk : ng ≤ k ∨ k = st.mem.gros.length) : ∃ g', SRel g' (Y1 b k st) w a ∧ ∀ A : Anc nb ng, A.ext g st.mem w → A.ext g' (Y1 b k st).mem w := by
 unfold Y1
 split
 case isFalse => exact ⟨g, hs, fun A h => h⟩
 case isTrue hc =>
  simp only [zbi] at hc
  have hr := hs.rel
  obtain ⟨tmps, m⟩ := st
  simp only at hc hb hk hr
  have hgb : ∀ i, i < b → (g.box.take b)[i]? = g.box[i]? := fun i hi => by rw [Ybi, if_pos hi]
  have hgg : ∀ i, i < k → (g.gro.take k)[i]? = g.gro[i]? := fun i hi => by rw [Ybi, if_pos hi]
  have hmg : ∀ i, i < k → (m.gros.take k)[i]? = m.gros[i]? := fun i hi => by rw [Ybi, if_pos hi]
  have tk : ∀ {α : Type} (l : List α) (n i : Nat) (y : α), (l.take n)[i]? = some y → i < n ∧ l[i]? = some y := fun l n i y h => by
   rw [Ybi] at h
   split at h
   ·exact ⟨‹_›, h⟩
   ·cases h
  have hst : ∀ x o, g.St m x o → Gh.St { g with box := g.box.take b, gro := g.gro.take k } ⟨m.boxes.take b, m.gros.take k⟩ x o := fun x o hs => by
   rcases hs with hs | ⟨h1, h2, h3⟩
   ·exact .inl hs
   ·exact .inr ⟨h1, fun i hi => h2 i (tk _ _ _ _ hi).2, fun i b' c sz L k1 k2 e => h3 i b' c sz L (tk _ _ _ _ k1).2 (tk _ _ _ _ k2).2 e⟩
  have S : Shift b k g m w { g with box := g.box.take b, gro := g.gro.take k } ⟨m.boxes.take b, m.gros.take k⟩ :=
   ⟨fun x o _ hs => hst x o hs, fun i hi => hgb i hi, fun i hi => ⟨hgg i hi, hmg i hi⟩⟩
  refine ⟨{ g with box := g.box.take b, gro := g.gro.take k }, ⟨⟨?_, ?_, hr.base, ?_, ?_, ?_, ?_, ?_, hr.inv⟩, hs.defers, ?_⟩, fun A he => ⟨⟨?_, he.cell, ?_, ?_⟩, he.gbase, he.gS, he.below⟩⟩
  ·simp [hr.nb]
  ·simp [hr.ng]
  ·intro i x cs h1 h2
   obtain ⟨_, h1⟩ := tk _ _ _ _ h1
   obtain ⟨_, h2'⟩ := tk _ _ _ _ h2
   obtain ⟨k1, vs, rest, ty, fr, k2, k3, k4⟩ := hr.box i x cs h1 h2'
   exact ⟨k1, vs, rest, ty, fr, k2, RepL.shift S _ _ (X6 hc.2 h2) k3, k4⟩
  ·intro i x c sz L h1 h2
   exact hr.gro i x c sz L (tk _ _ _ _ h1).2 (tk _ _ _ _ h2).2
  ·intro i j x h1 h2; exact hr.boxInj i j x (tk _ _ _ _ h1).2 (tk _ _ _ _ h2).2
  ·intro i j x c c' h1 h2; exact hr.groInj i j x c c' (tk _ _ _ _ h1).2 (tk _ _ _ _ h2).2
  ·intro i j x c h1 h2; exact hr.apart i j x c (tk _ _ _ _ h1).2 (tk _ _ _ _ h2).2
  ·intro t x hx
   obtain ⟨v, h1, h2⟩ := hs.tmps t x hx
   exact ⟨v, h1, Rep.shift S _ _ (yaG hc.1 hx) h2⟩
  ·intro x o hx h; exact hst x o (he.st x o hx h)
  ·intro i x hi
   have hlt : i < A.g.box.length := (xbe.1 hi).1
   have h1 := he.box i x hi
   rcases hb with h | h
   ·show (g.box.take b)[i]? = _
    rw [hgb i (by have := A.hb; omega)]; exact h1
   ·show (g.box.take b)[i]? = _
    rw [Zbj (by rw [hr.nb]; omega)]; exact h1
  ·intro i sz L hL
   have hlt := (xbe.1 hL).1
   obtain ⟨X, h1, h2⟩ := he.gro i sz L hL
   have hik : i < k := by
    rcases hk with h | h
    ·have := A.hg; omega
    ·have h : k = m.gros.length := h
     have := (xbe.1 h1).1
     have : i < m.gros.length := this
     omega
   exact ⟨X, by show (m.gros.take k)[i]? = _; rw [hmg i hik]; exact h1, fun e => by show (g.gro.take k)[i]? = _; rw [hgg i hik]; exact h2 e⟩
theorem Xas {g : Gh} {st : St} {w : World} {a : Act} (hs : SRel g st w a) (nb ng : Nat) (K : Nat → Option (List Tmp)) (c : Code) : ∃ g', SRel g' (St.head nb ng K c st) w a ∧ ∀ A : Anc nb ng, A.ext g st.mem w → A.ext g' (St.head nb ng K c st).mem w := by
 obtain ⟨h1, h2⟩ := kill_ok hs K c
 unfold St.head tidy
 obtain ⟨g', h3, h4⟩ := cut_ok h1 nb ng _ _ (Zas _ _ nb _).2 (Yas (St.kill K c st).tmps ((St.kill K c st).mem.boxes.take (cutB (St.kill K c st).tmps (St.kill K c st).mem.boxes nb (St.kill K c st).mem.boxes.length)) ng (St.kill K c st).mem.gros.length).2
 exact ⟨g', h3, fun A he => h4 A (by rw [h2]; exact he)⟩
def LoopBOk (P : Program) (loops : LoopB) (L : List Code) : Prop := ∀ c ∈ L, ∀ k st t out st', Zy c = some k → loops k st = some t → t.sel = some (out, st') → Runs P 0 0 (.loop c) st out st'
structure CtxOk (C : Ctx) (L : List Code) : Prop where
 plain : Plain C.P
 mixed : C.P.follows .mixedOrders = true
 call : CallKOk C.P C.callK
 pure : PureBOk C.P C.pure
 loops : LoopBOk C.P C.loops L
theorem Runs.of_head {P : Program} {nb ng : Nat} {c d : Code} {K : Nat → Option (List Tmp)} {st : St} {out : Out} {st' : St} (h : Runs P nb ng c (St.head nb ng K d st) out st') : Runs P nb ng c st out st' := fun A g w a Q hs he hq => by
 obtain ⟨g1, h1, h2⟩ := Xas hs nb ng K d
 exact h A g1 w a Q h1 (h2 A he) hq
def Rounds (P : Program) (nb ng : Nat) (c : Code) (st : St) (out : Out) (st' : St) : Prop := ∀ (A : Anc nb ng) g w a (Q : Exit → Act → World → Prop), SRel g st w a → A.ext g st.mem w → (∀ g' w' a', SRel g' st' w' a' → A.ext g' st'.mem w' → Q out.to a' w') →
 ∀ (b : Frame) (k : List Item) (cs : List Frame), ∃ e a' w', Q e a' w' ∧ Arrives P (lone (b.at a (.code c :: .inLoop c :: k)) cs w) b k cs e a' w'
theorem Rounds.runs {P : Program} {nb ng : Nat} {c : Code} {st : St} {out : Out} {st' : St} (h : Rounds P nb ng c st out st') : Runs P nb ng (.loop c) st out st' := fun A g w a Q hs he hq b k cs => by
 obtain ⟨e, a', w', hqq, harr⟩ := h A g w a Q hs he hq b k cs
 exact ⟨e, a', w', hqq, .of_steps (.one step_loop) harr⟩
theorem xaA {P : Program} {nb ng : Nat} {c : Code} {f : St → (Out → St → Option Ans) → Option Ans} {kl : St → St} (hkl : ∀ st g w a, SRel g st w a → ∃ g', SRel g' (kl st) w a ∧ ∀ A : Anc nb ng, A.ext g st.mem w → A.ext g' (kl st).mem w) {bb : Ans} (hf : ∀ st (K : Out → St → Option Ans), f st K = some bb → ∃ out st', Runs P nb ng c st out st' ∧ K out st' = some bb) :
  ∀ (n : Nat) (st : St) (K : Out → St → Option Ans), zR f kl n st K = some bb → ∃ out st', Rounds P nb ng c st out st' ∧ K out st' = some bb
 | 0, st, K, h => by simp [zR] at h
 | n + 1, st, K, h => by
  simp only [zR] at h
  obtain ⟨o1, s1, h1, h2⟩ := hf _ _ h
  have last : o1 ≠ .norm → Rounds P nb ng c st o1 s1 := fun hne A g w a Q hs he hq b k cs => by
   obtain ⟨g1, hs', hm'⟩ := hkl st g w a hs
   obtain ⟨e, a₁, w₁, hqq, harr⟩ := h1 A g1 w a (fun e a' w' => e = o1.to ∧ Q e a' w') hs' (hm' A he) (fun g' w' a' k1 k2 => ⟨rfl, hq g' w' a' k1 k2⟩) b (.inLoop c :: k) cs
   obtain ⟨rfl, hqq⟩ := hqq
   refine ⟨_, a₁, w₁, hqq, ?_⟩
   cases o1 with
   | norm => exact absurd rfl hne
   | exit id => exact .pass (x := .inLoop c) rfl (fun _ _ => .inl (by simp [Out.to])) harr
   | ret => exact .pass (x := .inLoop c) rfl (fun _ _ => .inl (by simp [Out.to])) harr
  cases o1 with
  | norm =>
   obtain ⟨out, st', h3, h4⟩ := xaA hkl hf n s1 K h2
   refine ⟨out, st', fun A g w a Q hs he hq b k cs => ?_, h4⟩
   obtain ⟨g1, hs', hm'⟩ := hkl st g w a hs
   obtain ⟨e, a₁, w₁, hqq, harr⟩ := h1 A g1 w a (fun e a' w' => e = .normal ∧ ∃ g', SRel g' s1 w' a' ∧ A.ext g' s1.mem w') hs' (hm' A he) (fun g' w' a' k1 k2 => ⟨rfl, g', k1, k2⟩) b (.inLoop c :: k) cs
   obtain ⟨rfl, g', k1, k2⟩ := hqq
   obtain ⟨e₂, a₂, w₂, hq₂, harr₂⟩ := h3 A g' w₁ a₁ Q k1 k2 hq b k cs
   exact ⟨e₂, a₂, w₂, hq₂, .of_steps (Steps.trans harr (.one step_inLoop)) harr₂⟩
  | exit id => exact ⟨_, s1, last (by intro e; cases e), h2⟩
  | ret => exact ⟨_, s1, last (by intro e; cases e), h2⟩
theorem evK_ok {C : Ctx} {L : List Code} (ok : CtxOk C L) {bb : Ans} : ∀ (c : Code), (∀ d ∈ Zl c, d ∈ L) → ∀ (st : St) (K : Out → St → Option Ans), evK C c st K = some bb → ∃ out st', Runs C.P C.nb C.ng c st out st' ∧ K out st' = some bb := by
 intro c
 induction c with
 | skip => intro _ st K h; exact ⟨.norm, st, fun A g w a Q hs he hq => wp_skip (hq g w a hs he), h⟩
 | label l => intro _ st K h; exact ⟨.norm, st, fun A g w a Q hs he hq => wp_label (hq g w a hs he), h⟩
 | exit id => intro _ st K h; exact ⟨.exit id, st, fun A g w a Q hs he hq => wp_exit (hq g w a hs he), h⟩
 | ret => intro _ st K h; exact ⟨.ret, st, fun A g w a Q hs he hq => wp_ret (hq g w a hs he), h⟩
 | region id ops b =>
  intro _ st K h
  cases b with
  | false =>
   simp only [evK] at h
   obtain ⟨st', h1, h2⟩ := xas ok.plain ok.call _ _ _ h
   exact ⟨.norm, st', fun A g w a Q hs he hq => wp_region_list (h1 g w a Q hs fun g' w' a' k1 k2 => hq g' w' a' k1 (Ext.trans he k2)), h2⟩
  | true =>
   simp only [evK] at h
   obtain ⟨st', h1, h2⟩ := drawnK_ok ok.plain ok.mixed ok.call ok.pure id h
   exact ⟨.norm, st', h1.runs, h2⟩
 | seq x y ihx ihy =>
  intro hL st K h
  simp only [Zl, Xbp] at hL
  simp only [evK] at h
  obtain ⟨o1, s1, h1, h2⟩ := ihx (fun d hd => hL d (.inl hd)) st _ h
  cases o1 with
  | norm =>
   obtain ⟨out, st', h3, h4⟩ := ihy (fun d hd => hL d (.inr hd)) s1 K h2
   exact ⟨out, st', fun A g w a Q hs he hq => wp_seq (h1 A g w a _ hs he fun g' w' a' k1 k2 => h3 A g' w' a' Q k1 k2 hq), h4⟩
  | exit id => exact ⟨.exit id, s1, fun A g w a Q hs he hq => wp_seq (h1 A g w a _ hs he fun g' w' a' k1 k2 => hq g' w' a' k1 k2), h2⟩
  | ret => exact ⟨.ret, s1, fun A g w a Q hs he hq => wp_seq (h1 A g w a _ hs he fun g' w' a' k1 k2 => hq g' w' a' k1 k2), h2⟩
 | cond c x y ihx ihy =>
  intro hL st K h
  simp only [Zl, Xbp] at hL
  simp only [evK] at h
  split at h
  ·rename_i t hc
   cases t
   ·obtain ⟨out, st', h1, h2⟩ := ihy (fun d hd => hL d (.inr hd)) st K h
    refine ⟨out, st', fun A g w a Q hs he hq => ?_, h2⟩
    have hv := zk hs c
    rw [hc] at hv; simp only [Rep] at hv
    exact wp_cond hv (h1 A g w a Q hs he hq)
   ·obtain ⟨out, st', h1, h2⟩ := ihx (fun d hd => hL d (.inl hd)) st K h
    refine ⟨out, st', fun A g w a Q hs he hq => ?_, h2⟩
    have hv := zk hs c
    rw [hc] at hv; simp only [Rep] at hv
    exact wp_cond hv (h1 A g w a Q hs he hq)
  ·cases h
 | scope c ih =>
  intro hL st K h
  simp only [Zl] at hL
  simp only [evK] at h
  obtain ⟨out, st', h1, h2⟩ := ih hL st K h
  refine ⟨out, st', fun A g w a Q hs he hq => wp_scope_straight (h1 A g w a _ hs he fun g' w' a' k1 k2 => ?_), h2⟩
  cases out <;> exact hq g' w' a' k1 k2
 | block id c ih =>
  intro hL st K h
  simp only [Zl] at hL
  simp only [evK] at h
  obtain ⟨o1, s1, h1, h2⟩ := ih hL st _ h
  cases o1 with
  | norm => exact ⟨.norm, s1, fun A g w a Q hs he hq => wp_block (h1 A g w a _ hs he fun g' w' a' k1 k2 => hq g' w' a' k1 k2), h2⟩
  | ret => exact ⟨.ret, s1, fun A g w a Q hs he hq => wp_block (h1 A g w a _ hs he fun g' w' a' k1 k2 => hq g' w' a' k1 k2), h2⟩
  | exit id' =>
   simp only at h2
   split at h2
   ·rename_i e
    refine ⟨.norm, s1, fun A g w a Q hs he hq => wp_block (h1 A g w a _ hs he fun g' w' a' k1 k2 => ?_), h2⟩
    show Exit.inBlock id Q (.exit id') a' w'
    simp only [Exit.inBlock]; rw [if_pos e]; exact hq g' w' a' k1 k2
   ·rename_i e
    refine ⟨.exit id', s1, fun A g w a Q hs he hq => wp_block (h1 A g w a _ hs he fun g' w' a' k1 k2 => ?_), h2⟩
    show Exit.inBlock id Q (.exit id') a' w'
    simp only [Exit.inBlock]; rw [if_neg e]; exact hq g' w' a' k1 k2
 | loop c ih =>
  intro hL st K h
  simp only [Zl, zbr] at hL
  simp only [evK] at h
  split at h
  ·rename_i t hl
   obtain ⟨k, hk, hl⟩ := Ybe.1 hl
   obtain ⟨⟨out, st'⟩, hsel, h⟩ := Tr.run_ok h
   split at hl
   ·rename_i hz
    have hR := ok.loops c (hL c (.inl rfl)) k _ t out st' hk hl hsel
    have hR2 := hR.of_head
    rw [hz.1, hz.2]
    exact ⟨out, st', hR2, h⟩
   ·cases hl
  ·obtain ⟨out, st', h1, h2⟩ := xaA (P := C.P) (c := c) (fun st g w a hs => Xas hs C.nb C.ng C.keep c) (fun st K h => ih (fun d hd => hL d (.inr hd)) st K h) C.fuel st K h
   exact ⟨out, st', h1.runs, h2⟩
 | _ => intro _ st K h; simp [evK] at h
structure Env where
 ora : OraB
 loops : FuncId → LoopB
 keep : FuncId → Nat → Option (List Tmp)
 fuel : Nat
def Zz (P : Program) (E : Env) : Nat → CallK
 | 0, _, _, _, _ => none
 | d + 1, f, args, m, K => match YY P E.ora m f args with
  | some t => t.run fun r => if r.under 0 0 then K r m else none
  | none => match P.funcs[f]? with
   | some fn => match fn.body with
    | some c => evK ⟨P, Zz P E d, YY P E.ora, E.loops f, E.keep f, E.fuel, m.boxes.length, m.gros.length⟩ c ⟨args ++ anys (fn.ntmps - args.length), m⟩ fun o st => match o with
     | .exit _ => none
     | _ => match ZP P st m.gros.length fn.results.toList fn.resultTypes.toList with
      | some l => match zao m st.mem (Yah l) with
       | some (r, m') => K r m'
       | none => none
      | none => none
    | none => none
   | none => none
def yC (P : Program) (f : FuncId) : Code := match P.funcs[f]? with
 | some fn => fn.body.getD .skip
 | none => .skip
structure EnvOk (P : Program) (E : Env) : Prop where
 plain : Plain P
 mixed : P.follows .mixedOrders = true
 ora : OraBOk P E.ora
 loops : ∀ f, LoopBOk P (E.loops f) (Zl (yC P f))
theorem zap {P : Program} {ora : OraB} (ho : OraBOk P ora) {m : Mem} {f : FuncId} {args : List AV} {r : AV} {t : Tr AV} (h : YY P ora m f args = some t) (hsel : t.sel = some r) (hrb : r.under 0 0 = true) {g : Gh} {w : World} {vs : List Value} (hr : Rel g m w) (ha : RepL g m w args vs) :
  Calls P f vs.toArray w fun e w' => ∃ v, e = .returned v ∧ Below w.heap.size w w' ∧ Rep g m w' r v := by
 unfold YY at h
 simp only at h
 split at h
 ·rename_i hb
  ·have hor := h
   ·have h1 := Xan (P := P) (ng := 0) (yaA P f) args vs ha
    have h2 : RepL ⟨w.heap.size, g.St m, [], []⟩ ⟨[], []⟩ w (XN P m 0 (yaA P f) args) vs := RepL.shift (nb := 0) (ng := 0) ⟨fun b o hb' hs => .inl ⟨hb', hs⟩, fun i hi => by omega, fun i hi => by omega⟩ _ _ hb h1
    refine (ho f _ t r hor hsel (g.St m) w vs hr.inv.out h2).mono ?_
    rintro e w' ⟨v, rfl, hB, hv⟩
    refine ⟨v, rfl, hB, Rep.shift (nb := 0) (ng := 0) ⟨fun b o hb' hs => ?_, fun i hi => by omega, fun i hi => by omega⟩ _ _ hrb hv⟩
    rcases hs with ⟨_, hs⟩ | ⟨hge, _⟩
    ·exact hs
    ·have hge : w.heap.size ≤ b := hge
     exact .inr ⟨Ybg hr.base hge, fun i hi => by have := (hr.box_lt hi).1; omega, fun i b' c sz L k1 k2 e => by subst e; have := (hr.gro_lt k1).1; omega⟩
 ·cases h
theorem ZaA {P : Program} (E : Env) (ok : EnvOk P E) : ∀ d, CallKOk P (Zz P E d)
 | 0 => fun f args m K b _ h => by simp [Zz] at h
 | d + 1 => fun f args m K b hb h => by
  have ih := ZaA (P := P) E ok d
  simp only [Zz] at h
  split at h
  ·rename_i t hk
   obtain ⟨r, hsel, h⟩ := Tr.run_ok h
   split at h
   case isFalse => cases h
   case isTrue hu =>
    refine ⟨r, m, fun g w vs hr ha => ?_, h⟩
    refine (zap ok.ora hk hsel hu hr ha).mono ?_
    rintro e w' ⟨v, rfl, hB, hv⟩
    exact ⟨v, g, rfl, hr.of_below hB, Ext.of_below hr hB, hv⟩
  ·split at h
   ·rename_i fn hfn
    split at h
    ·rename_i c hbody
     have hpure : PureBOk P (YY P E.ora) := fun m f args t v hb hk hsel g w vs hr ha => by
      refine (zap ok.ora hk hsel rfl hr ha).mono ?_
      rintro e w' ⟨u, rfl, hB, hv⟩
      simp only [Rep] at hv; subst hv
      exact ⟨rfl, hB⟩
     have hbo : yC P f = c := by unfold yC; rw [hfn]; simp [hbody]
     have hctx : CtxOk ⟨P, Zz P E d, YY P E.ora, E.loops f, E.keep f, E.fuel, m.boxes.length, m.gros.length⟩ (Zl c) := ⟨ok.plain, ok.mixed, ih, hpure, by have := ok.loops f; rwa [hbo] at this⟩
     obtain ⟨out, st, h1, h2⟩ := evK_ok hctx c (fun d hd => hd) _ _ h
     have fin : out ≠ .exit (match out with | .exit i => i | _ => 0) → ∃ l r m', ZP P st m.gros.length fn.results.toList fn.resultTypes.toList = some l ∧ zao m st.mem (Yah l) = some (r, m') ∧ K r m' = some b := fun hne => by
      have h2' : (match ZP P st m.gros.length fn.results.toList fn.resultTypes.toList with
        | some l => match zao m st.mem (Yah l) with
         | some (r, m') => K r m'
         | none => none
        | none => none) = some b := by
       cases out with
       | norm => exact h2
       | ret => exact h2
       | exit i => exact absurd rfl hne
      split at h2'
      ·rename_i l hl
       split at h2'
       ·rename_i r m' hf; exact ⟨l, r, m', hl, hf, h2'⟩
       ·cases h2'
      ·cases h2'
     have hout : out = .norm ∨ out = .ret := by
      cases out with
      | norm => exact .inl rfl
      | ret => exact .inr rfl
      | exit i => simp at h2
     obtain ⟨l, r, m', hres, hfi, hK⟩ := fin (by rcases hout with rfl | rfl <;> intro e <;> cases e)
     refine ⟨r, m', fun g w vs hr ha => ?_, hK⟩
     have hl : vs.length = args.length := ha.length
     have hs0 : SRel g ⟨args ++ anys (fn.ntmps - args.length), m⟩ w { tmps := vs.toArray ++ Array.replicate (fn.ntmps - vs.toArray.size) undef, defers := [] } := by
      refine ⟨hr, rfl, fun t x hx => ?_⟩
      have hx : (args ++ anys (fn.ntmps - args.length))[t]? = some x := hx
      rw [List.getElem?_append] at hx
      split at hx
      ·rename_i ht
       obtain ⟨v, k1, k2⟩ := ha.get t x hx
       refine ⟨v, ?_, k2⟩
       rw [Array.getElem?_append_left (by simp; omega)]
       simpa using k1
      ·rename_i ht
       obtain ⟨rfl, hlt⟩ := ZaX _ _ _ hx
       refine ⟨undef, ?_, by simp [Rep]⟩
       rw [Array.getElem?_append_right (by simp; omega)]
       have h1 : t - vs.toArray.size < fn.ntmps - vs.toArray.size := by simp only [Ybo, hl]; omega
       rw [Zbn (by simpa using h1)]; simp
     refine calls_of_wp hfn hbody (h1 ⟨g, m, w, Nat.le_of_eq hr.nb, Xbc _⟩ g w _ _ hs0 (Ext.refl _ _ _) ?_)
     intro g' w' a' k1 k2
     obtain ⟨v, j1, j2⟩ := xa9 (P := P) k1 hres
     obtain ⟨g'', j3, j4, j5⟩ := finish_ok hfi hr k1.rel k2 j2
     have hfin : a'.defers = [] ∧ ∃ v, (results fn a'.tmps).run P w' = .ok v w' ∧ ∃ u g', Ending.returned v = .returned u ∧ Rel g' m' w' ∧ Ext g m w g' m' w' ∧ Rep g' m' w' r u := ⟨k1.defers, v, j1, v, g'', rfl, j3, j4, j5⟩
     rcases hout with rfl | rfl
     ·exact hfin
     ·exact hfin
    ·cases h
   ·cases h
theorem YaY {P : Program} (E : Env) (ok : EnvOk P E) {d : Nat} {f : FuncId} {args : List AV} {r : AV} {m' : Mem} (hb : zv P f = true) (h : Zz P E d f args ⟨[], []⟩ (fun r m => some (r, m)) = some (r, m')) (hu : r.under 0 0 = true) : Good P f args r := by
 intro S w vs hI ha
 have hr : Rel ⟨w.heap.size, S, [], []⟩ ⟨[], []⟩ w := ⟨rfl, rfl, Xbc _, fun i b cs h => by simp at h, fun i b c sz L h => by simp at h, fun i j b h => by simp at h, fun i j b c c' h => by simp at h, fun i j b c h => by simp at h, Xa7 hI⟩
 obtain ⟨r', m'', h1, h2⟩ := ZaA E ok d f args _ _ _ hb h
 cases h2
 refine (h1 _ w vs hr ha).mono ?_
 rintro e w' ⟨v, g', rfl, k1, k2, k3⟩
 refine ⟨v, rfl, k2.below, Rep.shift (nb := 0) (ng := 0) ⟨fun b o hb' hs => ?_, fun i hi => by omega, fun i hi => by omega⟩ _ _ hu k3⟩
 rcases hs with ⟨h1, h2⟩ | ⟨h1, _⟩
 ·rw [k2.gbase] at h1; rw [k2.gS] at h2
  exact .inl ⟨h1, h2⟩
 ·rw [k2.gbase] at h1
  exact .inr ⟨h1, fun i hi => by simp at hi, fun i b' c sz L k => by simp at k⟩
def outAV : Out → AV
 | .norm => .any
 | .exit id => .ptr 0 id
 | .ret => .tup []
theorem outAV_inj {a b : Out} (h : outAV a = outAV b) : a = b := by
 cases a <;> cases b <;> simp [outAV] at h
 ·rfl
 ·rw [h]
 ·rfl
end Go.Ev
