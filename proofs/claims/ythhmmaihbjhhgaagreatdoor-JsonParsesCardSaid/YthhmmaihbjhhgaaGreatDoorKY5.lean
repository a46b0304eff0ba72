/- What the proof of chapter 8's laws, part 5, stands on: cut and merged by a program out of this session's texts. -/
import Derived.Test.YthhmmaihbjhhgaaGreatDoorKY4
import Derived.Lib.FrozenHead2
import Derived.Lib.OthersKept
import Derived.Lib.AppendZeros
set_option linter.unusedVariables false
set_option linter.unusedSimpArgs false
set_option linter.unusedSectionVars false
set_option maxHeartbeats 8000000
set_option maxRecDepth 100000
namespace Go.Proofs.NGiv
open Go.RowKit Go.Proofs.Wa Go.Proofs.Wb Go.Proofs.Wc
open Go.Proofs.NU1 Go.Proofs.NQ1 Go.Proofs.NJ0 Go.Proofs.NJ1
structure Level where
 g : Nat
 kind : Int
 kv : Value
 keys : List ByteArray
def kptr : Kd Nat := Kd.scalar (fun g => .pointer (some ⟨g, 0, none⟩)) (fun _ => rfl)
structure Sk (w0 W : World) (ov : Value) (lv : List Level) : Prop where
 row : Kd.R kptr 68 W w0.heap.size (fun _ => True) ov (lv.map (·.g))
 each : ∀ l ∈ lv, w0.heap.size ≤ l.g ∧ Lv W l.g l.kind l.kv ∧ Keys w0 W l.g l.kv l.keys
 apart : lv.Pairwise (fun a b => a.g ≠ b.g ∧ ∀ k, a.kv.ownBlock = some k → b.kv.ownBlock ≠ some k)
 below : Below w0.heap.size w0 W
theorem ZN {W : World} {i j : Nat} {c1 c2 : Array Value} {t1 t2 : TypeId} (h1 : W.heap[i]? = some (.cells c1 t1 (0, 0))) (h2 : W.heap[j]? = some (.cells c2 t2 (0, 0))) (ht : t1 ≠ t2) : i ≠ j := by
 rintro rfl
 rw [h1] at h2
 injection h2 with h2
 injection h2 with _ h2
 exact ht h2
theorem Sk.quiet {w0 W W' : World} {ov : Value} {lv : List Level} (h : Sk w0 W ov lv) (hb : Below W.heap.size W W') : Sk w0 W' ov lv :=
 ⟨Kd.R_below h.row hb, fun l hl => ⟨(h.each l hl).1, Zx (h.each l hl).2.1 hb, Kd.R_below (h.each l hl).2.2 hb⟩, h.apart, h.below.trans (hb.mono h.below.size)⟩
theorem Sk.take {w0 W : World} {A : Option Addr} {n c m : Nat} {lv : List Level} (h : Sk w0 W (.slice A n c) lv) (hm : m ≤ lv.length) : Sk w0 W (.slice A m c) (lv.take m) :=
 ⟨by rw [List.map_take]; exact Kd.R_take h.row (by rw [xbk]; exact hm), fun l hl => h.each l (List.mem_of_mem_take hl), h.apart.sublist (List.take_sublist m lv), h.below⟩
theorem Sk.top {w0 W W' : World} {ov : Value} {pre : List Level} {t : Level} {keys' : List ByteArray} (h : Sk w0 W ov (pre ++ [t])) (hl : LvLeft w0 W W' t.g t.kind t.kv keys') : ∃ kv', Sk w0 W' ov (pre ++ [⟨t.g, t.kind, kv', keys'⟩]) := by
 obtain ⟨⟨kv', hL, hK, hA⟩, hB, hkeep⟩ := hl
 have ht : t ∈ pre ++ [t] := xbs _ ybm
 obtain ⟨htg, htL, htK⟩ := h.each t ht
 have hap := List.pairwise_append.1 h.apart
 have hpre : ∀ l ∈ pre, l.g ≠ t.g ∧ ∀ k, l.kv.ownBlock = some k → t.kv.ownBlock ≠ some k := fun l hl => hap.2.2 l hl t ybm
 have hty : ∀ k, t.kv.ownBlock = some k → ∃ cells, W.heap[k]? = some (.cells cells 9 (0, 0)) := fun k hk => Kd.R_typed htK k hk
 refine ⟨kv', ?_, ?_, ?_, hB⟩
 ·have hm : (pre ++ [t]).map (·.g) = (pre ++ [(⟨t.g, t.kind, kv', keys'⟩ : Level)]).map (·.g) := by simp
  rw [← hm]
  refine Kd.R_mono (Kd.R_step (Kd.R_bound h.row) (fun k hk hlt => hkeep.2 k hlt ?_ ?_)) (fun _ _ => trivial)
  ·obtain ⟨_, _, _, q, hq, cells, hc⟩ := hk
   have hq2 : q = 68 := by simpa [kptr, Kd.scalar] using hq
   subst hq2
   exact ZN hc htL (by decide)
  ·intro e
   obtain ⟨_, _, _, q, hq, cells, hc⟩ := hk
   have hq2 : q = 68 := by simpa [kptr, Kd.scalar] using hq
   subst hq2
   obtain ⟨c2, hc2⟩ := hty k e.symm
   exact ZN hc hc2 (by decide) rfl
 ·intro l hl
  rcases Xbp.1 hl with hl | hl
  ·have hl2 := h.each l (Ybs _ hl)
   have hg2 := (hpre l hl).1
   have hgr : some l.g ≠ t.kv.ownBlock := by
    intro e
    obtain ⟨c2, hc2⟩ := hty l.g e.symm
    exact ZN hl2.2.1 hc2 (by decide) rfl
   refine ⟨hl2.1, (hkeep.2 l.g (Yg hl2.2.1) hg2 hgr).trans hl2.2.1, ?_⟩
   refine XS (Kd.R_step (XS hl2.2.2 (ok' := fun j => j ≠ l.g ∧ j ≠ t.g ∧ some j ≠ t.kv.ownBlock) (fun j hj hg => ⟨hg, ?_, fun e => (hpre l hl).2 j hj e.symm⟩)) (fun j hj hlt => hkeep.2 j hlt hj.2.1 hj.2.2)) (fun _ _ h => h.1)
   obtain ⟨c2, hc2⟩ := Kd.R_typed hl2.2.2 j hj
   exact ZN hc2 htL (by decide)
  ·obtain rfl := Zbm.1 hl
   exact ⟨htg, hL, hK⟩
 ·refine List.pairwise_append.2 ⟨hap.1, List.pairwise_singleton _ _, fun l hl b hb => ?_⟩
  obtain rfl := Zbm.1 hb
  refine ⟨(hpre l hl).1, fun k hk e => ?_⟩
  rcases hA with hA | ⟨b2, hA, hb2⟩
  ·exact (hpre l hl).2 k hk (hA ▸ e)
  ·have e2 : b2 = k := Option.some.inj (hA.symm.trans e)
   subst e2
   have := keys_lt (h.each l (Ybs _ hl)).2.2 hk
   omega
theorem Sk.more {w0 W W' : World} {ov ov' : Value} {lv : List Level} {g : Nat} {kind : Int} (h : Sk w0 W ov lv) (hg : W.heap[g]? = some (.cells #[.int .i64 kind, .slice none 0 0] 71 (0, 0))) (hg0 : w0.heap.size ≤ g) (hn : ∀ l ∈ lv, l.g ≠ g)
  (hR : Kd.R kptr 68 W' w0.heap.size (fun _ => True) ov' (lv.map (·.g) ++ [g])) (hB : Below w0.heap.size w0 W') (hG : W.grownBy W' ov.ownBlock) : Sk w0 W' ov' (lv ++ [⟨g, kind, .slice none 0 0, []⟩]) := by
 have hty : ∀ k, ov.ownBlock = some k → ∃ cells, W.heap[k]? = some (.cells cells 68 (0, 0)) := fun k hk => Kd.R_typed h.row k hk
 have far : ∀ {k : Nat} {c : Array Value} {q : TypeId}, W.heap[k]? = some (.cells c q (0, 0)) → q ≠ 68 → some k ≠ ov.ownBlock := by
  intro k c q hk hq e
  obtain ⟨c2, hc2⟩ := hty k e.symm
  exact ZN hk hc2 hq rfl
 refine ⟨by rw [xbq]; exact hR, ?_, ?_, hB⟩
 ·intro l hl
  rcases Xbp.1 hl with hl | hl
  ·have hl2 := h.each l hl
   refine ⟨hl2.1, XB hl2.2.1 hG (far hl2.2.1 (by decide)), ?_⟩
   refine XS (Kd.R_grown (XS hl2.2.2 (ok' := fun j => j ≠ l.g ∧ some j ≠ ov.ownBlock) (fun j hj hg => ⟨hg, ?_⟩)) hG (fun _ h => h.2)) (fun _ _ h => h.1)
   obtain ⟨c2, hc2⟩ := Kd.R_typed hl2.2.2 j hj
   exact far hc2 (by decide)
  ·obtain rfl := Zbm.1 hl
   exact ⟨hg0, XB hg hG (far hg (by decide)), Kd.R_nil _ _ _ _ _⟩
 ·refine List.pairwise_append.2 ⟨h.apart, List.pairwise_singleton _ _, fun l hl b hb => ?_⟩
  obtain rfl := Zbm.1 hb
  exact ⟨hn l hl, fun k _ e => by simp [Value.ownBlock] at e⟩
theorem Sk.form {w0 W : World} {ov : Value} {lv : List Level} (h : Sk w0 W ov lv) (hp : 0 < lv.length) : ∃ G c, ov = .slice (some ⟨G, 0, none⟩) lv.length c ∧ lv.length ≤ c := by
 obtain ⟨G, c, e, _⟩ := Kd.R_form h.row (by rw [xbk]; exact hp)
 rw [xbk] at e
 subst e
 exact ⟨G, c, rfl, (Kd.R_reads' h.row).2.1⟩
theorem Sk.cell {w0 W : World} {G n c : Nat} {lv : List Level} (h : Sk w0 W (.slice (some ⟨G, 0, none⟩) n c) lv) (d : Nat) (l : Level) (hd : lv[d]? = some l) : W.cell? ⟨G, d, none⟩ = some (.pointer (some ⟨l.g, 0, none⟩)) := by
 obtain ⟨hlt, hg⟩ := xbe.1 hd
 have hn := (Kd.R_reads' h.row).1
 subst hn
 have := (Kd.R_cell 0 h.row (d : Int) (by omega) (by rw [xbk]; omega)).1
 simp only [Ybd] at this
 rw [this, rdOf]
 simp [List.getD, Xbn, hd]
theorem XV (w : World) (o1 o2 : Obj) : ((w.alloc o1).alloc o2).heap[w.heap.size + 1]? = some o2 := by
 have := ybi (w.alloc o1) o2
 simpa using this
theorem bare5 (x : S40) (w : World) (h5 : x.f1 = 5) : Calls Tryz.prog 29 #[Yh x] w fun e w' => e = .returned (Yh ⟨x.f0, x.f1, x.f2, x.f3, 0⟩) ∧ Below w.heap.size w w' := by
 have hu40 := Tryz.underlying40
 have c1 : (x.f1 == 5) = true := Ybf.mpr h5
 clear h5
 unfold Yh
 go_enter Tryz.func29, Tryz.ntmps29
 go_wp2_with fail
 refine bodyPost_ret (results_cell_row rfl _ _ (w.heap.size + 1) 40 #[.int .i64 x.f0, .int .i64 x.f1, .string x.f2, .string x.f3, .int .i64 0] (0, 0) _ rfl ?_ Tryz.underlying40 rfl (by kernel_rfl)) rfl ?_
 ·exact Z7 (XV _ _ _) _
 exact ⟨rfl, ((Za (ybd _ _) _).alloc (by simp) _).alloc (by simp; omega) _⟩
theorem bare4 (x : S40) (w : World) (h4 : x.f1 = 4) : Calls Tryz.prog 29 #[Yh x] w fun e w' => e = .returned (Yh ⟨x.f0, x.f1, x.f2, ⟨#[]⟩, x.f4⟩) ∧ Below w.heap.size w w' := by
 have hu40 := Tryz.underlying40
 have c1 : (x.f1 == 5) = false := by rw [h4]; rfl
 have c2 : (x.f1 == 4) = true := Ybf.mpr h4
 clear h4
 unfold Yh
 go_enter Tryz.func29, Tryz.ntmps29
 go_wp2_with fail
 refine bodyPost_ret (results_cell_row rfl _ _ (w.heap.size + 1) 40 #[.int .i64 x.f0, .int .i64 x.f1, .string x.f2, .string ⟨#[]⟩, .int .i64 x.f4] (0, 0) _ rfl ?_ Tryz.underlying40 rfl (by kernel_rfl)) rfl ?_
 ·exact Z7 (XV _ _ _) _
 exact ⟨rfl, ((Za (ybd _ _) _).alloc (by simp) _).alloc (by simp; omega) _⟩
theorem bare0 (x : S40) (w : World) (h5 : x.f1 ≠ 5) (h4 : x.f1 ≠ 4) : Calls Tryz.prog 29 #[Yh x] w fun e w' => e = .returned (Yh ⟨x.f0, x.f1, x.f2, ⟨#[]⟩, 0⟩) ∧ Below w.heap.size w w' := by
 have hu40 := Tryz.underlying40
 have c1 : (x.f1 == 5) = false := Ybb.mpr h5
 have c2 : (x.f1 == 4) = false := Ybb.mpr h4
 clear h4 h5
 unfold Yh
 go_enter Tryz.func29, Tryz.ntmps29
 go_wp2_with fail
 refine bodyPost_ret (results_cell_row rfl _ _ (w.heap.size + 1) 40 #[.int .i64 x.f0, .int .i64 x.f1, .string x.f2, .string ⟨#[]⟩, .int .i64 0] (0, 0) _ rfl ?_ Tryz.underlying40 rfl (by kernel_rfl)) rfl ?_
 ·exact Z7 (XV _ _ _) _
 exact ⟨rfl, ((Za (ybd _ _) _).alloc (by simp) _).alloc (by simp; omega) _⟩
def X0 (x : S40) : S40 := if x.f1 = 5 then ⟨x.f0, x.f1, x.f2, x.f3, 0⟩ else if x.f1 = 4 then ⟨x.f0, x.f1, x.f2, ⟨#[]⟩, x.f4⟩ else ⟨x.f0, x.f1, x.f2, ⟨#[]⟩, 0⟩
theorem Zaf (x : S40) (w : World) : Calls Tryz.prog 29 #[Yh x] w fun e w' => e = .returned (Yh (X0 x)) ∧ Below w.heap.size w w' := by
 unfold X0
 split
 ·next h => exact bare5 x w h
 ·split
  ·next h => exact bare4 x w h
  ·next h1 h2 => exact bare0 x w h1 h2
theorem ZK (x : S40) (w : World) : Calls Tryz.prog 32 #[Yh x] w fun e w' => e = .returned (.bool (x.f1 == 6 || x.f1 == 7)) ∧ Below w.heap.size w w' := by
 have hu40 := Tryz.underlying40
 unfold Yh
 cases h6 : (x.f1 == 6) <;>
 ·go_enter Tryz.func32, Tryz.ntmps32
  go_wp2_with fail
  go_ret
  exact ⟨rfl, Za (ybd _ _) _⟩
def yX (x y : S40) : Bool := x.f0 == y.f0 && (x.f1 == y.f1 && (x.f2.toList == y.f2.toList && (x.f3.toList == y.f3.toList && x.f4 == y.f4)))
theorem eqA40 (d : Nat) (w : World) (x y : S40) : (Op.equalIn (d + 2) 40 (Yh x) (Yh y)).run Tryz.prog w = .ok (yX x y) w := by
 unfold Yh yX
 refine eqA_of Tryz.underlying40 (by kernel_rfl) ?_
 refine xM (by rfl) (by go_simp; rfl) (by go_simp; rfl) (by go_simp) ?_
 refine xM (by rfl) (by go_simp; rfl) (by go_simp; rfl) (by go_simp) ?_
 refine xM (by rfl) (by go_simp; rfl) (by go_simp; rfl) (by go_simp) ?_
 refine xM (by rfl) (by go_simp; rfl) (by go_simp; rfl) (by go_simp) ?_
 exact zaS (by rfl) (by go_simp; rfl) (by go_simp; rfl) (by go_simp)
theorem neq40 (w : World) (x y : S40) : (binOp .neq 40 (Yh x) (Yh y)).run Tryz.prog w = .ok (.bool (!(yX x y))) w := by
 have h := eqA40 9998 w x y
 unfold Yh at h ⊢
 rw [run_neq_struct, h]; rfl
abbrev LvS := Int × List ByteArray
def zal (x : S40) : Bool := x.f1 == 6 || x.f1 == 7
def rightF : Bool → List LvS → List S40 → Option Bool
 | _, _, [] => some true
 | fst, open_, x :: l =>
  if x.f0 < 0 ∨ (open_.length : Int) ≤ x.f0 ∨ (x.f0 == 0) != fst then some false
  else if x.f1 < 1 ∨ 7 < x.f1 ∨ yX x (X0 x) = false then some false
  else (zo.f x.f3).bind fun v3 => if v3 = false then some false
  else (YV (open_.getD x.f0.toNat (0, [])).1 (open_.getD x.f0.toNat (0, [])).2 x).bind fun r => if r.1 = false then some false
  else if zal x = true then (if 64 ≤ x.f0 then some false else rightF false (open_.take x.f0.toNat ++ [((open_.getD x.f0.toNat (0, [])).1, r.2), (x.f1, [])]) l)
  else rightF false (open_.take x.f0.toNat ++ [((open_.getD x.f0.toNat (0, [])).1, r.2)]) l
theorem zy {W W' : World} {b : Nat} {x : S40} (h : Itm W b x) (hb : Below W.heap.size W W') : Itm W' b x := (hb.block b (Yg h)).trans h
theorem R_oneRow {α : Type} {enc : α → Value} {h1 : ∀ x, (enc x).oneCell' = true} (W : World) (e base : Nat) (ok : Nat → Prop) (x : α) (hb : base ≤ W.heap.size) (hok : ok W.heap.size) : (Kd.scalar enc h1).R e (W.alloc (.cells #[enc x] e)) base ok (.slice (some ⟨W.heap.size, 0, none⟩) 1 1) [x] := by
 refine ⟨fun k hk => ?_, [enc x], ?_, ⟨rfl, fun j p hj => ?_⟩⟩
 ·have : W.heap.size = k := by simpa [Value.ownBlock] using hk
  subst this; exact hok
 ·have h2 := World.ownsRow_lit (base := base) (e := e) (size := 1) W #[enc x] 1 hb (by simp [maxLen]) (by simp)
  show World.ownsRow _ base e 1 _ 1 _
  simpa using h2
 ·cases j with
  | zero => simp at hj; subst hj; rfl
  | succ j => simp at hj
theorem Sk.one (w : World) : Sk w ((w.alloc (.cells #[.int .i64 6, .slice none 0 0] 71)).alloc (.cells #[.pointer (some ⟨w.heap.size, 0, none⟩)] 68)) (.slice (some ⟨w.heap.size + 1, 0, none⟩) 1 1) [⟨w.heap.size, 6, .slice none 0 0, []⟩] := by
 refine ⟨?_, ?_, List.pairwise_singleton _ _, (Za (ybd _ _) _).alloc (by simp) _⟩
 ·have h : Kd.R kptr 68 _ w.heap.size (fun _ => True) _ [w.heap.size] := R_oneRow (w.alloc (.cells #[.int .i64 6, .slice none 0 0] 71)) 68 w.heap.size (fun _ => True) w.heap.size (by simp) trivial
  have e : (w.alloc (.cells #[.int .i64 6, .slice none 0 0] 71)).heap.size = w.heap.size + 1 := by simp
  rw [e] at h
  exact h
 ·intro l hl
  obtain rfl := Zbm.1 hl
  exact ⟨Xbc _, Z7 (ybi _ _) _, Kd.R_nil _ _ _ _ _⟩
theorem guard_not {f n : Int} {b : Bool} (h : ¬ (f < 0 ∨ n ≤ f ∨ ((f == 0) != b) = true)) : ¬ f < 0 ∧ f < n ∧ (f == 0) = b := by
 refine ⟨fun x => h (.inl x), by omega, ?_⟩
 cases ha : (f == 0) <;> rw [ha] at h <;> cases b <;> first | rfl | exact absurd (.inr (.inr rfl)) h
theorem guard_yes {f n : Int} {b : Bool} (h : f < 0 ∨ n ≤ f ∨ ((f == 0) != b) = true) : f < 0 ∨ (¬ f < 0 ∧ n ≤ f) ∨ (¬ f < 0 ∧ ¬ n ≤ f ∧ (((f == 0) = true ∧ b = false) ∨ ((f == 0) = false ∧ b = true))) := by
 by_cases a : f < 0
 ·exact .inl a
 ·by_cases c : n ≤ f
  ·exact .inr (.inl ⟨a, c⟩)
  ·refine .inr (.inr ⟨a, c, ?_⟩)
   rcases h with h | h | h
   ·exact absurd h a
   ·exact absurd h c
   ·cases ha : (f == 0) <;> rw [ha] at h <;> cases b <;> first | exact absurd h (by decide) | exact .inl ⟨rfl, rfl⟩ | exact .inr ⟨rfl, rfl⟩
theorem zaW (l : List S40) (j : Nat) (h : j < l.length) : l.drop j = zE l (j : Int) :: l.drop (j + 1) := by
 rw [Xbo h]
 congr 1
 simp [zE, List.getD, h]
theorem Yaf (w : World) (o : Obj) : (w.alloc o).heap.size = w.heap.size + 1 := by simp
theorem info82 : (Tryz.prog.info? 68).map (fun i => (i.zero, i.size, i.bytes)) = some (some (.pointer none), 1, 8) := by kernel_rfl
theorem Sk.push {w0 W W' : World} {ov ov' : Value} {lv : List Level} (h : Sk w0 W ov lv) (k : Int) (hR : Kd.R kptr 68 W' w0.heap.size (fun _ => True) ov' (lv.map (·.g) ++ [W.heap.size])) (hB : Below w0.heap.size w0 W') (hG : (W.alloc (.cells #[.int .i64 k, .slice none 0 0] 71)).grownBy W' ov.ownBlock) : Sk w0 W' ov' (lv ++ [⟨W.heap.size, k, .slice none 0 0, []⟩]) :=
 (h.quiet (Za (ybd _ _) _)).more (ybi _ _) h.below.size (fun l hl e => by have := Yg (h.each l hl).2.1; omega) hR hB hG
theorem yaW {w0 W W' : World} {ov : Value} {lv : List Level} {b : Nat} {x : S40} {o : Obj} (h : Sk w0 W ov lv) (hI : Itm W b x) (hG : (W.alloc o).grownBy W' ov.ownBlock) : Itm W' b x := by
 refine XB (zy hI (Za (ybd _ _) o)) hG (fun e => ?_)
 obtain ⟨c2, hc2⟩ := Kd.R_typed h.row b e.symm
 exact ZN hI hc2 (by decide) rfl
theorem Xf {w' : World} {b : Nat} {x : S40} (h : Itm w' b x) : w'.cell? ⟨b, 0, none⟩ = some (.int .i64 x.f0) ∧ w'.cell? ⟨b, 1, none⟩ = some (.int .i64 x.f1) ∧ w'.cell? ⟨b, 2, none⟩ = some (.string x.f2) ∧ w'.cell? ⟨b, 3, none⟩ = some (.string x.f3) ∧ w'.cell? ⟨b, 4, none⟩ = some (.int .i64 x.f4) :=
 ⟨(zb h 0).trans rfl, (zb h 1).trans rfl, (zb h 2).trans rfl, (zb h 3).trans rfl, (zb h 4).trans rfl⟩
theorem itm_left {w0 W W' : World} {b g : Nat} {kind : Int} {kv : Value} {keys keys' : List ByteArray} {x : S40} (h : Itm W b x) (hL : Lv W g kind kv ∧ Keys w0 W g kv keys) (hk : LvLeft w0 W W' g kind kv keys') : Itm W' b x := by
 refine (hk.keep.2 b (Yg h) (ZN h hL.1 (by decide)) (fun e => ?_)).trans h
 obtain ⟨c2, hc2⟩ := Kd.R_typed hL.2 b e.symm
 exact ZN h hc2 (by decide) rfl
theorem Yaz (w : World) (x y : S40) (p q : Operand) (r s : Bool) (h : yX x y = r) (hs : (!r) = s) : (((eqGuard .neq 40 p q (Yh x) (Yh y)).run Tryz.prog w).andThen fun _ w' => ((binOp .neq 40 (Yh x) (Yh y)).run Tryz.prog w').andThen fun a w' => Result.ok (Next.value a) w') = Result.ok (Next.value (.bool s)) w := by
 have hg : (eqGuard .neq 40 p q (Yh x) (Yh y)).run Tryz.prog w = .ok () w := by
  unfold Yh
  exact run_eqGuard_agg w .neq 40 p q _ _ (by kernel_rfl)
 rw [hg, xbi, neq40, xbi, h, hs]
theorem Sk.drew {w0 W : World} {ov : Value} {lv : List Level} (h : Sk w0 W ov lv) : Sk w0 W.drew ov lv := h.quiet (Xa (ybd _ _))
theorem s8 {w w' : World} {b G d cc : Nat} {x : S40} {pre : List Level} {t : Level} (h : Itm w' b x ∧ Sk w w' (.slice (some ⟨G, 0, none⟩) (d + 1) cc) (pre.take d ++ [t])) : w'.cell? ⟨b, 0, none⟩ = some (.int .i64 x.f0) ∧ w'.cell? ⟨b, 1, none⟩ = some (.int .i64 x.f1) ∧ w'.cell? ⟨b, 2, none⟩ = some (.string x.f2) ∧ w'.cell? ⟨b, 3, none⟩ = some (.string x.f3) ∧ w'.cell? ⟨b, 4, none⟩ = some (.int .i64 x.f4) ∧ w'.cell? ⟨G, d, none⟩ = some (.pointer (some ⟨t.g, 0, none⟩)) := by
 have hn : d + 1 = (pre.take d ++ [t]).length := by have := (Kd.R_reads' h.2.row).1; simpa using this
 refine ⟨(zb h.1 0).trans rfl, (zb h.1 1).trans rfl, (zb h.1 2).trans rfl, (zb h.1 3).trans rfl, (zb h.1 4).trans rfl, h.2.cell d t ?_⟩
 have h2 : (pre.take d).length = d := by simp only [Xbb, Xbh] at hn; omega
 rw [Zbp (by omega), h2, Nat.sub_self]; rfl
theorem Xa6 (w : World) (A : Option Addr) (c : Nat) (l : List S40) (r : Bool) (hC : Kd.C k40 w A l.length l) (hc : l.length ≤ c) (hl : l.length * 56 ≤ 140737488355328) (ht : Tabs w) (h : rightF true [(6, [])] l = some r) :
  Calls Tryz.prog 15 #[.slice A l.length c] w fun e w' => e = .returned (.bool (r && decide (0 < l.length))) ∧ Below w.heap.size w w' := by
 have HC := Aside0.mk hC
 have HT := Aside0.mk ht
 have HF := Aside0.mk h
 have HL := Aside0.mk hl
 have HCC := Aside0.mk hc
 clear hC ht h hl hc
 go_enter Tryz.func15, Tryz.ntmps15
 go_wp2_with fail
 obtain ⟨w2, hw2⟩ : ∃ w2, (w.alloc (.cells #[.int .i64 6, .slice none 0 0] 71)).alloc (.cells #[.pointer (some ⟨w.heap.size, 0, none⟩)] 68) = w2 := ⟨_, rfl⟩
 have HS0 : Aside0 (Sk w w2 (.slice (some ⟨w.heap.size + 1, 0, none⟩) 1 1) [⟨w.heap.size, 6, .slice none 0 0, []⟩]) := ⟨hw2 ▸ Sk.one w⟩
 rw [hw2]
 clear hw2
 obtain ⟨v3, hv3⟩ : ∃ v3, Value.slice (some ⟨w.heap.size + 1, 0, none⟩) 1 1 = v3 := ⟨_, rfl⟩
 rw [hv3] at HS0
 rw [hv3]
 clear hv3
 go_loopg [3, 11] l.length (fun kq v3 v11 wr => ∃ (j : Nat) (lv : List Level), kq = l.length - j ∧ j ≤ l.length ∧ v11 = .int .i64 (j : Int) ∧ Aside0 (Sk w wr v3 lv) ∧ Aside0 (rightF (j == 0) (lv.map fun y => (y.kind, y.keys)) (l.drop j) = some r) ∧ Aside0 (1 ≤ lv.length ∧ lv.length ≤ 65))
 case atStart => exact ⟨0, _, rfl, Ybm _, rfl, HS0, HF, ⟨Xbc 1, (by decide : (1 : Nat) ≤ 65)⟩⟩
 case round =>
  clear HF HS0
  obtain ⟨j, lv, hkq, hjl, rfl, HS, HF, HLn⟩ := hrel
  by_cases hlt : j < l.length
  ·obtain ⟨ad, hA, a0, a1, a2, a3, a4⟩ := Xab (Kd.C_below HC.out HS.out.below) (j : Int) (by omega) (by omega)
   subst hA
   have HX := Aside0.mk (zaW l j hlt)
   obtain ⟨⟨f0, f1, f2, f3, f4⟩, hx⟩ : ∃ x, zE l (j : Int) = x := ⟨_, rfl⟩
   rw [hx] at a0 a1 a2 a3 a4 HX
   simp only [Ybd] at a0 a1 a2 a3 a4
   clear hx
   have hF := HF.out
   rw [HX.out, rightF] at hF
   simp only [xbk] at hF
   obtain ⟨hn1, hn65⟩ := HLn.out
   obtain ⟨G, cc, rfl, hcc⟩ := HS.out.form hn1
   clear HF
   have hgl : j < 9223372036854775807 := by have := HL.out; omega
   by_cases e1 : f0 < 0 ∨ (lv.length : Int) ≤ f0 ∨ ((f0 == 0) != (j == 0)) = true
   ·rw [if_pos e1] at hF
    have HR := Aside0.mk (Option.some.inj hF)
    clear hF
    have hej : ((j : Int) == 0) = (j == 0) := by rw [Bool.eq_iff_iff]; simp
    rcases guard_yes e1 with e1 | ⟨e0, e1⟩ | ⟨e0, e1, ⟨e2, e3⟩ | ⟨e2, e3⟩⟩
    ·go_wp2_with fail
     go_ret
     exact ⟨by rw [← HR.out]; rfl, HS.out.below.alloc (by have := HS.out.below.size; omega) _⟩
    ·go_wp2_with fail
     go_ret
     exact ⟨by rw [← HR.out]; rfl, HS.out.below.alloc (by have := HS.out.below.size; omega) _⟩
    ·rw [e3] at hej
     clear e3
     go_wp2_with fail
     go_ret
     exact ⟨by rw [← HR.out]; rfl, HS.out.below.alloc (by have := HS.out.below.size; omega) _⟩
    ·rw [e3] at hej
     clear e3
     go_wp2_with fail
     go_ret
     exact ⟨by rw [← HR.out]; rfl, HS.out.below.alloc (by have := HS.out.below.size; omega) _⟩
   ·rw [if_neg e1] at hF
    obtain ⟨h1, h2, h3⟩ : ¬ f0 < 0 ∧ f0 < (lv.length : Int) ∧ (f0 == 0) = (j == 0) := guard_not e1
    clear e1
    obtain ⟨d, rfl⟩ : ∃ d : Nat, f0 = d := ⟨f0.toNat, by omega⟩
    have hdl : d < lv.length := by omega
    have hej : ((j : Int) == 0) = ((d : Int) == 0) := by rw [h3, Bool.eq_iff_iff]; simp
    clear h1 h2
    obtain ⟨t, htd⟩ : ∃ t, lv[d]? = some t := ⟨_, zbf hdl⟩
    have htk : lv.take (d + 1) = lv.take d ++ [t] := by rw [List.take_add_one, htd]; rfl
    go_wp2_with fail
    have HI : Aside0 (Itm (wr.alloc (.cells #[.int .i64 (d : Int), .int .i64 f1, .string f2, .string f3, .int .i64 f4] 40)) wr.heap.size ⟨(d : Int), f1, f2, f3, f4⟩) := ⟨ybi _ _⟩
    have HS3 : Aside0 (Sk w (wr.alloc (.cells #[.int .i64 (d : Int), .int .i64 f1, .string f2, .string f3, .int .i64 f4] 40)) (.slice (some ⟨G, 0, none⟩) (d + 1) cc) (lv.take d ++ [t])) := ⟨htk ▸ (HS.out.quiet (Za (ybd _ _) _)).take hdl⟩
    obtain ⟨b, hb⟩ : ∃ b, wr.heap.size = b := ⟨_, rfl⟩
    rw [hb] at HI
    rw [hb]
    generalize wr.alloc (.cells #[.int .i64 (d : Int), .int .i64 f1, .string f2, .string f3, .int .i64 f4] 40) = w3 at HI HS3 ⊢
    have HB := Aside0.mk hb
    clear hb htk
    simp only [zbe, Xbn, Ybd, htd, xbo, ybt, ← List.map_take] at hF
    have HTD := Aside0.mk htd
    clear htd
    by_cases k1 : f1 < 1
    ·rw [if_pos (Or.inl k1)] at hF
     have HR := Aside0.mk (Option.some.inj hF)
     clear hF
     refine wp_region_held_drew (S := fun w' => Itm w' b ⟨(d : Int), f1, f2, f3, f4⟩ ∧ Sk w w' (.slice (some ⟨G, 0, none⟩) (d + 1) cc) (lv.take d ++ [t])) (by kernel_rfl) ⟨HI.out, HS3.out.drew⟩ (fun hHeld => ?_)
     refine tA 0 39 (v := ?_) rfl (.inl ⟨by rfl, ?_⟩) ?_
     rotate_left
     ·intro w hSw
      (try dsimp only at hSw)
      have hm := s8 hSw
      obtain ⟨hm0, hm1, hm2, hm3, hm4, hmG⟩ := hm
      clear hSw
      go_simp
      (try with_reducible rfl)
     (try simp only [Act.put, qA, qB, qC])
     refine tA 1 40 (v := ?_) rfl (.inl ⟨by rfl, ?_⟩) ?_
     rotate_left
     ·intro w hSw
      (try dsimp only at hSw)
      have hm := s8 hSw
      obtain ⟨hm0, hm1, hm2, hm3, hm4, hmG⟩ := hm
      clear hSw
      go_simp
      (try with_reducible rfl)
     (try simp only [Act.put, qA, qB, qC])
     refine tA 2 41 (v := ?_) rfl (.inl ⟨by rfl, ?_⟩) ?_
     rotate_left
     ·intro w hSw
      (try dsimp only at hSw)
      have hm := s8 hSw
      obtain ⟨hm0, hm1, hm2, hm3, hm4, hmG⟩ := hm
      clear hSw
      go_simp
      (try with_reducible rfl)
     (try simp only [Act.put, qA, qB, qC])
     refine tA 3 42 (v := ?_) rfl (.inl ⟨by rfl, ?_⟩) ?_
     rotate_left
     ·intro w hSw
      (try dsimp only at hSw)
      have hm := s8 hSw
      obtain ⟨hm0, hm1, hm2, hm3, hm4, hmG⟩ := hm
      clear hSw
      go_simp
      (try with_reducible rfl)
     (try simp only [Act.put, qA, qB, qC])
     refine tA 4 43 (v := undef) rfl (.inr ⟨by rfl, rfl⟩) ?_
     (try simp only [Act.put, qA, qB, qC])
     refine tA 5 44 (v := undef) rfl (.inr ⟨by rfl, rfl⟩) ?_
     (try simp only [Act.put, qA, qB, qC])
     refine tA 6 45 (v := undef) rfl (.inr ⟨by rfl, rfl⟩) ?_
     (try simp only [Act.put, qA, qB, qC])
     refine tA 7 46 (v := ?_) rfl (.inl ⟨by rfl, ?_⟩) ?_
     rotate_left
     ·intro w hSw
      (try dsimp only at hSw)
      have hm := s8 hSw
      obtain ⟨hm0, hm1, hm2, hm3, hm4, hmG⟩ := hm
      clear hSw
      go_simp
      (try with_reducible rfl)
     (try simp only [Act.put, qA, qB, qC])
     refine tA 8 47 (v := ?_) rfl (.inl ⟨by rfl, ?_⟩) ?_
     rotate_left
     ·intro w hSw
      (try dsimp only at hSw)
      have hm := s8 hSw
      obtain ⟨hm0, hm1, hm2, hm3, hm4, hmG⟩ := hm
      clear hSw
      go_simp
      (try with_reducible rfl)
     (try simp only [Act.put, qA, qB, qC])
     refine tA 9 48 (v := undef) rfl (.inr ⟨by rfl, rfl⟩) ?_
     (try simp only [Act.put, qA, qB, qC])
     refine tA 10 49 (v := undef) rfl (.inr ⟨by rfl, rfl⟩) ?_
     (try simp only [Act.put, qA, qB, qC])
     refine tA 11 50 (v := undef) rfl (.inr ⟨by rfl, rfl⟩) ?_
     (try simp only [Act.put, qA, qB, qC])
     refine tA 12 51 (v := undef) rfl (.inr ⟨by rfl, rfl⟩) ?_
     (try simp only [Act.put, qA, qB, qC])
     refine tA 13 52 (v := ?_) rfl (.inl ⟨by rfl, ?_⟩) ?_
     rotate_left
     ·intro w hSw
      (try dsimp only at hSw)
      have hm := s8 hSw
      obtain ⟨hm0, hm1, hm2, hm3, hm4, hmG⟩ := hm
      clear hSw
      go_simp
      (try with_reducible rfl)
     (try simp only [Act.put, qA, qB, qC])
     refine tA 14 53 (v := ?_) rfl (.inl ⟨by rfl, ?_⟩) ?_
     rotate_left
     ·intro w hSw
      (try dsimp only at hSw)
      have hm := s8 hSw
      obtain ⟨hm0, hm1, hm2, hm3, hm4, hmG⟩ := hm
      clear hSw
      go_simp
      (try with_reducible rfl)
     (try simp only [Act.put, qA, qB, qC])
     refine tA 15 54 (v := undef) rfl (.inr ⟨by rfl, rfl⟩) ?_
     (try simp only [Act.put, qA, qB, qC])
     refine tA 16 55 (v := undef) rfl (.inr ⟨by rfl, rfl⟩) ?_
     (try simp only [Act.put, qA, qB, qC])
     refine tA 17 56 (v := undef) rfl (.inr ⟨by rfl, rfl⟩) ?_
     (try simp only [Act.put, qA, qB, qC])
     refine tA 18 57 (v := undef) rfl (.inr ⟨by rfl, rfl⟩) ?_
     (try simp only [Act.put, qA, qB, qC])
     refine tA 19 58 (v := ?_) rfl (.inl ⟨by rfl, ?_⟩) ?_
     rotate_left
     ·intro w hSw
      (try dsimp only at hSw)
      have hm := s8 hSw
      obtain ⟨hm0, hm1, hm2, hm3, hm4, hmG⟩ := hm
      clear hSw
      go_simp
      (try with_reducible rfl)
     (try simp only [Act.put, qA, qB, qC])
     refine tA 20 59 (v := ?_) rfl (.inl ⟨by rfl, ?_⟩) ?_
     rotate_left
     ·intro w hSw
      (try dsimp only at hSw)
      have hm := s8 hSw
      obtain ⟨hm0, hm1, hm2, hm3, hm4, hmG⟩ := hm
      clear hSw
      go_simp
      (try with_reducible rfl)
     (try simp only [Act.put, qA, qB, qC])
     refine tA 21 60 (v := undef) rfl (.inr ⟨by rfl, rfl⟩) ?_
     (try simp only [Act.put, qA, qB, qC])
     refine tA 22 61 (v := undef) rfl (.inr ⟨by rfl, rfl⟩) ?_
     (try simp only [Act.put, qA, qB, qC])
     refine tA 23 62 (v := undef) rfl (.inr ⟨by rfl, rfl⟩) ?_
     (try simp only [Act.put, qA, qB, qC])
     refine tA 24 63 (v := undef) rfl (.inr ⟨by rfl, rfl⟩) ?_
     (try simp only [Act.put, qA, qB, qC])
     refine tA 25 64 (v := undef) rfl (.inr ⟨by rfl, rfl⟩) ?_
     (try simp only [Act.put, qA, qB, qC])
     refine tA 26 65 (v := undef) rfl (.inr ⟨by rfl, rfl⟩) ?_
     (try simp only [Act.put, qA, qB, qC])
     refine tA 27 66 (v := undef) rfl (.inr ⟨by rfl, rfl⟩) ?_
     (try simp only [Act.put, qA, qB, qC])
     refine tA 28 67 (v := undef) rfl (.inr ⟨by rfl, rfl⟩) ?_
     (try simp only [Act.put, qA, qB, qC])
     refine tA 29 68 (v := ?_) rfl (.inl ⟨by rfl, ?_⟩) ?_
     rotate_left
     ·intro w hSw
      (try dsimp only at hSw)
      have hm := s8 hSw
      obtain ⟨hm0, hm1, hm2, hm3, hm4, hmG⟩ := hm
      clear hSw
      go_simp
      (try with_reducible rfl)
     (try simp only [Act.put, qA, qB, qC])
     refine wpAnyH_done (by kernel_rfl) ?_ _
     have HE := Aside0.mk hHeld
     clear hHeld
     go_wp2_with fail
     go_ret
     exact ⟨by rw [← HR.out]; rfl, HE.out.2.below⟩
    ·by_cases k2 : 7 < f1
     ·rw [if_pos (Or.inr (Or.inl k2))] at hF
      have HR := Aside0.mk (Option.some.inj hF)
      clear hF
      refine wp_region_held_drew (S := fun w' => Itm w' b ⟨(d : Int), f1, f2, f3, f4⟩ ∧ Sk w w' (.slice (some ⟨G, 0, none⟩) (d + 1) cc) (lv.take d ++ [t])) (by kernel_rfl) ⟨HI.out, HS3.out.drew⟩ (fun hHeld => ?_)
      refine tA 0 39 (v := ?_) rfl (.inl ⟨by rfl, ?_⟩) ?_
      rotate_left
      ·intro w hSw
       (try dsimp only at hSw)
       have hm := s8 hSw
       obtain ⟨hm0, hm1, hm2, hm3, hm4, hmG⟩ := hm
       clear hSw
       go_simp
       (try with_reducible rfl)
      (try simp only [Act.put, qA, qB, qC])
      refine tA 1 40 (v := ?_) rfl (.inl ⟨by rfl, ?_⟩) ?_
      rotate_left
      ·intro w hSw
       (try dsimp only at hSw)
       have hm := s8 hSw
       obtain ⟨hm0, hm1, hm2, hm3, hm4, hmG⟩ := hm
       clear hSw
       go_simp
       (try with_reducible rfl)
      (try simp only [Act.put, qA, qB, qC])
      refine tA 2 41 (v := ?_) rfl (.inl ⟨by rfl, ?_⟩) ?_
      rotate_left
      ·intro w hSw
       (try dsimp only at hSw)
       have hm := s8 hSw
       obtain ⟨hm0, hm1, hm2, hm3, hm4, hmG⟩ := hm
       clear hSw
       go_simp
       (try with_reducible rfl)
      (try simp only [Act.put, qA, qB, qC])
      refine tA 3 42 (v := ?_) rfl (.inl ⟨by rfl, ?_⟩) ?_
      rotate_left
      ·intro w hSw
       (try dsimp only at hSw)
       have hm := s8 hSw
       obtain ⟨hm0, hm1, hm2, hm3, hm4, hmG⟩ := hm
       clear hSw
       go_simp
       (try with_reducible rfl)
      (try simp only [Act.put, qA, qB, qC])
      refine tA 4 43 (v := ?_) rfl (.inl ⟨by rfl, ?_⟩) ?_
      rotate_left
      ·intro w hSw
       (try dsimp only at hSw)
       have hm := s8 hSw
       obtain ⟨hm0, hm1, hm2, hm3, hm4, hmG⟩ := hm
       clear hSw
       go_simp
       (try with_reducible rfl)
      (try simp only [Act.put, qA, qB, qC])
      refine tA 5 44 (v := ?_) rfl (.inl ⟨by rfl, ?_⟩) ?_
      rotate_left
      ·intro w hSw
       (try dsimp only at hSw)
       have hm := s8 hSw
       obtain ⟨hm0, hm1, hm2, hm3, hm4, hmG⟩ := hm
       clear hSw
       go_simp
       (try with_reducible rfl)
      (try simp only [Act.put, qA, qB, qC])
      refine tA 6 45 (v := ?_) rfl (.inl ⟨by rfl, ?_⟩) ?_
      rotate_left
      ·intro w hSw
       (try dsimp only at hSw)
       have hm := s8 hSw
       obtain ⟨hm0, hm1, hm2, hm3, hm4, hmG⟩ := hm
       clear hSw
       go_simp
       (try with_reducible rfl)
      (try simp only [Act.put, qA, qB, qC])
      refine tA 7 46 (v := ?_) rfl (.inl ⟨by rfl, ?_⟩) ?_
      rotate_left
      ·intro w hSw
       (try dsimp only at hSw)
       have hm := s8 hSw
       obtain ⟨hm0, hm1, hm2, hm3, hm4, hmG⟩ := hm
       clear hSw
       go_simp
       (try with_reducible rfl)
      (try simp only [Act.put, qA, qB, qC])
      refine tA 8 47 (v := ?_) rfl (.inl ⟨by rfl, ?_⟩) ?_
      rotate_left
      ·intro w hSw
       (try dsimp only at hSw)
       have hm := s8 hSw
       obtain ⟨hm0, hm1, hm2, hm3, hm4, hmG⟩ := hm
       clear hSw
       go_simp
       (try with_reducible rfl)
      (try simp only [Act.put, qA, qB, qC])
      refine tA 9 48 (v := undef) rfl (.inr ⟨by rfl, rfl⟩) ?_
      (try simp only [Act.put, qA, qB, qC])
      refine tA 10 49 (v := undef) rfl (.inr ⟨by rfl, rfl⟩) ?_
      (try simp only [Act.put, qA, qB, qC])
      refine tA 11 50 (v := undef) rfl (.inr ⟨by rfl, rfl⟩) ?_
      (try simp only [Act.put, qA, qB, qC])
      refine tA 12 51 (v := undef) rfl (.inr ⟨by rfl, rfl⟩) ?_
      (try simp only [Act.put, qA, qB, qC])
      refine tA 13 52 (v := ?_) rfl (.inl ⟨by rfl, ?_⟩) ?_
      rotate_left
      ·intro w hSw
       (try dsimp only at hSw)
       have hm := s8 hSw
       obtain ⟨hm0, hm1, hm2, hm3, hm4, hmG⟩ := hm
       clear hSw
       go_simp
       (try with_reducible rfl)
      (try simp only [Act.put, qA, qB, qC])
      refine tA 14 53 (v := ?_) rfl (.inl ⟨by rfl, ?_⟩) ?_
      rotate_left
      ·intro w hSw
       (try dsimp only at hSw)
       have hm := s8 hSw
       obtain ⟨hm0, hm1, hm2, hm3, hm4, hmG⟩ := hm
       clear hSw
       go_simp
       (try with_reducible rfl)
      (try simp only [Act.put, qA, qB, qC])
      refine tA 15 54 (v := undef) rfl (.inr ⟨by rfl, rfl⟩) ?_
      (try simp only [Act.put, qA, qB, qC])
      refine tA 16 55 (v := undef) rfl (.inr ⟨by rfl, rfl⟩) ?_
      (try simp only [Act.put, qA, qB, qC])
      refine tA 17 56 (v := undef) rfl (.inr ⟨by rfl, rfl⟩) ?_
      (try simp only [Act.put, qA, qB, qC])
      refine tA 18 57 (v := undef) rfl (.inr ⟨by rfl, rfl⟩) ?_
      (try simp only [Act.put, qA, qB, qC])
      refine tA 19 58 (v := ?_) rfl (.inl ⟨by rfl, ?_⟩) ?_
      rotate_left
      ·intro w hSw
       (try dsimp only at hSw)
       have hm := s8 hSw
       obtain ⟨hm0, hm1, hm2, hm3, hm4, hmG⟩ := hm
       clear hSw
       go_simp
       (try with_reducible rfl)
      (try simp only [Act.put, qA, qB, qC])
      refine tA 20 59 (v := ?_) rfl (.inl ⟨by rfl, ?_⟩) ?_
      rotate_left
      ·intro w hSw
       (try dsimp only at hSw)
       have hm := s8 hSw
       obtain ⟨hm0, hm1, hm2, hm3, hm4, hmG⟩ := hm
       clear hSw
       go_simp
       (try with_reducible rfl)
      (try simp only [Act.put, qA, qB, qC])
      refine tA 21 60 (v := undef) rfl (.inr ⟨by rfl, rfl⟩) ?_
      (try simp only [Act.put, qA, qB, qC])
      refine tA 22 61 (v := undef) rfl (.inr ⟨by rfl, rfl⟩) ?_
      (try simp only [Act.put, qA, qB, qC])
      refine tA 23 62 (v := undef) rfl (.inr ⟨by rfl, rfl⟩) ?_
      (try simp only [Act.put, qA, qB, qC])
      refine tA 24 63 (v := undef) rfl (.inr ⟨by rfl, rfl⟩) ?_
      (try simp only [Act.put, qA, qB, qC])
      refine tA 25 64 (v := undef) rfl (.inr ⟨by rfl, rfl⟩) ?_
      (try simp only [Act.put, qA, qB, qC])
      refine tA 26 65 (v := undef) rfl (.inr ⟨by rfl, rfl⟩) ?_
      (try simp only [Act.put, qA, qB, qC])
      refine tA 27 66 (v := undef) rfl (.inr ⟨by rfl, rfl⟩) ?_
      (try simp only [Act.put, qA, qB, qC])
      refine tA 28 67 (v := undef) rfl (.inr ⟨by rfl, rfl⟩) ?_
      (try simp only [Act.put, qA, qB, qC])
      refine tA 29 68 (v := ?_) rfl (.inl ⟨by rfl, ?_⟩) ?_
      rotate_left
      ·intro w hSw
       (try dsimp only at hSw)
       have hm := s8 hSw
       obtain ⟨hm0, hm1, hm2, hm3, hm4, hmG⟩ := hm
       clear hSw
       go_simp
       (try with_reducible rfl)
      (try simp only [Act.put, qA, qB, qC])
      refine wpAnyH_done (by kernel_rfl) ?_ _
      have HE := Aside0.mk hHeld
      clear hHeld
      go_wp2_with fail
      go_ret
      exact ⟨by rw [← HR.out]; rfl, HE.out.2.below⟩
     ·by_cases k3 : yX ⟨(d : Int), f1, f2, f3, f4⟩ (X0 ⟨(d : Int), f1, f2, f3, f4⟩) = false
      ·rw [if_pos (Or.inr (Or.inr k3))] at hF
       have HR := Aside0.mk (Option.some.inj hF)
       clear hF
       refine wp_region_held_drew (S := fun w' => Itm w' b ⟨(d : Int), f1, f2, f3, f4⟩ ∧ Sk w w' (.slice (some ⟨G, 0, none⟩) (d + 1) cc) (lv.take d ++ [t])) (by kernel_rfl) ⟨HI.out, HS3.out.drew⟩ (fun hHeld => ?_)
       refine tA 0 39 (v := ?_) rfl (.inl ⟨by rfl, ?_⟩) ?_
       rotate_left
       ·intro w hSw
        (try dsimp only at hSw)
        have hm := s8 hSw
        obtain ⟨hm0, hm1, hm2, hm3, hm4, hmG⟩ := hm
        clear hSw
        go_simp
        (try with_reducible rfl)
       (try simp only [Act.put, qA, qB, qC])
       refine tA 1 40 (v := ?_) rfl (.inl ⟨by rfl, ?_⟩) ?_
       rotate_left
       ·intro w hSw
        (try dsimp only at hSw)
        have hm := s8 hSw
        obtain ⟨hm0, hm1, hm2, hm3, hm4, hmG⟩ := hm
        clear hSw
        go_simp
        (try with_reducible rfl)
       (try simp only [Act.put, qA, qB, qC])
       refine tA 2 41 (v := ?_) rfl (.inl ⟨by rfl, ?_⟩) ?_
       rotate_left
       ·intro w hSw
        (try dsimp only at hSw)
        have hm := s8 hSw
        obtain ⟨hm0, hm1, hm2, hm3, hm4, hmG⟩ := hm
        clear hSw
        go_simp
        (try with_reducible rfl)
       (try simp only [Act.put, qA, qB, qC])
       refine tA 3 42 (v := ?_) rfl (.inl ⟨by rfl, ?_⟩) ?_
       rotate_left
       ·intro w hSw
        (try dsimp only at hSw)
        have hm := s8 hSw
        obtain ⟨hm0, hm1, hm2, hm3, hm4, hmG⟩ := hm
        clear hSw
        go_simp
        (try with_reducible rfl)
       (try simp only [Act.put, qA, qB, qC])
       refine tA 4 43 (v := ?_) rfl (.inl ⟨by rfl, ?_⟩) ?_
       rotate_left
       ·intro w hSw
        (try dsimp only at hSw)
        have hm := s8 hSw
        obtain ⟨hm0, hm1, hm2, hm3, hm4, hmG⟩ := hm
        clear hSw
        go_simp
        (try with_reducible rfl)
       (try simp only [Act.put, qA, qB, qC])
       refine tA 5 44 (v := ?_) rfl (.inl ⟨by rfl, ?_⟩) ?_
       rotate_left
       ·intro w hSw
        (try dsimp only at hSw)
        have hm := s8 hSw
        obtain ⟨hm0, hm1, hm2, hm3, hm4, hmG⟩ := hm
        clear hSw
        go_simp
        (try with_reducible rfl)
       (try simp only [Act.put, qA, qB, qC])
       refine tA 6 45 (v := ?_) rfl (.inl ⟨by rfl, ?_⟩) ?_
       rotate_left
       ·intro w hSw
        (try dsimp only at hSw)
        have hm := s8 hSw
        obtain ⟨hm0, hm1, hm2, hm3, hm4, hmG⟩ := hm
        clear hSw
        go_simp
        (try with_reducible rfl)
       (try simp only [Act.put, qA, qB, qC])
       refine tA 7 46 (v := ?_) rfl (.inl ⟨by rfl, ?_⟩) ?_
       rotate_left
       ·intro w hSw
        (try dsimp only at hSw)
        have hm := s8 hSw
        obtain ⟨hm0, hm1, hm2, hm3, hm4, hmG⟩ := hm
        clear hSw
        go_simp
        (try with_reducible rfl)
       (try simp only [Act.put, qA, qB, qC])
       refine tA 8 47 (v := ?_) rfl (.inl ⟨by rfl, ?_⟩) ?_
       rotate_left
       ·intro w hSw
        (try dsimp only at hSw)
        have hm := s8 hSw
        obtain ⟨hm0, hm1, hm2, hm3, hm4, hmG⟩ := hm
        clear hSw
        go_simp
        (try with_reducible rfl)
       (try simp only [Act.put, qA, qB, qC])
       refine tA 9 48 (v := ?_) rfl (.inl ⟨by rfl, ?_⟩) ?_
       rotate_left
       ·intro w hSw
        (try dsimp only at hSw)
        have hm := s8 hSw
        obtain ⟨hm0, hm1, hm2, hm3, hm4, hmG⟩ := hm
        clear hSw
        go_simp
        (try with_reducible rfl)
       (try simp only [Act.put, qA, qB, qC])
       refine tA 10 49 (v := ?_) rfl (.inl ⟨by rfl, ?_⟩) ?_
       rotate_left
       ·intro w hSw
        (try dsimp only at hSw)
        have hm := s8 hSw
        obtain ⟨hm0, hm1, hm2, hm3, hm4, hmG⟩ := hm
        clear hSw
        go_simp
        (try with_reducible rfl)
       (try simp only [Act.put, qA, qB, qC])
       refine wpAnyH_ready (rs := [11]) (by kernel_rfl) (by simp) ?_
       refine tB 50 rfl (fun K hK => ?_) AllReadyH.nil
       go_simp
       (go_at_call 29; refine (Zaf ⟨(d : Int), f1, f2, f3, f4⟩ _).mono ?_; rintro e w4 ⟨rfl, hb4⟩); go_wp2_with fail
       refine hK.out _ _ ?_ (fun hHeld => ?_)
       ·exact ⟨zy hHeld.1 hb4, hHeld.2.quiet hb4⟩
       clear hK K
       (try simp only [Act.put, qA, qB, qC])
       refine tA 12 51 (v := ?_) rfl (.inl ⟨by rfl, ?_⟩) ?_
       rotate_left
       ·intro w hSw
        (try dsimp only at hSw)
        have hm := s8 hSw
        obtain ⟨hm0, hm1, hm2, hm3, hm4, hmG⟩ := hm
        clear hSw
        go_simp
        exact Yaz w ⟨(d : Int), f1, f2, f3, f4⟩ (X0 ⟨(d : Int), f1, f2, f3, f4⟩) _ _ false true k3 rfl
       (try simp only [Act.put, qA, qB, qC])
       refine tA 13 52 (v := ?_) rfl (.inl ⟨by rfl, ?_⟩) ?_
       rotate_left
       ·intro w hSw
        (try dsimp only at hSw)
        have hm := s8 hSw
        obtain ⟨hm0, hm1, hm2, hm3, hm4, hmG⟩ := hm
        clear hSw
        go_simp
        (try with_reducible rfl)
       (try simp only [Act.put, qA, qB, qC])
       refine tA 14 53 (v := ?_) rfl (.inl ⟨by rfl, ?_⟩) ?_
       rotate_left
       ·intro w hSw
        (try dsimp only at hSw)
        have hm := s8 hSw
        obtain ⟨hm0, hm1, hm2, hm3, hm4, hmG⟩ := hm
        clear hSw
        go_simp
        (try with_reducible rfl)
       (try simp only [Act.put, qA, qB, qC])
       refine tA 15 54 (v := undef) rfl (.inr ⟨by rfl, rfl⟩) ?_
       (try simp only [Act.put, qA, qB, qC])
       refine tA 16 55 (v := undef) rfl (.inr ⟨by rfl, rfl⟩) ?_
       (try simp only [Act.put, qA, qB, qC])
       refine tA 17 56 (v := undef) rfl (.inr ⟨by rfl, rfl⟩) ?_
       (try simp only [Act.put, qA, qB, qC])
       refine tA 18 57 (v := undef) rfl (.inr ⟨by rfl, rfl⟩) ?_
       (try simp only [Act.put, qA, qB, qC])
       refine tA 19 58 (v := ?_) rfl (.inl ⟨by rfl, ?_⟩) ?_
       rotate_left
       ·intro w hSw
        (try dsimp only at hSw)
        have hm := s8 hSw
        obtain ⟨hm0, hm1, hm2, hm3, hm4, hmG⟩ := hm
        clear hSw
        go_simp
        (try with_reducible rfl)
       (try simp only [Act.put, qA, qB, qC])
       refine tA 20 59 (v := ?_) rfl (.inl ⟨by rfl, ?_⟩) ?_
       rotate_left
       ·intro w hSw
        (try dsimp only at hSw)
        have hm := s8 hSw
        obtain ⟨hm0, hm1, hm2, hm3, hm4, hmG⟩ := hm
        clear hSw
        go_simp
        (try with_reducible rfl)
       (try simp only [Act.put, qA, qB, qC])
       refine tA 21 60 (v := undef) rfl (.inr ⟨by rfl, rfl⟩) ?_
       (try simp only [Act.put, qA, qB, qC])
       refine tA 22 61 (v := undef) rfl (.inr ⟨by rfl, rfl⟩) ?_
       (try simp only [Act.put, qA, qB, qC])
       refine tA 23 62 (v := undef) rfl (.inr ⟨by rfl, rfl⟩) ?_
       (try simp only [Act.put, qA, qB, qC])
       refine tA 24 63 (v := undef) rfl (.inr ⟨by rfl, rfl⟩) ?_
       (try simp only [Act.put, qA, qB, qC])
       refine tA 25 64 (v := undef) rfl (.inr ⟨by rfl, rfl⟩) ?_
       (try simp only [Act.put, qA, qB, qC])
       refine tA 26 65 (v := undef) rfl (.inr ⟨by rfl, rfl⟩) ?_
       (try simp only [Act.put, qA, qB, qC])
       refine tA 27 66 (v := undef) rfl (.inr ⟨by rfl, rfl⟩) ?_
       (try simp only [Act.put, qA, qB, qC])
       refine tA 28 67 (v := undef) rfl (.inr ⟨by rfl, rfl⟩) ?_
       (try simp only [Act.put, qA, qB, qC])
       refine tA 29 68 (v := ?_) rfl (.inl ⟨by rfl, ?_⟩) ?_
       rotate_left
       ·intro w hSw
        (try dsimp only at hSw)
        have hm := s8 hSw
        obtain ⟨hm0, hm1, hm2, hm3, hm4, hmG⟩ := hm
        clear hSw
        go_simp
        (try with_reducible rfl)
       (try simp only [Act.put, qA, qB, qC])
       refine wpAnyH_done (by kernel_rfl) ?_ _
       have HE := Aside0.mk hHeld
       clear hHeld
       go_wp2_with fail
       go_ret
       exact ⟨by rw [← HR.out]; rfl, HE.out.2.below⟩
      ·rw [if_neg (by rintro (a | a | a) <;> first | exact k1 a | exact k2 a | exact k3 a)] at hF
       obtain ⟨v3, hv, hF⟩ := Ybe.1 hF
       have FV := Aside0.mk hv
       clear hv
       have k3 := Bool.of_not_eq_false k3
       cases v3 with
       | false =>
        rw [if_pos rfl] at hF
        have HR := Aside0.mk (Option.some.inj hF)
        clear hF
        refine wp_region_held_drew (S := fun w' => Itm w' b ⟨(d : Int), f1, f2, f3, f4⟩ ∧ Sk w w' (.slice (some ⟨G, 0, none⟩) (d + 1) cc) (lv.take d ++ [t])) (by kernel_rfl) ⟨HI.out, HS3.out.drew⟩ (fun hHeld => ?_)
        refine tA 0 39 (v := ?_) rfl (.inl ⟨by rfl, ?_⟩) ?_
        rotate_left
        ·intro w hSw
         (try dsimp only at hSw)
         have hm := s8 hSw
         obtain ⟨hm0, hm1, hm2, hm3, hm4, hmG⟩ := hm
         clear hSw
         go_simp
         (try with_reducible rfl)
        (try simp only [Act.put, qA, qB, qC])
        refine tA 1 40 (v := ?_) rfl (.inl ⟨by rfl, ?_⟩) ?_
        rotate_left
        ·intro w hSw
         (try dsimp only at hSw)
         have hm := s8 hSw
         obtain ⟨hm0, hm1, hm2, hm3, hm4, hmG⟩ := hm
         clear hSw
         go_simp
         (try with_reducible rfl)
        (try simp only [Act.put, qA, qB, qC])
        refine tA 2 41 (v := ?_) rfl (.inl ⟨by rfl, ?_⟩) ?_
        rotate_left
        ·intro w hSw
         (try dsimp only at hSw)
         have hm := s8 hSw
         obtain ⟨hm0, hm1, hm2, hm3, hm4, hmG⟩ := hm
         clear hSw
         go_simp
         (try with_reducible rfl)
        (try simp only [Act.put, qA, qB, qC])
        refine tA 3 42 (v := ?_) rfl (.inl ⟨by rfl, ?_⟩) ?_
        rotate_left
        ·intro w hSw
         (try dsimp only at hSw)
         have hm := s8 hSw
         obtain ⟨hm0, hm1, hm2, hm3, hm4, hmG⟩ := hm
         clear hSw
         go_simp
         (try with_reducible rfl)
        (try simp only [Act.put, qA, qB, qC])
        refine tA 4 43 (v := ?_) rfl (.inl ⟨by rfl, ?_⟩) ?_
        rotate_left
        ·intro w hSw
         (try dsimp only at hSw)
         have hm := s8 hSw
         obtain ⟨hm0, hm1, hm2, hm3, hm4, hmG⟩ := hm
         clear hSw
         go_simp
         (try with_reducible rfl)
        (try simp only [Act.put, qA, qB, qC])
        refine tA 5 44 (v := ?_) rfl (.inl ⟨by rfl, ?_⟩) ?_
        rotate_left
        ·intro w hSw
         (try dsimp only at hSw)
         have hm := s8 hSw
         obtain ⟨hm0, hm1, hm2, hm3, hm4, hmG⟩ := hm
         clear hSw
         go_simp
         (try with_reducible rfl)
        (try simp only [Act.put, qA, qB, qC])
        refine tA 6 45 (v := ?_) rfl (.inl ⟨by rfl, ?_⟩) ?_
        rotate_left
        ·intro w hSw
         (try dsimp only at hSw)
         have hm := s8 hSw
         obtain ⟨hm0, hm1, hm2, hm3, hm4, hmG⟩ := hm
         clear hSw
         go_simp
         (try with_reducible rfl)
        (try simp only [Act.put, qA, qB, qC])
        refine tA 7 46 (v := ?_) rfl (.inl ⟨by rfl, ?_⟩) ?_
        rotate_left
        ·intro w hSw
         (try dsimp only at hSw)
         have hm := s8 hSw
         obtain ⟨hm0, hm1, hm2, hm3, hm4, hmG⟩ := hm
         clear hSw
         go_simp
         (try with_reducible rfl)
        (try simp only [Act.put, qA, qB, qC])
        refine tA 8 47 (v := ?_) rfl (.inl ⟨by rfl, ?_⟩) ?_
        rotate_left
        ·intro w hSw
         (try dsimp only at hSw)
         have hm := s8 hSw
         obtain ⟨hm0, hm1, hm2, hm3, hm4, hmG⟩ := hm
         clear hSw
         go_simp
         (try with_reducible rfl)
        (try simp only [Act.put, qA, qB, qC])
        refine tA 9 48 (v := ?_) rfl (.inl ⟨by rfl, ?_⟩) ?_
        rotate_left
        ·intro w hSw
         (try dsimp only at hSw)
         have hm := s8 hSw
         obtain ⟨hm0, hm1, hm2, hm3, hm4, hmG⟩ := hm
         clear hSw
         go_simp
         (try with_reducible rfl)
        (try simp only [Act.put, qA, qB, qC])
        refine tA 10 49 (v := ?_) rfl (.inl ⟨by rfl, ?_⟩) ?_
        rotate_left
        ·intro w hSw
         (try dsimp only at hSw)
         have hm := s8 hSw
         obtain ⟨hm0, hm1, hm2, hm3, hm4, hmG⟩ := hm
         clear hSw
         go_simp
         (try with_reducible rfl)
        (try simp only [Act.put, qA, qB, qC])
        refine wpAnyH_ready (rs := [11]) (by kernel_rfl) (by simp) ?_
        refine tB 50 rfl (fun K hK => ?_) AllReadyH.nil
        go_simp
        (go_at_call 29; refine (Zaf ⟨(d : Int), f1, f2, f3, f4⟩ _).mono ?_; rintro e w4 ⟨rfl, hb4⟩); go_wp2_with fail
        refine hK.out _ _ ?_ (fun hHeld => ?_)
        ·exact ⟨zy hHeld.1 hb4, hHeld.2.quiet hb4⟩
        clear hK K
        (try simp only [Act.put, qA, qB, qC])
        refine tA 12 51 (v := ?_) rfl (.inl ⟨by rfl, ?_⟩) ?_
        rotate_left
        ·intro w hSw
         (try dsimp only at hSw)
         have hm := s8 hSw
         obtain ⟨hm0, hm1, hm2, hm3, hm4, hmG⟩ := hm
         clear hSw
         go_simp
         exact Yaz w ⟨(d : Int), f1, f2, f3, f4⟩ (X0 ⟨(d : Int), f1, f2, f3, f4⟩) _ _ true false k3 rfl
        (try simp only [Act.put, qA, qB, qC])
        refine tA 13 52 (v := ?_) rfl (.inl ⟨by rfl, ?_⟩) ?_
        rotate_left
        ·intro w hSw
         (try dsimp only at hSw)
         have hm := s8 hSw
         obtain ⟨hm0, hm1, hm2, hm3, hm4, hmG⟩ := hm
         clear hSw
         go_simp
         (try with_reducible rfl)
        (try simp only [Act.put, qA, qB, qC])
        refine tA 14 53 (v := ?_) rfl (.inl ⟨by rfl, ?_⟩) ?_
        rotate_left
        ·intro w hSw
         (try dsimp only at hSw)
         have hm := s8 hSw
         obtain ⟨hm0, hm1, hm2, hm3, hm4, hmG⟩ := hm
         clear hSw
         go_simp
         (try with_reducible rfl)
        (try simp only [Act.put, qA, qB, qC])
        refine tA 15 54 (v := ?_) rfl (.inl ⟨by rfl, ?_⟩) ?_
        rotate_left
        ·intro w hSw
         (try dsimp only at hSw)
         have hm := s8 hSw
         obtain ⟨hm0, hm1, hm2, hm3, hm4, hmG⟩ := hm
         clear hSw
         go_simp
         (try with_reducible rfl)
        (try simp only [Act.put, qA, qB, qC])
        refine tA 16 55 (v := ?_) rfl (.inl ⟨by rfl, ?_⟩) ?_
        rotate_left
        ·intro w hSw
         (try dsimp only at hSw)
         have hm := s8 hSw
         obtain ⟨hm0, hm1, hm2, hm3, hm4, hmG⟩ := hm
         clear hSw
         go_simp
         (try with_reducible rfl)
        (try simp only [Act.put, qA, qB, qC])
        refine wpAnyH_ready (rs := [17]) (by kernel_rfl) (by simp) ?_
        refine tB 56 rfl (fun K hK => ?_) AllReadyH.nil
        go_simp
        (go_at_call 30; refine (zo.calls f3 _ _ FV.out (HT.out.step hHeld.2.below)).mono ?_; rintro e w5 ⟨rfl, hb5⟩); go_wp2_with fail
        refine hK.out _ _ ?_ (fun hHeld => ?_)
        ·exact ⟨zy hHeld.1 hb5, hHeld.2.quiet hb5⟩
        clear hK K
        (try simp only [Act.put, qA, qB, qC])
        refine tA 18 57 (v := ?_) rfl (.inl ⟨by rfl, ?_⟩) ?_
        rotate_left
        ·intro w hSw
         (try dsimp only at hSw)
         have hm := s8 hSw
         obtain ⟨hm0, hm1, hm2, hm3, hm4, hmG⟩ := hm
         clear hSw
         go_simp
         (try with_reducible rfl)
        (try simp only [Act.put, qA, qB, qC])
        refine tA 19 58 (v := ?_) rfl (.inl ⟨by rfl, ?_⟩) ?_
        rotate_left
        ·intro w hSw
         (try dsimp only at hSw)
         have hm := s8 hSw
         obtain ⟨hm0, hm1, hm2, hm3, hm4, hmG⟩ := hm
         clear hSw
         go_simp
         (try with_reducible rfl)
        (try simp only [Act.put, qA, qB, qC])
        refine tA 20 59 (v := ?_) rfl (.inl ⟨by rfl, ?_⟩) ?_
        rotate_left
        ·intro w hSw
         (try dsimp only at hSw)
         have hm := s8 hSw
         obtain ⟨hm0, hm1, hm2, hm3, hm4, hmG⟩ := hm
         clear hSw
         go_simp
         (try with_reducible rfl)
        (try simp only [Act.put, qA, qB, qC])
        refine tA 21 60 (v := undef) rfl (.inr ⟨by rfl, rfl⟩) ?_
        (try simp only [Act.put, qA, qB, qC])
        refine tA 22 61 (v := undef) rfl (.inr ⟨by rfl, rfl⟩) ?_
        (try simp only [Act.put, qA, qB, qC])
        refine tA 23 62 (v := undef) rfl (.inr ⟨by rfl, rfl⟩) ?_
        (try simp only [Act.put, qA, qB, qC])
        refine tA 24 63 (v := undef) rfl (.inr ⟨by rfl, rfl⟩) ?_
        (try simp only [Act.put, qA, qB, qC])
        refine tA 25 64 (v := undef) rfl (.inr ⟨by rfl, rfl⟩) ?_
        (try simp only [Act.put, qA, qB, qC])
        refine tA 26 65 (v := undef) rfl (.inr ⟨by rfl, rfl⟩) ?_
        (try simp only [Act.put, qA, qB, qC])
        refine tA 27 66 (v := undef) rfl (.inr ⟨by rfl, rfl⟩) ?_
        (try simp only [Act.put, qA, qB, qC])
        refine tA 28 67 (v := undef) rfl (.inr ⟨by rfl, rfl⟩) ?_
        (try simp only [Act.put, qA, qB, qC])
        refine tA 29 68 (v := ?_) rfl (.inl ⟨by rfl, ?_⟩) ?_
        rotate_left
        ·intro w hSw
         (try dsimp only at hSw)
         have hm := s8 hSw
         obtain ⟨hm0, hm1, hm2, hm3, hm4, hmG⟩ := hm
         clear hSw
         go_simp
         (try with_reducible rfl)
        (try simp only [Act.put, qA, qB, qC])
        refine wpAnyH_done (by kernel_rfl) ?_ _
        have HE := Aside0.mk hHeld
        clear hHeld
        go_wp2_with fail
        go_ret
        exact ⟨by rw [← HR.out]; rfl, HE.out.2.below⟩
       | true =>
        rw [if_neg (by decide)] at hF
        obtain ⟨⟨mb, ks⟩, hm, hF⟩ := Ybe.1 hF
        have FM := Aside0.mk hm
        clear hm
        refine ZG (n := 30) (S := fun w' => Itm w' b ⟨(d : Int), f1, f2, f3, f4⟩ ∧ Sk w w' (.slice (some ⟨G, 0, none⟩) (d + 1) cc) (lv.take d ++ [t])) (ds := [27]) #[false, false, false, false, false, false, false, false, false, false, false, false, false, false, false, false, false, false, false, false, false, false, false, false, false, false, false, false, false, false] (by kernel_rfl) rfl rfl ⟨HI.out, HS3.out.drew⟩ (fun hHeld => ?_)
        refine pq 0 39 (v := ?_) (a' := ?_) #[true, false, false, false, false, false, false, false, false, false, false, false, false, false, false, false, false, false, false, false, false, false, false, false, false, false, false, false, false, false] rfl (by kernel_rfl) (.inl ⟨by rfl, ?_⟩) ?_ ?_
        rotate_left
        ·intro w'
         go_simp
         (try with_reducible rfl)
        rotate_left
        ·simp only [Act.put, qA, qB, qC]
         rfl
        refine tq 1 40 (v := ?_) (a' := ?_) #[true, true, false, false, false, false, false, false, false, false, false, false, false, false, false, false, false, false, false, false, false, false, false, false, false, false, false, false, false, false] rfl (by kernel_rfl) (.inl ⟨by rfl, ?_⟩) (by assumption) ?_ ?_
        rotate_left
        ·intro w hSw
         obtain ⟨hl0, hl1⟩ := hSw
         have hm := s8 ⟨hl0, hl1⟩
         obtain ⟨hm0, hm1, hm2, hm3, hm4, hmG⟩ := hm
         clear hl0 hl1
         have hdd : (d : Int) < (d : Int) + 1 := by omega
         go_simp
         (try with_reducible rfl)
        rotate_left
        ·simp only [Act.put, qA, qB, qC]
         rfl
        refine tq 2 41 (v := ?_) (a' := ?_) #[true, true, true, false, false, false, false, false, false, false, false, false, false, false, false, false, false, false, false, false, false, false, false, false, false, false, false, false, false, false] rfl (by kernel_rfl) (.inl ⟨by rfl, ?_⟩) (by assumption) ?_ ?_
        rotate_left
        ·intro w hSw
         obtain ⟨hl0, hl1⟩ := hSw
         have hm := s8 ⟨hl0, hl1⟩
         obtain ⟨hm0, hm1, hm2, hm3, hm4, hmG⟩ := hm
         clear hl0 hl1
         have hdd : (d : Int) < (d : Int) + 1 := by omega
         go_simp
         (try with_reducible rfl)
        rotate_left
        ·simp only [Act.put, qA, qB, qC]
         rfl
        refine pq 3 42 (v := ?_) (a' := ?_) #[true, true, true, true, false, false, false, false, false, false, false, false, false, false, false, false, false, false, false, false, false, false, false, false, false, false, false, false, false, false] rfl (by kernel_rfl) (.inl ⟨by rfl, ?_⟩) ?_ ?_
        rotate_left
        ·intro w'
         go_simp
         (try with_reducible rfl)
        rotate_left
        ·simp only [Act.put, qA, qB, qC]
         rfl
        refine pq 4 43 (v := ?_) (a' := ?_) #[true, true, true, true, true, false, false, false, false, false, false, false, false, false, false, false, false, false, false, false, false, false, false, false, false, false, false, false, false, false] rfl (by kernel_rfl) (.inl ⟨by rfl, ?_⟩) ?_ ?_
        rotate_left
        ·intro w'
         go_simp
         (try with_reducible rfl)
        rotate_left
        ·simp only [Act.put, qA, qB, qC]
         rfl
        refine tq 5 44 (v := ?_) (a' := ?_) #[true, true, true, true, true, true, false, false, false, false, false, false, false, false, false, false, false, false, false, false, false, false, false, false, false, false, false, false, false, false] rfl (by kernel_rfl) (.inl ⟨by rfl, ?_⟩) (by assumption) ?_ ?_
        rotate_left
        ·intro w hSw
         obtain ⟨hl0, hl1⟩ := hSw
         have hm := s8 ⟨hl0, hl1⟩
         obtain ⟨hm0, hm1, hm2, hm3, hm4, hmG⟩ := hm
         clear hl0 hl1
         have hdd : (d : Int) < (d : Int) + 1 := by omega
         go_simp
         (try with_reducible rfl)
        rotate_left
        ·simp only [Act.put, qA, qB, qC]
         rfl
        refine tq 6 45 (v := ?_) (a' := ?_) #[true, true, true, true, true, true, true, false, false, false, false, false, false, false, false, false, false, false, false, false, false, false, false, false, false, false, false, false, false, false] rfl (by kernel_rfl) (.inl ⟨by rfl, ?_⟩) (by assumption) ?_ ?_
        rotate_left
        ·intro w hSw
         obtain ⟨hl0, hl1⟩ := hSw
         have hm := s8 ⟨hl0, hl1⟩
         obtain ⟨hm0, hm1, hm2, hm3, hm4, hmG⟩ := hm
         clear hl0 hl1
         have hdd : (d : Int) < (d : Int) + 1 := by omega
         go_simp
         (try with_reducible rfl)
        rotate_left
        ·simp only [Act.put, qA, qB, qC]
         rfl
        refine pq 7 46 (v := ?_) (a' := ?_) #[true, true, true, true, true, true, true, true, false, false, false, false, false, false, false, false, false, false, false, false, false, false, false, false, false, false, false, false, false, false] rfl (by kernel_rfl) (.inl ⟨by rfl, ?_⟩) ?_ ?_
        rotate_left
        ·intro w'
         go_simp
         (try with_reducible rfl)
        rotate_left
        ·simp only [Act.put, qA, qB, qC]
         rfl
        refine pq 8 47 (v := ?_) (a' := ?_) #[true, true, true, true, true, true, true, true, true, false, false, false, false, false, false, false, false, false, false, false, false, false, false, false, false, false, false, false, false, false] rfl (by kernel_rfl) (.inl ⟨by rfl, ?_⟩) ?_ ?_
        rotate_left
        ·intro w'
         go_simp
         (try with_reducible rfl)
        rotate_left
        ·simp only [Act.put, qA, qB, qC]
         rfl
        refine tq 9 48 (v := ?_) (a' := ?_) #[true, true, true, true, true, true, true, true, true, true, false, false, false, false, false, false, false, false, false, false, false, false, false, false, false, false, false, false, false, false] rfl (by kernel_rfl) (.inl ⟨by rfl, ?_⟩) (by assumption) ?_ ?_
        rotate_left
        ·intro w hSw
         obtain ⟨hl0, hl1⟩ := hSw
         have hm := s8 ⟨hl0, hl1⟩
         obtain ⟨hm0, hm1, hm2, hm3, hm4, hmG⟩ := hm
         clear hl0 hl1
         have hdd : (d : Int) < (d : Int) + 1 := by omega
         go_simp
         (try with_reducible rfl)
        rotate_left
        ·simp only [Act.put, qA, qB, qC]
         rfl
        refine tq 10 49 (v := ?_) (a' := ?_) #[true, true, true, true, true, true, true, true, true, true, true, false, false, false, false, false, false, false, false, false, false, false, false, false, false, false, false, false, false, false] rfl (by kernel_rfl) (.inl ⟨by rfl, ?_⟩) (by assumption) ?_ ?_
        rotate_left
        ·intro w hSw
         obtain ⟨hl0, hl1⟩ := hSw
         have hm := s8 ⟨hl0, hl1⟩
         obtain ⟨hm0, hm1, hm2, hm3, hm4, hmG⟩ := hm
         clear hl0 hl1
         have hdd : (d : Int) < (d : Int) + 1 := by omega
         go_simp
         (try with_reducible rfl)
        rotate_left
        ·simp only [Act.put, qA, qB, qC]
         rfl
        refine one_ (i := 11) (N := some 50) #[true, true, true, true, true, true, true, true, true, true, true, true, false, false, false, false, false, false, false, false, false, false, false, false, false, false, false, false, false, false] rfl rfl (by kernel_rfl) (by decide) (fun K hK => ?_)
        go_simp
        (go_at_call 29; refine (Zaf ⟨(d : Int), f1, f2, f3, f4⟩ _).mono ?_; rintro e w4 ⟨rfl, hb4⟩); go_wp2_with fail
        refine hK.out _ _ ?_ (fun hHeld => ?_)
        ·exact ⟨zy hHeld.1 hb4, hHeld.2.quiet hb4⟩
        clear hK K
        (try simp only [Act.put, qA, qB, qC])
        refine tq 12 51 (v := ?_) (a' := ?_) #[true, true, true, true, true, true, true, true, true, true, true, true, true, false, false, false, false, false, false, false, false, false, false, false, false, false, false, false, false, false] rfl (by kernel_rfl) (.inl ⟨by rfl, ?_⟩) (by assumption) ?_ ?_
        rotate_left
        ·intro w hSw
         obtain ⟨hl0, hl1⟩ := hSw
         have hm := s8 ⟨hl0, hl1⟩
         obtain ⟨hm0, hm1, hm2, hm3, hm4, hmG⟩ := hm
         clear hl0 hl1
         have hdd : (d : Int) < (d : Int) + 1 := by omega
         go_simp
         exact Yaz w ⟨(d : Int), f1, f2, f3, f4⟩ (X0 ⟨(d : Int), f1, f2, f3, f4⟩) _ _ true false k3 rfl
        rotate_left
        ·simp only [Act.put, qA, qB, qC]
         rfl
        refine pq 13 52 (v := ?_) (a' := ?_) #[true, true, true, true, true, true, true, true, true, true, true, true, true, true, false, false, false, false, false, false, false, false, false, false, false, false, false, false, false, false] rfl (by kernel_rfl) (.inl ⟨by rfl, ?_⟩) ?_ ?_
        rotate_left
        ·intro w'
         go_simp
         (try with_reducible rfl)
        rotate_left
        ·simp only [Act.put, qA, qB, qC]
         rfl
        refine pq 14 53 (v := ?_) (a' := ?_) #[true, true, true, true, true, true, true, true, true, true, true, true, true, true, true, false, false, false, false, false, false, false, false, false, false, false, false, false, false, false] rfl (by kernel_rfl) (.inl ⟨by rfl, ?_⟩) ?_ ?_
        rotate_left
        ·intro w'
         go_simp
         (try with_reducible rfl)
        rotate_left
        ·simp only [Act.put, qA, qB, qC]
         rfl
        refine pq 15 54 (v := ?_) (a' := ?_) #[true, true, true, true, true, true, true, true, true, true, true, true, true, true, true, true, false, false, false, false, false, false, false, false, false, false, false, false, false, false] rfl (by kernel_rfl) (.inl ⟨by rfl, ?_⟩) ?_ ?_
        rotate_left
        ·intro w'
         go_simp
         (try with_reducible rfl)
        rotate_left
        ·simp only [Act.put, qA, qB, qC]
         rfl
        refine tq 16 55 (v := ?_) (a' := ?_) #[true, true, true, true, true, true, true, true, true, true, true, true, true, true, true, true, true, false, false, false, false, false, false, false, false, false, false, false, false, false] rfl (by kernel_rfl) (.inl ⟨by rfl, ?_⟩) (by assumption) ?_ ?_
        rotate_left
        ·intro w hSw
         obtain ⟨hl0, hl1⟩ := hSw
         have hm := s8 ⟨hl0, hl1⟩
         obtain ⟨hm0, hm1, hm2, hm3, hm4, hmG⟩ := hm
         clear hl0 hl1
         have hdd : (d : Int) < (d : Int) + 1 := by omega
         go_simp
         (try with_reducible rfl)
        rotate_left
        ·simp only [Act.put, qA, qB, qC]
         rfl
        refine one_ (i := 17) (N := some 56) #[true, true, true, true, true, true, true, true, true, true, true, true, true, true, true, true, true, true, false, false, false, false, false, false, false, false, false, false, false, false] rfl rfl (by kernel_rfl) (by decide) (fun K hK => ?_)
        go_simp
        (go_at_call 30; refine (zo.calls f3 _ _ FV.out (HT.out.step hHeld.2.below)).mono ?_; rintro e w5 ⟨rfl, hb5⟩); go_wp2_with fail
        refine hK.out _ _ ?_ (fun hHeld => ?_)
        ·exact ⟨zy hHeld.1 hb5, hHeld.2.quiet hb5⟩
        clear hK K
        (try simp only [Act.put, qA, qB, qC])
        refine pq 18 57 (v := ?_) (a' := ?_) #[true, true, true, true, true, true, true, true, true, true, true, true, true, true, true, true, true, true, true, false, false, false, false, false, false, false, false, false, false, false] rfl (by kernel_rfl) (.inl ⟨by rfl, ?_⟩) ?_ ?_
        rotate_left
        ·intro w'
         go_simp
         (try with_reducible rfl)
        rotate_left
        ·simp only [Act.put, qA, qB, qC]
         rfl
        refine pq 19 58 (v := ?_) (a' := ?_) #[true, true, true, true, true, true, true, true, true, true, true, true, true, true, true, true, true, true, true, true, false, false, false, false, false, false, false, false, false, false] rfl (by kernel_rfl) (.inl ⟨by rfl, ?_⟩) ?_ ?_
        rotate_left
        ·intro w'
         go_simp
         (try with_reducible rfl)
        rotate_left
        ·simp only [Act.put, qA, qB, qC]
         rfl
        refine pq 20 59 (v := ?_) (a' := ?_) #[true, true, true, true, true, true, true, true, true, true, true, true, true, true, true, true, true, true, true, true, true, false, false, false, false, false, false, false, false, false] rfl (by kernel_rfl) (.inl ⟨by rfl, ?_⟩) ?_ ?_
        rotate_left
        ·intro w'
         go_simp
         (try with_reducible rfl)
        rotate_left
        ·simp only [Act.put, qA, qB, qC]
         rfl
        refine tq 21 60 (v := ?_) (a' := ?_) #[true, true, true, true, true, true, true, true, true, true, true, true, true, true, true, true, true, true, true, true, true, true, false, false, false, false, false, false, false, false] rfl (by kernel_rfl) (.inl ⟨by rfl, ?_⟩) (by assumption) ?_ ?_
        rotate_left
        ·intro w hSw
         obtain ⟨hl0, hl1⟩ := hSw
         have hm := s8 ⟨hl0, hl1⟩
         obtain ⟨hm0, hm1, hm2, hm3, hm4, hmG⟩ := hm
         clear hl0 hl1
         have hdd : (d : Int) < (d : Int) + 1 := by omega
         go_simp
         (try with_reducible rfl)
        rotate_left
        ·simp only [Act.put, qA, qB, qC]
         rfl
        refine pq 22 61 (v := ?_) (a' := ?_) #[true, true, true, true, true, true, true, true, true, true, true, true, true, true, true, true, true, true, true, true, true, true, true, false, false, false, false, false, false, false] rfl (by kernel_rfl) (.inl ⟨by rfl, ?_⟩) ?_ ?_
        rotate_left
        ·intro w'
         go_simp
         (try with_reducible rfl)
        rotate_left
        ·simp only [Act.put, qA, qB, qC]
         rfl
        refine tq 23 62 (v := ?_) (a' := ?_) #[true, true, true, true, true, true, true, true, true, true, true, true, true, true, true, true, true, true, true, true, true, true, true, true, false, false, false, false, false, false] rfl (by kernel_rfl) (.inl ⟨by rfl, ?_⟩) (by assumption) ?_ ?_
        rotate_left
        ·intro w hSw
         obtain ⟨hl0, hl1⟩ := hSw
         have hm := s8 ⟨hl0, hl1⟩
         obtain ⟨hm0, hm1, hm2, hm3, hm4, hmG⟩ := hm
         clear hl0 hl1
         have hdd : (d : Int) < (d : Int) + 1 := by omega
         go_simp
         (try with_reducible rfl)
        rotate_left
        ·simp only [Act.put, qA, qB, qC]
         rfl
        refine tq 24 63 (v := ?_) (a' := ?_) #[true, true, true, true, true, true, true, true, true, true, true, true, true, true, true, true, true, true, true, true, true, true, true, true, true, false, false, false, false, false] rfl (by kernel_rfl) (.inl ⟨by rfl, ?_⟩) (by assumption) ?_ ?_
        rotate_left
        ·intro w hSw
         obtain ⟨hl0, hl1⟩ := hSw
         have hm := s8 ⟨hl0, hl1⟩
         obtain ⟨hm0, hm1, hm2, hm3, hm4, hmG⟩ := hm
         clear hl0 hl1
         have hdd : (d : Int) < (d : Int) + 1 := by omega
         go_simp
         (try with_reducible rfl)
        rotate_left
        ·simp only [Act.put, qA, qB, qC]
         rfl
        refine tq 25 64 (v := ?_) (a' := ?_) #[true, true, true, true, true, true, true, true, true, true, true, true, true, true, true, true, true, true, true, true, true, true, true, true, true, true, false, false, false, false] rfl (by kernel_rfl) (.inl ⟨by rfl, ?_⟩) (by assumption) ?_ ?_
        rotate_left
        ·intro w hSw
         obtain ⟨hl0, hl1⟩ := hSw
         have hm := s8 ⟨hl0, hl1⟩
         obtain ⟨hm0, hm1, hm2, hm3, hm4, hmG⟩ := hm
         clear hl0 hl1
         have hdd : (d : Int) < (d : Int) + 1 := by omega
         go_simp
         (try with_reducible rfl)
        rotate_left
        ·simp only [Act.put, qA, qB, qC]
         rfl
        refine tq 26 65 (v := ?_) (a' := ?_) #[true, true, true, true, true, true, true, true, true, true, true, true, true, true, true, true, true, true, true, true, true, true, true, true, true, true, true, false, false, false] rfl (by kernel_rfl) (.inl ⟨by rfl, ?_⟩) (by assumption) ?_ ?_
        rotate_left
        ·intro w hSw
         obtain ⟨hl0, hl1⟩ := hSw
         have hm := s8 ⟨hl0, hl1⟩
         obtain ⟨hm0, hm1, hm2, hm3, hm4, hmG⟩ := hm
         clear hl0 hl1
         have hdd : (d : Int) < (d : Int) + 1 := by omega
         go_simp
         (try with_reducible rfl)
        rotate_left
        ·simp only [Act.put, qA, qB, qC]
         rfl
        refine ZA (i := 27) (N := some 66) #[true, true, true, true, true, true, true, true, true, true, true, true, true, true, true, true, true, true, true, true, true, true, true, true, true, true, true, true, false, false] rfl rfl (by kernel_rfl) (by decide) (fun K hK => ?_)
        go_simp
        have HE := Aside0.mk hHeld
        have hte := hHeld.2.each t (xbs _ ybm)
        (go_at_call 31; refine (XaV w _ t.g t.kind t.kv t.keys ⟨(d : Int), f1, f2, f3, f4⟩ _ FM.out hte.2.1 hte.2.2 hHeld.2.below hte.1 HT.out).mono ?_; rintro e w6 ⟨rfl, hL⟩); go_wp2_with fail
        have HP := Aside0.mk hL
        clear hL hte hHeld
        refine hK.out _ _ ?_
        clear hK K
        (try simp only [Act.put, qA, qB, qC])
        refine pq 28 67 (v := ?_) (a' := ?_) #[true, true, true, true, true, true, true, true, true, true, true, true, true, true, true, true, true, true, true, true, true, true, true, true, true, true, true, true, true, false] rfl (by kernel_rfl) (.inl ⟨by rfl, ?_⟩) ?_ ?_
        rotate_left
        ·intro w'
         go_simp
         (try with_reducible rfl)
        rotate_left
        ·simp only [Act.put, qA, qB, qC]
         rfl
        refine pq 29 68 (v := ?_) (a' := ?_) #[true, true, true, true, true, true, true, true, true, true, true, true, true, true, true, true, true, true, true, true, true, true, true, true, true, true, true, true, true, true] rfl (by kernel_rfl) (.inl ⟨by rfl, ?_⟩) ?_ ?_
        rotate_left
        ·intro w'
         go_simp
         (try with_reducible rfl)
        rotate_left
        ·simp only [Act.put, qA, qB, qC]
         rfl
        refine xL (by kernel_rfl) ?_
        obtain ⟨kv', hS6⟩ := HE.out.2.top HP.out
        have hI6 := itm_left HE.out.1 (HE.out.2.each t (xbs _ ybm)).2 HP.out
        obtain ⟨lv6, hl6⟩ : ∃ lv6 : List Level, lv.take d ++ [(⟨t.g, t.kind, kv', ks⟩ : Level)] = lv6 := ⟨_, rfl⟩
        rw [hl6] at hS6
        have HM6 : Aside0 ((lv6.map fun y => (y.kind, y.keys)) = (lv.take d).map (fun y => (y.kind, y.keys)) ++ [(t.kind, ks)]) := ⟨by rw [← hl6, xbq]; rfl⟩
        have HN6 : Aside0 (lv6.length = d + 1) := ⟨by rw [← hl6, Xbb, ybc, Xbh]; omega⟩
        clear hl6
        have HS6 := Aside0.mk hS6
        have HI6 := Aside0.mk hI6
        clear hS6 hI6 HP HE
        cases mb with
        | false =>
         rw [if_pos rfl] at hF
         have HR := Aside0.mk (Option.some.inj hF)
         clear hF
         go_wp2_with fail
         go_ret
         exact ⟨by rw [← HR.out]; rfl, HS6.out.below⟩
        | true =>
         rw [if_neg (by decide)] at hF
         obtain ⟨hm0, hm1, hm2, hm3, hm4⟩ := Xf HI6.out
         by_cases hh : (f1 == 6 || f1 == 7) = true
         ·rw [if_pos (show zal ⟨(d : Int), f1, f2, f3, f4⟩ = true from hh)] at hF
          have HDL : Aside0 (((lv6.map fun y => y.g).length + 1) * 8 ≤ 140737488355328) := ⟨by rw [xbk, HN6.out]; omega⟩
          by_cases hdp : (64 : Int) ≤ (d : Int)
          ·rw [if_pos hdp] at hF
           have HR := Aside0.mk (Option.some.inj hF)
           clear hF
           go_wp2_with (first
            | (go_at_call 32; refine (ZK ⟨(d : Int), f1, f2, f3, f4⟩ w6).mono ?_; rintro e w7 ⟨rfl, hb7⟩; have HI7 := Aside0.mk (zy HI6.out hb7); have HS7 := Aside0.mk (HS6.out.quiet hb7); clear hb7 hm0 hm1 hm2 hm3 hm4; obtain ⟨hm0, hm1, hm2, hm3, hm4⟩ := Xf HI7.out)
            | (at_builtin; refine Kd.R_append kptr (w0 := w) (W := w7.alloc (.cells #[.int .i64 f1, .slice none 0 0] 71)) w.heap.size rfl (.tmp 71) (.tmp 76) 72 68 (.pointer none) 8 rfl Tryz.underlying72 info82 rfl (by decide) (by decide) (.slice (some ⟨G, 0, none⟩) (d + 1) cc) (lv6.map fun y => y.g) w7.heap.size [.pointer (some ⟨w7.heap.size, 0, none⟩)] (fun _ => True) (fun _ => False) rfl (congrArg (fun q => Value.slice (some ⟨q, 0, none⟩) 1 1) (Yaf w7 _).symm) rfl (fun _ h => h.elim) (fun _ _ => trivial) (HS7.out.quiet (Za (ybd _ _) _)).row (HS7.out.quiet (Za (ybd _ _) _)).below (HS7.out.quiet (Za (ybd _ _) _)).below.size HDL.out ?_; intro v9 w9 hO9 hB9 hg9 hA9; have HS9 := Aside0.mk (Sk.push HS7.out f1 hO9 hB9 hg9); have HI9 := Aside0.mk (yaW HS7.out HI7.out hg9); clear hO9 hB9 hg9 hA9 hm0 hm1 hm2 hm3 hm4; obtain ⟨hm0, hm1, hm2, hm3, hm4⟩ := Xf HI9.out)
            | (go_at_call 32; refine (ZK ⟨(d : Int), f1, f2, f3, f4⟩ w9).mono ?_; rintro e w8 ⟨rfl, hb8⟩; have HI8 := Aside0.mk (zy HI9.out hb8); have HS8 := Aside0.mk (HS9.out.quiet hb8); clear hb8 hm0 hm1 hm2 hm3 hm4; obtain ⟨hm0, hm1, hm2, hm3, hm4⟩ := Xf HI8.out))
           go_ret
           exact ⟨by rw [← HR.out]; rfl, HS8.out.below⟩
          ·rw [if_neg hdp] at hF
           have HF := Aside0.mk hF
           clear hF
           go_wp2_with (first
            | (go_at_call 32; refine (ZK ⟨(d : Int), f1, f2, f3, f4⟩ w6).mono ?_; rintro e w7 ⟨rfl, hb7⟩; have HI7 := Aside0.mk (zy HI6.out hb7); have HS7 := Aside0.mk (HS6.out.quiet hb7); clear hb7 hm0 hm1 hm2 hm3 hm4; obtain ⟨hm0, hm1, hm2, hm3, hm4⟩ := Xf HI7.out)
            | (at_builtin; refine Kd.R_append kptr (w0 := w) (W := w7.alloc (.cells #[.int .i64 f1, .slice none 0 0] 71)) w.heap.size rfl (.tmp 71) (.tmp 76) 72 68 (.pointer none) 8 rfl Tryz.underlying72 info82 rfl (by decide) (by decide) (.slice (some ⟨G, 0, none⟩) (d + 1) cc) (lv6.map fun y => y.g) w7.heap.size [.pointer (some ⟨w7.heap.size, 0, none⟩)] (fun _ => True) (fun _ => False) rfl (congrArg (fun q => Value.slice (some ⟨q, 0, none⟩) 1 1) (Yaf w7 _).symm) rfl (fun _ h => h.elim) (fun _ _ => trivial) (HS7.out.quiet (Za (ybd _ _) _)).row (HS7.out.quiet (Za (ybd _ _) _)).below (HS7.out.quiet (Za (ybd _ _) _)).below.size HDL.out ?_; intro v9 w9 hO9 hB9 hg9 hA9; have HS9 := Aside0.mk (Sk.push HS7.out f1 hO9 hB9 hg9); have HI9 := Aside0.mk (yaW HS7.out HI7.out hg9); clear hO9 hB9 hg9 hA9 hm0 hm1 hm2 hm3 hm4; obtain ⟨hm0, hm1, hm2, hm3, hm4⟩ := Xf HI9.out)
            | (go_at_call 32; refine (ZK ⟨(d : Int), f1, f2, f3, f4⟩ w9).mono ?_; rintro e w8 ⟨rfl, hb8⟩; have HI8 := Aside0.mk (zy HI9.out hb8); have HS8 := Aside0.mk (HS9.out.quiet hb8); clear hb8 hm0 hm1 hm2 hm3 hm4; obtain ⟨hm0, hm1, hm2, hm3, hm4⟩ := Xf HI8.out))
           go_roundg (l.length - (j + 1))
           case measure => omega
           case rel => exact ⟨j + 1, lv6 ++ [(⟨w7.heap.size, f1, .slice none 0 0, []⟩ : Level)], rfl, hlt, by go_num, HS8, ⟨by rw [xbq, HM6.out, xbj]; exact HF.out⟩, ⟨by rw [Xbb, HN6.out, Xbh]; omega⟩⟩
         ·rw [if_neg (show ¬ zal ⟨(d : Int), f1, f2, f3, f4⟩ = true from hh)] at hF
          have hh := ybh.2 hh
          have HF := Aside0.mk hF
          clear hF
          go_wp2_with (first
           | (go_at_call 32; refine (ZK ⟨(d : Int), f1, f2, f3, f4⟩ w6).mono ?_; rintro e w7 ⟨rfl, hb7⟩; have HI7 := Aside0.mk (zy HI6.out hb7); have HS7 := Aside0.mk (HS6.out.quiet hb7); clear hb7 hm0 hm1 hm2 hm3 hm4; obtain ⟨hm0, hm1, hm2, hm3, hm4⟩ := Xf HI7.out)
           | (go_at_call 32; refine (ZK ⟨(d : Int), f1, f2, f3, f4⟩ w7).mono ?_; rintro e w8 ⟨rfl, hb8⟩; have HI8 := Aside0.mk (zy HI7.out hb8); have HS8 := Aside0.mk (HS7.out.quiet hb8); clear hb8 hm0 hm1 hm2 hm3 hm4; obtain ⟨hm0, hm1, hm2, hm3, hm4⟩ := Xf HI8.out))
          go_roundg (l.length - (j + 1))
          case measure => omega
          case rel => exact ⟨j + 1, lv6, rfl, hlt, by go_num, HS8, ⟨by rw [HM6.out]; exact HF.out⟩, ⟨by rw [HN6.out]; omega⟩⟩
  ·have hjl2 : l.drop j = [] := xbp (by omega)
   have hF := HF.out
   rw [hjl2, rightF] at hF
   have HR := Aside0.mk (Option.some.inj hF)
   have HJ := Aside0.mk hjl2
   clear HF hF hjl2
   have hjl3 : ¬ (j : Int) < (l.length : Int) := by omega
   go_wp2_with fail
   go_ret
   exact ⟨by rw [← HR.out, Bool.true_and]; rfl, HS.out.below⟩
theorem size68 : (Tryz.prog.info? 45).map (·.size) = some 2 := by kernel_rfl
theorem lies68 : liesAt Tryz.prog Tryz.prog.depth 47 (3 / Tryz.prog.cellsOf 47) 0 45 1 = true := by kernel_rfl
theorem copy_used (b : Nat) (w : World) (h0 : w.cell? ⟨b, 0, none⟩ = some (.pointer (some ⟨b, 0, none⟩))) :
  Calls Tryz.prog 33 #[.pointer (some ⟨b, 0, none⟩)] w fun e w' => e = .returned (.tuple #[]) ∧ w' = w := by
 obtain ⟨j, hj, _⟩ := xbh.1 size68
 go_enter Tryz.func33, Tryz.ntmps33
 go_wp2
 rw [Lib.run_neq_ptr_same w _ Tryz.underlying42 hj]
 go_wp2
 go_end0
 exact ⟨rfl, rfl⟩
theorem za7 (b : Nat) (w : World) (h0 : w.cell? ⟨b, 0, none⟩ = some (.pointer none)) (hsh : w.shape? b = some (47, 3)) (hfz : w.frozen? ⟨b, 0, none⟩ = false) :
  Calls Tryz.prog 33 #[.pointer (some ⟨b, 0, none⟩)] w fun e w' => e = .returned (.tuple #[]) ∧ w' = w.setCell ⟨b, 0, none⟩ (.pointer (some ⟨b, 0, none⟩)) := by
 obtain ⟨j, hj, hjs⟩ := xbh.1 size68
 go_enter Tryz.func33, Tryz.ntmps33
 go_wp2
 rw [Lib.run_to_unsafe w ⟨b, 0, none⟩ Tryz.underlying42 Tryz.underlying92 hj (by rw [hjs]; decide) hsh (Nat.zero_lt_succ 2)]
 simp only [Result.andThen]
 rw [Oper.upon_value]
 go_wp2
 rw [run_callFunc_extern Tryz.func54 (by kernel_rfl) (by kernel_rfl) (by kernel_rfl) (e := Extern.AbiNoEscape.same) (by kernel_rfl)]
 rw [Lib.run_noEscape]
 simp only [Result.andThen]
 rw [Oper.upon_value]
 go_wp2
 rw [Lib.run_from_unsafe w ⟨b, 0, none⟩ Tryz.underlying92 Tryz.underlying42 hj hsh lies68]
 simp only [Result.andThen]
 rw [Oper.upon_value]
 go_wp2
 go_end0
 exact ⟨rfl, rfl⟩
def toI (l : List UInt8) : List Int := l.map fun x => (x.toNat : Int)
structure WS (B g : Nat) (W : World) (bs ends : List UInt8) : Prop where
 at_ : ∃ p v ev, (p = .pointer none ∨ p = .pointer (some ⟨g, 0, none⟩)) ∧ W.heap[g]? = some (.cells #[p, v, ev] 47 (0, 0)) ∧ Kd.R (Kd.int .u8) 5 W B (fun k => k ≠ g) v (toI bs) ∧ Kd.R (Kd.int .u8) 5 W B (fun k => k ≠ g ∧ some k ≠ v.ownBlock) ev (toI ends)
 base : B ≤ g
def WK (g : Nat) (W W' : World) : Prop := W.heap.size ≤ W'.heap.size ∧ ∀ k, k < W.heap.size → k ≠ g → (∀ c z, W.heap[k]? ≠ some (.cells c 5 z)) → W'.heap[k]? = W.heap[k]?
theorem WK.refl (g : Nat) (W : World) : WK g W W := ⟨Xbc _, fun _ _ _ _ => rfl⟩
theorem WK.trans {g : Nat} {W W1 W2 : World} (h : WK g W W1) (h2 : WK g W1 W2) : WK g W W2 :=
 ⟨Ybg h.1 h2.1, fun k hk hg hc => (h2.2 k (Nat.lt_of_lt_of_le hk h.1) hg (by rw [h.2 k hk hg hc]; exact hc)).trans (h.2 k hk hg hc)⟩
theorem WK.of_keep {g : Nat} {W W1 : World} (h : KeepBut W W1 g none) : WK g W W1 := ⟨h.1, fun k hk hg _ => h.2 k hk hg (by simp)⟩
theorem WK.of_below {g : Nat} {W W1 : World} (h : Below W.heap.size W W1) : WK g W W1 := WK.of_keep (KeepBut.of_below h g none)
theorem WK.of_grown {g : Nat} {W W1 : World} {row : Option Nat} (h : W.grownBy W1 row) (ht : ∀ k, row = some k → ∃ c, W.heap[k]? = some (.cells c 5 (0, 0))) : WK g W W1 :=
 ⟨h.size, fun k hk _ hc => h.block k hk (fun e => by obtain ⟨c, h5⟩ := ht k e.symm; exact hc c _ h5)⟩
theorem WK.set_ {g : Nat} {W W1 : World} (h : WK g W W1) (j : Nat) (u : Value) : WK g W (W1.setCell ⟨g, j, none⟩ u) :=
 ⟨by simpa [World.setCell] using h.1, fun k hk hg hc => (Ybt W1 ⟨g, j, none⟩ u k hg).trans (h.2 k hk hg hc)⟩
theorem WK.blk {g k : Nat} {W W1 : World} {c : Array Value} {t : TypeId} (h : WK g W W1) (hb : W.heap[k]? = some (.cells c t (0, 0))) (hg : k ≠ g) (ht : t ≠ 5) : W1.heap[k]? = some (.cells c t (0, 0)) :=
 (h.2 k (Yg hb) hg (fun c2 z e => by rw [hb] at e; injection e with e; injection e with _ e; exact ht e)).trans hb
theorem WS.quiet {B g : Nat} {W W1 : World} {bs ends : List UInt8} (h : WS B g W bs ends) (hb : Below W.heap.size W W1) : WS B g W1 bs ends := by
 obtain ⟨p, v, ev, hp, hk, hv, he⟩ := h.at_
 exact ⟨⟨p, v, ev, hp, (hb.block g (Yg hk)).trans hk, Kd.R_below hv hb, Kd.R_below he hb⟩, h.base⟩
theorem WS.lt {B g : Nat} {W : World} {bs ends : List UInt8} (h : WS B g W bs ends) : g < W.heap.size := by
 obtain ⟨p, v, ev, hp, hk, hv, he⟩ := h.at_
 exact Yg hk
theorem ws_copy {B g : Nat} {bs ends : List UInt8} {W : World} (h : WS B g W bs ends) :
  Calls Tryz.prog 33 #[.pointer (some ⟨g, 0, none⟩)] W fun e w' => e = .returned (.tuple #[]) ∧ ((∃ v ev, w'.heap[g]? = some (.cells #[.pointer (some ⟨g, 0, none⟩), v, ev] 47 (0, 0)) ∧ Kd.R (Kd.int .u8) 5 w' B (fun k => k ≠ g) v (toI bs) ∧ Kd.R (Kd.int .u8) 5 w' B (fun k => k ≠ g ∧ some k ≠ v.ownBlock) ev (toI ends)) ∧ Below B W w' ∧ KeepBut W w' g none) := by
 obtain ⟨⟨p, v, ev, hp, hb, hv, he⟩, hB⟩ := h
 rcases hp with rfl | rfl
 ·refine (za7 g W ((zb hb 0).trans rfl) (by simp [World.shape?, hb]) (zg hb 0)).mono ?_
  rintro e w' ⟨rfl, rfl⟩
  have hk : KeepBut W (W.setCell ⟨g, 0, none⟩ (.pointer (some ⟨g, 0, none⟩))) g none := KeepBut.set_ (KeepBut.refl W g none) 0 _
  exact ⟨rfl, ⟨v, ev, zq hb 0 _, Kd.R_keep hv hk (fun _ h => h), Kd.R_keep he hk (fun _ h => h.1)⟩, (ybd B W).setCell (p := ⟨g, 0, none⟩) hB _, hk⟩
 ·refine (copy_used g W ((zb hb 0).trans rfl)).mono ?_
  rintro e w' ⟨rfl, rfl⟩
  exact ⟨rfl, ⟨v, ev, hb, hv, he⟩, ybd _ _, KeepBut.refl _ _ _⟩
theorem info5 : (Tryz.prog.info? 5).map (fun i => (i.zero, i.size, i.bytes)) = some (some (.int .u8 0), 1, 1) := by kernel_rfl
theorem xaW {B g : Nat} {W W1 : World} {v ev v1 : Value} {bs ends bs1 : List UInt8} {p : Value} (hp : p = .pointer (some ⟨g, 0, none⟩)) (hB : B ≤ g) (hk : W.heap[g]? = some (.cells #[p, v, ev] 47 (0, 0))) (hv : Kd.R (Kd.int .u8) 5 W B (fun k => k ≠ g) v (toI bs)) (he : Kd.R (Kd.int .u8) 5 W B (fun k => k ≠ g ∧ some k ≠ v.ownBlock) ev (toI ends))
  (hO : Kd.R (Kd.int .u8) 5 W1 B (fun k => k ≠ g) v1 (toI bs1)) (hG : W.grownBy W1 v.ownBlock) (hA : v1.ownBlock = v.ownBlock ∨ ∃ b, v1.ownBlock = some b ∧ W.heap.size ≤ b) :
  WS B g (W1.setCell ⟨g, 1, none⟩ v1) bs1 ends ∧ WK g W (W1.setCell ⟨g, 1, none⟩ v1) := by
 have hng : some g ≠ v.ownBlock := fun e => hv.1 g e.symm rfl
 have hk1 := XB hk hG hng
 have hel := Kd.R_lt he
 refine ⟨⟨⟨p, v1, ev, .inr hp, zq hk1 1 _, Kd.R_far hO (fun _ h => h) _, Kd.R_far ?_ (fun _ h => h.1) _⟩, hB⟩, (WK.of_grown hG (fun k e => Kd.R_typed hv k e)).set_ 1 _⟩
 refine Kd.R_reok rfl (Kd.R_grown he hG (fun _ h => h.2)) (fun k e => ⟨(he.1 k e).1, ?_⟩)
 rcases hA with hA | ⟨b, hA, hb⟩
 ·rw [hA]; exact (he.1 k e).2
 ·rw [hA]
  intro e2
  have := hel k e
  injection e2 with e2
  omega
theorem xH (l : List UInt8) : (toI l).length = l.length := xbk _
theorem xaJ (a b : List UInt8) : toI (a ++ b) = toI a ++ toI b := xbq
theorem ZR {W : World} {B e s n : Nat} {v : Value} {xs : List Value} (h : W.ownsRow B e s v n xs) : ∃ A m c, v = .slice A m c := by
 rcases h.2 with h2 | ⟨g, cap, cur, rfl, _⟩
 ·exact ⟨none, 0, 0, h2.1⟩
 ·exact ⟨_, _, _, rfl⟩
theorem byteCells_app (a b : List UInt8) : Lib.byteCells (a ++ b) = Lib.byteCells a ++ Lib.byteCells b := by unfold Lib.byteCells; exact xbq
theorem app_str (w : World) (B : Nat) (ty : TypeId) (v : Value) (bs : List UInt8) (hown : w.ownsRow B 5 1 v bs.length (Lib.byteCells bs)) (s : ByteArray) (hl : bs.length + s.size ≤ 140737488355328) (hB : B ≤ w.heap.size) :
  ∃ v' w', (Builtin.append_ #[43, 9] ty #[v, .string s]).run Tryz.prog w = .ok v' w' ∧ w'.ownsRow B 5 1 v' (bs.length + s.size) (Lib.byteCells bs ++ Lib.strCells s) ∧ w.grownBy w' v.ownBlock ∧ (v'.ownBlock = v.ownBlock ∨ ∃ b, v'.ownBlock = some b ∧ w.heap.size ≤ b) := by
 obtain ⟨i5, hi, hz, hs, hb⟩ := info_parts info5
 obtain ⟨v', w', hr, h1, h2, h3⟩ := Lib.run_append_own_string (P := Tryz.prog) w B 43 9 ty 5 i5 Tryz.underlying43 Tryz.underlying9 hi hz hs hb v bs.length (Lib.byteCells bs) hown s (by unfold maxLen; omega) hl hB
 refine ⟨v', w', hr, h1, h2, ?_⟩
 rcases hown.2 with ⟨rfl, h0⟩ | ⟨g, cap, cur, rfl, hbg, hg, hnc, hcm, hcs, htake⟩
 ·by_cases hm : s.size = 0
  ·rw [h3.2 ⟨rfl, hm⟩]; exact .inl rfl
  ·have hq := run_append_nil_string (P := Tryz.prog) w 43 9 ty 5 i5 (.int .u8 0) Tryz.underlying43 Tryz.underlying9 hi hz s (by omega) (by omega) (by rw [hb]; omega)
   rw [hr] at hq
   injection hq with hq _
   rw [hq]
   exact .inr ⟨_, rfl, Xbc _⟩
 ·by_cases hroom : bs.length + s.size ≤ cap
  ·have hq := Lib.run_append_room_string (P := Tryz.prog) w 43 9 ty 5 i5 Tryz.underlying43 Tryz.underlying9 hi hs g bs.length cap cur hg s hroom (by rw [hcs]; omega)
   rw [hr] at hq
   injection hq with hq _
   rw [hq]
   exact .inl rfl
  ·have hq := Lib.run_append_grow_string (P := Tryz.prog) w 43 9 ty 5 i5 (.int .u8 0) Tryz.underlying43 Tryz.underlying9 hi hz ⟨g, 0, none⟩ bs.length cap (Lib.byteCells bs) (by rw [hs]; exact hown.1) (hown.cells (g := g) rfl) s (by omega) (by omega) (by rw [hb]; exact growslice_fits (by omega) (by omega))
   rw [hr] at hq
   injection hq with hq _
   rw [hq]
   exact .inr ⟨_, rfl, Xbc _⟩
theorem zW (B g : Nat) (bs ends : List UInt8) (c : UInt8) (W : World) (h : WS B g W bs ends) (hlen : bs.length + 1 ≤ 140737488355328) (hBw : B ≤ W.heap.size) :
  Calls Tryz.prog 17 #[.pointer (some ⟨g, 0, none⟩), .int .u8 (c.toNat : Int)] W fun e w' => e = .returned .nilIface ∧ WS B g w' (bs ++ [c]) ends ∧ Below B W w' ∧ WK g W w' := by
 have H := Aside0.mk h
 have HL := Aside0.mk hlen
 have HBw := Aside0.mk hBw
 clear h hlen hBw
 go_enter Tryz.func17, Tryz.ntmps17
 go_wp2_with (first
  | (go_at_call 33; refine (ws_copy H.out).mono ?_; rintro e w1 ⟨rfl, ⟨v, ev, hk1, hv1, he1⟩, hb1, hkk⟩; have c1 : w1.cell? ⟨g, 1, none⟩ = some v := (zb hk1 1).trans rfl; have HK1 := Aside0.mk hk1; have HV1 := Aside0.mk hv1; have HE1 := Aside0.mk he1; have HB1 := Aside0.mk hb1; have HKK := Aside0.mk hkk; clear hk1 hv1 he1 hb1 hkk)
  | (at_builtin; refine Kd.R_append (Kd.int .u8) (w0 := W) (W := w1) B rfl (.tmp 11) (.tmp 13) 43 5 (.int .u8 0) 1 rfl Tryz.underlying43 info5 rfl (by decide) (by decide) v (toI bs) (c.toNat : Int) [.int .u8 (c.toNat : Int)] (fun k => k ≠ g) (fun _ => False) rfl rfl rfl (fun _ h => h.elim) (fun k hk => by have := Yg HK1.out; omega) HV1.out HB1.out (Ybg HBw.out HB1.out.size) (by rw [xH]; have := HL.out; omega) ?_; intro v2 w2 hO2 hB2 hG2 hA2; have HW := Aside0.mk (xaW (bs1 := bs ++ [c]) rfl H.out.base HK1.out HV1.out HE1.out (by rw [xaJ]; exact hO2) hG2 hA2); have HB2 := Aside0.mk hB2; have hk2 := XB HK1.out hG2 (fun e => HV1.out.1 g e.symm rfl); have d0 : w2.cell? ⟨g, 0, none⟩ = some (.pointer (some ⟨g, 0, none⟩)) := (zb hk2 0).trans rfl; have d1 : w2.cell? ⟨g, 1, none⟩ = some v := (zb hk2 1).trans rfl; have f1 : w2.frozen? ⟨g, 1, none⟩ = false := zg hk2 1; obtain ⟨As, n2, cc, hv2⟩ := ZR (Kd.own_of_R hO2); subst hv2; clear hO2 hB2 hG2 hA2 hk2))
 go_ret
 exact ⟨rfl, HW.out.1, HB2.out.setCell (p := ⟨g, 1, none⟩) H.out.base _, (WK.of_keep HKK.out).trans HW.out.2⟩
theorem XaC (l : List UInt8) : Go.Proofs.Wa.encs (Value.int .u8) (toI l) = Lib.byteCells l := by
 unfold Go.Proofs.Wa.encs toI Lib.byteCells
 rw [List.map_map]; rfl
theorem zaR (s : ByteArray) : Lib.strCells s = Lib.byteCells s.data.toList := by
 unfold Lib.strCells Lib.byteCells; rfl
theorem own_R {W : World} {B : Nat} {ok : Nat → Prop} {v : Value} {l : List UInt8} (h : Kd.R (Kd.int .u8) 5 W B ok v (toI l)) : W.ownsRow B 5 1 v l.length (Lib.byteCells l) := by
 have := Kd.own_of_R h
 rw [XaC, xH] at this
 exact this
theorem R_own8 {W : World} {B : Nat} {ok : Nat → Prop} {v : Value} {l : List UInt8} (h : W.ownsRow B 5 1 v l.length (Lib.byteCells l)) (hok : ∀ k, v.ownBlock = some k → ok k) : Kd.R (Kd.int .u8) 5 W B ok v (toI l) :=
 Kd.R_of_own (by rw [XaC, xH]; exact h) hok
theorem yal (B g : Nat) (bs ends : List UInt8) (s : ByteArray) (W : World) (h : WS B g W bs ends) (hlen : bs.length + s.size ≤ 140737488355328) (hBw : B ≤ W.heap.size) :
  Calls Tryz.prog 35 #[.pointer (some ⟨g, 0, none⟩), .string s] W fun e w' => e = .returned (.tuple #[.int .i64 s.size, .nilIface]) ∧ WS B g w' (bs ++ s.data.toList) ends ∧ Below B W w' ∧ WK g W w' := by
 obtain ⟨i5, hi5, hz5, hs5, hb5⟩ := info_parts info5
 have H := Aside0.mk h
 have HL := Aside0.mk hlen
 have HBw := Aside0.mk hBw
 have HI := Aside0.mk hi5
 have HZ := Aside0.mk hz5
 have HS5 := Aside0.mk hs5
 have HB5 := Aside0.mk hb5
 clear h hlen hBw hi5 hz5 hs5 hb5
 go_enter Tryz.func35, Tryz.ntmps35
 go_wp2_with (first
  | (go_at_call 33; refine (ws_copy H.out).mono ?_; rintro e w1 ⟨rfl, ⟨v, ev, hk1, hv1, he1⟩, hb1, hkk⟩; have c1 : w1.cell? ⟨g, 1, none⟩ = some v := (zb hk1 1).trans rfl; have HK1 := Aside0.mk hk1; have HV1 := Aside0.mk hv1; have HE1 := Aside0.mk he1; have HB1 := Aside0.mk hb1; have HKK := Aside0.mk hkk; clear hk1 hv1 he1 hb1 hkk)
  | (at_builtin; obtain ⟨v2, w2, hr2, hO2, hG2, hA2⟩ := app_str w1 B 43 v bs (own_R HV1.out) s HL.out (Ybg HBw.out HB1.out.size); refine Lib.wpList_append_run w1 rfl (.tmp 12) (.tmp 13) 43 9 rfl v (.string s) rfl rfl v2 w2 hr2 ?_; have hok2 : ∀ k, v2.ownBlock = some k → k ≠ g := (fun k e => hA2.elim (fun q => HV1.out.1 k (q ▸ e)) (fun ⟨b, q, hb⟩ => by rw [q] at e; injection e with e; have := Yg HK1.out; omega)); have HW := Aside0.mk (xaW (bs1 := bs ++ s.data.toList) rfl H.out.base HK1.out HV1.out HE1.out (R_own8 (by rw [Xbb, data_length, byteCells_app, ← zaR]; exact hO2) hok2) hG2 hA2); have HB2 := Aside0.mk (HB1.out.grown hG2 (Ybg HBw.out HB1.out.size) (fun k hk => Kd.R_base HV1.out k hk)); have hk2 := XB HK1.out hG2 (fun e => HV1.out.1 g e.symm rfl); have d0 : w2.cell? ⟨g, 0, none⟩ = some (.pointer (some ⟨g, 0, none⟩)) := (zb hk2 0).trans rfl; have d1 : w2.cell? ⟨g, 1, none⟩ = some v := (zb hk2 1).trans rfl; have f1 : w2.frozen? ⟨g, 1, none⟩ = false := zg hk2 1; obtain ⟨As, n2, cc, hv2⟩ := ZR hO2; subst hv2; clear hr2 hO2 hG2 hA2 hk2 hok2))
 go_ret2
 exact ⟨rfl, HW.out.1, HB2.out.setCell (p := ⟨g, 1, none⟩) H.out.base _, (WK.of_keep HKK.out).trans HW.out.2⟩
theorem ws_text (B g : Nat) (bs ends : List UInt8) (W : World) (h : WS B g W bs ends) (h0 : bs ≠ []) (hlen : bs.length ≤ 140737488355328) :
  Calls Tryz.prog 20 #[.pointer (some ⟨g, 0, none⟩)] W fun e w' => e = .returned (.string ⟨bs.toArray⟩) ∧ Below B W w' := by
 obtain ⟨⟨p, v, ev, hp, hk, hv, he⟩, hB⟩ := h
 have hown := own_R hv
 have hl0 : bs.length ≠ 0 := by simpa using h0
 obtain ⟨gg, cap, cur, rfl, hbg, hg, hnc, hcm, hcs, htake⟩ : ∃ gg cap cur, v = .slice (some ⟨gg, 0, none⟩) bs.length cap ∧ B ≤ gg ∧ W.heap[gg]? = some (.cells cur 5 (0, 0)) ∧ bs.length ≤ cap ∧ cap ≤ maxLen ∧ cur.size = cap * 1 ∧ cur.toList.take (bs.length * 1) = Lib.byteCells bs := by
  rcases hown.2 with ⟨_, hz⟩ | ⟨gg, cap, cur, hv, r⟩
  ·exact absurd hz hl0
  ·exact ⟨gg, cap, cur, hv, r⟩
 have c1 : W.drew.cell? ⟨g, 1, none⟩ = some (.slice (some ⟨gg, 0, none⟩) bs.length cap) := (zb hk 1).trans rfl
 have hSD : (Builtin.unsafeSliceData_ #[43] 80 #[.slice (some ⟨gg, 0, none⟩) bs.length cap]).run Tryz.prog W.drew = .ok (.pointer (some ⟨gg, 0, none⟩)) W.drew :=
  Lib.run_unsafeSliceData_row _ _ _ _ _ _ (by omega)
 have hUS : (Builtin.unsafeString_ #[80, 3] 9 #[.pointer (some ⟨gg, 0, none⟩), .int .i64 bs.length]).run Tryz.prog W.drew = .ok (.string ⟨bs.toArray⟩) (W.drew.freeze ⟨gg, 0, none⟩ bs.length) := by
  refine Lib.run_unsafeString_row W.drew 80 3 9 5 Tryz.underlying80 (by kernel_rfl) gg cur.size (by have hg' : W.drew.heap[gg]? = some (.cells cur 5 (0, 0)) := hg; simp [World.shape?, hg']) bs h0 (by omega) (by omega) ?_
  intro j x hx
  have := hown.cells (g := gg) rfl j (.int .u8 x.toNat) (by simp [Lib.byteCells, hx])
  exact this
 go_enter Tryz.func20, Tryz.ntmps20
 go_wp2
 go_region
 all_goals (go_wp2; go_ret; exact ⟨rfl, Lib.below_freeze (Below.drew (ybd B W)) (p := ⟨gg, 0, none⟩) hbg _⟩)
theorem toI_get (l : List UInt8) (q : Nat) (h : q < l.length) : rdOf (0 : Int) (toI l) (q : Int) = ((l.getD q 0).toNat : Int) := by
 unfold rdOf toI
 simp [List.getD, h]
theorem WS.top {B g q : Nat} {W : World} {bs ends : List UInt8} (h : WS B g W bs ends) (hq : ends.length = q + 1) :
  ∃ gg cc, W.cell? ⟨g, 2, none⟩ = some (.slice (some ⟨gg, 0, none⟩) (q + 1) cc) ∧ W.cell? ⟨gg, q, none⟩ = some (.int .u8 ((ends.getD q 0).toNat : Int)) ∧ W.frozen? ⟨g, 2, none⟩ = false ∧ q + 1 ≤ cc ∧ WS B g (W.setCell ⟨g, 2, none⟩ (.slice (some ⟨gg, 0, none⟩) q cc)) bs (ends.take q) := by
 obtain ⟨⟨p, v, ev, hp, hk, hv, he⟩, hB⟩ := h
 obtain ⟨gg, cc, hev, _⟩ := Kd.R_form he (by rw [xH]; omega)
 rw [xH, hq] at hev
 subst hev
 have hcc := (Kd.R_reads' he).2.1
 have hcell := (Kd.R_cell (0 : Int) (by rw [xH, hq]; exact he) (q : Int) (by omega) (by rw [xH]; omega)).1
 rw [toI_get ends q (by omega), Ybd] at hcell
 refine ⟨gg, cc, (zb hk 2).trans rfl, hcell, zg hk 2, hcc, ⟨⟨p, v, _, hp, zq hk 2 _, Kd.R_far hv (fun _ h => h) _, Kd.R_far ?_ (fun _ h => h.1) _⟩, hB⟩⟩
 have := Kd.R_take (m := q) he (by rw [xH]; omega)
 rw [show toI (ends.take q) = (toI ends).take q from List.map_take]
 exact this
theorem WS.len {B g : Nat} {W : World} {bs ends : List UInt8} (h : WS B g W bs ends) : ∃ A cc, W.cell? ⟨g, 2, none⟩ = some (.slice A ends.length cc) := by
 obtain ⟨⟨p, v, ev, hp, hk, hv, he⟩, hB⟩ := h
 obtain ⟨A, cc, hev⟩ := Kd.R_slice he
 rw [xH] at hev
 subst hev
 exact ⟨A, cc, (zb hk 2).trans rfl⟩
theorem take_last (l : List UInt8) (q : Nat) (h : q < l.length) : (l.drop q).reverse = (l.drop (q + 1)).reverse ++ [l.getD q 0] := by
 rw [Xbo h, List.reverse_cons]
 simp [List.getD, h]
theorem WS.drew1 {B g : Nat} {W : World} {bs ends : List UInt8} (h : WS B g W bs ends) : WS B g W.drew bs ends := h.quiet (Xa (ybd _ _))
theorem zaD (B g : Nat) (bs ends : List UInt8) (n : Nat) (W : World) (h : WS B g W bs ends) (hn : n ≤ ends.length) (hlen : bs.length + ends.length ≤ 140737488355328) (hBw : B ≤ W.heap.size) :
  Calls Tryz.prog 16 #[.pointer (some ⟨g, 0, none⟩), .int .i64 (n : Int)] W fun e w' => e = .returned (.tuple #[]) ∧ WS B g w' (bs ++ (ends.drop n).reverse) (ends.take n) ∧ Below B W w' ∧ WK g W w' := by
 have H0 := Aside0.mk h
 have HL := Aside0.mk hlen
 have HBw := Aside0.mk hBw
 have hn63 : n ≤ 140737488355328 := by omega
 have HN := Aside0.mk hn
 clear h hlen hBw hn
 go_enter Tryz.func16, Tryz.ntmps16
 go_wp2_with fail
 go_loopg [] ends.length (fun kq wr => ∃ m : Nat, kq = m ∧ n ≤ m ∧ Aside0 (m ≤ ends.length) ∧ Aside0 (WS B g wr (bs ++ (ends.drop m).reverse) (ends.take m)) ∧ Aside0 (Below B W wr) ∧ Aside0 (WK g W wr))
 case atStart => exact ⟨ends.length, rfl, HN.out, ⟨Xbc _⟩, ⟨by rw [List.drop_length, List.take_length]; simpa using H0.out⟩, ⟨ybd _ _⟩, ⟨WK.refl _ _⟩⟩
 case round =>
  clear H0
  obtain ⟨m, hkq, hnm, HM, HS, HB, HK⟩ := hrel
  have HQ := Aside0.mk hkq
  clear hkq
  have hlm : (ends.take m).length = m := by rw [ybc]; have := HM.out; omega
  by_cases hlt : n < m
  ·obtain ⟨q, rfl⟩ : ∃ q, m = q + 1 := ⟨m - 1, by omega⟩
   obtain ⟨gg, cc, c2, c3, _, _, _⟩ := HS.out.top hlm
   clear hlm
   have hgq : (ends.take (q + 1)).getD q 0 = ends.getD q 0 := by simp [List.getD, Ybi]
   rw [hgq] at c3
   clear hgq
   have C2 := Aside0.mk c2
   have C3 := Aside0.mk c3
   have HLn : Aside0 ((bs ++ (ends.drop (q + 1)).reverse).length + 1 ≤ 140737488355328) := ⟨by rw [Xbb, zbk, Zbb]; have := HL.out; have := HM.out; omega⟩
   have hq63 : q + 1 ≤ 140737488355328 := by have := HL.out; have := HM.out; omega
   have hwq : IntKind.i64.wrap (q : Int) = (q : Int) := IntWalk.i64_in (q : Int) ⟨by omega, by omega⟩
   have hq0 : (0 : Int) ≤ (q : Int) := by omega
   have hq1 : (q : Int) < (q : Int) + 1 := by omega
   go_wp2_with fail
   refine ZG (n := 16) (S := fun w' => w'.cell? ⟨g, 2, none⟩ = some (.slice (some ⟨gg, 0, none⟩) (q + 1) cc) ∧ w'.cell? ⟨gg, q, none⟩ = some (.int .u8 ((ends.getD q 0).toNat : Int))) (ds := [15]) #[false, false, false, false, false, false, false, false, false, false, false, false, false, false, false, false] (by kernel_rfl) rfl rfl ⟨C2.out, C3.out⟩ (fun hHeld => ?_)
   refine pq 0 11 (v := ?_) (a' := ?_) #[true, false, false, false, false, false, false, false, false, false, false, false, false, false, false, false] rfl (by kernel_rfl) (.inl ⟨by rfl, ?_⟩) ?_ ?_
   rotate_left
   ·intro w'
    go_simp
    (try with_reducible rfl)
   rotate_left
   ·simp only [Act.put, qA, qB, qC]
    rfl
   refine pq 1 12 (v := ?_) (a' := ?_) #[true, true, false, false, false, false, false, false, false, false, false, false, false, false, false, false] rfl (by kernel_rfl) (.inl ⟨by rfl, ?_⟩) ?_ ?_
   rotate_left
   ·intro w'
    go_simp
    (try with_reducible rfl)
   rotate_left
   ·simp only [Act.put, qA, qB, qC]
    rfl
   refine pq 2 13 (v := ?_) (a' := ?_) #[true, true, true, false, false, false, false, false, false, false, false, false, false, false, false, false] rfl (by kernel_rfl) (.inl ⟨by rfl, ?_⟩) ?_ ?_
   rotate_left
   ·intro w'
    go_simp
    (try with_reducible rfl)
   rotate_left
   ·simp only [Act.put, qA, qB, qC]
    rfl
   refine pq 3 14 (v := ?_) (a' := ?_) #[true, true, true, true, false, false, false, false, false, false, false, false, false, false, false, false] rfl (by kernel_rfl) (.inl ⟨by rfl, ?_⟩) ?_ ?_
   rotate_left
   ·intro w'
    go_simp
    (try with_reducible rfl)
   rotate_left
   ·simp only [Act.put, qA, qB, qC]
    rfl
   refine pq 4 15 (v := ?_) (a' := ?_) #[true, true, true, true, true, false, false, false, false, false, false, false, false, false, false, false] rfl (by kernel_rfl) (.inl ⟨by rfl, ?_⟩) ?_ ?_
   rotate_left
   ·intro w'
    go_simp
    (try with_reducible rfl)
   rotate_left
   ·simp only [Act.put, qA, qB, qC]
    rfl
   refine pq 5 16 (v := ?_) (a' := ?_) #[true, true, true, true, true, true, false, false, false, false, false, false, false, false, false, false] rfl (by kernel_rfl) (.inl ⟨by rfl, ?_⟩) ?_ ?_
   rotate_left
   ·intro w'
    go_simp
    (try with_reducible rfl)
   rotate_left
   ·simp only [Act.put, qA, qB, qC]
    rfl
   refine tq 6 17 (v := ?_) (a' := ?_) #[true, true, true, true, true, true, true, false, false, false, false, false, false, false, false, false] rfl (by kernel_rfl) (.inl ⟨by rfl, ?_⟩) (by assumption) ?_ ?_
   rotate_left
   ·intro w hSw
    obtain ⟨hl0, hl1⟩ := hSw
    skip
    go_simp
    (try with_reducible rfl)
   rotate_left
   ·simp only [Act.put, qA, qB, qC]
    rfl
   refine pq 7 18 (v := ?_) (a' := ?_) #[true, true, true, true, true, true, true, true, false, false, false, false, false, false, false, false] rfl (by kernel_rfl) (.inl ⟨by rfl, ?_⟩) ?_ ?_
   rotate_left
   ·intro w'
    go_simp
    (try with_reducible rfl)
   rotate_left
   ·simp only [Act.put, qA, qB, qC]
    rfl
   refine pq 8 19 (v := ?_) (a' := ?_) #[true, true, true, true, true, true, true, true, true, false, false, false, false, false, false, false] rfl (by kernel_rfl) (.inl ⟨by rfl, ?_⟩) ?_ ?_
   rotate_left
   ·intro w'
    go_simp
    (try with_reducible rfl)
   rotate_left
   ·simp only [Act.put, qA, qB, qC]
    rfl
   refine pq 9 20 (v := ?_) (a' := ?_) #[true, true, true, true, true, true, true, true, true, true, false, false, false, false, false, false] rfl (by kernel_rfl) (.inl ⟨by rfl, ?_⟩) ?_ ?_
   rotate_left
   ·intro w'
    go_simp
    (try with_reducible rfl)
   rotate_left
   ·simp only [Act.put, qA, qB, qC]
    rfl
   refine tq 10 21 (v := ?_) (a' := ?_) #[true, true, true, true, true, true, true, true, true, true, true, false, false, false, false, false] rfl (by kernel_rfl) (.inl ⟨by rfl, ?_⟩) (by assumption) ?_ ?_
   rotate_left
   ·intro w hSw
    obtain ⟨hl0, hl1⟩ := hSw
    skip
    go_simp
    (try with_reducible rfl)
   rotate_left
   ·simp only [Act.put, qA, qB, qC]
    rfl
   refine pq 11 22 (v := ?_) (a' := ?_) #[true, true, true, true, true, true, true, true, true, true, true, true, false, false, false, false] rfl (by kernel_rfl) (.inl ⟨by rfl, ?_⟩) ?_ ?_
   rotate_left
   ·intro w'
    go_simp
    (try with_reducible rfl)
   rotate_left
   ·simp only [Act.put, qA, qB, qC]
    rfl
   refine pq 12 23 (v := ?_) (a' := ?_) #[true, true, true, true, true, true, true, true, true, true, true, true, true, false, false, false] rfl (by kernel_rfl) (.inl ⟨by rfl, ?_⟩) ?_ ?_
   rotate_left
   ·intro w'
    go_simp
    (try with_reducible rfl)
   rotate_left
   ·simp only [Act.put, qA, qB, qC]
    rfl
   refine pq 13 24 (v := ?_) (a' := ?_) #[true, true, true, true, true, true, true, true, true, true, true, true, true, true, false, false] rfl (by kernel_rfl) (.inl ⟨by rfl, ?_⟩) ?_ ?_
   rotate_left
   ·intro w'
    go_simp
    (try with_reducible rfl)
   rotate_left
   ·simp only [Act.put, qA, qB, qC]
    rfl
   refine tq 14 25 (v := ?_) (a' := ?_) #[true, true, true, true, true, true, true, true, true, true, true, true, true, true, true, false] rfl (by kernel_rfl) (.inl ⟨by rfl, ?_⟩) (by assumption) ?_ ?_
   rotate_left
   ·intro w hSw
    obtain ⟨hl0, hl1⟩ := hSw
    skip
    go_simp
    (try with_reducible rfl)
   rotate_left
   ·simp only [Act.put, qA, qB, qC]
    rfl
   refine ZA (i := 15) (N := some 26) #[true, true, true, true, true, true, true, true, true, true, true, true, true, true, true, true] rfl rfl (by kernel_rfl) (by decide) (fun K hK => ?_)
   go_simp
   (go_at_call 17; refine (zW B g _ _ (ends.getD q 0) _ HS.out.drew1 HLn.out (Ybg HBw.out HB.out.size)).mono ?_; rintro e w2 ⟨rfl, hS2, hB2, hK2⟩); go_wp2_with fail
   have HS2 := Aside0.mk hS2
   have HB2 := Aside0.mk hB2
   have HK2 := Aside0.mk hK2
   clear hS2 hB2 hK2
   refine hK.out _ _ ?_
   clear hK K
   (try simp only [Act.put, qA, qB, qC])
   refine xL (by kernel_rfl) ?_
   have hlm2 : (ends.take (q + 1)).length = q + 1 := by rw [ybc]; have := HM.out; omega
   obtain ⟨gg2, cc2, d2, _, df, hc2, hS3⟩ := HS2.out.top hlm2
   clear hlm2
   rw [zbt, zbq (Nat.le_succ q)] at hS3
   have D2 := Aside0.mk d2
   have HS3 := Aside0.mk hS3
   have hqc : q ≤ cc2 := by omega
   clear hc2
   clear hS3
   go_wp2_with fail
   refine ZG (n := 15) (S := fun w' => w'.cell? ⟨g, 2, none⟩ = some (.slice (some ⟨gg2, 0, none⟩) (q + 1) cc2) ∧ True) (ds := [14]) #[false, false, false, false, false, false, false, false, false, false, false, false, false, false, false] (by kernel_rfl) rfl rfl ⟨D2.out, trivial⟩ (fun hHeld => ?_)
   refine pq 0 27 (v := ?_) (a' := ?_) #[true, false, false, false, false, false, false, false, false, false, false, false, false, false, false] rfl (by kernel_rfl) (.inl ⟨by rfl, ?_⟩) ?_ ?_
   rotate_left
   ·intro w'
    go_simp
    (try with_reducible rfl)
   rotate_left
   ·simp only [Act.put, qA, qB, qC]
    rfl
   refine pq 1 28 (v := ?_) (a' := ?_) #[true, true, false, false, false, false, false, false, false, false, false, false, false, false, false] rfl (by kernel_rfl) (.inl ⟨by rfl, ?_⟩) ?_ ?_
   rotate_left
   ·intro w'
    go_simp
    (try with_reducible rfl)
   rotate_left
   ·simp only [Act.put, qA, qB, qC]
    rfl
   refine pq 2 29 (v := ?_) (a' := ?_) #[true, true, true, false, false, false, false, false, false, false, false, false, false, false, false] rfl (by kernel_rfl) (.inl ⟨by rfl, ?_⟩) ?_ ?_
   rotate_left
   ·intro w'
    go_simp
    (try with_reducible rfl)
   rotate_left
   ·simp only [Act.put, qA, qB, qC]
    rfl
   refine pq 3 30 (v := ?_) (a' := ?_) #[true, true, true, true, false, false, false, false, false, false, false, false, false, false, false] rfl (by kernel_rfl) (.inl ⟨by rfl, ?_⟩) ?_ ?_
   rotate_left
   ·intro w'
    go_simp
    (try with_reducible rfl)
   rotate_left
   ·simp only [Act.put, qA, qB, qC]
    rfl
   refine tq 4 31 (v := ?_) (a' := ?_) #[true, true, true, true, true, false, false, false, false, false, false, false, false, false, false] rfl (by kernel_rfl) (.inl ⟨by rfl, ?_⟩) (by assumption) ?_ ?_
   rotate_left
   ·intro w hSw
    obtain ⟨hl0, hl1⟩ := hSw
    go_simp
    (try with_reducible rfl)
   rotate_left
   ·simp only [Act.put, qA, qB, qC]
    rfl
   refine pq 5 32 (v := ?_) (a' := ?_) #[true, true, true, true, true, true, false, false, false, false, false, false, false, false, false] rfl (by kernel_rfl) (.inl ⟨by rfl, ?_⟩) ?_ ?_
   rotate_left
   ·intro w'
    go_simp
    (try with_reducible rfl)
   rotate_left
   ·simp only [Act.put, qA, qB, qC]
    rfl
   refine pq 6 33 (v := ?_) (a' := ?_) #[true, true, true, true, true, true, true, false, false, false, false, false, false, false, false] rfl (by kernel_rfl) (.inl ⟨by rfl, ?_⟩) ?_ ?_
   rotate_left
   ·intro w'
    go_simp
    (try with_reducible rfl)
   rotate_left
   ·simp only [Act.put, qA, qB, qC]
    rfl
   refine pq 7 34 (v := ?_) (a' := ?_) #[true, true, true, true, true, true, true, true, false, false, false, false, false, false, false] rfl (by kernel_rfl) (.inl ⟨by rfl, ?_⟩) ?_ ?_
   rotate_left
   ·intro w'
    go_simp
    (try with_reducible rfl)
   rotate_left
   ·simp only [Act.put, qA, qB, qC]
    rfl
   refine tq 8 35 (v := ?_) (a' := ?_) #[true, true, true, true, true, true, true, true, true, false, false, false, false, false, false] rfl (by kernel_rfl) (.inl ⟨by rfl, ?_⟩) (by assumption) ?_ ?_
   rotate_left
   ·intro w hSw
    obtain ⟨hl0, hl1⟩ := hSw
    go_simp
    (try with_reducible rfl)
   rotate_left
   ·simp only [Act.put, qA, qB, qC]
    rfl
   refine pq 9 36 (v := ?_) (a' := ?_) #[true, true, true, true, true, true, true, true, true, true, false, false, false, false, false] rfl (by kernel_rfl) (.inl ⟨by rfl, ?_⟩) ?_ ?_
   rotate_left
   ·intro w'
    go_simp
    (try with_reducible rfl)
   rotate_left
   ·simp only [Act.put, qA, qB, qC]
    rfl
   refine pq 10 37 (v := ?_) (a' := ?_) #[true, true, true, true, true, true, true, true, true, true, true, false, false, false, false] rfl (by kernel_rfl) (.inl ⟨by rfl, ?_⟩) ?_ ?_
   rotate_left
   ·intro w'
    go_simp
    (try with_reducible rfl)
   rotate_left
   ·simp only [Act.put, qA, qB, qC]
    rfl
   refine pq 11 38 (v := ?_) (a' := ?_) #[true, true, true, true, true, true, true, true, true, true, true, true, false, false, false] rfl (by kernel_rfl) (.inl ⟨by rfl, ?_⟩) ?_ ?_
   rotate_left
   ·intro w'
    go_simp
    (try with_reducible rfl)
   rotate_left
   ·simp only [Act.put, qA, qB, qC]
    rfl
   refine pq 12 39 (v := ?_) (a' := ?_) #[true, true, true, true, true, true, true, true, true, true, true, true, true, false, false] rfl (by kernel_rfl) (.inl ⟨by rfl, ?_⟩) ?_ ?_
   rotate_left
   ·intro w'
    go_simp
    (try with_reducible rfl)
   rotate_left
   ·simp only [Act.put, qA, qB, qC]
    rfl
   refine pq 13 40 (v := ?_) (a' := ?_) #[true, true, true, true, true, true, true, true, true, true, true, true, true, true, false] rfl (by kernel_rfl) (.inl ⟨by rfl, ?_⟩) ?_ ?_
   rotate_left
   ·intro w'
    go_simp
    (try with_reducible rfl)
   rotate_left
   ·simp only [Act.put, qA, qB, qC]
    rfl
   refine ZA (i := 14) (N := none) #[true, true, true, true, true, true, true, true, true, true, true, true, true, true, true] rfl rfl (by kernel_rfl) (by decide) (fun K hK => ?_)
   go_simp
   refine hK.out _ _ ?_
   clear hK K
   (try simp only [Act.put, qA, qB, qC])
   refine xL (by kernel_rfl) ?_
   go_wp2_with fail
   go_roundg q
   case measure => have := HQ.out; omega
   case rel => exact ⟨q, rfl, by omega, ⟨by have := HM.out; omega⟩, ⟨by rw [take_last ends q HM.out, ← xbj]; exact HS3.out.drew1⟩, ⟨Xa (((Xa HB.out).trans HB2.out).setCell (p := ⟨g, 2, none⟩) HS.out.base _)⟩, ⟨(((HK.out.trans (WK.of_below (Xa (ybd _ _)))).trans HK2.out).set_ 2 _).trans (WK.of_below (Xa (ybd _ _)))⟩⟩
  ·obtain rfl : m = n := by omega
   obtain ⟨A, cc, c2⟩ := HS.out.len
   rw [hlm] at c2
   go_wp2_with fail
   go_end0
   exact ⟨rfl, HS.out, HB.out, HK.out⟩
theorem writeS_f (s : ByteArray) (h : 6 * s.size + 2 ≤ 140737488355328) : xK.f s = some ((Xx s).1, (Xx s).2) := by unfold xK.f; rw [if_pos h]
theorem Y5 (s : ByteArray) : (Xx s).1.data.toList.length ≤ 6 * s.size + 2 := by
 unfold Xx; split
 ·show (YG s.data.toList).length ≤ _
  have := Z8 s.data.toList
  rw [data_length] at this
  unfold YG
  rw [Xbb, Xbd, Xbh]; omega
 ·exact Ybm _
theorem XU (B g : Nat) (bs ends : List UInt8) (s : ByteArray) (W : World) (h : WS B g W bs ends) (hlen : bs.length + (6 * s.size + 2) ≤ 140737488355328) (hBw : B ≤ W.heap.size) (ht : Tabs W) :
  Calls Tryz.prog 18 #[.pointer (some ⟨g, 0, none⟩), .string s] W fun e w' => e = .returned (.tuple #[]) ∧ WS B g w' (bs ++ (Xx s).1.data.toList) ends ∧ Below B W w' ∧ WK g W w' := by
 have H := Aside0.mk h
 have HL := Aside0.mk hlen
 have HBw := Aside0.mk hBw
 have HT := Aside0.mk ht
 have H6 := Aside0.mk (Y5 s)
 clear h hlen hBw ht
 have HQ := Aside0.mk (writeS_f s (by have := HL.out; omega))
 obtain ⟨⟨r1, r2⟩, hr⟩ : ∃ r, Xx s = r := ⟨_, rfl⟩
 rw [hr] at HQ H6 ⊢
 clear hr
 simp only at HQ H6 ⊢
 go_enter Tryz.func18, Tryz.ntmps18
 go_wp2_with (first
  | (go_at_call 34; refine (xK.calls s r1 r2 _ HQ.out HT.out).mono ?_; rintro e w1 ⟨rfl, hb1⟩; have HB1 := Aside0.mk hb1; have HS1 := Aside0.mk (H.out.quiet hb1); clear hb1)
  | (go_at_call 35; refine (yal B g bs ends r1 _ HS1.out (by have := HL.out; have h6 := H6.out; rw [data_length] at h6; omega) (Ybg HBw.out HB1.out.size)).mono ?_; rintro e w2 ⟨rfl, hS2, hB2, hK2⟩; have HS2 := Aside0.mk hS2; have HB2 := Aside0.mk hB2; have HK2 := Aside0.mk hK2; clear hS2 hB2 hK2))
 go_end0
 exact ⟨rfl, HS2.out, (HB1.out.mono HBw.out).trans HB2.out, (WK.of_below HB1.out).trans HK2.out⟩
def valB (x : S40) : List UInt8 := if x.f1 = 1 then [110, 117, 108, 108] else if x.f1 = 2 then [102, 97, 108, 115, 101] else if x.f1 = 3 then [116, 114, 117, 101] else if x.f1 = 4 then Lib.itoa x.f4 else if x.f1 = 5 then (Xx x.f3).1.data.toList else if x.f1 = 6 then [91] else [123]
def endB (x : S40) : List UInt8 := if x.f1 = 6 then [93] else if x.f1 = 7 then [125] else []
theorem ws_push {B g : Nat} {W W1 : World} {p v ev ev1 : Value} {bs ends ends1 : List UInt8} (hp : p = .pointer none ∨ p = .pointer (some ⟨g, 0, none⟩)) (hB : B ≤ g) (hk : W.heap[g]? = some (.cells #[p, v, ev] 47 (0, 0))) (hv : Kd.R (Kd.int .u8) 5 W B (fun k => k ≠ g) v (toI bs)) (he : Kd.R (Kd.int .u8) 5 W B (fun k => k ≠ g ∧ some k ≠ v.ownBlock) ev (toI ends))
  (hO : Kd.R (Kd.int .u8) 5 W1 B (fun k => k ≠ g) ev1 (toI ends1)) (hG : W.grownBy W1 ev.ownBlock) (hA : ev1.ownBlock = ev.ownBlock ∨ ∃ b, ev1.ownBlock = some b ∧ W.heap.size ≤ b) :
  WS B g (W1.setCell ⟨g, 2, none⟩ ev1) bs ends1 ∧ WK g W (W1.setCell ⟨g, 2, none⟩ ev1) := by
 have hng : some g ≠ ev.ownBlock := fun e => (he.1 g e.symm).1 rfl
 have hk1 := XB hk hG hng
 have hvl := Kd.R_lt hv
 have hv1 : Kd.R (Kd.int .u8) 5 W1 B (fun k => k ≠ g) v (toI bs) :=
  Kd.R_reok rfl (Kd.R_grown (Kd.R_tight rfl hv) hG (fun k e e2 => (he.1 k e2.symm).2 e)) hv.1
 have he1 : Kd.R (Kd.int .u8) 5 W1 B (fun k => k ≠ g ∧ some k ≠ v.ownBlock) ev1 (toI ends1) := by
  refine Kd.R_reok rfl hO (fun k e => ⟨hO.1 k e, fun e2 => ?_⟩)
  rcases hA with hA | ⟨b, hA, hb⟩
  ·exact (he.1 k (hA ▸ e)).2 e2
  ·rw [hA] at e
   injection e with e
   have := hvl k e2.symm
   omega
 exact ⟨⟨⟨p, v, ev1, hp, zq hk1 2 _, Kd.R_far hv1 (fun _ h => h) _, Kd.R_far he1 (fun _ h => h.1) _⟩, hB⟩, (WK.of_grown hG (fun k e => Kd.R_typed he k e)).set_ 2 _⟩
theorem value1 (B g : Nat) (bs ends : List UInt8) (x : S40) (W : World) (hk : x.f1 = 1) (h : WS B g W bs ends) (hlen : bs.length + ends.length + (6 * x.f3.size + 100) ≤ 140737488355328) (hBw : B ≤ W.heap.size) (hj : JTabs W) :
  Calls Tryz.prog 19 #[.pointer (some ⟨g, 0, none⟩), Yh x] W fun e w' => e = .returned (.tuple #[]) ∧ WS B g w' (bs ++ [110, 117, 108, 108]) (ends ++ []) ∧ Below B W w' ∧ WK g W w' := by
 have HB0 : Aside0 (Below W.heap.size W (W.alloc (.cells #[.int .i64 x.f0, .int .i64 x.f1, .string x.f2, .string x.f3, .int .i64 x.f4] 40))) := ⟨Za (ybd _ _) _⟩
 have HS := Aside0.mk (h.quiet HB0.out)
 have HI : Aside0 (Itm (W.alloc (.cells #[.int .i64 x.f0, .int .i64 x.f1, .string x.f2, .string x.f3, .int .i64 x.f4] 40)) W.heap.size x) := ⟨ybi _ _⟩
 have HL := Aside0.mk hlen
 have HBw := Aside0.mk hBw
 have JT := Aside0.mk (hj.step HB0.out)
 have c1 : (x.f1 == 1) = true := by rw [hk]; rfl
 have hng : W.heap.size ≠ g := by have := h.lt; omega
 clear h hlen hBw hj hk
 unfold Yh
 go_enter Tryz.func19, Tryz.ntmps19
 go_upto_block 0 with (fail)
 obtain ⟨b, hb⟩ : ∃ b, W.heap.size = b := ⟨_, rfl⟩
 have HNG := Aside0.mk hng
 have HBS := Aside0.mk hb
 rw [hb] at HI
 rw [hb]
 clear hb hng
 generalize W.alloc (.cells #[.int .i64 x.f0, .int .i64 x.f1, .string x.f2, .string x.f3, .int .i64 x.f4] 40) = w1 at HB0 HS HI JT ⊢
 obtain ⟨hm0, hm1, hm2, hm3, hm4⟩ := Xf HI.out
 go_wp2_with (go_at_call 35; refine (yal B g bs ends ⟨#[110, 117, 108, 108]⟩ _ HS.out (by have := HL.out; show _ + 4 ≤ _; omega) (Ybg HBw.out HB0.out.size)).mono ?_; rintro e w2 ⟨rfl, hS2, hB2, hK2⟩; have HS2 := Aside0.mk hS2; have HB2 := Aside0.mk hB2; have HK2 := Aside0.mk hK2; clear hS2 hB2 hK2)
 go_end0
 exact ⟨rfl, by rw [ybk]; exact HS2.out, (HB0.out.mono HBw.out).trans HB2.out, (WK.of_below HB0.out).trans HK2.out⟩
theorem value2 (B g : Nat) (bs ends : List UInt8) (x : S40) (W : World) (hk : x.f1 = 2) (h : WS B g W bs ends) (hlen : bs.length + ends.length + (6 * x.f3.size + 100) ≤ 140737488355328) (hBw : B ≤ W.heap.size) (hj : JTabs W) :
  Calls Tryz.prog 19 #[.pointer (some ⟨g, 0, none⟩), Yh x] W fun e w' => e = .returned (.tuple #[]) ∧ WS B g w' (bs ++ [102, 97, 108, 115, 101]) (ends ++ []) ∧ Below B W w' ∧ WK g W w' := by
 have HB0 : Aside0 (Below W.heap.size W (W.alloc (.cells #[.int .i64 x.f0, .int .i64 x.f1, .string x.f2, .string x.f3, .int .i64 x.f4] 40))) := ⟨Za (ybd _ _) _⟩
 have HS := Aside0.mk (h.quiet HB0.out)
 have HI : Aside0 (Itm (W.alloc (.cells #[.int .i64 x.f0, .int .i64 x.f1, .string x.f2, .string x.f3, .int .i64 x.f4] 40)) W.heap.size x) := ⟨ybi _ _⟩
 have HL := Aside0.mk hlen
 have HBw := Aside0.mk hBw
 have JT := Aside0.mk (hj.step HB0.out)
 have c1 : (x.f1 == 1) = false := by rw [hk]; rfl
 have c2 : (x.f1 == 2) = true := by rw [hk]; rfl
 have hng : W.heap.size ≠ g := by have := h.lt; omega
 clear h hlen hBw hj hk
 unfold Yh
 go_enter Tryz.func19, Tryz.ntmps19
 go_upto_block 0 with (fail)
 obtain ⟨b, hb⟩ : ∃ b, W.heap.size = b := ⟨_, rfl⟩
 have HNG := Aside0.mk hng
 have HBS := Aside0.mk hb
 rw [hb] at HI
 rw [hb]
 clear hb hng
 generalize W.alloc (.cells #[.int .i64 x.f0, .int .i64 x.f1, .string x.f2, .string x.f3, .int .i64 x.f4] 40) = w1 at HB0 HS HI JT ⊢
 obtain ⟨hm0, hm1, hm2, hm3, hm4⟩ := Xf HI.out
 go_wp2_with (go_at_call 35; refine (yal B g bs ends ⟨#[102, 97, 108, 115, 101]⟩ _ HS.out (by have := HL.out; show _ + 5 ≤ _; omega) (Ybg HBw.out HB0.out.size)).mono ?_; rintro e w2 ⟨rfl, hS2, hB2, hK2⟩; have HS2 := Aside0.mk hS2; have HB2 := Aside0.mk hB2; have HK2 := Aside0.mk hK2; clear hS2 hB2 hK2)
 go_end0
 exact ⟨rfl, by rw [ybk]; exact HS2.out, (HB0.out.mono HBw.out).trans HB2.out, (WK.of_below HB0.out).trans HK2.out⟩
theorem value3 (B g : Nat) (bs ends : List UInt8) (x : S40) (W : World) (hk : x.f1 = 3) (h : WS B g W bs ends) (hlen : bs.length + ends.length + (6 * x.f3.size + 100) ≤ 140737488355328) (hBw : B ≤ W.heap.size) (hj : JTabs W) :
  Calls Tryz.prog 19 #[.pointer (some ⟨g, 0, none⟩), Yh x] W fun e w' => e = .returned (.tuple #[]) ∧ WS B g w' (bs ++ [116, 114, 117, 101]) (ends ++ []) ∧ Below B W w' ∧ WK g W w' := by
 have HB0 : Aside0 (Below W.heap.size W (W.alloc (.cells #[.int .i64 x.f0, .int .i64 x.f1, .string x.f2, .string x.f3, .int .i64 x.f4] 40))) := ⟨Za (ybd _ _) _⟩
 have HS := Aside0.mk (h.quiet HB0.out)
 have HI : Aside0 (Itm (W.alloc (.cells #[.int .i64 x.f0, .int .i64 x.f1, .string x.f2, .string x.f3, .int .i64 x.f4] 40)) W.heap.size x) := ⟨ybi _ _⟩
 have HL := Aside0.mk hlen
 have HBw := Aside0.mk hBw
 have JT := Aside0.mk (hj.step HB0.out)
 have c1 : (x.f1 == 1) = false := by rw [hk]; rfl
 have c2 : (x.f1 == 2) = false := by rw [hk]; rfl
 have c3 : (x.f1 == 3) = true := by rw [hk]; rfl
 have hng : W.heap.size ≠ g := by have := h.lt; omega
 clear h hlen hBw hj hk
 unfold Yh
 go_enter Tryz.func19, Tryz.ntmps19
 go_upto_block 0 with (fail)
 obtain ⟨b, hb⟩ : ∃ b, W.heap.size = b := ⟨_, rfl⟩
 have HNG := Aside0.mk hng
 have HBS := Aside0.mk hb
 rw [hb] at HI
 rw [hb]
 clear hb hng
 generalize W.alloc (.cells #[.int .i64 x.f0, .int .i64 x.f1, .string x.f2, .string x.f3, .int .i64 x.f4] 40) = w1 at HB0 HS HI JT ⊢
 obtain ⟨hm0, hm1, hm2, hm3, hm4⟩ := Xf HI.out
 go_wp2_with (go_at_call 35; refine (yal B g bs ends ⟨#[116, 114, 117, 101]⟩ _ HS.out (by have := HL.out; show _ + 4 ≤ _; omega) (Ybg HBw.out HB0.out.size)).mono ?_; rintro e w2 ⟨rfl, hS2, hB2, hK2⟩; have HS2 := Aside0.mk hS2; have HB2 := Aside0.mk hB2; have HK2 := Aside0.mk hK2; clear hS2 hB2 hK2)
 go_end0
 exact ⟨rfl, by rw [ybk]; exact HS2.out, (HB0.out.mono HBw.out).trans HB2.out, (WK.of_below HB0.out).trans HK2.out⟩
theorem value5 (B g : Nat) (bs ends : List UInt8) (x : S40) (W : World) (hk : x.f1 = 5) (h : WS B g W bs ends) (hlen : bs.length + ends.length + (6 * x.f3.size + 100) ≤ 140737488355328) (hBw : B ≤ W.heap.size) (hj : JTabs W) :
  Calls Tryz.prog 19 #[.pointer (some ⟨g, 0, none⟩), Yh x] W fun e w' => e = .returned (.tuple #[]) ∧ WS B g w' (bs ++ (Xx x.f3).1.data.toList) (ends ++ []) ∧ Below B W w' ∧ WK g W w' := by
 have HB0 : Aside0 (Below W.heap.size W (W.alloc (.cells #[.int .i64 x.f0, .int .i64 x.f1, .string x.f2, .string x.f3, .int .i64 x.f4] 40))) := ⟨Za (ybd _ _) _⟩
 have HS := Aside0.mk (h.quiet HB0.out)
 have HI : Aside0 (Itm (W.alloc (.cells #[.int .i64 x.f0, .int .i64 x.f1, .string x.f2, .string x.f3, .int .i64 x.f4] 40)) W.heap.size x) := ⟨ybi _ _⟩
 have HL := Aside0.mk hlen
 have HBw := Aside0.mk hBw
 have JT := Aside0.mk (hj.step HB0.out)
 have c1 : (x.f1 == 1) = false := by rw [hk]; rfl
 have c2 : (x.f1 == 2) = false := by rw [hk]; rfl
 have c3 : (x.f1 == 3) = false := by rw [hk]; rfl
 have c4 : (x.f1 == 4) = false := by rw [hk]; rfl
 have c5 : (x.f1 == 5) = true := by rw [hk]; rfl
 have hng : W.heap.size ≠ g := by have := h.lt; omega
 clear h hlen hBw hj hk
 unfold Yh
 go_enter Tryz.func19, Tryz.ntmps19
 go_upto_block 0 with (fail)
 obtain ⟨b, hb⟩ : ∃ b, W.heap.size = b := ⟨_, rfl⟩
 have HNG := Aside0.mk hng
 have HBS := Aside0.mk hb
 rw [hb] at HI
 rw [hb]
 clear hb hng
 generalize W.alloc (.cells #[.int .i64 x.f0, .int .i64 x.f1, .string x.f2, .string x.f3, .int .i64 x.f4] 40) = w1 at HB0 HS HI JT ⊢
 obtain ⟨hm0, hm1, hm2, hm3, hm4⟩ := Xf HI.out
 go_wp2_with (go_at_call 18; refine (XU B g bs ends x.f3 _ HS.out (by have := HL.out; omega) (Ybg HBw.out HB0.out.size) JT.out.tabs).mono ?_; rintro e w2 ⟨rfl, hS2, hB2, hK2⟩; have HS2 := Aside0.mk hS2; have HB2 := Aside0.mk hB2; have HK2 := Aside0.mk hK2; clear hS2 hB2 hK2)
 go_end0
 exact ⟨rfl, by rw [ybk]; exact HS2.out, (HB0.out.mono HBw.out).trans HB2.out, (WK.of_below HB0.out).trans HK2.out⟩
theorem value6 (B g : Nat) (bs ends : List UInt8) (x : S40) (W : World) (hk : x.f1 = 6) (h : WS B g W bs ends) (hlen : bs.length + ends.length + (6 * x.f3.size + 100) ≤ 140737488355328) (hBw : B ≤ W.heap.size) (hj : JTabs W) :
  Calls Tryz.prog 19 #[.pointer (some ⟨g, 0, none⟩), Yh x] W fun e w' => e = .returned (.tuple #[]) ∧ WS B g w' (bs ++ [91]) (ends ++ [93]) ∧ Below B W w' ∧ WK g W w' := by
 have HB0 : Aside0 (Below W.heap.size W (W.alloc (.cells #[.int .i64 x.f0, .int .i64 x.f1, .string x.f2, .string x.f3, .int .i64 x.f4] 40))) := ⟨Za (ybd _ _) _⟩
 have HS := Aside0.mk (h.quiet HB0.out)
 have HI : Aside0 (Itm (W.alloc (.cells #[.int .i64 x.f0, .int .i64 x.f1, .string x.f2, .string x.f3, .int .i64 x.f4] 40)) W.heap.size x) := ⟨ybi _ _⟩
 have HL := Aside0.mk hlen
 have HBw := Aside0.mk hBw
 have JT := Aside0.mk (hj.step HB0.out)
 have c1 : (x.f1 == 1) = false := by rw [hk]; rfl
 have c2 : (x.f1 == 2) = false := by rw [hk]; rfl
 have c3 : (x.f1 == 3) = false := by rw [hk]; rfl
 have c4 : (x.f1 == 4) = false := by rw [hk]; rfl
 have c5 : (x.f1 == 5) = false := by rw [hk]; rfl
 have c6 : (x.f1 == 6) = true := by rw [hk]; rfl
 have hng : W.heap.size ≠ g := by have := h.lt; omega
 clear h hlen hBw hj hk
 unfold Yh
 go_enter Tryz.func19, Tryz.ntmps19
 go_upto_block 0 with (fail)
 obtain ⟨b, hb⟩ : ∃ b, W.heap.size = b := ⟨_, rfl⟩
 have HNG := Aside0.mk hng
 have HBS := Aside0.mk hb
 rw [hb] at HI
 rw [hb]
 clear hb hng
 generalize W.alloc (.cells #[.int .i64 x.f0, .int .i64 x.f1, .string x.f2, .string x.f3, .int .i64 x.f4] 40) = w1 at HB0 HS HI JT ⊢
 obtain ⟨hm0, hm1, hm2, hm3, hm4⟩ := Xf HI.out
 go_wp2_with (first
  | (go_at_call 17; refine (zW B g bs ends 91 _ HS.out (by have := HL.out; omega) (Ybg HBw.out HB0.out.size)).mono ?_; rintro e w2 ⟨rfl, hS2, hB2, hK2⟩; obtain ⟨⟨p, v, ev, hp, hk, hv, he⟩, hBg⟩ := hS2; have c2 : w2.cell? ⟨g, 2, none⟩ = some ev := (zb hk 2).trans rfl; have HP := Aside0.mk hp; have HKG := Aside0.mk hk; have HV := Aside0.mk hv; have HE := Aside0.mk he; have HBG := Aside0.mk hBg; have HB2 := Aside0.mk hB2; have HK2 := Aside0.mk hK2; clear hp hk hv he hBg hB2 hK2)
  | (at_builtin; refine Kd.R_append (Kd.int .u8) (w0 := w1) (W := w2) B rfl (.tmp 49) (.tmp 50) 43 5 (.int .u8 0) 1 rfl Tryz.underlying43 info5 rfl (by decide) (by decide) ev (toI ends) 93 [.int .u8 93] (fun k => k ≠ g) (fun _ => False) rfl rfl rfl (fun _ h => h.elim) (fun k hk => by have := Yg HKG.out; omega) (Kd.R_mono HE.out (fun _ h => h.1)) HB2.out (Ybg HBw.out (Ybg HB0.out.size HB2.out.size)) (by rw [xH]; have := HL.out; omega) ?_; intro v3 w3 hO3 hB3 hG3 hA3; have HW := Aside0.mk (ws_push (ends1 := ends ++ [93]) HP.out HBG.out HKG.out HV.out HE.out (by rw [xaJ]; exact hO3) hG3 hA3); have HB3 := Aside0.mk hB3; have hk3 := XB HKG.out hG3 (fun e => (HE.out.1 g e.symm).1 rfl); have d2 : w3.cell? ⟨g, 2, none⟩ = some ev := (zb hk3 2).trans rfl; have f2 : w3.frozen? ⟨g, 2, none⟩ = false := zg hk3 2; obtain ⟨As, n2, cc, hv3⟩ := ZR (Kd.own_of_R hO3); subst hv3; clear hO3 hB3 hG3 hA3 hk3))
 go_end0
 exact ⟨rfl, HW.out.1, ((HB0.out.mono HBw.out).trans HB3.out).setCell (p := ⟨g, 2, none⟩) HBG.out _, ((WK.of_below HB0.out).trans HK2.out).trans HW.out.2⟩
theorem value7 (B g : Nat) (bs ends : List UInt8) (x : S40) (W : World) (hk : x.f1 = 7) (h : WS B g W bs ends) (hlen : bs.length + ends.length + (6 * x.f3.size + 100) ≤ 140737488355328) (hBw : B ≤ W.heap.size) (hj : JTabs W) :
  Calls Tryz.prog 19 #[.pointer (some ⟨g, 0, none⟩), Yh x] W fun e w' => e = .returned (.tuple #[]) ∧ WS B g w' (bs ++ [123]) (ends ++ [125]) ∧ Below B W w' ∧ WK g W w' := by
 have HB0 : Aside0 (Below W.heap.size W (W.alloc (.cells #[.int .i64 x.f0, .int .i64 x.f1, .string x.f2, .string x.f3, .int .i64 x.f4] 40))) := ⟨Za (ybd _ _) _⟩
 have HS := Aside0.mk (h.quiet HB0.out)
 have HI : Aside0 (Itm (W.alloc (.cells #[.int .i64 x.f0, .int .i64 x.f1, .string x.f2, .string x.f3, .int .i64 x.f4] 40)) W.heap.size x) := ⟨ybi _ _⟩
 have HL := Aside0.mk hlen
 have HBw := Aside0.mk hBw
 have JT := Aside0.mk (hj.step HB0.out)
 have c1 : (x.f1 == 1) = false := by rw [hk]; rfl
 have c2 : (x.f1 == 2) = false := by rw [hk]; rfl
 have c3 : (x.f1 == 3) = false := by rw [hk]; rfl
 have c4 : (x.f1 == 4) = false := by rw [hk]; rfl
 have c5 : (x.f1 == 5) = false := by rw [hk]; rfl
 have c6 : (x.f1 == 6) = false := by rw [hk]; rfl
 have c7 : (x.f1 == 7) = true := by rw [hk]; rfl
 have hng : W.heap.size ≠ g := by have := h.lt; omega
 clear h hlen hBw hj hk
 unfold Yh
 go_enter Tryz.func19, Tryz.ntmps19
 go_upto_block 0 with (fail)
 obtain ⟨b, hb⟩ : ∃ b, W.heap.size = b := ⟨_, rfl⟩
 have HNG := Aside0.mk hng
 have HBS := Aside0.mk hb
 rw [hb] at HI
 rw [hb]
 clear hb hng
 generalize W.alloc (.cells #[.int .i64 x.f0, .int .i64 x.f1, .string x.f2, .string x.f3, .int .i64 x.f4] 40) = w1 at HB0 HS HI JT ⊢
 obtain ⟨hm0, hm1, hm2, hm3, hm4⟩ := Xf HI.out
 go_wp2_with (first
  | (go_at_call 17; refine (zW B g bs ends 123 _ HS.out (by have := HL.out; omega) (Ybg HBw.out HB0.out.size)).mono ?_; rintro e w2 ⟨rfl, hS2, hB2, hK2⟩; obtain ⟨⟨p, v, ev, hp, hk, hv, he⟩, hBg⟩ := hS2; have c2 : w2.cell? ⟨g, 2, none⟩ = some ev := (zb hk 2).trans rfl; have HP := Aside0.mk hp; have HKG := Aside0.mk hk; have HV := Aside0.mk hv; have HE := Aside0.mk he; have HBG := Aside0.mk hBg; have HB2 := Aside0.mk hB2; have HK2 := Aside0.mk hK2; clear hp hk hv he hBg hB2 hK2)
  | (at_builtin; refine Kd.R_append (Kd.int .u8) (w0 := w1) (W := w2) B rfl (.tmp 64) (.tmp 65) 43 5 (.int .u8 0) 1 rfl Tryz.underlying43 info5 rfl (by decide) (by decide) ev (toI ends) 125 [.int .u8 125] (fun k => k ≠ g) (fun _ => False) rfl rfl rfl (fun _ h => h.elim) (fun k hk => by have := Yg HKG.out; omega) (Kd.R_mono HE.out (fun _ h => h.1)) HB2.out (Ybg HBw.out (Ybg HB0.out.size HB2.out.size)) (by rw [xH]; have := HL.out; omega) ?_; intro v3 w3 hO3 hB3 hG3 hA3; have HW := Aside0.mk (ws_push (ends1 := ends ++ [125]) HP.out HBG.out HKG.out HV.out HE.out (by rw [xaJ]; exact hO3) hG3 hA3); have HB3 := Aside0.mk hB3; have hk3 := XB HKG.out hG3 (fun e => (HE.out.1 g e.symm).1 rfl); have d2 : w3.cell? ⟨g, 2, none⟩ = some ev := (zb hk3 2).trans rfl; have f2 : w3.frozen? ⟨g, 2, none⟩ = false := zg hk3 2; obtain ⟨As, n2, cc, hv3⟩ := ZR (Kd.own_of_R hO3); subst hv3; clear hO3 hB3 hG3 hA3 hk3))
 go_end0
 exact ⟨rfl, HW.out.1, ((HB0.out.mono HBw.out).trans HB3.out).setCell (p := ⟨g, 2, none⟩) HBG.out _, ((WK.of_below HB0.out).trans HK2.out).trans HW.out.2⟩
theorem value4 (B g : Nat) (bs ends : List UInt8) (x : S40) (W : World) (hk : x.f1 = 4) (h : WS B g W bs ends) (hlen : bs.length + ends.length + (6 * x.f3.size + 100) ≤ 140737488355328) (hBw : B ≤ W.heap.size) (hj : JTabs W) (hn : -9223372036854775808 ≤ x.f4 ∧ x.f4 ≤ 9223372036854775807) :
  Calls Tryz.prog 19 #[.pointer (some ⟨g, 0, none⟩), Yh x] W fun e w' => e = .returned (.tuple #[]) ∧ WS B g w' (bs ++ Lib.itoa x.f4) (ends ++ []) ∧ Below B W w' ∧ WK g W w' := by
 have HB0 : Aside0 (Below W.heap.size W (W.alloc (.cells #[.int .i64 x.f0, .int .i64 x.f1, .string x.f2, .string x.f3, .int .i64 x.f4] 40))) := ⟨Za (ybd _ _) _⟩
 have HS := Aside0.mk (h.quiet HB0.out)
 have HI : Aside0 (Itm (W.alloc (.cells #[.int .i64 x.f0, .int .i64 x.f1, .string x.f2, .string x.f3, .int .i64 x.f4] 40)) W.heap.size x) := ⟨ybi _ _⟩
 have HL := Aside0.mk hlen
 have HBw := Aside0.mk hBw
 have JT := Aside0.mk (hj.step HB0.out)
 have c1 : (x.f1 == 1) = false := by rw [hk]; rfl
 have c2 : (x.f1 == 2) = false := by rw [hk]; rfl
 have c3 : (x.f1 == 3) = false := by rw [hk]; rfl
 have c4 : (x.f1 == 4) = true := by rw [hk]; rfl
 have hng : W.heap.size ≠ g := by have := h.lt; omega
 have HN := Aside0.mk hn
 clear h hlen hBw hj hk hn
 unfold Yh
 go_enter Tryz.func19, Tryz.ntmps19
 go_upto_block 0 with (fail)
 obtain ⟨b, hb⟩ : ∃ b, W.heap.size = b := ⟨_, rfl⟩
 have HNG := Aside0.mk hng
 have HBS := Aside0.mk hb
 rw [hb] at HI
 rw [hb]
 clear hb hng
 generalize W.alloc (.cells #[.int .i64 x.f0, .int .i64 x.f1, .string x.f2, .string x.f3, .int .i64 x.f4] 40) = w1 at HB0 HS HI JT ⊢
 obtain ⟨hm0, hm1, hm2, hm3, hm4⟩ := Xf HI.out
 go_wp2_with fail
 refine ZG (n := 7) (S := fun w' => Itm w' b x ∧ WS B g w' bs ends) (ds := [6]) #[false, false, false, false, false, false, false] (by kernel_rfl) rfl rfl ⟨HI.out, HS.out.drew1⟩ (fun hHeld => ?_)
 refine pq 0 26 (v := ?_) (a' := ?_) #[true, false, false, false, false, false, false] rfl (by kernel_rfl) (.inl ⟨by rfl, ?_⟩) ?_ ?_
 rotate_left
 ·intro w'
  go_simp
  (try with_reducible rfl)
 rotate_left
 ·simp only [Act.put, qA, qB, qC]
  rfl
 refine pq 1 27 (v := ?_) (a' := ?_) #[true, true, false, false, false, false, false] rfl (by kernel_rfl) (.inl ⟨by rfl, ?_⟩) ?_ ?_
 rotate_left
 ·intro w'
  go_simp
  (try with_reducible rfl)
 rotate_left
 ·simp only [Act.put, qA, qB, qC]
  rfl
 refine pq 2 28 (v := ?_) (a' := ?_) #[true, true, true, false, false, false, false] rfl (by kernel_rfl) (.inl ⟨by rfl, ?_⟩) ?_ ?_
 rotate_left
 ·intro w'
  go_simp
  (try with_reducible rfl)
 rotate_left
 ·simp only [Act.put, qA, qB, qC]
  rfl
 refine pq 3 29 (v := ?_) (a' := ?_) #[true, true, true, true, false, false, false] rfl (by kernel_rfl) (.inl ⟨by rfl, ?_⟩) ?_ ?_
 rotate_left
 ·intro w'
  go_simp
  (try with_reducible rfl)
 rotate_left
 ·simp only [Act.put, qA, qB, qC]
  rfl
 refine tq 4 30 (v := ?_) (a' := ?_) #[true, true, true, true, true, false, false] rfl (by kernel_rfl) (.inl ⟨by rfl, ?_⟩) (by assumption) ?_ ?_
 rotate_left
 ·intro w hSw
  obtain ⟨hl0, hl1⟩ := hSw
  have hm4 := (Xf hl0).2.2.2.2
  clear hl0 hl1
  go_simp
  (try with_reducible rfl)
 rotate_left
 ·simp only [Act.put, qA, qB, qC]
  rfl
 refine one_ (i := 5) (N := some 31) #[true, true, true, true, true, true, false] rfl rfl (by kernel_rfl) (by decide) (fun K hK => ?_)
 go_simp
 (go_at_call 36; refine (Yaa x.f4 HN.out.1 HN.out.2 _ (JT.out.step (Xa (ybd _ _)))).mono ?_; rintro e w3 ⟨rfl, hb3⟩; have HB3 := Aside0.mk hb3); go_wp2_with fail
 refine hK.out _ _ ?_ (fun hHeld => ?_)
 ·exact ⟨zy hHeld.1 HB3.out, hHeld.2.quiet HB3.out⟩
 clear hK K
 (try simp only [Act.put, qA, qB, qC])
 refine ZA (i := 6) (N := some 32) #[true, true, true, true, true, true, true] rfl rfl (by kernel_rfl) (by decide) (fun K hK => ?_)
 go_simp
 have HE := Aside0.mk hHeld
 (go_at_call 35; refine (yal B g bs ends (Yy x.f4) _ HE.out.2 (by have := HL.out; have h1 := Zaz x.f4 HN.out; show _ + (Lib.itoa x.f4).toArray.size ≤ _; rw [Ybo]; omega) (Ybg HBw.out (Ybg HB0.out.size (show w1.heap.size ≤ _ from HB3.out.size)))).mono ?_; rintro e w2 ⟨rfl, hS2, hB2, hK2⟩); go_wp2_with fail
 have HS2 := Aside0.mk hS2
 have HB2 := Aside0.mk hB2
 have HK2 := Aside0.mk hK2
 clear hS2 hB2 hK2 hHeld
 refine hK.out _ _ ?_
 clear hK K
 (try simp only [Act.put, qA, qB, qC])
 refine xL (by kernel_rfl) ?_
 go_wp2_with fail
 go_end0
 have hd : Below w1.heap.size w1 w3 := (Xa (ybd _ _)).trans HB3.out
 exact ⟨rfl, by rw [ybk]; exact HS2.out, ((HB0.out.mono HBw.out).trans (hd.mono (Ybg HBw.out HB0.out.size))).trans HB2.out, ((WK.of_below HB0.out).trans (WK.of_below hd)).trans HK2.out⟩
theorem zw (B g : Nat) (bs ends : List UInt8) (x : S40) (W : World) (hk : 1 ≤ x.f1 ∧ x.f1 ≤ 7) (h : WS B g W bs ends) (hlen : bs.length + ends.length + (6 * x.f3.size + 100) ≤ 140737488355328) (hBw : B ≤ W.heap.size) (hj : JTabs W) (hn : -9223372036854775808 ≤ x.f4 ∧ x.f4 ≤ 9223372036854775807) :
  Calls Tryz.prog 19 #[.pointer (some ⟨g, 0, none⟩), Yh x] W fun e w' => e = .returned (.tuple #[]) ∧ WS B g w' (bs ++ valB x) (ends ++ endB x) ∧ Below B W w' ∧ WK g W w' := by
 unfold valB endB
 have : x.f1 = 1 ∨ x.f1 = 2 ∨ x.f1 = 3 ∨ x.f1 = 4 ∨ x.f1 = 5 ∨ x.f1 = 6 ∨ x.f1 = 7 := by omega
 rcases this with k | k | k | k | k | k | k
 ·simp only [k, if_true]; exact value1 B g bs ends x W k h hlen hBw hj
 ·simp only [k]; exact value2 B g bs ends x W k h hlen hBw hj
 ·simp only [k]; exact value3 B g bs ends x W k h hlen hBw hj
 ·simp only [k]; exact value4 B g bs ends x W k h hlen hBw hj hn
 ·simp only [k]; exact value5 B g bs ends x W k h hlen hBw hj
 ·simp only [k]; exact value6 B g bs ends x W k h hlen hBw hj
 ·simp only [k]; exact value7 B g bs ends x W k h hlen hBw hj
def Zo.f (l : List S40) : Option Bool := if l.length * 56 ≤ 140737488355328 then (rightF true [(6, [])] l).map (fun r => r && decide (0 < l.length)) else none
theorem Zo.calls (A : Option Addr) (c : Nat) (l : List S40) (r : Bool) (w : World) (hC : Kd.C k40 w A l.length l) (hc : l.length ≤ c) (h : Zo.f l = some r) (ht : Tabs w := by first | assumption | (refine Tabs.step (by assumption) ?_; repeat (first | exact Aside0.out (by assumption) | apply Za | apply Ya | apply Xa | exact ybd _ _))) :
  Calls Tryz.prog 15 #[.slice A l.length c] w fun e w' => e = .returned (.bool r) ∧ Below w.heap.size w w' := by
 unfold Zo.f at h
 by_cases hl : l.length * 56 ≤ 140737488355328
 ·rw [if_pos hl] at h
  obtain ⟨q, hq, rfl⟩ := xbh.1 h
  exact Xa6 w A c l q hC hc hl ht hq
 ·rw [if_neg hl] at h; cases h
def commaB (prev : Option Int) (d : Int) : List UInt8 := match prev with | none => [] | some p => if d ≤ p then [44] else []
def keyB (ends : List UInt8) (key : ByteArray) : List UInt8 := if ends.getLast? = some 125 then (Xx key).1.data.toList ++ [58] else []
def sizeI (x : S40) : Nat := 6 * x.f2.size + 6 * x.f3.size + 200
def xac : Option Int → List UInt8 → List UInt8 → List S40 → Option (List UInt8)
 | _, bs, ends, [] => some (bs ++ ends.reverse)
 | prev, bs, ends, x :: l => if 0 ≤ x.f0 ∧ x.f0 ≤ ends.length ∧ 1 ≤ x.f1 ∧ x.f1 ≤ 7 ∧ (-9223372036854775808 ≤ x.f4 ∧ x.f4 ≤ 9223372036854775807) ∧ bs.length + ends.length + sizeI x ≤ 140737488355328 then
   xac (some x.f0) (bs ++ (ends.drop x.f0.toNat).reverse ++ commaB prev x.f0 ++ keyB (ends.take x.f0.toNat) x.f2 ++ valB x) (ends.take x.f0.toNat ++ endB x) l else none
def zar (l : List S40) (j : Nat) : Option Int := if j = 0 then none else some (zE l ((j - 1 : Nat) : Int)).f0
theorem xa7 (l : List S40) (j : Nat) (x : S40) (h : zE l (j : Int) = x) : zar l (j + 1) = some x.f0 := by
 unfold zar
 rw [if_neg (Nat.succ_ne_zero j), Nat.add_sub_cancel, h]
theorem u8_ne (c : UInt8) (h : c ≠ 125) : ((c.toNat : Int) == 125) = false := by
 refine Ybb.mpr (fun e => h (UInt8.toNat_inj.mp ?_))
 show c.toNat = 125
 omega
theorem xal (ends : List UInt8) (q : Nat) (h : ends.length = q + 1) : ends.getLast? = some (ends.getD q 0) := by
 rw [List.getLast?_eq_getElem?, h]
 simp [List.getD, h]
theorem Za7 (w : World) (A : Option Addr) (c : Nat) (l : List S40) (r : List UInt8) (hC : Kd.C k40 w A l.length l) (hc : l.length ≤ c) (ht : JTabs w) (hr : Zo.f l = some true) (h : xac none [] [] l = some r) (hr0 : r ≠ []) (hr1 : r.length ≤ 140737488355328) :
  Calls Tryz.prog 7 #[.slice A l.length c] w fun e w' => e = .returned (.string ⟨r.toArray⟩) ∧ Below w.heap.size w w' := by
 have HC := Aside0.mk hC
 have HT := Aside0.mk ht
 have HF := Aside0.mk h
 have HRF := Aside0.mk hr
 have HCC := Aside0.mk hc
 have HR0 := Aside0.mk hr0
 have HR1 := Aside0.mk hr1
 have hl : l.length * 56 ≤ 140737488355328 := by
  unfold Zo.f at hr
  by_cases hl : l.length * 56 ≤ 140737488355328
  ·exact hl
  ·rw [if_neg hl] at hr; cases hr
 have HL := Aside0.mk hl
 clear hC ht h hl hc hr hr0 hr1
 go_enter Tryz.func7, Tryz.ntmps7
 go_wp2_with (go_at_call 15; refine (Zo.calls A c l true _ HC.out HCC.out HRF.out HT.out.tabs).mono ?_; rintro e w1 ⟨rfl, hb1⟩; have HB1 := Aside0.mk hb1; clear hb1)
 have HS0 : Aside0 (WS w.heap.size w1.heap.size (w1.alloc (.cells #[.pointer none, .slice none 0 0, .slice none 0 0] 47)) [] []) := ⟨⟨⟨_, _, _, .inl rfl, ybi _ _, Kd.R_nil _ _ _ _ _, Kd.R_nil _ _ _ _ _⟩, HB1.out.size⟩⟩
 have HB2 : Aside0 (Below w.heap.size w (w1.alloc (.cells #[.pointer none, .slice none 0 0, .slice none 0 0] 47))) := ⟨HB1.out.alloc HB1.out.size _⟩
 obtain ⟨g, hg⟩ : ∃ g, w1.heap.size = g := ⟨_, rfl⟩
 rw [hg] at HS0
 rw [hg]
 clear hg
 generalize w1.alloc (.cells #[.pointer none, .slice none 0 0, .slice none 0 0] 47) = w2 at HS0 HB2 ⊢
 clear HB1
 go_loopg [14] l.length (fun kq v14 wr => ∃ (j : Nat) (bs ends : List UInt8), kq = l.length - j ∧ j ≤ l.length ∧ v14 = .int .i64 (j : Int) ∧ Aside0 (WS w.heap.size g wr bs ends) ∧ Aside0 (xac (zar l j) bs ends (l.drop j) = some r) ∧ Aside0 (Below w.heap.size w wr))
 case atStart => exact ⟨0, [], [], rfl, Ybm _, rfl, HS0, HF, HB2⟩
 case round =>
  clear HF HS0 HB2
  obtain ⟨j, bs, ends, hkq, hjl, rfl, HS, HF, HB⟩ := hrel
  have hgl : j < 9223372036854775807 := by have := HL.out; omega
  by_cases hlt : j < l.length
  ·obtain ⟨ad, hA, a0, a1, a2, a3, a4⟩ := Xab (Kd.C_below HC.out HB.out) (j : Int) (by omega) (by omega)
   subst hA
   have HX := Aside0.mk (zaW l j hlt)
   obtain ⟨⟨f0, f1, f2, f3, f4⟩, hx⟩ : ∃ x, zE l (j : Int) = x := ⟨_, rfl⟩
   have HPD := Aside0.mk (xa7 l j _ hx)
   rw [hx] at a0 a1 a2 a3 a4 HX
   simp only [Ybd] at a0 a1 a2 a3 a4
   clear hx
   have hF := HF.out
   rw [HX.out, xac] at hF
   simp only at hF
   clear HF
   by_cases hgd : 0 ≤ f0 ∧ f0 ≤ (ends.length : Int) ∧ 1 ≤ f1 ∧ f1 ≤ 7 ∧ (-9223372036854775808 ≤ f4 ∧ f4 ≤ 9223372036854775807) ∧ bs.length + ends.length + sizeI ⟨f0, f1, f2, f3, f4⟩ ≤ 140737488355328
   ·rw [if_pos hgd] at hF
    obtain ⟨g0, g1, g2, g3, g4, g5⟩ := hgd
    obtain ⟨d, rfl⟩ : ∃ d : Nat, f0 = d := ⟨f0.toNat, by omega⟩
    rw [Ybd] at hF
    have hde : d ≤ ends.length := by omega
    have G23 := Aside0.mk (And.intro g2 g3)
    have G4 := Aside0.mk g4
    have G5 : Aside0 (bs.length + ends.length + (6 * f2.size + 6 * f3.size + 200) ≤ 140737488355328) := ⟨g5⟩
    have HDE := Aside0.mk hde
    have hd63 : d ≤ 140737488355328 := by omega
    clear g0 g1 g2 g3 g4 g5 hde
    have HF := Aside0.mk hF
    clear hF
    have HI : Aside0 (Itm (wr.alloc (.cells #[.int .i64 (d : Int), .int .i64 f1, .string f2, .string f3, .int .i64 f4] 40)) wr.heap.size ⟨(d : Int), f1, f2, f3, f4⟩) := ⟨ybi _ _⟩
    have HS3 : Aside0 (WS w.heap.size g (wr.alloc (.cells #[.int .i64 (d : Int), .int .i64 f1, .string f2, .string f3, .int .i64 f4] 40)) bs ends) := ⟨HS.out.quiet (Za (ybd _ _) _)⟩
    have HB3 : Aside0 (Below w.heap.size w (wr.alloc (.cells #[.int .i64 (d : Int), .int .i64 f1, .string f2, .string f3, .int .i64 f4] 40))) := ⟨HB.out.alloc HB.out.size _⟩
    have HNG : Aside0 (wr.heap.size ≠ g) := ⟨by have := HS.out.lt; omega⟩
    go_upto_region 8 with ((go_at_call 16; refine (zaD w.heap.size g bs ends d _ HS3.out HDE.out (by have := G5.out; omega) HB3.out.size).mono ?_; rintro e w4 ⟨rfl, hS4, hB4, hK4⟩; have HI4 : Aside0 (Itm w4 wr.heap.size ⟨(d : Int), f1, f2, f3, f4⟩) := ⟨WK.blk hK4 HI.out HNG.out (by decide)⟩; have HS4 := Aside0.mk hS4; have HB4 := Aside0.mk (HB3.out.trans hB4); clear hS4 hB4 hK4))
    obtain ⟨b, hb⟩ : ∃ b, wr.heap.size = b := ⟨_, rfl⟩
    rw [hb] at HI4 HNG
    rw [hb]
    clear hb HI HS3 HB3
    rcases Zbt j with hj0 | hj0
    ·have hnj : ¬ 0 < j := by omega
     have HCM : Aside0 (commaB (zar l j) (d : Int) = []) := ⟨by rw [hj0]; rfl⟩
     clear hj0
     refine wp_region_held_drew (S := fun w' => Itm w' b ⟨(d : Int), f1, f2, f3, f4⟩ ∧ True) (by kernel_rfl) ⟨HI4.out, trivial⟩ (fun hHeld => ?_)
     refine tA 0 23 (v := ?_) rfl (.inl ⟨by rfl, ?_⟩) ?_
     rotate_left
     ·intro w hSw
      (try dsimp only at hSw)
      clear hSw
      go_simp
      (try with_reducible rfl)
     (try simp only [Act.put, qA, qB, qC])
     refine tA 1 24 (v := ?_) rfl (.inl ⟨by rfl, ?_⟩) ?_
     rotate_left
     ·intro w hSw
      (try dsimp only at hSw)
      clear hSw
      go_simp
      (try with_reducible rfl)
     (try simp only [Act.put, qA, qB, qC])
     refine tA 2 25 (v := ?_) rfl (.inl ⟨by rfl, ?_⟩) ?_
     rotate_left
     ·intro w hSw
      (try dsimp only at hSw)
      clear hSw
      go_simp
      (try with_reducible rfl)
     (try simp only [Act.put, qA, qB, qC])
     refine tA 3 26 (v := undef) rfl (.inr ⟨by rfl, rfl⟩) ?_
     (try simp only [Act.put, qA, qB, qC])
     refine tA 4 27 (v := undef) rfl (.inr ⟨by rfl, rfl⟩) ?_
     (try simp only [Act.put, qA, qB, qC])
     refine tA 5 28 (v := undef) rfl (.inr ⟨by rfl, rfl⟩) ?_
     (try simp only [Act.put, qA, qB, qC])
     refine tA 6 29 (v := undef) rfl (.inr ⟨by rfl, rfl⟩) ?_
     (try simp only [Act.put, qA, qB, qC])
     refine tA 7 30 (v := undef) rfl (.inr ⟨by rfl, rfl⟩) ?_
     (try simp only [Act.put, qA, qB, qC])
     refine tA 8 31 (v := undef) rfl (.inr ⟨by rfl, rfl⟩) ?_
     (try simp only [Act.put, qA, qB, qC])
     refine tA 9 32 (v := undef) rfl (.inr ⟨by rfl, rfl⟩) ?_
     (try simp only [Act.put, qA, qB, qC])
     refine tA 10 33 (v := undef) rfl (.inr ⟨by rfl, rfl⟩) ?_
     (try simp only [Act.put, qA, qB, qC])
     refine tA 11 34 (v := undef) rfl (.inr ⟨by rfl, rfl⟩) ?_
     (try simp only [Act.put, qA, qB, qC])
     refine tA 12 35 (v := ?_) rfl (.inl ⟨by rfl, ?_⟩) ?_
     rotate_left
     ·intro w hSw
      (try dsimp only at hSw)
      clear hSw
      go_simp
      (try with_reducible rfl)
     (try simp only [Act.put, qA, qB, qC])
     refine wpAnyH_done (by kernel_rfl) ?_ _
     clear hHeld
     go_upto_region 10 with fail
     have hlen1 : (ends.take d).length = d := by rw [ybc]; have := HDE.out; omega
     obtain ⟨w5, hw5⟩ : ∃ w5, w4.drew = w5 := ⟨_, rfl⟩
     have HS4 := Aside0.mk HS4.out.drew1
     have HI4 : Aside0 (Itm w4.drew b ⟨(d : Int), f1, f2, f3, f4⟩) := HI4
     have HB4 := Aside0.mk (Xa HB4.out)
     rw [hw5] at HS4 HI4 HB4
     rw [hw5]
     clear hw5
     have HS5 := HS4
     have HI5 := HI4
     have HB5 := HB4
     rcases Zbt d with hd0 | hd0
     ·have hnd : ¬ 0 < d := by omega
      have HKB : Aside0 (keyB (ends.take d) f2 = []) := ⟨by rw [hd0, List.take_zero]; rfl⟩
      clear hd0
      obtain ⟨A2, cc2, c2⟩ := HS5.out.len
      rw [hlen1] at c2
      clear hlen1
      first
      | skip
      obtain ⟨hm0, hm1, hm2, hm3, hm4⟩ := Xf HI5.out
      go_wp2_with (go_at_call 19; refine (zw w.heap.size g (bs ++ (ends.drop d).reverse) (ends.take d) ⟨(d : Int), f1, f2, f3, f4⟩ w5 G23.out HS5.out (by have h5 := G5.out; have hd := HDE.out; skip; simp only [Xbb, zbk, Zbb, ybc, Xbd, Xbg]; omega) HB5.out.size (HT.out.step HB5.out) G4.out).mono ?_; rintro e w8 ⟨rfl, hS8, hB8, hK8⟩; have HS8 := Aside0.mk hS8; have HB8 := Aside0.mk (HB5.out.trans hB8); clear hS8 hB8 hK8)
      go_roundg (l.length - (j + 1))
      case measure => omega
      case rel => exact ⟨j + 1, _, _, rfl, hlt, by go_num, HS8, ⟨by rw [HPD.out]; have hF := HF.out; rw [HCM.out, HKB.out] at hF; simpa only [ybk, xbj] using hF⟩, HB8⟩
     ·obtain ⟨q, rfl⟩ : ∃ q, d = q + 1 := ⟨d - 1, by omega⟩
      clear hd0
      have hlast := xal _ q hlen1
      obtain ⟨gg, cc, c2, c3, _, _, _⟩ := HS5.out.top hlen1
      clear hlen1
      obtain ⟨lc, hlc⟩ : ∃ lc : UInt8, (ends.take (q + 1)).getD q 0 = lc := ⟨_, rfl⟩
      rw [hlc] at c3 hlast
      clear hlc
      have hwq : IntKind.i64.wrap (q : Int) = (q : Int) := IntWalk.i64_in (q : Int) ⟨by omega, by omega⟩
      have hq0 : (0 : Int) ≤ (q : Int) := by omega
      have hq1 : (q : Int) < (q : Int) + 1 := by omega
      by_cases hl125 : lc = 125
      ·subst hl125
       have HKB : Aside0 (keyB (ends.take (q + 1)) f2 = (Xx f2).1.data.toList ++ [58]) := ⟨by unfold keyB; rw [if_pos hlast]⟩
       clear hlast
       obtain ⟨hm0, hm1, hm2, hm3, hm4⟩ := Xf HI5.out
       go_upto_region 14 with (first | (go_at_call 18; refine (XU w.heap.size g (bs ++ (ends.drop (q + 1)).reverse) (ends.take (q + 1)) f2 w5 HS5.out (by have h5 := G5.out; have hd := HDE.out; simp only [Xbb, zbk, Zbb, ybc, Xbd, Xbg]; omega) HB5.out.size (HT.out.step HB5.out).tabs).mono ?_; rintro e w6 ⟨rfl, hS6, hB6, hK6⟩; have HI6 : Aside0 (Itm w6 b ⟨((q + 1 : Nat) : Int), f1, f2, f3, f4⟩) := ⟨WK.blk hK6 HI5.out HNG.out (by decide)⟩; have HS6 := Aside0.mk hS6; have HB6 := Aside0.mk (HB5.out.trans hB6); clear hS6 hB6 hK6) | (go_at_call 17; refine (zW w.heap.size g ((bs ++ (ends.drop (q + 1)).reverse) ++ (Xx f2).1.data.toList) (ends.take (q + 1)) 58 w6 HS6.out (by have h5 := G5.out; have hd := HDE.out; have h6 := Y5 f2; simp only [Xbb, zbk, Zbb, ybc, Xbd, Xbg]; omega) HB6.out.size).mono ?_; rintro e w7 ⟨rfl, hS7, hB7, hK7⟩; have HI7 : Aside0 (Itm w7 b ⟨((q + 1 : Nat) : Int), f1, f2, f3, f4⟩) := ⟨WK.blk hK7 HI6.out HNG.out (by decide)⟩; have HS7 := Aside0.mk hS7; have HB7 := Aside0.mk (HB6.out.trans hB7); clear hS7 hB7 hK7))
       clear hm0 hm1 hm2 hm3 hm4
       obtain ⟨hm0, hm1, hm2, hm3, hm4⟩ := Xf HI7.out
       go_wp2_with (go_at_call 19; refine (zw w.heap.size g ((bs ++ (ends.drop (q + 1)).reverse) ++ (Xx f2).1.data.toList ++ [58]) (ends.take (q + 1)) ⟨((q + 1 : Nat) : Int), f1, f2, f3, f4⟩ w7 G23.out HS7.out (by have h5 := G5.out; have hd := HDE.out; have h6 := Y5 f2; simp only [Xbb, zbk, Zbb, ybc, Xbd, Xbg]; omega) HB7.out.size (HT.out.step HB7.out) G4.out).mono ?_; rintro e w8 ⟨rfl, hS8, hB8, hK8⟩; have HS8 := Aside0.mk hS8; have HB8 := Aside0.mk (HB7.out.trans hB8); clear hS8 hB8 hK8)
       go_roundg (l.length - (j + 1))
       case measure => omega
       case rel => exact ⟨j + 1, _, _, rfl, hlt, by go_num, HS8, ⟨by rw [HPD.out]; have hF := HF.out; rw [HCM.out, HKB.out] at hF; simpa only [ybk, xbj] using hF⟩, HB8⟩
      ·have hne : (lc == 125) = false := Ybb.mpr hl125
       have hne2 : ((lc.toNat : Int) == 125) = false := u8_ne lc hl125
       have HKB : Aside0 (keyB (ends.take (q + 1)) f2 = []) := ⟨by unfold keyB; rw [if_neg (by rw [hlast]; intro e; exact hl125 (Option.some.inj e))]⟩
       clear hlast hl125
       obtain ⟨hm0, hm1, hm2, hm3, hm4⟩ := Xf HI5.out
       go_wp2_with (go_at_call 19; refine (zw w.heap.size g (bs ++ (ends.drop (q + 1)).reverse) (ends.take (q + 1)) ⟨((q + 1 : Nat) : Int), f1, f2, f3, f4⟩ w5 G23.out HS5.out (by have h5 := G5.out; have hd := HDE.out; skip; simp only [Xbb, zbk, Zbb, ybc, Xbd, Xbg]; omega) HB5.out.size (HT.out.step HB5.out) G4.out).mono ?_; rintro e w8 ⟨rfl, hS8, hB8, hK8⟩; have HS8 := Aside0.mk hS8; have HB8 := Aside0.mk (HB5.out.trans hB8); clear hS8 hB8 hK8)
       go_roundg (l.length - (j + 1))
       case measure => omega
       case rel => exact ⟨j + 1, _, _, rfl, hlt, by go_num, HS8, ⟨by rw [HPD.out]; have hF := HF.out; rw [HCM.out, HKB.out] at hF; simpa only [ybk, xbj] using hF⟩, HB8⟩
    ·obtain ⟨i, rfl⟩ : ∃ i, j = i + 1 := ⟨j - 1, by omega⟩
     clear hj0
     obtain ⟨ad2, hA2, p0, _, _, _, _⟩ := Xab (Kd.C_below HC.out HB4.out) (i : Int) (by omega) (by omega)
     injection hA2 with hA2
     subst hA2
     simp only [Ybd] at p0
     obtain ⟨pf, hpf⟩ : ∃ pf, (zE l (i : Int)).f0 = pf := ⟨_, rfl⟩
     rw [hpf] at p0
     have hcb : commaB (zar l (i + 1)) (d : Int) = if (d : Int) ≤ pf then [44] else [] := by unfold zar; rw [if_neg (Nat.succ_ne_zero i), Nat.add_sub_cancel, hpf]; rfl
     clear hpf
     have hwi : IntKind.i64.wrap (i : Int) = (i : Int) := IntWalk.i64_in (i : Int) ⟨by omega, by omega⟩
     have hi0 : (0 : Int) ≤ (i : Int) := by omega
     have hi1 : (i : Int) < (l.length : Int) := by omega
     have hi2 : i < l.length := by omega
     by_cases hcm : (d : Int) ≤ pf
     ·have HCM := Aside0.mk (hcb.trans (if_pos hcm))
      clear hcb
      refine wp_region_held_drew (S := fun w' => Itm w' b ⟨(d : Int), f1, f2, f3, f4⟩ ∧ w'.cell? (ad.add (i * 5)) = some (.int .i64 pf)) (by kernel_rfl) ⟨HI4.out, p0⟩ (fun hHeld => ?_)
      refine tA 0 23 (v := ?_) rfl (.inl ⟨by rfl, ?_⟩) ?_
      rotate_left
      ·intro w hSw
       (try dsimp only at hSw)
       have hm0 := (Xf hSw.1).1
       have hm9 := hSw.2
       clear hSw
       go_simp
       (try with_reducible rfl)
      (try simp only [Act.put, qA, qB, qC])
      refine tA 1 24 (v := ?_) rfl (.inl ⟨by rfl, ?_⟩) ?_
      rotate_left
      ·intro w hSw
       (try dsimp only at hSw)
       have hm0 := (Xf hSw.1).1
       have hm9 := hSw.2
       clear hSw
       go_simp
       (try with_reducible rfl)
      (try simp only [Act.put, qA, qB, qC])
      refine tA 2 25 (v := ?_) rfl (.inl ⟨by rfl, ?_⟩) ?_
      rotate_left
      ·intro w hSw
       (try dsimp only at hSw)
       have hm0 := (Xf hSw.1).1
       have hm9 := hSw.2
       clear hSw
       go_simp
       (try with_reducible rfl)
      (try simp only [Act.put, qA, qB, qC])
      refine tA 3 26 (v := ?_) rfl (.inl ⟨by rfl, ?_⟩) ?_
      rotate_left
      ·intro w hSw
       (try dsimp only at hSw)
       have hm0 := (Xf hSw.1).1
       have hm9 := hSw.2
       clear hSw
       go_simp
       (try with_reducible rfl)
      (try simp only [Act.put, qA, qB, qC])
      refine tA 4 27 (v := ?_) rfl (.inl ⟨by rfl, ?_⟩) ?_
      rotate_left
      ·intro w hSw
       (try dsimp only at hSw)
       have hm0 := (Xf hSw.1).1
       have hm9 := hSw.2
       clear hSw
       go_simp
       (try with_reducible rfl)
      (try simp only [Act.put, qA, qB, qC])
      refine tA 5 28 (v := ?_) rfl (.inl ⟨by rfl, ?_⟩) ?_
      rotate_left
      ·intro w hSw
       (try dsimp only at hSw)
       have hm0 := (Xf hSw.1).1
       have hm9 := hSw.2
       clear hSw
       go_simp
       (try with_reducible rfl)
      (try simp only [Act.put, qA, qB, qC])
      refine tA 6 29 (v := ?_) rfl (.inl ⟨by rfl, ?_⟩) ?_
      rotate_left
      ·intro w hSw
       (try dsimp only at hSw)
       have hm0 := (Xf hSw.1).1
       have hm9 := hSw.2
       clear hSw
       go_simp
       (try with_reducible rfl)
      (try simp only [Act.put, qA, qB, qC])
      refine tA 7 30 (v := ?_) rfl (.inl ⟨by rfl, ?_⟩) ?_
      rotate_left
      ·intro w hSw
       (try dsimp only at hSw)
       have hm0 := (Xf hSw.1).1
       have hm9 := hSw.2
       clear hSw
       go_simp
       (try with_reducible rfl)
      (try simp only [Act.put, qA, qB, qC])
      refine tA 8 31 (v := ?_) rfl (.inl ⟨by rfl, ?_⟩) ?_
      rotate_left
      ·intro w hSw
       (try dsimp only at hSw)
       have hm0 := (Xf hSw.1).1
       have hm9 := hSw.2
       clear hSw
       go_simp
       (try with_reducible rfl)
      (try simp only [Act.put, qA, qB, qC])
      refine tA 9 32 (v := ?_) rfl (.inl ⟨by rfl, ?_⟩) ?_
      rotate_left
      ·intro w hSw
       (try dsimp only at hSw)
       have hm0 := (Xf hSw.1).1
       have hm9 := hSw.2
       clear hSw
       go_simp
       (try with_reducible rfl)
      (try simp only [Act.put, qA, qB, qC])
      refine tA 10 33 (v := ?_) rfl (.inl ⟨by rfl, ?_⟩) ?_
      rotate_left
      ·intro w hSw
       (try dsimp only at hSw)
       have hm0 := (Xf hSw.1).1
       have hm9 := hSw.2
       clear hSw
       go_simp
       (try with_reducible rfl)
      (try simp only [Act.put, qA, qB, qC])
      refine tA 11 34 (v := ?_) rfl (.inl ⟨by rfl, ?_⟩) ?_
      rotate_left
      ·intro w hSw
       (try dsimp only at hSw)
       have hm0 := (Xf hSw.1).1
       have hm9 := hSw.2
       clear hSw
       go_simp
       (try with_reducible rfl)
      (try simp only [Act.put, qA, qB, qC])
      refine tA 12 35 (v := ?_) rfl (.inl ⟨by rfl, ?_⟩) ?_
      rotate_left
      ·intro w hSw
       (try dsimp only at hSw)
       have hm0 := (Xf hSw.1).1
       have hm9 := hSw.2
       clear hSw
       go_simp
       (try with_reducible rfl)
      (try simp only [Act.put, qA, qB, qC])
      refine wpAnyH_done (by kernel_rfl) ?_ _
      clear hHeld p0
      go_upto_region 10 with ((go_at_call 17; refine (zW w.heap.size g (bs ++ (ends.drop d).reverse) (ends.take d) 44 w4.drew HS4.out.drew1 (by have h5 := G5.out; have hd := HDE.out; simp only [Xbb, zbk, Zbb]; omega) (Xa HB4.out).size).mono ?_; rintro e w9 ⟨rfl, hS9, hB9, hK9⟩; have HI9 : Aside0 (Itm w9 b ⟨(d : Int), f1, f2, f3, f4⟩) := ⟨WK.blk hK9 HI4.out HNG.out (by decide)⟩; have HS9 := Aside0.mk hS9; have HB9 := Aside0.mk ((Xa HB4.out).trans hB9); clear hS9 hB9 hK9))
      have hlen1 : (ends.take d).length = d := by rw [ybc]; have := HDE.out; omega
      obtain ⟨w5, hw5⟩ : ∃ w5, w9 = w5 := ⟨_, rfl⟩
      rw [hw5] at HS9 HI9 HB9
      rw [hw5]
      clear hw5
      have HS5 := HS9
      have HI5 := HI9
      have HB5 := HB9
      rcases Zbt d with hd0 | hd0
      ·have hnd : ¬ 0 < d := by omega
       have HKB : Aside0 (keyB (ends.take d) f2 = []) := ⟨by rw [hd0, List.take_zero]; rfl⟩
       clear hd0
       obtain ⟨A2, cc2, c2⟩ := HS5.out.len
       rw [hlen1] at c2
       clear hlen1
       first
       | skip
       obtain ⟨hm0, hm1, hm2, hm3, hm4⟩ := Xf HI5.out
       go_wp2_with (go_at_call 19; refine (zw w.heap.size g (bs ++ (ends.drop d).reverse ++ [44]) (ends.take d) ⟨(d : Int), f1, f2, f3, f4⟩ w5 G23.out HS5.out (by have h5 := G5.out; have hd := HDE.out; skip; simp only [Xbb, zbk, Zbb, ybc, Xbd, Xbg]; omega) HB5.out.size (HT.out.step HB5.out) G4.out).mono ?_; rintro e w8 ⟨rfl, hS8, hB8, hK8⟩; have HS8 := Aside0.mk hS8; have HB8 := Aside0.mk (HB5.out.trans hB8); clear hS8 hB8 hK8)
       go_roundg (l.length - ((i + 1) + 1))
       case measure => omega
       case rel => exact ⟨(i + 1) + 1, _, _, rfl, hlt, by go_num, HS8, ⟨by rw [HPD.out]; have hF := HF.out; rw [HCM.out, HKB.out] at hF; simpa only [ybk, xbj] using hF⟩, HB8⟩
      ·obtain ⟨q, rfl⟩ : ∃ q, d = q + 1 := ⟨d - 1, by omega⟩
       clear hd0
       have hlast := xal _ q hlen1
       obtain ⟨gg, cc, c2, c3, _, _, _⟩ := HS5.out.top hlen1
       clear hlen1
       obtain ⟨lc, hlc⟩ : ∃ lc : UInt8, (ends.take (q + 1)).getD q 0 = lc := ⟨_, rfl⟩
       rw [hlc] at c3 hlast
       clear hlc
       have hwq : IntKind.i64.wrap (q : Int) = (q : Int) := IntWalk.i64_in (q : Int) ⟨by omega, by omega⟩
       have hq0 : (0 : Int) ≤ (q : Int) := by omega
       have hq1 : (q : Int) < (q : Int) + 1 := by omega
       by_cases hl125 : lc = 125
       ·subst hl125
        have HKB : Aside0 (keyB (ends.take (q + 1)) f2 = (Xx f2).1.data.toList ++ [58]) := ⟨by unfold keyB; rw [if_pos hlast]⟩
        clear hlast
        obtain ⟨hm0, hm1, hm2, hm3, hm4⟩ := Xf HI5.out
        go_upto_region 14 with (first | (go_at_call 18; refine (XU w.heap.size g (bs ++ (ends.drop (q + 1)).reverse ++ [44]) (ends.take (q + 1)) f2 w5 HS5.out (by have h5 := G5.out; have hd := HDE.out; simp only [Xbb, zbk, Zbb, ybc, Xbd, Xbg]; omega) HB5.out.size (HT.out.step HB5.out).tabs).mono ?_; rintro e w6 ⟨rfl, hS6, hB6, hK6⟩; have HI6 : Aside0 (Itm w6 b ⟨((q + 1 : Nat) : Int), f1, f2, f3, f4⟩) := ⟨WK.blk hK6 HI5.out HNG.out (by decide)⟩; have HS6 := Aside0.mk hS6; have HB6 := Aside0.mk (HB5.out.trans hB6); clear hS6 hB6 hK6) | (go_at_call 17; refine (zW w.heap.size g ((bs ++ (ends.drop (q + 1)).reverse ++ [44]) ++ (Xx f2).1.data.toList) (ends.take (q + 1)) 58 w6 HS6.out (by have h5 := G5.out; have hd := HDE.out; have h6 := Y5 f2; simp only [Xbb, zbk, Zbb, ybc, Xbd, Xbg]; omega) HB6.out.size).mono ?_; rintro e w7 ⟨rfl, hS7, hB7, hK7⟩; have HI7 : Aside0 (Itm w7 b ⟨((q + 1 : Nat) : Int), f1, f2, f3, f4⟩) := ⟨WK.blk hK7 HI6.out HNG.out (by decide)⟩; have HS7 := Aside0.mk hS7; have HB7 := Aside0.mk (HB6.out.trans hB7); clear hS7 hB7 hK7))
        clear hm0 hm1 hm2 hm3 hm4
        obtain ⟨hm0, hm1, hm2, hm3, hm4⟩ := Xf HI7.out
        go_wp2_with (go_at_call 19; refine (zw w.heap.size g ((bs ++ (ends.drop (q + 1)).reverse ++ [44]) ++ (Xx f2).1.data.toList ++ [58]) (ends.take (q + 1)) ⟨((q + 1 : Nat) : Int), f1, f2, f3, f4⟩ w7 G23.out HS7.out (by have h5 := G5.out; have hd := HDE.out; have h6 := Y5 f2; simp only [Xbb, zbk, Zbb, ybc, Xbd, Xbg]; omega) HB7.out.size (HT.out.step HB7.out) G4.out).mono ?_; rintro e w8 ⟨rfl, hS8, hB8, hK8⟩; have HS8 := Aside0.mk hS8; have HB8 := Aside0.mk (HB7.out.trans hB8); clear hS8 hB8 hK8)
        go_roundg (l.length - ((i + 1) + 1))
        case measure => omega
        case rel => exact ⟨(i + 1) + 1, _, _, rfl, hlt, by go_num, HS8, ⟨by rw [HPD.out]; have hF := HF.out; rw [HCM.out, HKB.out] at hF; simpa only [ybk, xbj] using hF⟩, HB8⟩
       ·have hne : (lc == 125) = false := Ybb.mpr hl125
        have hne2 : ((lc.toNat : Int) == 125) = false := u8_ne lc hl125
        have HKB : Aside0 (keyB (ends.take (q + 1)) f2 = []) := ⟨by unfold keyB; rw [if_neg (by rw [hlast]; intro e; exact hl125 (Option.some.inj e))]⟩
        clear hlast hl125
        obtain ⟨hm0, hm1, hm2, hm3, hm4⟩ := Xf HI5.out
        go_wp2_with (go_at_call 19; refine (zw w.heap.size g (bs ++ (ends.drop (q + 1)).reverse ++ [44]) (ends.take (q + 1)) ⟨((q + 1 : Nat) : Int), f1, f2, f3, f4⟩ w5 G23.out HS5.out (by have h5 := G5.out; have hd := HDE.out; skip; simp only [Xbb, zbk, Zbb, ybc, Xbd, Xbg]; omega) HB5.out.size (HT.out.step HB5.out) G4.out).mono ?_; rintro e w8 ⟨rfl, hS8, hB8, hK8⟩; have HS8 := Aside0.mk hS8; have HB8 := Aside0.mk (HB5.out.trans hB8); clear hS8 hB8 hK8)
        go_roundg (l.length - ((i + 1) + 1))
        case measure => omega
        case rel => exact ⟨(i + 1) + 1, _, _, rfl, hlt, by go_num, HS8, ⟨by rw [HPD.out]; have hF := HF.out; rw [HCM.out, HKB.out] at hF; simpa only [ybk, xbj] using hF⟩, HB8⟩
     ·have HCM := Aside0.mk (hcb.trans (if_neg hcm))
      clear hcb
      refine wp_region_held_drew (S := fun w' => Itm w' b ⟨(d : Int), f1, f2, f3, f4⟩ ∧ w'.cell? (ad.add (i * 5)) = some (.int .i64 pf)) (by kernel_rfl) ⟨HI4.out, p0⟩ (fun hHeld => ?_)
      refine tA 0 23 (v := ?_) rfl (.inl ⟨by rfl, ?_⟩) ?_
      rotate_left
      ·intro w hSw
       (try dsimp only at hSw)
       have hm0 := (Xf hSw.1).1
       have hm9 := hSw.2
       clear hSw
       go_simp
       (try with_reducible rfl)
      (try simp only [Act.put, qA, qB, qC])
      refine tA 1 24 (v := ?_) rfl (.inl ⟨by rfl, ?_⟩) ?_
      rotate_left
      ·intro w hSw
       (try dsimp only at hSw)
       have hm0 := (Xf hSw.1).1
       have hm9 := hSw.2
       clear hSw
       go_simp
       (try with_reducible rfl)
      (try simp only [Act.put, qA, qB, qC])
      refine tA 2 25 (v := ?_) rfl (.inl ⟨by rfl, ?_⟩) ?_
      rotate_left
      ·intro w hSw
       (try dsimp only at hSw)
       have hm0 := (Xf hSw.1).1
       have hm9 := hSw.2
       clear hSw
       go_simp
       (try with_reducible rfl)
      (try simp only [Act.put, qA, qB, qC])
      refine tA 3 26 (v := ?_) rfl (.inl ⟨by rfl, ?_⟩) ?_
      rotate_left
      ·intro w hSw
       (try dsimp only at hSw)
       have hm0 := (Xf hSw.1).1
       have hm9 := hSw.2
       clear hSw
       go_simp
       (try with_reducible rfl)
      (try simp only [Act.put, qA, qB, qC])
      refine tA 4 27 (v := ?_) rfl (.inl ⟨by rfl, ?_⟩) ?_
      rotate_left
      ·intro w hSw
       (try dsimp only at hSw)
       have hm0 := (Xf hSw.1).1
       have hm9 := hSw.2
       clear hSw
       go_simp
       (try with_reducible rfl)
      (try simp only [Act.put, qA, qB, qC])
      refine tA 5 28 (v := ?_) rfl (.inl ⟨by rfl, ?_⟩) ?_
      rotate_left
      ·intro w hSw
       (try dsimp only at hSw)
       have hm0 := (Xf hSw.1).1
       have hm9 := hSw.2
       clear hSw
       go_simp
       (try with_reducible rfl)
      (try simp only [Act.put, qA, qB, qC])
      refine tA 6 29 (v := ?_) rfl (.inl ⟨by rfl, ?_⟩) ?_
      rotate_left
      ·intro w hSw
       (try dsimp only at hSw)
       have hm0 := (Xf hSw.1).1
       have hm9 := hSw.2
       clear hSw
       go_simp
       (try with_reducible rfl)
      (try simp only [Act.put, qA, qB, qC])
      refine tA 7 30 (v := ?_) rfl (.inl ⟨by rfl, ?_⟩) ?_
      rotate_left
      ·intro w hSw
       (try dsimp only at hSw)
       have hm0 := (Xf hSw.1).1
       have hm9 := hSw.2
       clear hSw
       go_simp
       (try with_reducible rfl)
      (try simp only [Act.put, qA, qB, qC])
      refine tA 8 31 (v := ?_) rfl (.inl ⟨by rfl, ?_⟩) ?_
      rotate_left
      ·intro w hSw
       (try dsimp only at hSw)
       have hm0 := (Xf hSw.1).1
       have hm9 := hSw.2
       clear hSw
       go_simp
       (try with_reducible rfl)
      (try simp only [Act.put, qA, qB, qC])
      refine tA 9 32 (v := ?_) rfl (.inl ⟨by rfl, ?_⟩) ?_
      rotate_left
      ·intro w hSw
       (try dsimp only at hSw)
       have hm0 := (Xf hSw.1).1
       have hm9 := hSw.2
       clear hSw
       go_simp
       (try with_reducible rfl)
      (try simp only [Act.put, qA, qB, qC])
      refine tA 10 33 (v := ?_) rfl (.inl ⟨by rfl, ?_⟩) ?_
      rotate_left
      ·intro w hSw
       (try dsimp only at hSw)
       have hm0 := (Xf hSw.1).1
       have hm9 := hSw.2
       clear hSw
       go_simp
       (try with_reducible rfl)
      (try simp only [Act.put, qA, qB, qC])
      refine tA 11 34 (v := ?_) rfl (.inl ⟨by rfl, ?_⟩) ?_
      rotate_left
      ·intro w hSw
       (try dsimp only at hSw)
       have hm0 := (Xf hSw.1).1
       have hm9 := hSw.2
       clear hSw
       go_simp
       (try with_reducible rfl)
      (try simp only [Act.put, qA, qB, qC])
      refine tA 12 35 (v := ?_) rfl (.inl ⟨by rfl, ?_⟩) ?_
      rotate_left
      ·intro w hSw
       (try dsimp only at hSw)
       have hm0 := (Xf hSw.1).1
       have hm9 := hSw.2
       clear hSw
       go_simp
       (try with_reducible rfl)
      (try simp only [Act.put, qA, qB, qC])
      refine wpAnyH_done (by kernel_rfl) ?_ _
      clear hHeld p0
      go_upto_region 10 with fail
      have hlen1 : (ends.take d).length = d := by rw [ybc]; have := HDE.out; omega
      obtain ⟨w5, hw5⟩ : ∃ w5, w4.drew = w5 := ⟨_, rfl⟩
      have HS4 := Aside0.mk HS4.out.drew1
      have HI4 : Aside0 (Itm w4.drew b ⟨(d : Int), f1, f2, f3, f4⟩) := HI4
      have HB4 := Aside0.mk (Xa HB4.out)
      rw [hw5] at HS4 HI4 HB4
      rw [hw5]
      clear hw5
      have HS5 := HS4
      have HI5 := HI4
      have HB5 := HB4
      rcases Zbt d with hd0 | hd0
      ·have hnd : ¬ 0 < d := by omega
       have HKB : Aside0 (keyB (ends.take d) f2 = []) := ⟨by rw [hd0, List.take_zero]; rfl⟩
       clear hd0
       obtain ⟨A2, cc2, c2⟩ := HS5.out.len
       rw [hlen1] at c2
       clear hlen1
       first
       | skip
       obtain ⟨hm0, hm1, hm2, hm3, hm4⟩ := Xf HI5.out
       go_wp2_with (go_at_call 19; refine (zw w.heap.size g (bs ++ (ends.drop d).reverse) (ends.take d) ⟨(d : Int), f1, f2, f3, f4⟩ w5 G23.out HS5.out (by have h5 := G5.out; have hd := HDE.out; skip; simp only [Xbb, zbk, Zbb, ybc, Xbd, Xbg]; omega) HB5.out.size (HT.out.step HB5.out) G4.out).mono ?_; rintro e w8 ⟨rfl, hS8, hB8, hK8⟩; have HS8 := Aside0.mk hS8; have HB8 := Aside0.mk (HB5.out.trans hB8); clear hS8 hB8 hK8)
       go_roundg (l.length - ((i + 1) + 1))
       case measure => omega
       case rel => exact ⟨(i + 1) + 1, _, _, rfl, hlt, by go_num, HS8, ⟨by rw [HPD.out]; have hF := HF.out; rw [HCM.out, HKB.out] at hF; simpa only [ybk, xbj] using hF⟩, HB8⟩
      ·obtain ⟨q, rfl⟩ : ∃ q, d = q + 1 := ⟨d - 1, by omega⟩
       clear hd0
       have hlast := xal _ q hlen1
       obtain ⟨gg, cc, c2, c3, _, _, _⟩ := HS5.out.top hlen1
       clear hlen1
       obtain ⟨lc, hlc⟩ : ∃ lc : UInt8, (ends.take (q + 1)).getD q 0 = lc := ⟨_, rfl⟩
       rw [hlc] at c3 hlast
       clear hlc
       have hwq : IntKind.i64.wrap (q : Int) = (q : Int) := IntWalk.i64_in (q : Int) ⟨by omega, by omega⟩
       have hq0 : (0 : Int) ≤ (q : Int) := by omega
       have hq1 : (q : Int) < (q : Int) + 1 := by omega
       by_cases hl125 : lc = 125
       ·subst hl125
        have HKB : Aside0 (keyB (ends.take (q + 1)) f2 = (Xx f2).1.data.toList ++ [58]) := ⟨by unfold keyB; rw [if_pos hlast]⟩
        clear hlast
        obtain ⟨hm0, hm1, hm2, hm3, hm4⟩ := Xf HI5.out
        go_upto_region 14 with (first | (go_at_call 18; refine (XU w.heap.size g (bs ++ (ends.drop (q + 1)).reverse) (ends.take (q + 1)) f2 w5 HS5.out (by have h5 := G5.out; have hd := HDE.out; simp only [Xbb, zbk, Zbb, ybc, Xbd, Xbg]; omega) HB5.out.size (HT.out.step HB5.out).tabs).mono ?_; rintro e w6 ⟨rfl, hS6, hB6, hK6⟩; have HI6 : Aside0 (Itm w6 b ⟨((q + 1 : Nat) : Int), f1, f2, f3, f4⟩) := ⟨WK.blk hK6 HI5.out HNG.out (by decide)⟩; have HS6 := Aside0.mk hS6; have HB6 := Aside0.mk (HB5.out.trans hB6); clear hS6 hB6 hK6) | (go_at_call 17; refine (zW w.heap.size g ((bs ++ (ends.drop (q + 1)).reverse) ++ (Xx f2).1.data.toList) (ends.take (q + 1)) 58 w6 HS6.out (by have h5 := G5.out; have hd := HDE.out; have h6 := Y5 f2; simp only [Xbb, zbk, Zbb, ybc, Xbd, Xbg]; omega) HB6.out.size).mono ?_; rintro e w7 ⟨rfl, hS7, hB7, hK7⟩; have HI7 : Aside0 (Itm w7 b ⟨((q + 1 : Nat) : Int), f1, f2, f3, f4⟩) := ⟨WK.blk hK7 HI6.out HNG.out (by decide)⟩; have HS7 := Aside0.mk hS7; have HB7 := Aside0.mk (HB6.out.trans hB7); clear hS7 hB7 hK7))
        clear hm0 hm1 hm2 hm3 hm4
        obtain ⟨hm0, hm1, hm2, hm3, hm4⟩ := Xf HI7.out
        go_wp2_with (go_at_call 19; refine (zw w.heap.size g ((bs ++ (ends.drop (q + 1)).reverse) ++ (Xx f2).1.data.toList ++ [58]) (ends.take (q + 1)) ⟨((q + 1 : Nat) : Int), f1, f2, f3, f4⟩ w7 G23.out HS7.out (by have h5 := G5.out; have hd := HDE.out; have h6 := Y5 f2; simp only [Xbb, zbk, Zbb, ybc, Xbd, Xbg]; omega) HB7.out.size (HT.out.step HB7.out) G4.out).mono ?_; rintro e w8 ⟨rfl, hS8, hB8, hK8⟩; have HS8 := Aside0.mk hS8; have HB8 := Aside0.mk (HB7.out.trans hB8); clear hS8 hB8 hK8)
        go_roundg (l.length - ((i + 1) + 1))
        case measure => omega
        case rel => exact ⟨(i + 1) + 1, _, _, rfl, hlt, by go_num, HS8, ⟨by rw [HPD.out]; have hF := HF.out; rw [HCM.out, HKB.out] at hF; simpa only [ybk, xbj] using hF⟩, HB8⟩
       ·have hne : (lc == 125) = false := Ybb.mpr hl125
        have hne2 : ((lc.toNat : Int) == 125) = false := u8_ne lc hl125
        have HKB : Aside0 (keyB (ends.take (q + 1)) f2 = []) := ⟨by unfold keyB; rw [if_neg (by rw [hlast]; intro e; exact hl125 (Option.some.inj e))]⟩
        clear hlast hl125
        obtain ⟨hm0, hm1, hm2, hm3, hm4⟩ := Xf HI5.out
        go_wp2_with (go_at_call 19; refine (zw w.heap.size g (bs ++ (ends.drop (q + 1)).reverse) (ends.take (q + 1)) ⟨((q + 1 : Nat) : Int), f1, f2, f3, f4⟩ w5 G23.out HS5.out (by have h5 := G5.out; have hd := HDE.out; skip; simp only [Xbb, zbk, Zbb, ybc, Xbd, Xbg]; omega) HB5.out.size (HT.out.step HB5.out) G4.out).mono ?_; rintro e w8 ⟨rfl, hS8, hB8, hK8⟩; have HS8 := Aside0.mk hS8; have HB8 := Aside0.mk (HB5.out.trans hB8); clear hS8 hB8 hK8)
        go_roundg (l.length - ((i + 1) + 1))
        case measure => omega
        case rel => exact ⟨(i + 1) + 1, _, _, rfl, hlt, by go_num, HS8, ⟨by rw [HPD.out]; have hF := HF.out; rw [HCM.out, HKB.out] at hF; simpa only [ybk, xbj] using hF⟩, HB8⟩
   ·rw [if_neg hgd] at hF; cases hF
  ·have hjl2 : l.drop j = [] := xbp (by omega)
   have hF := HF.out
   rw [hjl2, xac] at hF
   have HR := Aside0.mk (Option.some.inj hF)
   clear HF hF hjl2
   have hjl3 : ¬ (j : Int) < (l.length : Int) := by omega
   have HLE : Aside0 (bs.length + ends.length ≤ 140737488355328) := ⟨by have := HR1.out; rw [← HR.out, Xbb, zbk] at this; exact this⟩
   go_wp2_with (first
    | (go_at_call 16; refine (zaD w.heap.size g bs ends 0 wr HS.out (Ybm _) HLE.out HB.out.size).mono ?_; rintro e w4 ⟨rfl, hS4, hB4, hK4⟩; rw [xbt, HR.out] at hS4; have HS4 := Aside0.mk hS4; have HB4 := Aside0.mk (HB.out.trans hB4); clear hS4 hB4 hK4)
    | (go_at_call 20; refine (ws_text w.heap.size g r _ w4 HS4.out HR0.out HR1.out).mono ?_; rintro e w5 ⟨rfl, hB5⟩; have HB5 := Aside0.mk (HB4.out.trans hB5); clear hB5))
   go_ret
   exact ⟨rfl, HB5.out⟩
theorem print_no (w : World) (A : Option Addr) (c : Nat) (l : List S40) (hC : Kd.C k40 w A l.length l) (hc : l.length ≤ c) (ht : JTabs w) (hr : Zo.f l = some false) :
  Calls Tryz.prog 7 #[.slice A l.length c] w fun e w' => e = .returned (.string ⟨#[]⟩) ∧ Below w.heap.size w w' := by
 have HC := Aside0.mk hC
 have HT := Aside0.mk ht
 have HRF := Aside0.mk hr
 have HCC := Aside0.mk hc
 clear hC ht hc hr
 go_enter Tryz.func7, Tryz.ntmps7
 go_wp2_with (go_at_call 15; refine (Zo.calls A c l false _ HC.out HCC.out HRF.out HT.out.tabs).mono ?_; rintro e w1 ⟨rfl, hb1⟩; have HB1 := Aside0.mk hb1; clear hb1)
 go_ret
 exact ⟨rfl, HB1.out⟩
def zV.f (l : List S40) : Option ByteArray := (Zo.f l).bind fun ok => if ok = true then (xac none [] [] l).bind fun r => if r ≠ [] ∧ r.length ≤ 140737488355328 then some ⟨r.toArray⟩ else none else some ⟨#[]⟩
theorem zV.calls (A : Option Addr) (c : Nat) (l : List S40) (r : ByteArray) (w : World) (hC : Kd.C k40 w A l.length l) (hc : l.length ≤ c) (h : zV.f l = some r) (ht : JTabs w := by first | assumption | (refine JTabs.step (by assumption) ?_; repeat (first | exact Aside0.out (by assumption) | apply Za | apply Ya | apply Xa | exact ybd _ _))) :
  Calls Tryz.prog 7 #[.slice A l.length c] w fun e w' => e = .returned (.string r) ∧ Below w.heap.size w w' := by
 unfold zV.f at h
 obtain ⟨ok, hr, h⟩ := Ybe.1 h
 cases ok with
 | true =>
  rw [if_pos rfl] at h
  obtain ⟨q, hq, h⟩ := Ybe.1 h
  by_cases h0 : q ≠ [] ∧ q.length ≤ 140737488355328
  ·rw [if_pos h0] at h
   cases h
   exact Za7 w A c l q hC hc ht hr hq h0.1 h0.2
  ·rw [if_neg h0] at h; cases h
 | false =>
  rw [if_neg (by decide)] at h
  cases h
  exact print_no w A c l hC hc ht hr
theorem xR (s : ByteArray) (h : s.size ≤ 9223372036854775807) : zo.f s = some (Lib.validD s.data.toList) := by
 unfold zo.f utf8_ValidString.f
 rw [if_pos h]; rfl
theorem X5 : Lib.validD e0.data.toList = true := by decide +kernel
def zP (l : List S40) (d : Nat) : Prop := ∀ x, l.head? = some x → x.f0 ≤ (d : Int)
theorem yaD (b : Bool) (st : List LvS) (l : List S40) (d : Nat) (h : zP l d) (hd : d + 1 ≤ st.length) : rightF b st l = rightF b (st.take (d + 1)) l := by
 cases l with
 | nil => rw [rightF, rightF]
 | cons x l =>
  have hx : x.f0 ≤ (d : Int) := h x rfl
  have hlt : (st.take (d + 1)).length = d + 1 := by rw [ybc]; omega
  rw [rightF, rightF, hlt]
  by_cases c : x.f0 < 0
  ·rw [if_pos (.inl c), if_pos (.inl c)]
  ·obtain ⟨n, hn⟩ : ∃ n : Nat, x.f0 = n := ⟨x.f0.toNat, by omega⟩
   have hnd : n ≤ d := by omega
   have e1 : ¬ (st.length : Int) ≤ x.f0 := by omega
   have e2 : ¬ ((d + 1 : Nat) : Int) ≤ x.f0 := by omega
   have e3 : (st.take (d + 1)).getD x.f0.toNat (0, []) = st.getD x.f0.toNat (0, []) := by
    rw [hn, Ybd, zbe, zbe, Ybi, if_pos (by omega)]
   have e4 : (st.take (d + 1)).take x.f0.toNat = st.take x.f0.toNat := by
    rw [zbt, hn, Ybd, zbq (by omega)]
   rw [e3, e4]
   simp only [c, e1, e2, false_or]
theorem yT (x : S40) : yX x x = true := by
 unfold yX
 simp
def memOK (k : Int) (keys : List ByteArray) (key : ByteArray) (keys2 : List ByteArray) : Prop := ∀ x : S40, x.f2 = key → YV k keys x = some (true, keys2)
theorem mem_arr (keys : List ByteArray) : memOK 6 keys e0 keys := by
 intro x hx
 unfold YV
 rw [if_neg (by decide), hx, Lib.toList_data]; rfl
theorem mem_obj (keys : List ByteArray) (key : ByteArray) (hk : Lib.validD key.data.toList = true) (hn : key ∉ keys) (hs : key.size ≤ 9223372036854775807) (hl : keys.length ≤ 1099511627776) : memOK 7 keys key (keys ++ [key]) := by
 intro x hx
 unfold YV
 rw [if_pos rfl, hx, xR key hs, hk, Zbf, if_pos rfl, if_neg (fun e => hn ((xay key keys).1 e)), if_pos (by omega)]
theorem yV (st : List LvS) (k : Int) (keys keys2 : List ByteArray) (x : S40) (d : Nat) (l : List S40) (hx0 : x.f0 = d) (hst : st.length = d) (hk1 : 1 ≤ x.f1) (hk5 : x.f1 ≤ 5) (hb : yX x (X0 x) = true) (hv : zo.f x.f3 = some true) (hm : YV k keys x = some (true, keys2)) :
  rightF (d == 0) (st ++ [(k, keys)]) (x :: l) = rightF false (st ++ [(k, keys2)]) l := by
 have hg : (st ++ [(k, keys)]).getD x.f0.toNat (0, []) = (k, keys) := by
  rw [hx0, Ybd, ← hst, zbe, Zbp (Xbc _), Nat.sub_self]; rfl
 have ht : (st ++ [(k, keys)]).take x.f0.toNat = st := by rw [hx0, Ybd, ← hst, List.take_left]
 have h0 : ((x.f0 == 0) != (d == 0)) = false := by rw [hx0]; cases d with
  | zero => rfl
  | succ d => rfl
 rw [rightF, hg, ht, if_neg (by rw [h0, Xbb, hst, Xbh]; rintro (a | a | a) <;> first | omega | cases a), if_neg (by rw [hb]; rintro (a | a | a) <;> first | omega | cases a), hv, Zbf, if_neg (by decide), hm, Zbf, if_neg (show ¬ true = false from Bool.noConfusion), if_neg (by unfold zal; simp; omega)]
theorem xaD (st : List LvS) (k : Int) (keys keys2 : List ByteArray) (ob : Bool) (key : ByteArray) (d : Nat) (l : List S40) (hst : st.length = d) (hd : d < 64) (hm : memOK k keys key keys2) :
  rightF (d == 0) (st ++ [(k, keys)]) (row d (ZC ob) key e0 0 :: l) = rightF false (st ++ [(k, keys2)] ++ [(ZC ob, [])]) l := by
 have hg : (st ++ [(k, keys)]).getD ((d : Int)).toNat (0, []) = (k, keys) := by
  rw [Ybd, ← hst, zbe, Zbp (Xbc _), Nat.sub_self]; rfl
 have ht : (st ++ [(k, keys)]).take ((d : Int)).toNat = st := by rw [Ybd, ← hst, List.take_left]
 have h0 : (((d : Int) == 0) != (d == 0)) = false := by cases d with
  | zero => rfl
  | succ d => rfl
 have hm2 := hm (row d (ZC ob) key e0 0) rfl
 unfold row at hm2 ⊢
 have hv : zo.f e0 = some true := by rw [xR e0 (by decide), X5]
 have hbare : yX ⟨(d : Int), ZC ob, key, e0, 0⟩ (X0 ⟨(d : Int), ZC ob, key, e0, 0⟩) = true := by cases ob <;> exact yT _
 have hho : zal ⟨(d : Int), ZC ob, key, e0, 0⟩ = true := by cases ob <;> rfl
 have hk : ¬ (ZC ob < 1) ∧ ¬ (7 < ZC ob) := by cases ob <;> decide
 rw [rightF]
 simp only
 rw [hg, ht, if_neg (by rw [h0, Xbb, hst, Xbh]; rintro (a | a | a) <;> first | omega | cases a), if_neg (by rw [hbare]; rintro (a | a | a) <;> first | exact hk.1 a | exact hk.2 a | cases a), hv, Zbf, if_neg (by decide), hm2, Zbf, if_neg (show ¬ true = false from Bool.noConfusion), if_pos hho, if_neg (by omega), xbj]
 rfl
def RP : Node → List S40 → B → Prop
 | .v d key, rows, t => d ≤ 64 → ∀ (st : List LvS) (k : Int) (keys keys2 : List ByteArray) (l : List S40), st.length = d → memOK k keys key keys2 → zP l d → rightF (d == 0) (st ++ [(k, keys)]) (rows ++ l) = rightF false (st ++ [(k, keys2)]) l
 | .m d ob keys _, rows, t => d ≤ 64 → 1 ≤ d → ∀ (st : List LvS) (l : List S40), st.length = d → keys.length + rows.length ≤ 1099511627776 → zP l d → ∃ keys', rightF false (st ++ [(ZC ob, keys)]) (rows ++ l) = rightF false (st ++ [(ZC ob, keys')]) l
theorem JV.deep {K : Node} {rows : List S40} {t : B} (h : JV K rows t) : match K with
  | .v d _ => ∃ x l, rows = x :: l ∧ x.f0 = d
  | .m d _ _ _ => zP rows d := by
 induction h with
 | null => exact ⟨_, _, rfl, rfl⟩
 | fls => exact ⟨_, _, rfl, rfl⟩
 | tru => exact ⟨_, _, rfl, rfl⟩
 | num => exact ⟨_, _, rfl, rfl⟩
 | str => exact ⟨_, _, rfl, rfl⟩
 | arr => exact ⟨_, _, rfl, rfl⟩
 | obj => exact ⟨_, _, rfl, rfl⟩
 | none => intro x hx; cases hx
 | elem d keys fst rows t rows' t' hv hm iv im =>
  obtain ⟨x, l, rfl, hx⟩ := iv
  intro y hy
  cases hy
  omega
 | memb d keys fst key hk hn rows t rows' t' hv hm iv im =>
  obtain ⟨x, l, rfl, hx⟩ := iv
  intro y hy
  cases hy
  omega
theorem Zav {a l : List S40} {d : Nat} (ha : zP a d) (hl : zP l d) : zP (a ++ l) d := by
 cases a with
 | nil => exact hl
 | cons x a => exact fun y hy => ha y hy
theorem ZaD {l : List S40} {d : Nat} (h : zP l d) : zP l (d + 1) := fun x hx => by have := h x hx; omega
theorem keyOf {d : Nat} {key : ByteArray} {rows : List S40} {t : B} (h : JV (.v d key) rows t) : ∃ x l, rows = x :: l ∧ x.f2 = key := by
 cases h with
 | null => exact ⟨_, _, rfl, rfl⟩
 | fls => exact ⟨_, _, rfl, rfl⟩
 | tru => exact ⟨_, _, rfl, rfl⟩
 | num => exact ⟨_, _, rfl, rfl⟩
 | str => exact ⟨_, _, rfl, rfl⟩
 | arr => exact ⟨_, _, rfl, rfl⟩
 | obj => exact ⟨_, _, rfl, rfl⟩
theorem JV.right {K : Node} {rows : List S40} {t : B} (h : JV K rows t) (hz : ∀ x ∈ rows, x.f2.size ≤ 1099511627776 ∧ x.f3.size ≤ 1099511627776) (hl : rows.length ≤ 1099511627776) : RP K rows t := by
 induction h with
 | null d key =>
  intro _ st k keys keys2 l hst hm _
  exact yV st k keys keys2 _ d l rfl hst (show (1 : Int) ≤ 1 by decide) (show (1 : Int) ≤ 5 by decide) (yT _) (by rw [show (row d 1 key e0 0).f3 = e0 from rfl, xR e0 (by decide), X5]) (hm _ rfl)
 | fls d key =>
  intro _ st k keys keys2 l hst hm _
  exact yV st k keys keys2 _ d l rfl hst (show (1 : Int) ≤ 2 by decide) (show (2 : Int) ≤ 5 by decide) (yT _) (by rw [show (row d 2 key e0 0).f3 = e0 from rfl, xR e0 (by decide), X5]) (hm _ rfl)
 | tru d key =>
  intro _ st k keys keys2 l hst hm _
  exact yV st k keys keys2 _ d l rfl hst (show (1 : Int) ≤ 3 by decide) (show (3 : Int) ≤ 5 by decide) (yT _) (by rw [show (row d 3 key e0 0).f3 = e0 from rfl, xR e0 (by decide), X5]) (hm _ rfl)
 | num d key v hv =>
  intro _ st k keys keys2 l hst hm _
  exact yV st k keys keys2 _ d l rfl hst (show (1 : Int) ≤ 4 by decide) (show (4 : Int) ≤ 5 by decide) (yT _) (by rw [show (row d 4 key e0 v).f3 = e0 from rfl, xR e0 (by decide), X5]) (hm _ rfl)
 | str d key s hs =>
  intro _ st k keys keys2 l hst hm _
  have := (hz _ ybm).2
  exact yV st k keys keys2 _ d l rfl hst (show (1 : Int) ≤ 5 by decide) (show (5 : Int) ≤ 5 by decide) (yT _) (by rw [show (row d 5 key s 0).f3 = s from rfl, xR s (by have h2 : s.size ≤ 1099511627776 := this; omega), hs]) (hm _ rfl)
 | arr d key rows t h hm im =>
  intro hd st k keys keys2 l hst hmk hsh
  have ihm := im (fun x hx => hz x (Zbs _ hx)) (by rw [Xbd] at hl; omega)
  rw [Zbl]
  refine (xaD st k keys keys2 false key d (rows ++ l) hst h hmk).trans ?_
  obtain ⟨keys', he⟩ := ihm (by omega) (by omega) (st ++ [(k, keys2)]) l (by rw [Xbb, hst]; rfl) (by rw [Xbd] at hl; simp only [Xbg]; omega) (ZaD hsh)
  refine he.trans ?_
  rw [yaD false _ l d hsh (by simp only [Xbb, hst, Xbh]; omega)]
  congr 1
  rw [ybq (by rw [Xbb, hst, Xbh]; omega), Zbj (by rw [Xbb, hst, Xbh]; omega)]
 | obj d key rows t h hm im =>
  intro hd st k keys keys2 l hst hmk hsh
  have ihm := im (fun x hx => hz x (Zbs _ hx)) (by rw [Xbd] at hl; omega)
  rw [Zbl]
  refine (xaD st k keys keys2 true key d (rows ++ l) hst h hmk).trans ?_
  obtain ⟨keys', he⟩ := ihm (by omega) (by omega) (st ++ [(k, keys2)]) l (by rw [Xbb, hst]; rfl) (by rw [Xbd] at hl; simp only [Xbg]; omega) (ZaD hsh)
  refine he.trans ?_
  rw [yaD false _ l d hsh (by simp only [Xbb, hst, Xbh]; omega)]
  congr 1
  rw [ybq (by rw [Xbb, hst, Xbh]; omega), Zbj (by rw [Xbb, hst, Xbh]; omega)]
 | none d ob keys fst =>
  intro _ _ st l _ _ _
  exact ⟨keys, rfl⟩
 | elem d keys fst rows t rows' t' hv hm iv im =>
  intro hd hd1 st l hst hkl hsh
  simp only [Xbb] at hl hkl
  have ihv := iv (fun x hx => hz x (Ybs _ hx)) (by omega) hd st 6 keys keys (rows' ++ l) hst (mem_arr keys) (Zav hm.deep hsh)
  obtain ⟨keys', he⟩ := im (fun x hx => hz x (xbs _ hx)) (by omega) hd hd1 st l hst (by omega) hsh
  refine ⟨keys', ?_⟩
  rw [xbj]
  rw [show (d == 0) = false by cases d with | zero => omega | succ d => rfl] at ihv
  exact ihv.trans he
 | memb d keys fst key hk hn rows t rows' t' hv hm iv im =>
  intro hd hd1 st l hst hkl hsh
  simp only [Xbb] at hl hkl
  obtain ⟨x, xl, hx, _⟩ := hv.deep
  have hr1 : 1 ≤ rows.length := by rw [hx]; simp
  have hks : key.size ≤ 9223372036854775807 := by
   have := keyOf hv
   obtain ⟨y, yl, hy, hy2⟩ := this
   have h3 := (hz y (Ybs _ (by rw [hy]; exact ybm))).1
   rw [hy2] at h3; omega
  have ihv := iv (fun x hx => hz x (Ybs _ hx)) (by omega) hd st 7 keys (keys ++ [key]) (rows' ++ l) hst (mem_obj keys key hk hn hks (by omega)) (Zav hm.deep hsh)
  obtain ⟨keys', he⟩ := im (fun x hx => hz x (xbs _ hx)) (by omega) hd hd1 st l hst (by rw [Xbb, Xbh]; omega) hsh
  refine ⟨keys', ?_⟩
  rw [xbj]
  rw [show (d == 0) = false by cases d with | zero => omega | succ d => rfl] at ihv
  exact ihv.trans he
theorem itoa_pos (n : Int) : 1 ≤ (Lib.itoa n).length := by
 obtain ⟨c, r, h, _⟩ := Ya5 n
 rw [h]; simp
theorem Zal (s : ByteArray) : s.size + 2 ≤ (YG s.data.toList).length := by
 rw [zaf]
 have := xaV s.data.toList
 rw [data_length] at this
 omega
theorem JV.small {K : Node} {rows : List S40} {t : B} (h : JV K rows t) : rows.length ≤ t.length ∧ ∀ x ∈ rows, x.f3.size ≤ t.length ∧ x.f2.size ≤ t.length + (match K with | .v _ key => key.size | .m _ _ _ _ => 0) := by
 induction h with
 | null d key => exact ⟨(show (1 : Nat) ≤ 4 by decide), fun x hx => by obtain rfl := Zbm.1 hx; exact ⟨Ybm _, by show key.size ≤ _ + key.size; omega⟩⟩
 | fls d key => exact ⟨(show (1 : Nat) ≤ 5 by decide), fun x hx => by obtain rfl := Zbm.1 hx; exact ⟨Ybm _, by show key.size ≤ _ + key.size; omega⟩⟩
 | tru d key => exact ⟨(show (1 : Nat) ≤ 4 by decide), fun x hx => by obtain rfl := Zbm.1 hx; exact ⟨Ybm _, by show key.size ≤ _ + key.size; omega⟩⟩
 | num d key n h => exact ⟨itoa_pos n, fun x hx => by obtain rfl := Zbm.1 hx; exact ⟨Ybm _, by show key.size ≤ _ + key.size; omega⟩⟩
 | str d key s h => exact ⟨by have := Zal s; rw [Xbh]; omega, fun x hx => by obtain rfl := Zbm.1 hx; exact ⟨by have := Zal s; show s.size ≤ _; omega, by show key.size ≤ _ + key.size; omega⟩⟩
 | arr d key rows t h hm im =>
  refine ⟨by have := im.1; simp only [Xbd, Xbb, Xbg]; omega, fun x hx => ?_⟩
  rcases zbr.1 hx with rfl | hx
  ·exact ⟨Ybm _, by show key.size ≤ _ + key.size; omega⟩
  ·have := im.2 x hx
   simp only [Xbd, Xbb, Xbg] at this ⊢; omega
 | obj d key rows t h hm im =>
  refine ⟨by have := im.1; simp only [Xbd, Xbb, Xbg]; omega, fun x hx => ?_⟩
  rcases zbr.1 hx with rfl | hx
  ·exact ⟨Ybm _, by show key.size ≤ _ + key.size; omega⟩
  ·have := im.2 x hx
   simp only [Xbd, Xbb, Xbg] at this ⊢; omega
 | none => exact ⟨Xbc _, fun x hx => by cases hx⟩
 | elem d keys fst rows t rows' t' hv hm iv im =>
  refine ⟨by have := iv.1; have := im.1; simp only [Xbb]; omega, fun x hx => ?_⟩
  rcases Xbp.1 hx with hx | hx
  ·have := iv.2 x hx
   have he : e0.size = 0 := rfl
   simp only [Xbb, he] at this ⊢; omega
  ·have := im.2 x hx
   simp only [Xbb] at this ⊢; omega
 | memb d keys fst key hk hn rows t rows' t' hv hm iv im =>
  refine ⟨by have := iv.1; have := im.1; simp only [Xbb, Xbd]; omega, fun x hx => ?_⟩
  have hq := Zal key
  rcases Xbp.1 hx with hx | hx
  ·have := iv.2 x hx
   simp only [Xbb, Xbd] at this ⊢; omega
  ·have := im.2 x hx
   simp only [Xbb, Xbd] at this ⊢; omega
theorem JV.right_f {rows : List S40} {t : B} (h : JV (.v 0 e0) rows t) (hl : t.length ≤ 1099511627776) : Zo.f rows = some true := by
 obtain ⟨h1, h2⟩ := h.small
 have hr := h.right (fun x hx => by have := h2 x hx; have he : e0.size = 0 := rfl; simp only [he] at this; omega) (by omega) (by omega) [] 6 [] [] [] rfl (mem_arr []) (fun x hx => by cases hx)
 rw [ybk, Xbi] at hr
 obtain ⟨x, xl, hx, _⟩ := h.deep
 unfold Zo.f
 rw [if_pos (by omega), show rightF true [(6, [])] rows = some true from hr.trans (by rw [rightF])]
 show some (true && decide (0 < rows.length)) = _
 rw [Bool.true_and, decide_eq_true (by rw [hx]; simp)]
theorem key_sim (s : ByteArray) (p : Nat) (l : B) (keys : List ByteArray) (h : s.data.toList.drop p = l) (hp : p ≤ s.size) (hs : s.size ≤ 1099511627776) (k : Nat) (hk : s.size + 20 < k) :
  ∃ t p', keyF k s p keys = some (t, (pk l keys).2.2, p') ∧ p' ≤ s.size ∧ ((pk l keys).2.2 = 0 → t = (pk l keys).1 ∧ s.data.toList.drop p' = (pk l keys).2.1) := by
 obtain ⟨h1, h2, h3, h4⟩ := Yaq s p l h hp
 unfold keyF pk
 rw [h2]
 by_cases c1 : hd l = 34
 ·rw [if_pos c1, if_pos c1]
  obtain ⟨r, hq, e1, e2, e3, e4⟩ := rq_sim s (Zb s p) (sk l) h1 h3 (by omega) c1 k hk
  rw [hq, Zbf, if_pos ⟨e2, e3⟩, e1]
  by_cases c2 : (rq (sk l)).2.2 = 0
  ·obtain ⟨f1, f2⟩ := e4 (e1.trans c2)
   obtain ⟨t1, t2, t3⟩ := X8 s (Zb s p + r.2.1.toNat) (rq (sk l)).2.1 58 f2 (by omega)
   rw [if_pos c2, if_pos c2, f1]
   by_cases c3 : hasB ⟨(rq (sk l)).1.toArray⟩ keys = true
   ·rw [if_pos c3, if_pos c3]
    exact ⟨_, _, rfl, by omega, fun e => absurd e (by decide)⟩
   ·rw [if_neg c3, if_neg c3, t1]
    by_cases c4 : (tk1 (rq (sk l)).2.1 58).1 = true
    ·rw [if_pos c4, if_pos c4]
     exact ⟨_, _, rfl, t3, fun _ => ⟨rfl, t2⟩⟩
    ·rw [if_neg c4, if_neg c4]
     exact ⟨_, _, rfl, t3, fun e => absurd e (by decide)⟩
  ·rw [if_neg c2, if_neg c2]
   exact ⟨_, _, rfl, by omega, fun e => absurd e c2⟩
 ·rw [if_neg c1, if_neg c1]
  exact ⟨_, _, rfl, h3, fun e => absurd e (by decide)⟩
def Sim (s : ByteArray) (out : List S40) (f : Option Res) (r : Int × B × List S40) : Prop :=
 ∃ p' o', f = some (r.1, p', o') ∧ p' ≤ s.size ∧ (r.1 = 0 → s.data.toList.drop p' = r.2.1 ∧ o' = out ++ r.2.2)
def SV (n C : Nat) (s : ByteArray) : Prop := ∀ l d key p out, s.data.toList.drop p = l → p ≤ s.size → d ≤ 64 → out.length + l.length ≤ 1099511627776 → (pv n l d key).1 ≠ -1 → Sim s out (valueF (n + C) s p out ⟨(d : Int), 0, key, ⟨#[]⟩, 0⟩) (pv n l d key)
def SM (n C : Nat) (s : ByteArray) : Prop := ∀ l d ob key p out, s.data.toList.drop p = l → p ≤ s.size → d < 64 → out.length + l.length ≤ 1099511627776 → (pms n l d ob).1 ≠ -1 → Sim s out (xN (n + C) s p out ⟨(d : Int), ZC ob, key, ⟨#[]⟩, 0⟩ (en ob)) (pms n l d ob)
def SL (n C : Nat) (s : ByteArray) : Prop := ∀ l d ob key keys p out, s.data.toList.drop p = l → p ≤ s.size → d < 64 → out.length + l.length ≤ 1099511627776 → keys.length + l.length ≤ 1099511627776 → (pml n l d ob keys).1 ≠ -1 → Sim s out (yH (n + C) s p out ⟨(d : Int), ZC ob, key, ⟨#[]⟩, 0⟩ (en ob) keys) (pml n l d ob keys)
theorem zaN (n C : Nat) (s : ByteArray) (hV : SV n C s) (hL : SL n C s) (l : B) (d : Nat) (ob : Bool) (key0 key : ByteArray) (keys : List ByteArray) (p : Nat) (out : List S40) (h : s.data.toList.drop p = l) (hp : p ≤ s.size) (hd' : d < 64) (ho : out.length + l.length ≤ 1099511627776) (hk : keys.length + l.length ≤ 1099511627777)
  (hr : (pma (fun x => pml n x d ob keys) (pv n l (d + 1) key) ob).1 ≠ -1) :
  Sim s out (ZV (fun p o y => valueF (n + C) s p o y) (fun p o ks => yH (n + C) s p o ⟨(d : Int), ZC ob, key0, ⟨#[]⟩, 0⟩ (en ob) ks) s ⟨(d : Int), ZC ob, key0, ⟨#[]⟩, 0⟩ (en ob) p out keys key) (pma (fun x => pml n x d ob keys) (pv n l (d + 1) key) ob) := by
 have hv1 : (pv n l (d + 1) key).1 ≠ -1 := by
  intro e
  apply hr
  unfold pma
  rw [if_neg (by omega)]
  exact e
 obtain ⟨p1, o1, e1, e2, e3⟩ := hV l (d + 1) key p out h hp (by omega) ho hv1
 unfold ZV
 simp only
 rw [show ((d : Int) + 1) = ((d + 1 : Nat) : Int) by omega, e1, Zbf]
 simp only
 rw [if_pos e2]
 unfold pma at hr ⊢
 by_cases c1 : (pv n l (d + 1) key).1 = 0
 ·rw [if_pos c1] at hr
  rw [if_pos c1, if_pos c1]
  obtain ⟨f1, rfl⟩ := e3 c1
  have hlen := (ZQ n).1 l (d + 1) key c1
  obtain ⟨t1, t2, t3⟩ := X8 s p1 (pv n l (d + 1) key).2.1 (en ob) f1 e2
  obtain ⟨u1, u2, u3⟩ := X8 s (Xi s p1 (en ob)).2 (tk1 (pv n l (d + 1) key).2.1 (en ob)).2 44 t2 t3
  have g1 := Yv (pv n l (d + 1) key).2.1 (en ob)
  have g2 := Yv (tk1 (pv n l (d + 1) key).2.1 (en ob)).2 44
  unfold cont at hr ⊢
  rw [t1]
  by_cases c2 : (tk1 (pv n l (d + 1) key).2.1 (en ob)).1 = true
  ·rw [if_pos c2, if_pos c2]
   exact ⟨_, _, rfl, t3, fun _ => ⟨t2, by simp⟩⟩
  ·rw [if_neg c2] at hr
   rw [if_neg c2, if_neg c2, u1]
   by_cases c3 : (tk1 (tk1 (pv n l (d + 1) key).2.1 (en ob)).2 44).1 = true
   ·rw [if_pos c3] at hr
    rw [if_pos c3, if_pos c3]
    have g3 := g2.2 c3
    obtain ⟨p2, o2, i1, i2, i3⟩ := hL (tk1 (tk1 (pv n l (d + 1) key).2.1 (en ob)).2 44).2 d ob key0 keys (Xi s (Xi s p1 (en ob)).2 44).2 (out ++ (pv n l (d + 1) key).2.2) u2 u3 hd' (by rw [Xbb]; omega) (by omega) hr
    refine ⟨p2, o2, i1, i2, fun e => ?_⟩
    obtain ⟨j1, j2⟩ := i3 e
    exact ⟨j1, by rw [j2, xbj]⟩
   ·rw [if_neg c3, if_neg c3]
    exact ⟨_, _, rfl, u3, fun e => absurd e (by simp)⟩
 ·rw [if_neg c1, if_neg c1]
  exact ⟨_, _, rfl, e2, fun e => absurd e c1⟩
theorem sim_all (s : ByteArray) (hs : s.size ≤ 1099511627776) (C : Nat) (hC : s.size + 20 < C) : ∀ n : Nat, SV n C s ∧ SM n C s ∧ SL n C s
 | 0 => ⟨fun l d key p out _ _ _ _ h => absurd (by rw [pv]) h, fun l d ob key p out _ _ _ _ h => absurd (by rw [pms]) h, fun l d ob key keys p out _ _ _ _ _ h => absurd (by rw [pml]) h⟩
 | n + 1 => by
  obtain ⟨iv, im, il⟩ := sim_all s hs C hC n
  refine ⟨fun l d key p out h hp hd' ho hr => ?_, fun l d ob key p out h hp hd' ho hr => ?_, fun l d ob key keys p out h hp hd' ho hk hr => ?_⟩
  ·obtain ⟨h1, h2, h3, h4⟩ := Yaq s p l h hp
   have hlen : l.length + p = s.size := by rw [← h, Zbb, data_length]; omega
   have hsl := YU l
   rw [show n + 1 + C = (n + C) + 1 by omega, valueF, h2]
   rw [pv] at hr ⊢
   simp only
   by_cases c1 : hd l = 91
   ·rw [if_pos c1] at hr ⊢
    rw [if_pos c1]
    by_cases c2 : 64 ≤ d
    ·rw [if_pos c2, if_pos (by omega)]
     exact ⟨_, _, rfl, h3, fun e => absurd e (by decide)⟩
    ·rw [if_neg c2] at hr ⊢
     have hne := XC (l := l) (by omega)
     have hlt := h4.2 hne
     have hl0 : (sk l).length ≠ 0 := fun e => hne (xbg e)
     rw [if_neg (by omega), if_pos ⟨by omega, hlt⟩]
     obtain ⟨p1, o1, e1, e2, e3⟩ := im ((sk l).drop 1) d false key (Zb s p + 1) (out ++ [⟨(d : Int), 6, key, ⟨#[]⟩, 0⟩]) (by rw [← h1, Ybk]) (by omega) (by omega) (by rw [Xbb, Zbb, Xbh]; omega) hr
     refine ⟨p1, o1, e1, e2, fun e => ?_⟩
     obtain ⟨f1, f2⟩ := e3 e
     exact ⟨f1, by rw [f2, xbj]; rfl⟩
   ·rw [if_neg c1] at hr ⊢
    rw [if_neg c1]
    by_cases c3 : hd l = 123
    ·rw [if_pos c3] at hr ⊢
     rw [if_pos c3]
     by_cases c2 : 64 ≤ d
     ·rw [if_pos c2, if_pos (by omega)]
      exact ⟨_, _, rfl, h3, fun e => absurd e (by decide)⟩
     ·rw [if_neg c2] at hr ⊢
      have hne := XC (l := l) (by omega)
      have hlt := h4.2 hne
      have hl0 : (sk l).length ≠ 0 := fun e => hne (xbg e)
      rw [if_neg (by omega), if_pos ⟨by omega, hlt⟩]
      obtain ⟨p1, o1, e1, e2, e3⟩ := im ((sk l).drop 1) d true key (Zb s p + 1) (out ++ [⟨(d : Int), 7, key, ⟨#[]⟩, 0⟩]) (by rw [← h1, Ybk]) (by omega) (by omega) (by rw [Xbb, Zbb, Xbh]; omega) hr
      refine ⟨p1, o1, e1, e2, fun e => ?_⟩
      obtain ⟨f1, f2⟩ := e3 e
      exact ⟨f1, by rw [f2, xbj]; rfl⟩
    ·rw [if_neg c3] at hr ⊢
     rw [if_neg c3]
     by_cases c4 : hd l = 34
     ·rw [if_pos c4] at hr ⊢
      rw [if_pos c4]
      obtain ⟨r, hq, e1, e2, e3, e4⟩ := rq_sim s (Zb s p) (sk l) h1 h3 (by omega) c4 (n + C) (by omega)
      rw [hq, Zbf, if_pos ⟨e2, e3, by omega⟩, e1]
      by_cases c5 : (rq (sk l)).2.2 = 0
      ·obtain ⟨f1, f2⟩ := e4 (e1.trans c5)
       rw [if_pos c5, if_pos c5]
       exact ⟨_, _, rfl, by omega, fun _ => ⟨f2, by rw [f1]; rfl⟩⟩
      ·rw [if_neg c5, if_neg c5]
       exact ⟨_, _, rfl, by omega, fun e => absurd e c5⟩
     ·rw [if_neg c4] at hr ⊢
      rw [if_neg c4, if_pos (by omega)]
      by_cases c6 : hd l = 45 ∨ (48 ≤ hd l ∧ hd l ≤ 57)
      ·rw [if_pos c6] at hr ⊢
       rw [if_pos c6, num_sim s (Zb s p) (sk l) h1 h3]
       by_cases c7 : (rn ((sk l).take (numsL (sk l)))).2 = true
       ·rw [if_pos c7, if_pos c7]
        have hn := Xaq (sk l)
        have hz : (sk l).length + Zb s p = s.size := by rw [← h1, Zbb, data_length]; omega
        exact ⟨_, _, rfl, by simp only; omega, fun _ => ⟨by rw [← h1, Ybk], rfl⟩⟩
       ·rw [if_neg c7, if_neg c7]
        exact ⟨_, _, rfl, h3, fun e => absurd e (by decide)⟩
      ·rw [if_neg c6] at hr ⊢
       rw [if_neg c6]
       obtain ⟨p1, o1, e1, e2, e3⟩ := word_sim s (Zb s p) (sk l) h1 h3 out d key
       exact ⟨p1, o1, congrArg some e1, e2, e3⟩
  ·rw [show n + 1 + C = (n + C) + 1 by omega, xN]
   rw [pms] at hr ⊢
   obtain ⟨t1, t2, t3⟩ := X8 s p l (en ob) h hp
   have g1 := Yv l (en ob)
   rw [t1]
   by_cases c1 : (tk1 l (en ob)).1 = true
   ·rw [if_pos c1, if_pos c1]
    exact ⟨_, _, rfl, t3, fun _ => ⟨t2, by simp⟩⟩
   ·rw [if_neg c1] at hr ⊢
    rw [if_neg c1]
    exact il (tk1 l (en ob)).2 d ob key [] _ out t2 t3 hd' (by omega) (by simp; omega) hr
  ·rw [show n + 1 + C = (n + C) + 1 by omega, yH]
   rw [pml] at hr ⊢
   simp only
   rw [if_pos ⟨by omega, by omega⟩]
   cases ob with
   | true =>
    rw [if_pos rfl] at hr ⊢
    rw [if_pos (show ZC true = 7 from rfl), if_pos (by omega)]
    obtain ⟨t, p1, e1, e2, e3⟩ := key_sim s p l keys h hp hs (n + C) (by omega)
    rw [e1, Zbf]
    simp only
    rw [if_pos e2]
    by_cases c1 : (pk l keys).2.2 = 0
    ·rw [if_pos c1] at hr ⊢
     rw [if_pos c1]
     obtain ⟨rfl, f2⟩ := e3 c1
     have hl := Z5 l keys c1
     exact zaN n C s iv il (pk l keys).2.1 d true key (pk l keys).1 (keys ++ [(pk l keys).1]) p1 out f2 e2 hd' (by omega) (by rw [Xbb, Xbh]; omega) hr
    ·rw [if_neg c1, if_neg c1]
     exact ⟨_, _, rfl, e2, fun e => absurd e c1⟩
   | false =>
    rw [if_neg (show ¬ false = true by decide)] at hr ⊢
    rw [if_neg (show ¬ ZC false = 7 by decide)]
    exact zaN n C s iv il l d false key e0 keys p out h hp hd' ho (by omega) hr
end Go.Proofs.NGiv
