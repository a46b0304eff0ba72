/- What the proof of chapter 8's laws, part 5, stands on: cut and merged by a program out of this session's texts. -/
import Derived.Test.YthhmmaihbjhhgaaDoorKB4
import Derived.Lib.FrozenHead2
import Derived.Lib.OthersKept
import Derived.Lib.AppendZeros
import Derived.Test.YthhmmaihbjhhgaaDoorProg
import Derived.Below
import Derived.Deep.Draws
import Derived.Deep.AppendLies
import Derived.Maps.AppendAt
import Derived.OwnWalk
import Derived.Laws.BytesArg
import Derived.Laws.MakeOwn
import Derived.Laws.OwnMore
import Derived.Deep.OwnRows
import Derived.Tactics
import Derived.Lib.ConvBytes
import Derived.Laws.Slices
import Derived.WalkKit
import Derived.KernelRfl
import Derived.RowKit3
import Derived.Deep.LoopGhost
import Derived.Deep.QuietTactic
import Derived.BigQuiet
import Derived.WideLaws
import Derived.Deep.DeepCutAuto
import Derived.Deep.CutBlock
import Derived.Deep.RegionHeld3
import Derived.Laws.Rows
import Derived.Lib.AppendStr
import Derived.ArgAppend
import Derived.Laws.IdiomCopy
import Derived.OrdersHeld
import Derived.Laws.BitsLemmas
import Derived.RowKit
set_option linter.unusedVariables false
set_option linter.unusedSimpArgs false
namespace Go.Proofs.YthhmmaihbjhhgaaDoor.Giv
open Go.RowKit Go.Proofs.YthhmmaihbjhhgaaDoorW.PrintWords Go.Proofs.YthhmmaihbjhhgaaDoorW.PrintLast Go.Proofs.YthhmmaihbjhhgaaDoorW.PrintMore
open Go.Proofs.YthhmmaihbjhhgaaDoor.U1 Go.Proofs.YthhmmaihbjhhgaaDoor.Q1 Go.Proofs.YthhmmaihbjhhgaaDoor.J0 Go.Proofs.YthhmmaihbjhhgaaDoor.J1
set_option linter.unusedSimpArgs false
/-- are two items the same? as the code asks it -/
def sameI (x y : S59) : Bool := x.f0 == y.f0 && (x.f1 == y.f1 && (x.f2.toList == y.f2.toList && (x.f3.toList == y.f3.toList && x.f4 == y.f4)))
theorem eqA59 (d : Nat) (w : World) (x y : S59) : (Op.equalIn (d + 2) 59 (itemV x) (itemV y)).run Tryd.prog w = .ok (sameI x y) w := by
  unfold itemV sameI
  refine eqA_of Tryd.underlying59 (by kernel_rfl) ?_
  refine eqf_cons (by rfl) (by go_simp; rfl) (by go_simp; rfl) (by go_simp) ?_
  refine eqf_cons (by rfl) (by go_simp; rfl) (by go_simp; rfl) (by go_simp) ?_
  refine eqf_cons (by rfl) (by go_simp; rfl) (by go_simp; rfl) (by go_simp) ?_
  refine eqf_cons (by rfl) (by go_simp; rfl) (by go_simp; rfl) (by go_simp) ?_
  exact eqf_last (by rfl) (by go_simp; rfl) (by go_simp; rfl) (by go_simp)
theorem neq59 (w : World) (x y : S59) : (binOp .neq 59 (itemV x) (itemV y)).run Tryd.prog w = .ok (.bool (!(sameI x y))) w := by
  have h := eqA59 9998 w x y
  unfold itemV at h ⊢
  rw [run_neq_struct, h]; rfl
abbrev LvS := Int × List ByteArray
def holdsI (x : S59) : Bool := x.f1 == 6 || x.f1 == 7
/-- Right, as it goes: is this the first item? what is open; what is left -/
def rightF : Bool → List LvS → List S59 → Option Bool
  | _, _, [] => some true
  | fst, open_, x :: l =>
    if x.f0 < 0 ∨ (open_.length : Int) ≤ x.f0 ∨ (x.f0 == 0) != fst then some false
    else if x.f1 < 1 ∨ 7 < x.f1 ∨ sameI x (bareI x) = false then some false
    else (utf_Valid.f x.f3).bind fun v3 => if v3 = false then some false
    else (memberF (open_.getD x.f0.toNat (0, [])).1 (open_.getD x.f0.toNat (0, [])).2 x).bind fun r => if r.1 = false then some false
    else if holdsI x = true then (if 64 ≤ x.f0 then some false else rightF false (open_.take x.f0.toNat ++ [((open_.getD x.f0.toNat (0, [])).1, r.2), (x.f1, [])]) l)
    else rightF false (open_.take x.f0.toNat ++ [((open_.getD x.f0.toNat (0, [])).1, r.2)]) l
theorem itm_below {W W' : World} {b : Nat} {x : S59} (h : Itm W b x) (hb : Below W.heap.size W W') : Itm W' b x := (hb.block b (blk_lt h)).trans h
theorem R_oneRow {α : Type} {enc : α → Value} {h1 : ∀ x, (enc x).oneCell' = true} (W : World) (e base : Nat) (ok : Nat → Prop) (x : α) (hb : base ≤ W.heap.size) (hok : ok W.heap.size) : (Kd.scalar enc h1).R e (W.alloc (.cells #[enc x] e)) base ok (.slice (some ⟨W.heap.size, 0, none⟩) 1 1) [x] := by
  refine ⟨fun k hk => ?_, [enc x], ?_, ⟨rfl, fun j p hj => ?_⟩⟩
  · have : W.heap.size = k := by simpa [Value.ownBlock] using hk
    subst this; exact hok
  · have h2 := World.ownsRow_lit (base := base) (e := e) (size := 1) W #[enc x] 1 hb (by simp [maxLen]) (by simp)
    show World.ownsRow _ base e 1 _ 1 _
    simpa using h2
  · cases j with
    | zero => simp at hj; subst hj; rfl
    | succ j => simp at hj
theorem Sk.one (w : World) : Sk w ((w.alloc (.cells #[.int .i64 6, .slice none 0 0] 85)).alloc (.cells #[.pointer (some ⟨w.heap.size, 0, none⟩)] 82)) (.slice (some ⟨w.heap.size + 1, 0, none⟩) 1 1) [⟨w.heap.size, 6, .slice none 0 0, []⟩] := by
  refine ⟨?_, ?_, List.pairwise_singleton _ _, (below_alloc (Below.refl _ _) _).alloc (by simp) _⟩
  · have h : Kd.R kptr 82 _ w.heap.size (fun _ => True) _ [w.heap.size] := R_oneRow (w.alloc (.cells #[.int .i64 6, .slice none 0 0] 85)) 82 w.heap.size (fun _ => True) w.heap.size (by simp) trivial
    have e : (w.alloc (.cells #[.int .i64 6, .slice none 0 0] 85)).heap.size = w.heap.size + 1 := by simp
    rw [e] at h
    exact h
  · intro l hl
    obtain rfl := List.mem_singleton.1 hl
    exact ⟨Nat.le_refl _, blk_alloc (heap_alloc_new _ _) _, Kd.R_nil _ _ _ _ _⟩
theorem guard_not {f n : Int} {b : Bool} (h : ¬ (f < 0 ∨ n ≤ f ∨ ((f == 0) != b) = true)) : ¬ f < 0 ∧ f < n ∧ (f == 0) = b := by
  refine ⟨fun x => h (.inl x), by omega, ?_⟩
  cases ha : (f == 0) <;> rw [ha] at h <;> cases b <;> first | rfl | exact absurd (.inr (.inr rfl)) h
theorem guard_yes {f n : Int} {b : Bool} (h : f < 0 ∨ n ≤ f ∨ ((f == 0) != b) = true) : f < 0 ∨ (¬ f < 0 ∧ n ≤ f) ∨ (¬ f < 0 ∧ ¬ n ≤ f ∧ (((f == 0) = true ∧ b = false) ∨ ((f == 0) = false ∧ b = true))) := by
  by_cases a : f < 0
  · exact .inl a
  · by_cases c : n ≤ f
    · exact .inr (.inl ⟨a, c⟩)
    · refine .inr (.inr ⟨a, c, ?_⟩)
      rcases h with h | h | h
      · exact absurd h a
      · exact absurd h c
      · cases ha : (f == 0) <;> rw [ha] at h <;> cases b <;> first | exact absurd h (by decide) | exact .inl ⟨rfl, rfl⟩ | exact .inr ⟨rfl, rfl⟩
theorem drop_T59 (l : List S59) (j : Nat) (h : j < l.length) : l.drop j = rd_T59 l (j : Int) :: l.drop (j + 1) := by
  rw [List.drop_eq_getElem_cons h]
  congr 1
  simp [rd_T59, List.getD, h]
theorem alloc_size (w : World) (o : Obj) : (w.alloc o).heap.size = w.heap.size + 1 := by simp
theorem info82 : (Tryd.prog.info? 82).map (fun i => (i.zero, i.size, i.bytes)) = some (some (.pointer none), 1, 8) := by kernel_rfl
theorem Sk.push {w0 W W' : World} {ov ov' : Value} {lv : List Level} (h : Sk w0 W ov lv) (k : Int) (hR : Kd.R kptr 82 W' w0.heap.size (fun _ => True) ov' (lv.map (·.g) ++ [W.heap.size])) (hB : Below w0.heap.size w0 W') (hG : (W.alloc (.cells #[.int .i64 k, .slice none 0 0] 85)).grownBy W' ov.ownBlock) : Sk w0 W' ov' (lv ++ [⟨W.heap.size, k, .slice none 0 0, []⟩]) :=
  (h.quiet (below_alloc (Below.refl _ _) _)).more (heap_alloc_new _ _) h.below.size (fun l hl e => by have := blk_lt (h.each l hl).2.1; omega) hR hB hG
theorem itm_push {w0 W W' : World} {ov : Value} {lv : List Level} {b : Nat} {x : S59} {o : Obj} (h : Sk w0 W ov lv) (hI : Itm W b x) (hG : (W.alloc o).grownBy W' ov.ownBlock) : Itm W' b x := by
  refine blk_grown (itm_below hI (below_alloc (Below.refl _ _) o)) hG (fun e => ?_)
  obtain ⟨c2, hc2⟩ := Kd.R_typed h.row b e.symm
  exact typed_ne hI hc2 (by decide) rfl
theorem itm_cells {w' : World} {b : Nat} {x : S59} (h : Itm w' b x) : w'.cell? ⟨b, 0, none⟩ = some (.int .i64 x.f0) ∧ w'.cell? ⟨b, 1, none⟩ = some (.int .i64 x.f1) ∧ w'.cell? ⟨b, 2, none⟩ = some (.string x.f2) ∧ w'.cell? ⟨b, 3, none⟩ = some (.string x.f3) ∧ w'.cell? ⟨b, 4, none⟩ = some (.int .i64 x.f4) :=
  ⟨(blk_cell h 0).trans rfl, (blk_cell h 1).trans rfl, (blk_cell h 2).trans rfl, (blk_cell h 3).trans rfl, (blk_cell h 4).trans rfl⟩
theorem itm_left {w0 W W' : World} {b g : Nat} {kind : Int} {kv : Value} {keys keys' : List ByteArray} {x : S59} (h : Itm W b x) (hL : Lv W g kind kv ∧ Keys w0 W g kv keys) (hk : LvLeft w0 W W' g kind kv keys') : Itm W' b x := by
  refine (hk.keep.2 b (blk_lt h) (typed_ne h hL.1 (by decide)) (fun e => ?_)).trans h
  obtain ⟨c2, hc2⟩ := Kd.R_typed hL.2 b e.symm
  exact typed_ne h hc2 (by decide) rfl
theorem neq_step (w : World) (x y : S59) (p q : Operand) (r s : Bool) (h : sameI x y = r) (hs : (!r) = s) : (((eqGuard .neq 59 p q (itemV x) (itemV y)).run Tryd.prog w).andThen fun _ w' => ((binOp .neq 59 (itemV x) (itemV y)).run Tryd.prog w').andThen fun a w' => Result.ok (Next.value a) w') = Result.ok (Next.value (.bool s)) w := by
  have hg : (eqGuard .neq 59 p q (itemV x) (itemV y)).run Tryd.prog w = .ok () w := by
    unfold itemV
    exact run_eqGuard_agg w .neq 59 p q _ _ (by kernel_rfl)
  rw [hg, Result.andThen_ok, neq59, Result.andThen_ok, h, hs]
theorem Sk.drew {w0 W : World} {ov : Value} {lv : List Level} (h : Sk w0 W ov lv) : Sk w0 W.drew ov lv := h.quiet (below_drew1 (Below.refl _ _))
theorem s8 {w w' : World} {b G d cc : Nat} {x : S59} {pre : List Level} {t : Level} (h : Itm w' b x ∧ Sk w w' (.slice (some ⟨G, 0, none⟩) (d + 1) cc) (pre.take d ++ [t])) : w'.cell? ⟨b, 0, none⟩ = some (.int .i64 x.f0) ∧ w'.cell? ⟨b, 1, none⟩ = some (.int .i64 x.f1) ∧ w'.cell? ⟨b, 2, none⟩ = some (.string x.f2) ∧ w'.cell? ⟨b, 3, none⟩ = some (.string x.f3) ∧ w'.cell? ⟨b, 4, none⟩ = some (.int .i64 x.f4) ∧ w'.cell? ⟨G, d, none⟩ = some (.pointer (some ⟨t.g, 0, none⟩)) := by
  have hn : d + 1 = (pre.take d ++ [t]).length := by have := (Kd.R_reads' h.2.row).1; simpa using this
  refine ⟨(blk_cell h.1 0).trans rfl, (blk_cell h.1 1).trans rfl, (blk_cell h.1 2).trans rfl, (blk_cell h.1 3).trans rfl, (blk_cell h.1 4).trans rfl, h.2.cell d t ?_⟩
  have h2 : (pre.take d).length = d := by simp only [List.length_append, List.length_singleton] at hn; omega
  rw [List.getElem?_append_right (by omega), h2, Nat.sub_self]; rfl
set_option maxHeartbeats 8000000 in
set_option maxRecDepth 100000 in
theorem right_walk (w : World) (A : Option Addr) (c : Nat) (l : List S59) (r : Bool) (hC : Kd.C k59 w A l.length l) (hc : l.length ≤ c) (hl : l.length * 56 ≤ 140737488355328) (ht : Tabs w) (h : rightF true [(6, [])] l = some r) :
    Calls Tryd.prog 42 #[.slice A l.length c] w fun e w' => e = .returned (.bool (r && decide (0 < l.length))) ∧ Below w.heap.size w w' := by
  have HC := Aside0.mk hC
  have HT := Aside0.mk ht
  have HF := Aside0.mk h
  have HL := Aside0.mk hl
  have HCC := Aside0.mk hc
  clear hC ht h hl hc
  go_enter Tryd.func42, Tryd.ntmps42
  go_wp2_with fail
  obtain ⟨w2, hw2⟩ : ∃ w2, (w.alloc (.cells #[.int .i64 6, .slice none 0 0] 85)).alloc (.cells #[.pointer (some ⟨w.heap.size, 0, none⟩)] 82) = w2 := ⟨_, rfl⟩
  have HS0 : Aside0 (Sk w w2 (.slice (some ⟨w.heap.size + 1, 0, none⟩) 1 1) [⟨w.heap.size, 6, .slice none 0 0, []⟩]) := ⟨hw2 ▸ Sk.one w⟩
  rw [hw2]
  clear hw2
  obtain ⟨v3, hv3⟩ : ∃ v3, Value.slice (some ⟨w.heap.size + 1, 0, none⟩) 1 1 = v3 := ⟨_, rfl⟩
  rw [hv3] at HS0
  rw [hv3]
  clear hv3
  go_loopg [3, 11] l.length (fun kq v3 v11 wr => ∃ (j : Nat) (lv : List Level), kq = l.length - j ∧ j ≤ l.length ∧ v11 = .int .i64 (j : Int) ∧ Aside0 (Sk w wr v3 lv) ∧ Aside0 (rightF (j == 0) (lv.map fun y => (y.kind, y.keys)) (l.drop j) = some r) ∧ Aside0 (1 ≤ lv.length ∧ lv.length ≤ 65))
  case atStart => exact ⟨0, _, rfl, Nat.zero_le _, rfl, HS0, HF, ⟨Nat.le_refl 1, (by decide : (1 : Nat) ≤ 65)⟩⟩
  case round =>
    clear HF HS0
    obtain ⟨j, lv, hkq, hjl, rfl, HS, HF, HLn⟩ := hrel
    by_cases hlt : j < l.length
    · obtain ⟨ad, hA, a0, a1, a2, a3, a4⟩ := at_T59 (Kd.C_below HC.out HS.out.below) (j : Int) (by omega) (by omega)
      subst hA
      have HX := Aside0.mk (drop_T59 l j hlt)
      obtain ⟨⟨f0, f1, f2, f3, f4⟩, hx⟩ : ∃ x, rd_T59 l (j : Int) = x := ⟨_, rfl⟩
      rw [hx] at a0 a1 a2 a3 a4 HX
      simp only [Int.toNat_natCast] at a0 a1 a2 a3 a4
      clear hx
      have hF := HF.out
      rw [HX.out, rightF] at hF
      simp only [List.length_map] at hF
      obtain ⟨hn1, hn65⟩ := HLn.out
      obtain ⟨G, cc, rfl, hcc⟩ := HS.out.form hn1
      clear HF
      have hgl : j < 9223372036854775807 := by have := HL.out; omega
      by_cases e1 : f0 < 0 ∨ (lv.length : Int) ≤ f0 ∨ ((f0 == 0) != (j == 0)) = true
      · rw [if_pos e1] at hF
        have HR := Aside0.mk (Option.some.inj hF)
        clear hF
        have hej : ((j : Int) == 0) = (j == 0) := by rw [Bool.eq_iff_iff]; simp
        rcases guard_yes e1 with e1 | ⟨e0, e1⟩ | ⟨e0, e1, ⟨e2, e3⟩ | ⟨e2, e3⟩⟩
        · go_wp2_with fail
          go_ret
          exact ⟨by rw [← HR.out]; rfl, HS.out.below.alloc (by have := HS.out.below.size; omega) _⟩
        · go_wp2_with fail
          go_ret
          exact ⟨by rw [← HR.out]; rfl, HS.out.below.alloc (by have := HS.out.below.size; omega) _⟩
        · rw [e3] at hej
          clear e3
          go_wp2_with fail
          go_ret
          exact ⟨by rw [← HR.out]; rfl, HS.out.below.alloc (by have := HS.out.below.size; omega) _⟩
        · rw [e3] at hej
          clear e3
          go_wp2_with fail
          go_ret
          exact ⟨by rw [← HR.out]; rfl, HS.out.below.alloc (by have := HS.out.below.size; omega) _⟩
      · rw [if_neg e1] at hF
        obtain ⟨h1, h2, h3⟩ : ¬ f0 < 0 ∧ f0 < (lv.length : Int) ∧ (f0 == 0) = (j == 0) := guard_not e1
        clear e1
        obtain ⟨d, rfl⟩ : ∃ d : Nat, f0 = d := ⟨f0.toNat, by omega⟩
        have hdl : d < lv.length := by omega
        have hej : ((j : Int) == 0) = ((d : Int) == 0) := by rw [h3, Bool.eq_iff_iff]; simp
        clear h1 h2
        obtain ⟨t, htd⟩ : ∃ t, lv[d]? = some t := ⟨_, List.getElem?_eq_getElem hdl⟩
        have htk : lv.take (d + 1) = lv.take d ++ [t] := by rw [List.take_add_one, htd]; rfl
        go_wp2_with fail
        have HI : Aside0 (Itm (wr.alloc (.cells #[.int .i64 (d : Int), .int .i64 f1, .string f2, .string f3, .int .i64 f4] 59)) wr.heap.size ⟨(d : Int), f1, f2, f3, f4⟩) := ⟨heap_alloc_new _ _⟩
        have HS3 : Aside0 (Sk w (wr.alloc (.cells #[.int .i64 (d : Int), .int .i64 f1, .string f2, .string f3, .int .i64 f4] 59)) (.slice (some ⟨G, 0, none⟩) (d + 1) cc) (lv.take d ++ [t])) := ⟨htk ▸ (HS.out.quiet (below_alloc (Below.refl _ _) _)).take hdl⟩
        obtain ⟨b, hb⟩ : ∃ b, wr.heap.size = b := ⟨_, rfl⟩
        rw [hb] at HI
        rw [hb]
        generalize wr.alloc (.cells #[.int .i64 (d : Int), .int .i64 f1, .string f2, .string f3, .int .i64 f4] 59) = w3 at HI HS3 ⊢
        have HB := Aside0.mk hb
        clear hb htk
        simp only [List.getD_eq_getElem?_getD, List.getElem?_map, Int.toNat_natCast, htd, Option.map_some, Option.getD_some, ← List.map_take] at hF
        have HTD := Aside0.mk htd
        clear htd
        by_cases k1 : f1 < 1
        · rw [if_pos (Or.inl k1)] at hF
          have HR := Aside0.mk (Option.some.inj hF)
          clear hF
          refine wp_region_held_drew (S := fun w' => Itm w' b ⟨(d : Int), f1, f2, f3, f4⟩ ∧ Sk w w' (.slice (some ⟨G, 0, none⟩) (d + 1) cc) (lv.take d ++ [t])) (by kernel_rfl) ⟨HI.out, HS3.out.drew⟩ (fun hHeld => ?_)
          refine wpAnyH_take (i := 0) (oi := { dst := some 39, op := _, type := _, pos := _, after := _, guard := _ }) (v := ?_) rfl (by kernel_rfl) (by kernel_rfl) (by kernel_rfl) (fun _ _ _ h => h) (Or.inl ⟨by rfl, ?_⟩) (by assumption) ?_
          rotate_left
          · intro w hSw
            (try dsimp only at hSw)
            have hm := s8 hSw
            obtain ⟨hm0, hm1, hm2, hm3, hm4, hmG⟩ := hm
            clear hSw
            go_simp
            (try with_reducible rfl)
          (try simp only [Act.put, List.setIfInBounds_toArray, List.set_cons_zero, List.set_cons_succ])
          refine wpAnyH_take (i := 1) (oi := { dst := some 40, op := _, type := _, pos := _, after := _, guard := _ }) (v := ?_) rfl (by kernel_rfl) (by kernel_rfl) (by kernel_rfl) (fun _ _ _ h => h) (Or.inl ⟨by rfl, ?_⟩) (by assumption) ?_
          rotate_left
          · intro w hSw
            (try dsimp only at hSw)
            have hm := s8 hSw
            obtain ⟨hm0, hm1, hm2, hm3, hm4, hmG⟩ := hm
            clear hSw
            go_simp
            (try with_reducible rfl)
          (try simp only [Act.put, List.setIfInBounds_toArray, List.set_cons_zero, List.set_cons_succ])
          refine wpAnyH_take (i := 2) (oi := { dst := some 41, op := _, type := _, pos := _, after := _, guard := _ }) (v := ?_) rfl (by kernel_rfl) (by kernel_rfl) (by kernel_rfl) (fun _ _ _ h => h) (Or.inl ⟨by rfl, ?_⟩) (by assumption) ?_
          rotate_left
          · intro w hSw
            (try dsimp only at hSw)
            have hm := s8 hSw
            obtain ⟨hm0, hm1, hm2, hm3, hm4, hmG⟩ := hm
            clear hSw
            go_simp
            (try with_reducible rfl)
          (try simp only [Act.put, List.setIfInBounds_toArray, List.set_cons_zero, List.set_cons_succ])
          refine wpAnyH_take (i := 3) (oi := { dst := some 42, op := _, type := _, pos := _, after := _, guard := _ }) (v := ?_) rfl (by kernel_rfl) (by kernel_rfl) (by kernel_rfl) (fun _ _ _ h => h) (Or.inl ⟨by rfl, ?_⟩) (by assumption) ?_
          rotate_left
          · intro w hSw
            (try dsimp only at hSw)
            have hm := s8 hSw
            obtain ⟨hm0, hm1, hm2, hm3, hm4, hmG⟩ := hm
            clear hSw
            go_simp
            (try with_reducible rfl)
          (try simp only [Act.put, List.setIfInBounds_toArray, List.set_cons_zero, List.set_cons_succ])
          refine wpAnyH_take (i := 4) (oi := { dst := some 43, op := _, type := _, pos := _, after := _, guard := _ }) (v := undef) rfl (by kernel_rfl) (by kernel_rfl) (by kernel_rfl) (fun _ _ _ h => h) (Or.inr ⟨by rfl, rfl⟩) (by assumption) ?_
          (try simp only [Act.put, List.setIfInBounds_toArray, List.set_cons_zero, List.set_cons_succ])
          refine wpAnyH_take (i := 5) (oi := { dst := some 44, op := _, type := _, pos := _, after := _, guard := _ }) (v := undef) rfl (by kernel_rfl) (by kernel_rfl) (by kernel_rfl) (fun _ _ _ h => h) (Or.inr ⟨by rfl, rfl⟩) (by assumption) ?_
          (try simp only [Act.put, List.setIfInBounds_toArray, List.set_cons_zero, List.set_cons_succ])
          refine wpAnyH_take (i := 6) (oi := { dst := some 45, op := _, type := _, pos := _, after := _, guard := _ }) (v := undef) rfl (by kernel_rfl) (by kernel_rfl) (by kernel_rfl) (fun _ _ _ h => h) (Or.inr ⟨by rfl, rfl⟩) (by assumption) ?_
          (try simp only [Act.put, List.setIfInBounds_toArray, List.set_cons_zero, List.set_cons_succ])
          refine wpAnyH_take (i := 7) (oi := { dst := some 46, op := _, type := _, pos := _, after := _, guard := _ }) (v := ?_) rfl (by kernel_rfl) (by kernel_rfl) (by kernel_rfl) (fun _ _ _ h => h) (Or.inl ⟨by rfl, ?_⟩) (by assumption) ?_
          rotate_left
          · intro w hSw
            (try dsimp only at hSw)
            have hm := s8 hSw
            obtain ⟨hm0, hm1, hm2, hm3, hm4, hmG⟩ := hm
            clear hSw
            go_simp
            (try with_reducible rfl)
          (try simp only [Act.put, List.setIfInBounds_toArray, List.set_cons_zero, List.set_cons_succ])
          refine wpAnyH_take (i := 8) (oi := { dst := some 47, op := _, type := _, pos := _, after := _, guard := _ }) (v := ?_) rfl (by kernel_rfl) (by kernel_rfl) (by kernel_rfl) (fun _ _ _ h => h) (Or.inl ⟨by rfl, ?_⟩) (by assumption) ?_
          rotate_left
          · intro w hSw
            (try dsimp only at hSw)
            have hm := s8 hSw
            obtain ⟨hm0, hm1, hm2, hm3, hm4, hmG⟩ := hm
            clear hSw
            go_simp
            (try with_reducible rfl)
          (try simp only [Act.put, List.setIfInBounds_toArray, List.set_cons_zero, List.set_cons_succ])
          refine wpAnyH_take (i := 9) (oi := { dst := some 48, op := _, type := _, pos := _, after := _, guard := _ }) (v := undef) rfl (by kernel_rfl) (by kernel_rfl) (by kernel_rfl) (fun _ _ _ h => h) (Or.inr ⟨by rfl, rfl⟩) (by assumption) ?_
          (try simp only [Act.put, List.setIfInBounds_toArray, List.set_cons_zero, List.set_cons_succ])
          refine wpAnyH_take (i := 10) (oi := { dst := some 49, op := _, type := _, pos := _, after := _, guard := _ }) (v := undef) rfl (by kernel_rfl) (by kernel_rfl) (by kernel_rfl) (fun _ _ _ h => h) (Or.inr ⟨by rfl, rfl⟩) (by assumption) ?_
          (try simp only [Act.put, List.setIfInBounds_toArray, List.set_cons_zero, List.set_cons_succ])
          refine wpAnyH_take (i := 11) (oi := { dst := some 50, op := _, type := _, pos := _, after := _, guard := _ }) (v := undef) rfl (by kernel_rfl) (by kernel_rfl) (by kernel_rfl) (fun _ _ _ h => h) (Or.inr ⟨by rfl, rfl⟩) (by assumption) ?_
          (try simp only [Act.put, List.setIfInBounds_toArray, List.set_cons_zero, List.set_cons_succ])
          refine wpAnyH_take (i := 12) (oi := { dst := some 51, op := _, type := _, pos := _, after := _, guard := _ }) (v := undef) rfl (by kernel_rfl) (by kernel_rfl) (by kernel_rfl) (fun _ _ _ h => h) (Or.inr ⟨by rfl, rfl⟩) (by assumption) ?_
          (try simp only [Act.put, List.setIfInBounds_toArray, List.set_cons_zero, List.set_cons_succ])
          refine wpAnyH_take (i := 13) (oi := { dst := some 52, op := _, type := _, pos := _, after := _, guard := _ }) (v := ?_) rfl (by kernel_rfl) (by kernel_rfl) (by kernel_rfl) (fun _ _ _ h => h) (Or.inl ⟨by rfl, ?_⟩) (by assumption) ?_
          rotate_left
          · intro w hSw
            (try dsimp only at hSw)
            have hm := s8 hSw
            obtain ⟨hm0, hm1, hm2, hm3, hm4, hmG⟩ := hm
            clear hSw
            go_simp
            (try with_reducible rfl)
          (try simp only [Act.put, List.setIfInBounds_toArray, List.set_cons_zero, List.set_cons_succ])
          refine wpAnyH_take (i := 14) (oi := { dst := some 53, op := _, type := _, pos := _, after := _, guard := _ }) (v := ?_) rfl (by kernel_rfl) (by kernel_rfl) (by kernel_rfl) (fun _ _ _ h => h) (Or.inl ⟨by rfl, ?_⟩) (by assumption) ?_
          rotate_left
          · intro w hSw
            (try dsimp only at hSw)
            have hm := s8 hSw
            obtain ⟨hm0, hm1, hm2, hm3, hm4, hmG⟩ := hm
            clear hSw
            go_simp
            (try with_reducible rfl)
          (try simp only [Act.put, List.setIfInBounds_toArray, List.set_cons_zero, List.set_cons_succ])
          refine wpAnyH_take (i := 15) (oi := { dst := some 54, op := _, type := _, pos := _, after := _, guard := _ }) (v := undef) rfl (by kernel_rfl) (by kernel_rfl) (by kernel_rfl) (fun _ _ _ h => h) (Or.inr ⟨by rfl, rfl⟩) (by assumption) ?_
          (try simp only [Act.put, List.setIfInBounds_toArray, List.set_cons_zero, List.set_cons_succ])
          refine wpAnyH_take (i := 16) (oi := { dst := some 55, op := _, type := _, pos := _, after := _, guard := _ }) (v := undef) rfl (by kernel_rfl) (by kernel_rfl) (by kernel_rfl) (fun _ _ _ h => h) (Or.inr ⟨by rfl, rfl⟩) (by assumption) ?_
          (try simp only [Act.put, List.setIfInBounds_toArray, List.set_cons_zero, List.set_cons_succ])
          refine wpAnyH_take (i := 17) (oi := { dst := some 56, op := _, type := _, pos := _, after := _, guard := _ }) (v := undef) rfl (by kernel_rfl) (by kernel_rfl) (by kernel_rfl) (fun _ _ _ h => h) (Or.inr ⟨by rfl, rfl⟩) (by assumption) ?_
          (try simp only [Act.put, List.setIfInBounds_toArray, List.set_cons_zero, List.set_cons_succ])
          refine wpAnyH_take (i := 18) (oi := { dst := some 57, op := _, type := _, pos := _, after := _, guard := _ }) (v := undef) rfl (by kernel_rfl) (by kernel_rfl) (by kernel_rfl) (fun _ _ _ h => h) (Or.inr ⟨by rfl, rfl⟩) (by assumption) ?_
          (try simp only [Act.put, List.setIfInBounds_toArray, List.set_cons_zero, List.set_cons_succ])
          refine wpAnyH_take (i := 19) (oi := { dst := some 58, op := _, type := _, pos := _, after := _, guard := _ }) (v := ?_) rfl (by kernel_rfl) (by kernel_rfl) (by kernel_rfl) (fun _ _ _ h => h) (Or.inl ⟨by rfl, ?_⟩) (by assumption) ?_
          rotate_left
          · intro w hSw
            (try dsimp only at hSw)
            have hm := s8 hSw
            obtain ⟨hm0, hm1, hm2, hm3, hm4, hmG⟩ := hm
            clear hSw
            go_simp
            (try with_reducible rfl)
          (try simp only [Act.put, List.setIfInBounds_toArray, List.set_cons_zero, List.set_cons_succ])
          refine wpAnyH_take (i := 20) (oi := { dst := some 59, op := _, type := _, pos := _, after := _, guard := _ }) (v := ?_) rfl (by kernel_rfl) (by kernel_rfl) (by kernel_rfl) (fun _ _ _ h => h) (Or.inl ⟨by rfl, ?_⟩) (by assumption) ?_
          rotate_left
          · intro w hSw
            (try dsimp only at hSw)
            have hm := s8 hSw
            obtain ⟨hm0, hm1, hm2, hm3, hm4, hmG⟩ := hm
            clear hSw
            go_simp
            (try with_reducible rfl)
          (try simp only [Act.put, List.setIfInBounds_toArray, List.set_cons_zero, List.set_cons_succ])
          refine wpAnyH_take (i := 21) (oi := { dst := some 60, op := _, type := _, pos := _, after := _, guard := _ }) (v := undef) rfl (by kernel_rfl) (by kernel_rfl) (by kernel_rfl) (fun _ _ _ h => h) (Or.inr ⟨by rfl, rfl⟩) (by assumption) ?_
          (try simp only [Act.put, List.setIfInBounds_toArray, List.set_cons_zero, List.set_cons_succ])
          refine wpAnyH_take (i := 22) (oi := { dst := some 61, op := _, type := _, pos := _, after := _, guard := _ }) (v := undef) rfl (by kernel_rfl) (by kernel_rfl) (by kernel_rfl) (fun _ _ _ h => h) (Or.inr ⟨by rfl, rfl⟩) (by assumption) ?_
          (try simp only [Act.put, List.setIfInBounds_toArray, List.set_cons_zero, List.set_cons_succ])
          refine wpAnyH_take (i := 23) (oi := { dst := some 62, op := _, type := _, pos := _, after := _, guard := _ }) (v := undef) rfl (by kernel_rfl) (by kernel_rfl) (by kernel_rfl) (fun _ _ _ h => h) (Or.inr ⟨by rfl, rfl⟩) (by assumption) ?_
          (try simp only [Act.put, List.setIfInBounds_toArray, List.set_cons_zero, List.set_cons_succ])
          refine wpAnyH_take (i := 24) (oi := { dst := some 63, op := _, type := _, pos := _, after := _, guard := _ }) (v := undef) rfl (by kernel_rfl) (by kernel_rfl) (by kernel_rfl) (fun _ _ _ h => h) (Or.inr ⟨by rfl, rfl⟩) (by assumption) ?_
          (try simp only [Act.put, List.setIfInBounds_toArray, List.set_cons_zero, List.set_cons_succ])
          refine wpAnyH_take (i := 25) (oi := { dst := some 64, op := _, type := _, pos := _, after := _, guard := _ }) (v := undef) rfl (by kernel_rfl) (by kernel_rfl) (by kernel_rfl) (fun _ _ _ h => h) (Or.inr ⟨by rfl, rfl⟩) (by assumption) ?_
          (try simp only [Act.put, List.setIfInBounds_toArray, List.set_cons_zero, List.set_cons_succ])
          refine wpAnyH_take (i := 26) (oi := { dst := some 65, op := _, type := _, pos := _, after := _, guard := _ }) (v := undef) rfl (by kernel_rfl) (by kernel_rfl) (by kernel_rfl) (fun _ _ _ h => h) (Or.inr ⟨by rfl, rfl⟩) (by assumption) ?_
          (try simp only [Act.put, List.setIfInBounds_toArray, List.set_cons_zero, List.set_cons_succ])
          refine wpAnyH_take (i := 27) (oi := { dst := some 66, op := _, type := _, pos := _, after := _, guard := _ }) (v := undef) rfl (by kernel_rfl) (by kernel_rfl) (by kernel_rfl) (fun _ _ _ h => h) (Or.inr ⟨by rfl, rfl⟩) (by assumption) ?_
          (try simp only [Act.put, List.setIfInBounds_toArray, List.set_cons_zero, List.set_cons_succ])
          refine wpAnyH_take (i := 28) (oi := { dst := some 67, op := _, type := _, pos := _, after := _, guard := _ }) (v := undef) rfl (by kernel_rfl) (by kernel_rfl) (by kernel_rfl) (fun _ _ _ h => h) (Or.inr ⟨by rfl, rfl⟩) (by assumption) ?_
          (try simp only [Act.put, List.setIfInBounds_toArray, List.set_cons_zero, List.set_cons_succ])
          refine wpAnyH_take (i := 29) (oi := { dst := some 68, op := _, type := _, pos := _, after := _, guard := _ }) (v := ?_) rfl (by kernel_rfl) (by kernel_rfl) (by kernel_rfl) (fun _ _ _ h => h) (Or.inl ⟨by rfl, ?_⟩) (by assumption) ?_
          rotate_left
          · intro w hSw
            (try dsimp only at hSw)
            have hm := s8 hSw
            obtain ⟨hm0, hm1, hm2, hm3, hm4, hmG⟩ := hm
            clear hSw
            go_simp
            (try with_reducible rfl)
          (try simp only [Act.put, List.setIfInBounds_toArray, List.set_cons_zero, List.set_cons_succ])
          refine wpAnyH_done (by kernel_rfl) ?_ _
          have HE := Aside0.mk hHeld
          clear hHeld
          go_wp2_with fail
          go_ret
          exact ⟨by rw [← HR.out]; rfl, HE.out.2.below⟩
        · by_cases k2 : 7 < f1
          · rw [if_pos (Or.inr (Or.inl k2))] at hF
            have HR := Aside0.mk (Option.some.inj hF)
            clear hF
            refine wp_region_held_drew (S := fun w' => Itm w' b ⟨(d : Int), f1, f2, f3, f4⟩ ∧ Sk w w' (.slice (some ⟨G, 0, none⟩) (d + 1) cc) (lv.take d ++ [t])) (by kernel_rfl) ⟨HI.out, HS3.out.drew⟩ (fun hHeld => ?_)
            refine wpAnyH_take (i := 0) (oi := { dst := some 39, op := _, type := _, pos := _, after := _, guard := _ }) (v := ?_) rfl (by kernel_rfl) (by kernel_rfl) (by kernel_rfl) (fun _ _ _ h => h) (Or.inl ⟨by rfl, ?_⟩) (by assumption) ?_
            rotate_left
            · intro w hSw
              (try dsimp only at hSw)
              have hm := s8 hSw
              obtain ⟨hm0, hm1, hm2, hm3, hm4, hmG⟩ := hm
              clear hSw
              go_simp
              (try with_reducible rfl)
            (try simp only [Act.put, List.setIfInBounds_toArray, List.set_cons_zero, List.set_cons_succ])
            refine wpAnyH_take (i := 1) (oi := { dst := some 40, op := _, type := _, pos := _, after := _, guard := _ }) (v := ?_) rfl (by kernel_rfl) (by kernel_rfl) (by kernel_rfl) (fun _ _ _ h => h) (Or.inl ⟨by rfl, ?_⟩) (by assumption) ?_
            rotate_left
            · intro w hSw
              (try dsimp only at hSw)
              have hm := s8 hSw
              obtain ⟨hm0, hm1, hm2, hm3, hm4, hmG⟩ := hm
              clear hSw
              go_simp
              (try with_reducible rfl)
            (try simp only [Act.put, List.setIfInBounds_toArray, List.set_cons_zero, List.set_cons_succ])
            refine wpAnyH_take (i := 2) (oi := { dst := some 41, op := _, type := _, pos := _, after := _, guard := _ }) (v := ?_) rfl (by kernel_rfl) (by kernel_rfl) (by kernel_rfl) (fun _ _ _ h => h) (Or.inl ⟨by rfl, ?_⟩) (by assumption) ?_
            rotate_left
            · intro w hSw
              (try dsimp only at hSw)
              have hm := s8 hSw
              obtain ⟨hm0, hm1, hm2, hm3, hm4, hmG⟩ := hm
              clear hSw
              go_simp
              (try with_reducible rfl)
            (try simp only [Act.put, List.setIfInBounds_toArray, List.set_cons_zero, List.set_cons_succ])
            refine wpAnyH_take (i := 3) (oi := { dst := some 42, op := _, type := _, pos := _, after := _, guard := _ }) (v := ?_) rfl (by kernel_rfl) (by kernel_rfl) (by kernel_rfl) (fun _ _ _ h => h) (Or.inl ⟨by rfl, ?_⟩) (by assumption) ?_
            rotate_left
            · intro w hSw
              (try dsimp only at hSw)
              have hm := s8 hSw
              obtain ⟨hm0, hm1, hm2, hm3, hm4, hmG⟩ := hm
              clear hSw
              go_simp
              (try with_reducible rfl)
            (try simp only [Act.put, List.setIfInBounds_toArray, List.set_cons_zero, List.set_cons_succ])
            refine wpAnyH_take (i := 4) (oi := { dst := some 43, op := _, type := _, pos := _, after := _, guard := _ }) (v := ?_) rfl (by kernel_rfl) (by kernel_rfl) (by kernel_rfl) (fun _ _ _ h => h) (Or.inl ⟨by rfl, ?_⟩) (by assumption) ?_
            rotate_left
            · intro w hSw
              (try dsimp only at hSw)
              have hm := s8 hSw
              obtain ⟨hm0, hm1, hm2, hm3, hm4, hmG⟩ := hm
              clear hSw
              go_simp
              (try with_reducible rfl)
            (try simp only [Act.put, List.setIfInBounds_toArray, List.set_cons_zero, List.set_cons_succ])
            refine wpAnyH_take (i := 5) (oi := { dst := some 44, op := _, type := _, pos := _, after := _, guard := _ }) (v := ?_) rfl (by kernel_rfl) (by kernel_rfl) (by kernel_rfl) (fun _ _ _ h => h) (Or.inl ⟨by rfl, ?_⟩) (by assumption) ?_
            rotate_left
            · intro w hSw
              (try dsimp only at hSw)
              have hm := s8 hSw
              obtain ⟨hm0, hm1, hm2, hm3, hm4, hmG⟩ := hm
              clear hSw
              go_simp
              (try with_reducible rfl)
            (try simp only [Act.put, List.setIfInBounds_toArray, List.set_cons_zero, List.set_cons_succ])
            refine wpAnyH_take (i := 6) (oi := { dst := some 45, op := _, type := _, pos := _, after := _, guard := _ }) (v := ?_) rfl (by kernel_rfl) (by kernel_rfl) (by kernel_rfl) (fun _ _ _ h => h) (Or.inl ⟨by rfl, ?_⟩) (by assumption) ?_
            rotate_left
            · intro w hSw
              (try dsimp only at hSw)
              have hm := s8 hSw
              obtain ⟨hm0, hm1, hm2, hm3, hm4, hmG⟩ := hm
              clear hSw
              go_simp
              (try with_reducible rfl)
            (try simp only [Act.put, List.setIfInBounds_toArray, List.set_cons_zero, List.set_cons_succ])
            refine wpAnyH_take (i := 7) (oi := { dst := some 46, op := _, type := _, pos := _, after := _, guard := _ }) (v := ?_) rfl (by kernel_rfl) (by kernel_rfl) (by kernel_rfl) (fun _ _ _ h => h) (Or.inl ⟨by rfl, ?_⟩) (by assumption) ?_
            rotate_left
            · intro w hSw
              (try dsimp only at hSw)
              have hm := s8 hSw
              obtain ⟨hm0, hm1, hm2, hm3, hm4, hmG⟩ := hm
              clear hSw
              go_simp
              (try with_reducible rfl)
            (try simp only [Act.put, List.setIfInBounds_toArray, List.set_cons_zero, List.set_cons_succ])
            refine wpAnyH_take (i := 8) (oi := { dst := some 47, op := _, type := _, pos := _, after := _, guard := _ }) (v := ?_) rfl (by kernel_rfl) (by kernel_rfl) (by kernel_rfl) (fun _ _ _ h => h) (Or.inl ⟨by rfl, ?_⟩) (by assumption) ?_
            rotate_left
            · intro w hSw
              (try dsimp only at hSw)
              have hm := s8 hSw
              obtain ⟨hm0, hm1, hm2, hm3, hm4, hmG⟩ := hm
              clear hSw
              go_simp
              (try with_reducible rfl)
            (try simp only [Act.put, List.setIfInBounds_toArray, List.set_cons_zero, List.set_cons_succ])
            refine wpAnyH_take (i := 9) (oi := { dst := some 48, op := _, type := _, pos := _, after := _, guard := _ }) (v := undef) rfl (by kernel_rfl) (by kernel_rfl) (by kernel_rfl) (fun _ _ _ h => h) (Or.inr ⟨by rfl, rfl⟩) (by assumption) ?_
            (try simp only [Act.put, List.setIfInBounds_toArray, List.set_cons_zero, List.set_cons_succ])
            refine wpAnyH_take (i := 10) (oi := { dst := some 49, op := _, type := _, pos := _, after := _, guard := _ }) (v := undef) rfl (by kernel_rfl) (by kernel_rfl) (by kernel_rfl) (fun _ _ _ h => h) (Or.inr ⟨by rfl, rfl⟩) (by assumption) ?_
            (try simp only [Act.put, List.setIfInBounds_toArray, List.set_cons_zero, List.set_cons_succ])
            refine wpAnyH_take (i := 11) (oi := { dst := some 50, op := _, type := _, pos := _, after := _, guard := _ }) (v := undef) rfl (by kernel_rfl) (by kernel_rfl) (by kernel_rfl) (fun _ _ _ h => h) (Or.inr ⟨by rfl, rfl⟩) (by assumption) ?_
            (try simp only [Act.put, List.setIfInBounds_toArray, List.set_cons_zero, List.set_cons_succ])
            refine wpAnyH_take (i := 12) (oi := { dst := some 51, op := _, type := _, pos := _, after := _, guard := _ }) (v := undef) rfl (by kernel_rfl) (by kernel_rfl) (by kernel_rfl) (fun _ _ _ h => h) (Or.inr ⟨by rfl, rfl⟩) (by assumption) ?_
            (try simp only [Act.put, List.setIfInBounds_toArray, List.set_cons_zero, List.set_cons_succ])
            refine wpAnyH_take (i := 13) (oi := { dst := some 52, op := _, type := _, pos := _, after := _, guard := _ }) (v := ?_) rfl (by kernel_rfl) (by kernel_rfl) (by kernel_rfl) (fun _ _ _ h => h) (Or.inl ⟨by rfl, ?_⟩) (by assumption) ?_
            rotate_left
            · intro w hSw
              (try dsimp only at hSw)
              have hm := s8 hSw
              obtain ⟨hm0, hm1, hm2, hm3, hm4, hmG⟩ := hm
              clear hSw
              go_simp
              (try with_reducible rfl)
            (try simp only [Act.put, List.setIfInBounds_toArray, List.set_cons_zero, List.set_cons_succ])
            refine wpAnyH_take (i := 14) (oi := { dst := some 53, op := _, type := _, pos := _, after := _, guard := _ }) (v := ?_) rfl (by kernel_rfl) (by kernel_rfl) (by kernel_rfl) (fun _ _ _ h => h) (Or.inl ⟨by rfl, ?_⟩) (by assumption) ?_
            rotate_left
            · intro w hSw
              (try dsimp only at hSw)
              have hm := s8 hSw
              obtain ⟨hm0, hm1, hm2, hm3, hm4, hmG⟩ := hm
              clear hSw
              go_simp
              (try with_reducible rfl)
            (try simp only [Act.put, List.setIfInBounds_toArray, List.set_cons_zero, List.set_cons_succ])
            refine wpAnyH_take (i := 15) (oi := { dst := some 54, op := _, type := _, pos := _, after := _, guard := _ }) (v := undef) rfl (by kernel_rfl) (by kernel_rfl) (by kernel_rfl) (fun _ _ _ h => h) (Or.inr ⟨by rfl, rfl⟩) (by assumption) ?_
            (try simp only [Act.put, List.setIfInBounds_toArray, List.set_cons_zero, List.set_cons_succ])
            refine wpAnyH_take (i := 16) (oi := { dst := some 55, op := _, type := _, pos := _, after := _, guard := _ }) (v := undef) rfl (by kernel_rfl) (by kernel_rfl) (by kernel_rfl) (fun _ _ _ h => h) (Or.inr ⟨by rfl, rfl⟩) (by assumption) ?_
            (try simp only [Act.put, List.setIfInBounds_toArray, List.set_cons_zero, List.set_cons_succ])
            refine wpAnyH_take (i := 17) (oi := { dst := some 56, op := _, type := _, pos := _, after := _, guard := _ }) (v := undef) rfl (by kernel_rfl) (by kernel_rfl) (by kernel_rfl) (fun _ _ _ h => h) (Or.inr ⟨by rfl, rfl⟩) (by assumption) ?_
            (try simp only [Act.put, List.setIfInBounds_toArray, List.set_cons_zero, List.set_cons_succ])
            refine wpAnyH_take (i := 18) (oi := { dst := some 57, op := _, type := _, pos := _, after := _, guard := _ }) (v := undef) rfl (by kernel_rfl) (by kernel_rfl) (by kernel_rfl) (fun _ _ _ h => h) (Or.inr ⟨by rfl, rfl⟩) (by assumption) ?_
            (try simp only [Act.put, List.setIfInBounds_toArray, List.set_cons_zero, List.set_cons_succ])
            refine wpAnyH_take (i := 19) (oi := { dst := some 58, op := _, type := _, pos := _, after := _, guard := _ }) (v := ?_) rfl (by kernel_rfl) (by kernel_rfl) (by kernel_rfl) (fun _ _ _ h => h) (Or.inl ⟨by rfl, ?_⟩) (by assumption) ?_
            rotate_left
            · intro w hSw
              (try dsimp only at hSw)
              have hm := s8 hSw
              obtain ⟨hm0, hm1, hm2, hm3, hm4, hmG⟩ := hm
              clear hSw
              go_simp
              (try with_reducible rfl)
            (try simp only [Act.put, List.setIfInBounds_toArray, List.set_cons_zero, List.set_cons_succ])
            refine wpAnyH_take (i := 20) (oi := { dst := some 59, op := _, type := _, pos := _, after := _, guard := _ }) (v := ?_) rfl (by kernel_rfl) (by kernel_rfl) (by kernel_rfl) (fun _ _ _ h => h) (Or.inl ⟨by rfl, ?_⟩) (by assumption) ?_
            rotate_left
            · intro w hSw
              (try dsimp only at hSw)
              have hm := s8 hSw
              obtain ⟨hm0, hm1, hm2, hm3, hm4, hmG⟩ := hm
              clear hSw
              go_simp
              (try with_reducible rfl)
            (try simp only [Act.put, List.setIfInBounds_toArray, List.set_cons_zero, List.set_cons_succ])
            refine wpAnyH_take (i := 21) (oi := { dst := some 60, op := _, type := _, pos := _, after := _, guard := _ }) (v := undef) rfl (by kernel_rfl) (by kernel_rfl) (by kernel_rfl) (fun _ _ _ h => h) (Or.inr ⟨by rfl, rfl⟩) (by assumption) ?_
            (try simp only [Act.put, List.setIfInBounds_toArray, List.set_cons_zero, List.set_cons_succ])
            refine wpAnyH_take (i := 22) (oi := { dst := some 61, op := _, type := _, pos := _, after := _, guard := _ }) (v := undef) rfl (by kernel_rfl) (by kernel_rfl) (by kernel_rfl) (fun _ _ _ h => h) (Or.inr ⟨by rfl, rfl⟩) (by assumption) ?_
            (try simp only [Act.put, List.setIfInBounds_toArray, List.set_cons_zero, List.set_cons_succ])
            refine wpAnyH_take (i := 23) (oi := { dst := some 62, op := _, type := _, pos := _, after := _, guard := _ }) (v := undef) rfl (by kernel_rfl) (by kernel_rfl) (by kernel_rfl) (fun _ _ _ h => h) (Or.inr ⟨by rfl, rfl⟩) (by assumption) ?_
            (try simp only [Act.put, List.setIfInBounds_toArray, List.set_cons_zero, List.set_cons_succ])
            refine wpAnyH_take (i := 24) (oi := { dst := some 63, op := _, type := _, pos := _, after := _, guard := _ }) (v := undef) rfl (by kernel_rfl) (by kernel_rfl) (by kernel_rfl) (fun _ _ _ h => h) (Or.inr ⟨by rfl, rfl⟩) (by assumption) ?_
            (try simp only [Act.put, List.setIfInBounds_toArray, List.set_cons_zero, List.set_cons_succ])
            refine wpAnyH_take (i := 25) (oi := { dst := some 64, op := _, type := _, pos := _, after := _, guard := _ }) (v := undef) rfl (by kernel_rfl) (by kernel_rfl) (by kernel_rfl) (fun _ _ _ h => h) (Or.inr ⟨by rfl, rfl⟩) (by assumption) ?_
            (try simp only [Act.put, List.setIfInBounds_toArray, List.set_cons_zero, List.set_cons_succ])
            refine wpAnyH_take (i := 26) (oi := { dst := some 65, op := _, type := _, pos := _, after := _, guard := _ }) (v := undef) rfl (by kernel_rfl) (by kernel_rfl) (by kernel_rfl) (fun _ _ _ h => h) (Or.inr ⟨by rfl, rfl⟩) (by assumption) ?_
            (try simp only [Act.put, List.setIfInBounds_toArray, List.set_cons_zero, List.set_cons_succ])
            refine wpAnyH_take (i := 27) (oi := { dst := some 66, op := _, type := _, pos := _, after := _, guard := _ }) (v := undef) rfl (by kernel_rfl) (by kernel_rfl) (by kernel_rfl) (fun _ _ _ h => h) (Or.inr ⟨by rfl, rfl⟩) (by assumption) ?_
            (try simp only [Act.put, List.setIfInBounds_toArray, List.set_cons_zero, List.set_cons_succ])
            refine wpAnyH_take (i := 28) (oi := { dst := some 67, op := _, type := _, pos := _, after := _, guard := _ }) (v := undef) rfl (by kernel_rfl) (by kernel_rfl) (by kernel_rfl) (fun _ _ _ h => h) (Or.inr ⟨by rfl, rfl⟩) (by assumption) ?_
            (try simp only [Act.put, List.setIfInBounds_toArray, List.set_cons_zero, List.set_cons_succ])
            refine wpAnyH_take (i := 29) (oi := { dst := some 68, op := _, type := _, pos := _, after := _, guard := _ }) (v := ?_) rfl (by kernel_rfl) (by kernel_rfl) (by kernel_rfl) (fun _ _ _ h => h) (Or.inl ⟨by rfl, ?_⟩) (by assumption) ?_
            rotate_left
            · intro w hSw
              (try dsimp only at hSw)
              have hm := s8 hSw
              obtain ⟨hm0, hm1, hm2, hm3, hm4, hmG⟩ := hm
              clear hSw
              go_simp
              (try with_reducible rfl)
            (try simp only [Act.put, List.setIfInBounds_toArray, List.set_cons_zero, List.set_cons_succ])
            refine wpAnyH_done (by kernel_rfl) ?_ _
            have HE := Aside0.mk hHeld
            clear hHeld
            go_wp2_with fail
            go_ret
            exact ⟨by rw [← HR.out]; rfl, HE.out.2.below⟩
          · by_cases k3 : sameI ⟨(d : Int), f1, f2, f3, f4⟩ (bareI ⟨(d : Int), f1, f2, f3, f4⟩) = false
            · rw [if_pos (Or.inr (Or.inr k3))] at hF
              have HR := Aside0.mk (Option.some.inj hF)
              clear hF
              refine wp_region_held_drew (S := fun w' => Itm w' b ⟨(d : Int), f1, f2, f3, f4⟩ ∧ Sk w w' (.slice (some ⟨G, 0, none⟩) (d + 1) cc) (lv.take d ++ [t])) (by kernel_rfl) ⟨HI.out, HS3.out.drew⟩ (fun hHeld => ?_)
              refine wpAnyH_take (i := 0) (oi := { dst := some 39, op := _, type := _, pos := _, after := _, guard := _ }) (v := ?_) rfl (by kernel_rfl) (by kernel_rfl) (by kernel_rfl) (fun _ _ _ h => h) (Or.inl ⟨by rfl, ?_⟩) (by assumption) ?_
              rotate_left
              · intro w hSw
                (try dsimp only at hSw)
                have hm := s8 hSw
                obtain ⟨hm0, hm1, hm2, hm3, hm4, hmG⟩ := hm
                clear hSw
                go_simp
                (try with_reducible rfl)
              (try simp only [Act.put, List.setIfInBounds_toArray, List.set_cons_zero, List.set_cons_succ])
              refine wpAnyH_take (i := 1) (oi := { dst := some 40, op := _, type := _, pos := _, after := _, guard := _ }) (v := ?_) rfl (by kernel_rfl) (by kernel_rfl) (by kernel_rfl) (fun _ _ _ h => h) (Or.inl ⟨by rfl, ?_⟩) (by assumption) ?_
              rotate_left
              · intro w hSw
                (try dsimp only at hSw)
                have hm := s8 hSw
                obtain ⟨hm0, hm1, hm2, hm3, hm4, hmG⟩ := hm
                clear hSw
                go_simp
                (try with_reducible rfl)
              (try simp only [Act.put, List.setIfInBounds_toArray, List.set_cons_zero, List.set_cons_succ])
              refine wpAnyH_take (i := 2) (oi := { dst := some 41, op := _, type := _, pos := _, after := _, guard := _ }) (v := ?_) rfl (by kernel_rfl) (by kernel_rfl) (by kernel_rfl) (fun _ _ _ h => h) (Or.inl ⟨by rfl, ?_⟩) (by assumption) ?_
              rotate_left
              · intro w hSw
                (try dsimp only at hSw)
                have hm := s8 hSw
                obtain ⟨hm0, hm1, hm2, hm3, hm4, hmG⟩ := hm
                clear hSw
                go_simp
                (try with_reducible rfl)
              (try simp only [Act.put, List.setIfInBounds_toArray, List.set_cons_zero, List.set_cons_succ])
              refine wpAnyH_take (i := 3) (oi := { dst := some 42, op := _, type := _, pos := _, after := _, guard := _ }) (v := ?_) rfl (by kernel_rfl) (by kernel_rfl) (by kernel_rfl) (fun _ _ _ h => h) (Or.inl ⟨by rfl, ?_⟩) (by assumption) ?_
              rotate_left
              · intro w hSw
                (try dsimp only at hSw)
                have hm := s8 hSw
                obtain ⟨hm0, hm1, hm2, hm3, hm4, hmG⟩ := hm
                clear hSw
                go_simp
                (try with_reducible rfl)
              (try simp only [Act.put, List.setIfInBounds_toArray, List.set_cons_zero, List.set_cons_succ])
              refine wpAnyH_take (i := 4) (oi := { dst := some 43, op := _, type := _, pos := _, after := _, guard := _ }) (v := ?_) rfl (by kernel_rfl) (by kernel_rfl) (by kernel_rfl) (fun _ _ _ h => h) (Or.inl ⟨by rfl, ?_⟩) (by assumption) ?_
              rotate_left
              · intro w hSw
                (try dsimp only at hSw)
                have hm := s8 hSw
                obtain ⟨hm0, hm1, hm2, hm3, hm4, hmG⟩ := hm
                clear hSw
                go_simp
                (try with_reducible rfl)
              (try simp only [Act.put, List.setIfInBounds_toArray, List.set_cons_zero, List.set_cons_succ])
              refine wpAnyH_take (i := 5) (oi := { dst := some 44, op := _, type := _, pos := _, after := _, guard := _ }) (v := ?_) rfl (by kernel_rfl) (by kernel_rfl) (by kernel_rfl) (fun _ _ _ h => h) (Or.inl ⟨by rfl, ?_⟩) (by assumption) ?_
              rotate_left
              · intro w hSw
                (try dsimp only at hSw)
                have hm := s8 hSw
                obtain ⟨hm0, hm1, hm2, hm3, hm4, hmG⟩ := hm
                clear hSw
                go_simp
                (try with_reducible rfl)
              (try simp only [Act.put, List.setIfInBounds_toArray, List.set_cons_zero, List.set_cons_succ])
              refine wpAnyH_take (i := 6) (oi := { dst := some 45, op := _, type := _, pos := _, after := _, guard := _ }) (v := ?_) rfl (by kernel_rfl) (by kernel_rfl) (by kernel_rfl) (fun _ _ _ h => h) (Or.inl ⟨by rfl, ?_⟩) (by assumption) ?_
              rotate_left
              · intro w hSw
                (try dsimp only at hSw)
                have hm := s8 hSw
                obtain ⟨hm0, hm1, hm2, hm3, hm4, hmG⟩ := hm
                clear hSw
                go_simp
                (try with_reducible rfl)
              (try simp only [Act.put, List.setIfInBounds_toArray, List.set_cons_zero, List.set_cons_succ])
              refine wpAnyH_take (i := 7) (oi := { dst := some 46, op := _, type := _, pos := _, after := _, guard := _ }) (v := ?_) rfl (by kernel_rfl) (by kernel_rfl) (by kernel_rfl) (fun _ _ _ h => h) (Or.inl ⟨by rfl, ?_⟩) (by assumption) ?_
              rotate_left
              · intro w hSw
                (try dsimp only at hSw)
                have hm := s8 hSw
                obtain ⟨hm0, hm1, hm2, hm3, hm4, hmG⟩ := hm
                clear hSw
                go_simp
                (try with_reducible rfl)
              (try simp only [Act.put, List.setIfInBounds_toArray, List.set_cons_zero, List.set_cons_succ])
              refine wpAnyH_take (i := 8) (oi := { dst := some 47, op := _, type := _, pos := _, after := _, guard := _ }) (v := ?_) rfl (by kernel_rfl) (by kernel_rfl) (by kernel_rfl) (fun _ _ _ h => h) (Or.inl ⟨by rfl, ?_⟩) (by assumption) ?_
              rotate_left
              · intro w hSw
                (try dsimp only at hSw)
                have hm := s8 hSw
                obtain ⟨hm0, hm1, hm2, hm3, hm4, hmG⟩ := hm
                clear hSw
                go_simp
                (try with_reducible rfl)
              (try simp only [Act.put, List.setIfInBounds_toArray, List.set_cons_zero, List.set_cons_succ])
              refine wpAnyH_take (i := 9) (oi := { dst := some 48, op := _, type := _, pos := _, after := _, guard := _ }) (v := ?_) rfl (by kernel_rfl) (by kernel_rfl) (by kernel_rfl) (fun _ _ _ h => h) (Or.inl ⟨by rfl, ?_⟩) (by assumption) ?_
              rotate_left
              · intro w hSw
                (try dsimp only at hSw)
                have hm := s8 hSw
                obtain ⟨hm0, hm1, hm2, hm3, hm4, hmG⟩ := hm
                clear hSw
                go_simp
                (try with_reducible rfl)
              (try simp only [Act.put, List.setIfInBounds_toArray, List.set_cons_zero, List.set_cons_succ])
              refine wpAnyH_take (i := 10) (oi := { dst := some 49, op := _, type := _, pos := _, after := _, guard := _ }) (v := ?_) rfl (by kernel_rfl) (by kernel_rfl) (by kernel_rfl) (fun _ _ _ h => h) (Or.inl ⟨by rfl, ?_⟩) (by assumption) ?_
              rotate_left
              · intro w hSw
                (try dsimp only at hSw)
                have hm := s8 hSw
                obtain ⟨hm0, hm1, hm2, hm3, hm4, hmG⟩ := hm
                clear hSw
                go_simp
                (try with_reducible rfl)
              (try simp only [Act.put, List.setIfInBounds_toArray, List.set_cons_zero, List.set_cons_succ])
              refine wpAnyH_ready (rs := [11]) (by kernel_rfl) (by simp) ?_
              refine AllReadyH.cons (o := { dst := some 50, op := _, type := _, pos := _, after := _, guard := _ }) rfl (fun K hK => ?_) AllReadyH.nil
              go_simp
              (go_at_call 63; refine (bare_calls ⟨(d : Int), f1, f2, f3, f4⟩ _).mono ?_; rintro e w4 ⟨rfl, hb4⟩); go_wp2_with fail
              refine hK.out _ _ ?_ (fun hHeld => ?_)
              · exact ⟨itm_below hHeld.1 hb4, hHeld.2.quiet hb4⟩
              clear hK K
              (try simp only [Act.put, List.setIfInBounds_toArray, List.set_cons_zero, List.set_cons_succ])
              refine wpAnyH_take (i := 12) (oi := { dst := some 51, op := _, type := _, pos := _, after := _, guard := _ }) (v := ?_) rfl (by kernel_rfl) (by kernel_rfl) (by kernel_rfl) (fun _ _ _ h => h) (Or.inl ⟨by rfl, ?_⟩) (by assumption) ?_
              rotate_left
              · intro w hSw
                (try dsimp only at hSw)
                have hm := s8 hSw
                obtain ⟨hm0, hm1, hm2, hm3, hm4, hmG⟩ := hm
                clear hSw
                go_simp
                exact neq_step w ⟨(d : Int), f1, f2, f3, f4⟩ (bareI ⟨(d : Int), f1, f2, f3, f4⟩) _ _ false true k3 rfl
              (try simp only [Act.put, List.setIfInBounds_toArray, List.set_cons_zero, List.set_cons_succ])
              refine wpAnyH_take (i := 13) (oi := { dst := some 52, op := _, type := _, pos := _, after := _, guard := _ }) (v := ?_) rfl (by kernel_rfl) (by kernel_rfl) (by kernel_rfl) (fun _ _ _ h => h) (Or.inl ⟨by rfl, ?_⟩) (by assumption) ?_
              rotate_left
              · intro w hSw
                (try dsimp only at hSw)
                have hm := s8 hSw
                obtain ⟨hm0, hm1, hm2, hm3, hm4, hmG⟩ := hm
                clear hSw
                go_simp
                (try with_reducible rfl)
              (try simp only [Act.put, List.setIfInBounds_toArray, List.set_cons_zero, List.set_cons_succ])
              refine wpAnyH_take (i := 14) (oi := { dst := some 53, op := _, type := _, pos := _, after := _, guard := _ }) (v := ?_) rfl (by kernel_rfl) (by kernel_rfl) (by kernel_rfl) (fun _ _ _ h => h) (Or.inl ⟨by rfl, ?_⟩) (by assumption) ?_
              rotate_left
              · intro w hSw
                (try dsimp only at hSw)
                have hm := s8 hSw
                obtain ⟨hm0, hm1, hm2, hm3, hm4, hmG⟩ := hm
                clear hSw
                go_simp
                (try with_reducible rfl)
              (try simp only [Act.put, List.setIfInBounds_toArray, List.set_cons_zero, List.set_cons_succ])
              refine wpAnyH_take (i := 15) (oi := { dst := some 54, op := _, type := _, pos := _, after := _, guard := _ }) (v := undef) rfl (by kernel_rfl) (by kernel_rfl) (by kernel_rfl) (fun _ _ _ h => h) (Or.inr ⟨by rfl, rfl⟩) (by assumption) ?_
              (try simp only [Act.put, List.setIfInBounds_toArray, List.set_cons_zero, List.set_cons_succ])
              refine wpAnyH_take (i := 16) (oi := { dst := some 55, op := _, type := _, pos := _, after := _, guard := _ }) (v := undef) rfl (by kernel_rfl) (by kernel_rfl) (by kernel_rfl) (fun _ _ _ h => h) (Or.inr ⟨by rfl, rfl⟩) (by assumption) ?_
              (try simp only [Act.put, List.setIfInBounds_toArray, List.set_cons_zero, List.set_cons_succ])
              refine wpAnyH_take (i := 17) (oi := { dst := some 56, op := _, type := _, pos := _, after := _, guard := _ }) (v := undef) rfl (by kernel_rfl) (by kernel_rfl) (by kernel_rfl) (fun _ _ _ h => h) (Or.inr ⟨by rfl, rfl⟩) (by assumption) ?_
              (try simp only [Act.put, List.setIfInBounds_toArray, List.set_cons_zero, List.set_cons_succ])
              refine wpAnyH_take (i := 18) (oi := { dst := some 57, op := _, type := _, pos := _, after := _, guard := _ }) (v := undef) rfl (by kernel_rfl) (by kernel_rfl) (by kernel_rfl) (fun _ _ _ h => h) (Or.inr ⟨by rfl, rfl⟩) (by assumption) ?_
              (try simp only [Act.put, List.setIfInBounds_toArray, List.set_cons_zero, List.set_cons_succ])
              refine wpAnyH_take (i := 19) (oi := { dst := some 58, op := _, type := _, pos := _, after := _, guard := _ }) (v := ?_) rfl (by kernel_rfl) (by kernel_rfl) (by kernel_rfl) (fun _ _ _ h => h) (Or.inl ⟨by rfl, ?_⟩) (by assumption) ?_
              rotate_left
              · intro w hSw
                (try dsimp only at hSw)
                have hm := s8 hSw
                obtain ⟨hm0, hm1, hm2, hm3, hm4, hmG⟩ := hm
                clear hSw
                go_simp
                (try with_reducible rfl)
              (try simp only [Act.put, List.setIfInBounds_toArray, List.set_cons_zero, List.set_cons_succ])
              refine wpAnyH_take (i := 20) (oi := { dst := some 59, op := _, type := _, pos := _, after := _, guard := _ }) (v := ?_) rfl (by kernel_rfl) (by kernel_rfl) (by kernel_rfl) (fun _ _ _ h => h) (Or.inl ⟨by rfl, ?_⟩) (by assumption) ?_
              rotate_left
              · intro w hSw
                (try dsimp only at hSw)
                have hm := s8 hSw
                obtain ⟨hm0, hm1, hm2, hm3, hm4, hmG⟩ := hm
                clear hSw
                go_simp
                (try with_reducible rfl)
              (try simp only [Act.put, List.setIfInBounds_toArray, List.set_cons_zero, List.set_cons_succ])
              refine wpAnyH_take (i := 21) (oi := { dst := some 60, op := _, type := _, pos := _, after := _, guard := _ }) (v := undef) rfl (by kernel_rfl) (by kernel_rfl) (by kernel_rfl) (fun _ _ _ h => h) (Or.inr ⟨by rfl, rfl⟩) (by assumption) ?_
              (try simp only [Act.put, List.setIfInBounds_toArray, List.set_cons_zero, List.set_cons_succ])
              refine wpAnyH_take (i := 22) (oi := { dst := some 61, op := _, type := _, pos := _, after := _, guard := _ }) (v := undef) rfl (by kernel_rfl) (by kernel_rfl) (by kernel_rfl) (fun _ _ _ h => h) (Or.inr ⟨by rfl, rfl⟩) (by assumption) ?_
              (try simp only [Act.put, List.setIfInBounds_toArray, List.set_cons_zero, List.set_cons_succ])
              refine wpAnyH_take (i := 23) (oi := { dst := some 62, op := _, type := _, pos := _, after := _, guard := _ }) (v := undef) rfl (by kernel_rfl) (by kernel_rfl) (by kernel_rfl) (fun _ _ _ h => h) (Or.inr ⟨by rfl, rfl⟩) (by assumption) ?_
              (try simp only [Act.put, List.setIfInBounds_toArray, List.set_cons_zero, List.set_cons_succ])
              refine wpAnyH_take (i := 24) (oi := { dst := some 63, op := _, type := _, pos := _, after := _, guard := _ }) (v := undef) rfl (by kernel_rfl) (by kernel_rfl) (by kernel_rfl) (fun _ _ _ h => h) (Or.inr ⟨by rfl, rfl⟩) (by assumption) ?_
              (try simp only [Act.put, List.setIfInBounds_toArray, List.set_cons_zero, List.set_cons_succ])
              refine wpAnyH_take (i := 25) (oi := { dst := some 64, op := _, type := _, pos := _, after := _, guard := _ }) (v := undef) rfl (by kernel_rfl) (by kernel_rfl) (by kernel_rfl) (fun _ _ _ h => h) (Or.inr ⟨by rfl, rfl⟩) (by assumption) ?_
              (try simp only [Act.put, List.setIfInBounds_toArray, List.set_cons_zero, List.set_cons_succ])
              refine wpAnyH_take (i := 26) (oi := { dst := some 65, op := _, type := _, pos := _, after := _, guard := _ }) (v := undef) rfl (by kernel_rfl) (by kernel_rfl) (by kernel_rfl) (fun _ _ _ h => h) (Or.inr ⟨by rfl, rfl⟩) (by assumption) ?_
              (try simp only [Act.put, List.setIfInBounds_toArray, List.set_cons_zero, List.set_cons_succ])
              refine wpAnyH_take (i := 27) (oi := { dst := some 66, op := _, type := _, pos := _, after := _, guard := _ }) (v := undef) rfl (by kernel_rfl) (by kernel_rfl) (by kernel_rfl) (fun _ _ _ h => h) (Or.inr ⟨by rfl, rfl⟩) (by assumption) ?_
              (try simp only [Act.put, List.setIfInBounds_toArray, List.set_cons_zero, List.set_cons_succ])
              refine wpAnyH_take (i := 28) (oi := { dst := some 67, op := _, type := _, pos := _, after := _, guard := _ }) (v := undef) rfl (by kernel_rfl) (by kernel_rfl) (by kernel_rfl) (fun _ _ _ h => h) (Or.inr ⟨by rfl, rfl⟩) (by assumption) ?_
              (try simp only [Act.put, List.setIfInBounds_toArray, List.set_cons_zero, List.set_cons_succ])
              refine wpAnyH_take (i := 29) (oi := { dst := some 68, op := _, type := _, pos := _, after := _, guard := _ }) (v := ?_) rfl (by kernel_rfl) (by kernel_rfl) (by kernel_rfl) (fun _ _ _ h => h) (Or.inl ⟨by rfl, ?_⟩) (by assumption) ?_
              rotate_left
              · intro w hSw
                (try dsimp only at hSw)
                have hm := s8 hSw
                obtain ⟨hm0, hm1, hm2, hm3, hm4, hmG⟩ := hm
                clear hSw
                go_simp
                (try with_reducible rfl)
              (try simp only [Act.put, List.setIfInBounds_toArray, List.set_cons_zero, List.set_cons_succ])
              refine wpAnyH_done (by kernel_rfl) ?_ _
              have HE := Aside0.mk hHeld
              clear hHeld
              go_wp2_with fail
              go_ret
              exact ⟨by rw [← HR.out]; rfl, HE.out.2.below⟩
            · rw [if_neg (by rintro (a | a | a) <;> first | exact k1 a | exact k2 a | exact k3 a)] at hF
              obtain ⟨v3, hv, hF⟩ := Option.bind_eq_some_iff.1 hF
              have FV := Aside0.mk hv
              clear hv
              have k3 := Bool.of_not_eq_false k3
              cases v3 with
              | false =>
                rw [if_pos rfl] at hF
                have HR := Aside0.mk (Option.some.inj hF)
                clear hF
                refine wp_region_held_drew (S := fun w' => Itm w' b ⟨(d : Int), f1, f2, f3, f4⟩ ∧ Sk w w' (.slice (some ⟨G, 0, none⟩) (d + 1) cc) (lv.take d ++ [t])) (by kernel_rfl) ⟨HI.out, HS3.out.drew⟩ (fun hHeld => ?_)
                refine wpAnyH_take (i := 0) (oi := { dst := some 39, op := _, type := _, pos := _, after := _, guard := _ }) (v := ?_) rfl (by kernel_rfl) (by kernel_rfl) (by kernel_rfl) (fun _ _ _ h => h) (Or.inl ⟨by rfl, ?_⟩) (by assumption) ?_
                rotate_left
                · intro w hSw
                  (try dsimp only at hSw)
                  have hm := s8 hSw
                  obtain ⟨hm0, hm1, hm2, hm3, hm4, hmG⟩ := hm
                  clear hSw
                  go_simp
                  (try with_reducible rfl)
                (try simp only [Act.put, List.setIfInBounds_toArray, List.set_cons_zero, List.set_cons_succ])
                refine wpAnyH_take (i := 1) (oi := { dst := some 40, op := _, type := _, pos := _, after := _, guard := _ }) (v := ?_) rfl (by kernel_rfl) (by kernel_rfl) (by kernel_rfl) (fun _ _ _ h => h) (Or.inl ⟨by rfl, ?_⟩) (by assumption) ?_
                rotate_left
                · intro w hSw
                  (try dsimp only at hSw)
                  have hm := s8 hSw
                  obtain ⟨hm0, hm1, hm2, hm3, hm4, hmG⟩ := hm
                  clear hSw
                  go_simp
                  (try with_reducible rfl)
                (try simp only [Act.put, List.setIfInBounds_toArray, List.set_cons_zero, List.set_cons_succ])
                refine wpAnyH_take (i := 2) (oi := { dst := some 41, op := _, type := _, pos := _, after := _, guard := _ }) (v := ?_) rfl (by kernel_rfl) (by kernel_rfl) (by kernel_rfl) (fun _ _ _ h => h) (Or.inl ⟨by rfl, ?_⟩) (by assumption) ?_
                rotate_left
                · intro w hSw
                  (try dsimp only at hSw)
                  have hm := s8 hSw
                  obtain ⟨hm0, hm1, hm2, hm3, hm4, hmG⟩ := hm
                  clear hSw
                  go_simp
                  (try with_reducible rfl)
                (try simp only [Act.put, List.setIfInBounds_toArray, List.set_cons_zero, List.set_cons_succ])
                refine wpAnyH_take (i := 3) (oi := { dst := some 42, op := _, type := _, pos := _, after := _, guard := _ }) (v := ?_) rfl (by kernel_rfl) (by kernel_rfl) (by kernel_rfl) (fun _ _ _ h => h) (Or.inl ⟨by rfl, ?_⟩) (by assumption) ?_
                rotate_left
                · intro w hSw
                  (try dsimp only at hSw)
                  have hm := s8 hSw
                  obtain ⟨hm0, hm1, hm2, hm3, hm4, hmG⟩ := hm
                  clear hSw
                  go_simp
                  (try with_reducible rfl)
                (try simp only [Act.put, List.setIfInBounds_toArray, List.set_cons_zero, List.set_cons_succ])
                refine wpAnyH_take (i := 4) (oi := { dst := some 43, op := _, type := _, pos := _, after := _, guard := _ }) (v := ?_) rfl (by kernel_rfl) (by kernel_rfl) (by kernel_rfl) (fun _ _ _ h => h) (Or.inl ⟨by rfl, ?_⟩) (by assumption) ?_
                rotate_left
                · intro w hSw
                  (try dsimp only at hSw)
                  have hm := s8 hSw
                  obtain ⟨hm0, hm1, hm2, hm3, hm4, hmG⟩ := hm
                  clear hSw
                  go_simp
                  (try with_reducible rfl)
                (try simp only [Act.put, List.setIfInBounds_toArray, List.set_cons_zero, List.set_cons_succ])
                refine wpAnyH_take (i := 5) (oi := { dst := some 44, op := _, type := _, pos := _, after := _, guard := _ }) (v := ?_) rfl (by kernel_rfl) (by kernel_rfl) (by kernel_rfl) (fun _ _ _ h => h) (Or.inl ⟨by rfl, ?_⟩) (by assumption) ?_
                rotate_left
                · intro w hSw
                  (try dsimp only at hSw)
                  have hm := s8 hSw
                  obtain ⟨hm0, hm1, hm2, hm3, hm4, hmG⟩ := hm
                  clear hSw
                  go_simp
                  (try with_reducible rfl)
                (try simp only [Act.put, List.setIfInBounds_toArray, List.set_cons_zero, List.set_cons_succ])
                refine wpAnyH_take (i := 6) (oi := { dst := some 45, op := _, type := _, pos := _, after := _, guard := _ }) (v := ?_) rfl (by kernel_rfl) (by kernel_rfl) (by kernel_rfl) (fun _ _ _ h => h) (Or.inl ⟨by rfl, ?_⟩) (by assumption) ?_
                rotate_left
                · intro w hSw
                  (try dsimp only at hSw)
                  have hm := s8 hSw
                  obtain ⟨hm0, hm1, hm2, hm3, hm4, hmG⟩ := hm
                  clear hSw
                  go_simp
                  (try with_reducible rfl)
                (try simp only [Act.put, List.setIfInBounds_toArray, List.set_cons_zero, List.set_cons_succ])
                refine wpAnyH_take (i := 7) (oi := { dst := some 46, op := _, type := _, pos := _, after := _, guard := _ }) (v := ?_) rfl (by kernel_rfl) (by kernel_rfl) (by kernel_rfl) (fun _ _ _ h => h) (Or.inl ⟨by rfl, ?_⟩) (by assumption) ?_
                rotate_left
                · intro w hSw
                  (try dsimp only at hSw)
                  have hm := s8 hSw
                  obtain ⟨hm0, hm1, hm2, hm3, hm4, hmG⟩ := hm
                  clear hSw
                  go_simp
                  (try with_reducible rfl)
                (try simp only [Act.put, List.setIfInBounds_toArray, List.set_cons_zero, List.set_cons_succ])
                refine wpAnyH_take (i := 8) (oi := { dst := some 47, op := _, type := _, pos := _, after := _, guard := _ }) (v := ?_) rfl (by kernel_rfl) (by kernel_rfl) (by kernel_rfl) (fun _ _ _ h => h) (Or.inl ⟨by rfl, ?_⟩) (by assumption) ?_
                rotate_left
                · intro w hSw
                  (try dsimp only at hSw)
                  have hm := s8 hSw
                  obtain ⟨hm0, hm1, hm2, hm3, hm4, hmG⟩ := hm
                  clear hSw
                  go_simp
                  (try with_reducible rfl)
                (try simp only [Act.put, List.setIfInBounds_toArray, List.set_cons_zero, List.set_cons_succ])
                refine wpAnyH_take (i := 9) (oi := { dst := some 48, op := _, type := _, pos := _, after := _, guard := _ }) (v := ?_) rfl (by kernel_rfl) (by kernel_rfl) (by kernel_rfl) (fun _ _ _ h => h) (Or.inl ⟨by rfl, ?_⟩) (by assumption) ?_
                rotate_left
                · intro w hSw
                  (try dsimp only at hSw)
                  have hm := s8 hSw
                  obtain ⟨hm0, hm1, hm2, hm3, hm4, hmG⟩ := hm
                  clear hSw
                  go_simp
                  (try with_reducible rfl)
                (try simp only [Act.put, List.setIfInBounds_toArray, List.set_cons_zero, List.set_cons_succ])
                refine wpAnyH_take (i := 10) (oi := { dst := some 49, op := _, type := _, pos := _, after := _, guard := _ }) (v := ?_) rfl (by kernel_rfl) (by kernel_rfl) (by kernel_rfl) (fun _ _ _ h => h) (Or.inl ⟨by rfl, ?_⟩) (by assumption) ?_
                rotate_left
                · intro w hSw
                  (try dsimp only at hSw)
                  have hm := s8 hSw
                  obtain ⟨hm0, hm1, hm2, hm3, hm4, hmG⟩ := hm
                  clear hSw
                  go_simp
                  (try with_reducible rfl)
                (try simp only [Act.put, List.setIfInBounds_toArray, List.set_cons_zero, List.set_cons_succ])
                refine wpAnyH_ready (rs := [11]) (by kernel_rfl) (by simp) ?_
                refine AllReadyH.cons (o := { dst := some 50, op := _, type := _, pos := _, after := _, guard := _ }) rfl (fun K hK => ?_) AllReadyH.nil
                go_simp
                (go_at_call 63; refine (bare_calls ⟨(d : Int), f1, f2, f3, f4⟩ _).mono ?_; rintro e w4 ⟨rfl, hb4⟩); go_wp2_with fail
                refine hK.out _ _ ?_ (fun hHeld => ?_)
                · exact ⟨itm_below hHeld.1 hb4, hHeld.2.quiet hb4⟩
                clear hK K
                (try simp only [Act.put, List.setIfInBounds_toArray, List.set_cons_zero, List.set_cons_succ])
                refine wpAnyH_take (i := 12) (oi := { dst := some 51, op := _, type := _, pos := _, after := _, guard := _ }) (v := ?_) rfl (by kernel_rfl) (by kernel_rfl) (by kernel_rfl) (fun _ _ _ h => h) (Or.inl ⟨by rfl, ?_⟩) (by assumption) ?_
                rotate_left
                · intro w hSw
                  (try dsimp only at hSw)
                  have hm := s8 hSw
                  obtain ⟨hm0, hm1, hm2, hm3, hm4, hmG⟩ := hm
                  clear hSw
                  go_simp
                  exact neq_step w ⟨(d : Int), f1, f2, f3, f4⟩ (bareI ⟨(d : Int), f1, f2, f3, f4⟩) _ _ true false k3 rfl
                (try simp only [Act.put, List.setIfInBounds_toArray, List.set_cons_zero, List.set_cons_succ])
                refine wpAnyH_take (i := 13) (oi := { dst := some 52, op := _, type := _, pos := _, after := _, guard := _ }) (v := ?_) rfl (by kernel_rfl) (by kernel_rfl) (by kernel_rfl) (fun _ _ _ h => h) (Or.inl ⟨by rfl, ?_⟩) (by assumption) ?_
                rotate_left
                · intro w hSw
                  (try dsimp only at hSw)
                  have hm := s8 hSw
                  obtain ⟨hm0, hm1, hm2, hm3, hm4, hmG⟩ := hm
                  clear hSw
                  go_simp
                  (try with_reducible rfl)
                (try simp only [Act.put, List.setIfInBounds_toArray, List.set_cons_zero, List.set_cons_succ])
                refine wpAnyH_take (i := 14) (oi := { dst := some 53, op := _, type := _, pos := _, after := _, guard := _ }) (v := ?_) rfl (by kernel_rfl) (by kernel_rfl) (by kernel_rfl) (fun _ _ _ h => h) (Or.inl ⟨by rfl, ?_⟩) (by assumption) ?_
                rotate_left
                · intro w hSw
                  (try dsimp only at hSw)
                  have hm := s8 hSw
                  obtain ⟨hm0, hm1, hm2, hm3, hm4, hmG⟩ := hm
                  clear hSw
                  go_simp
                  (try with_reducible rfl)
                (try simp only [Act.put, List.setIfInBounds_toArray, List.set_cons_zero, List.set_cons_succ])
                refine wpAnyH_take (i := 15) (oi := { dst := some 54, op := _, type := _, pos := _, after := _, guard := _ }) (v := ?_) rfl (by kernel_rfl) (by kernel_rfl) (by kernel_rfl) (fun _ _ _ h => h) (Or.inl ⟨by rfl, ?_⟩) (by assumption) ?_
                rotate_left
                · intro w hSw
                  (try dsimp only at hSw)
                  have hm := s8 hSw
                  obtain ⟨hm0, hm1, hm2, hm3, hm4, hmG⟩ := hm
                  clear hSw
                  go_simp
                  (try with_reducible rfl)
                (try simp only [Act.put, List.setIfInBounds_toArray, List.set_cons_zero, List.set_cons_succ])
                refine wpAnyH_take (i := 16) (oi := { dst := some 55, op := _, type := _, pos := _, after := _, guard := _ }) (v := ?_) rfl (by kernel_rfl) (by kernel_rfl) (by kernel_rfl) (fun _ _ _ h => h) (Or.inl ⟨by rfl, ?_⟩) (by assumption) ?_
                rotate_left
                · intro w hSw
                  (try dsimp only at hSw)
                  have hm := s8 hSw
                  obtain ⟨hm0, hm1, hm2, hm3, hm4, hmG⟩ := hm
                  clear hSw
                  go_simp
                  (try with_reducible rfl)
                (try simp only [Act.put, List.setIfInBounds_toArray, List.set_cons_zero, List.set_cons_succ])
                refine wpAnyH_ready (rs := [17]) (by kernel_rfl) (by simp) ?_
                refine AllReadyH.cons (o := { dst := some 56, op := _, type := _, pos := _, after := _, guard := _ }) rfl (fun K hK => ?_) AllReadyH.nil
                go_simp
                (go_at_call 30; refine (utf_Valid.calls f3 _ _ FV.out (HT.out.step hHeld.2.below)).mono ?_; rintro e w5 ⟨rfl, hb5⟩); go_wp2_with fail
                refine hK.out _ _ ?_ (fun hHeld => ?_)
                · exact ⟨itm_below hHeld.1 hb5, hHeld.2.quiet hb5⟩
                clear hK K
                (try simp only [Act.put, List.setIfInBounds_toArray, List.set_cons_zero, List.set_cons_succ])
                refine wpAnyH_take (i := 18) (oi := { dst := some 57, op := _, type := _, pos := _, after := _, guard := _ }) (v := ?_) rfl (by kernel_rfl) (by kernel_rfl) (by kernel_rfl) (fun _ _ _ h => h) (Or.inl ⟨by rfl, ?_⟩) (by assumption) ?_
                rotate_left
                · intro w hSw
                  (try dsimp only at hSw)
                  have hm := s8 hSw
                  obtain ⟨hm0, hm1, hm2, hm3, hm4, hmG⟩ := hm
                  clear hSw
                  go_simp
                  (try with_reducible rfl)
                (try simp only [Act.put, List.setIfInBounds_toArray, List.set_cons_zero, List.set_cons_succ])
                refine wpAnyH_take (i := 19) (oi := { dst := some 58, op := _, type := _, pos := _, after := _, guard := _ }) (v := ?_) rfl (by kernel_rfl) (by kernel_rfl) (by kernel_rfl) (fun _ _ _ h => h) (Or.inl ⟨by rfl, ?_⟩) (by assumption) ?_
                rotate_left
                · intro w hSw
                  (try dsimp only at hSw)
                  have hm := s8 hSw
                  obtain ⟨hm0, hm1, hm2, hm3, hm4, hmG⟩ := hm
                  clear hSw
                  go_simp
                  (try with_reducible rfl)
                (try simp only [Act.put, List.setIfInBounds_toArray, List.set_cons_zero, List.set_cons_succ])
                refine wpAnyH_take (i := 20) (oi := { dst := some 59, op := _, type := _, pos := _, after := _, guard := _ }) (v := ?_) rfl (by kernel_rfl) (by kernel_rfl) (by kernel_rfl) (fun _ _ _ h => h) (Or.inl ⟨by rfl, ?_⟩) (by assumption) ?_
                rotate_left
                · intro w hSw
                  (try dsimp only at hSw)
                  have hm := s8 hSw
                  obtain ⟨hm0, hm1, hm2, hm3, hm4, hmG⟩ := hm
                  clear hSw
                  go_simp
                  (try with_reducible rfl)
                (try simp only [Act.put, List.setIfInBounds_toArray, List.set_cons_zero, List.set_cons_succ])
                refine wpAnyH_take (i := 21) (oi := { dst := some 60, op := _, type := _, pos := _, after := _, guard := _ }) (v := undef) rfl (by kernel_rfl) (by kernel_rfl) (by kernel_rfl) (fun _ _ _ h => h) (Or.inr ⟨by rfl, rfl⟩) (by assumption) ?_
                (try simp only [Act.put, List.setIfInBounds_toArray, List.set_cons_zero, List.set_cons_succ])
                refine wpAnyH_take (i := 22) (oi := { dst := some 61, op := _, type := _, pos := _, after := _, guard := _ }) (v := undef) rfl (by kernel_rfl) (by kernel_rfl) (by kernel_rfl) (fun _ _ _ h => h) (Or.inr ⟨by rfl, rfl⟩) (by assumption) ?_
                (try simp only [Act.put, List.setIfInBounds_toArray, List.set_cons_zero, List.set_cons_succ])
                refine wpAnyH_take (i := 23) (oi := { dst := some 62, op := _, type := _, pos := _, after := _, guard := _ }) (v := undef) rfl (by kernel_rfl) (by kernel_rfl) (by kernel_rfl) (fun _ _ _ h => h) (Or.inr ⟨by rfl, rfl⟩) (by assumption) ?_
                (try simp only [Act.put, List.setIfInBounds_toArray, List.set_cons_zero, List.set_cons_succ])
                refine wpAnyH_take (i := 24) (oi := { dst := some 63, op := _, type := _, pos := _, after := _, guard := _ }) (v := undef) rfl (by kernel_rfl) (by kernel_rfl) (by kernel_rfl) (fun _ _ _ h => h) (Or.inr ⟨by rfl, rfl⟩) (by assumption) ?_
                (try simp only [Act.put, List.setIfInBounds_toArray, List.set_cons_zero, List.set_cons_succ])
                refine wpAnyH_take (i := 25) (oi := { dst := some 64, op := _, type := _, pos := _, after := _, guard := _ }) (v := undef) rfl (by kernel_rfl) (by kernel_rfl) (by kernel_rfl) (fun _ _ _ h => h) (Or.inr ⟨by rfl, rfl⟩) (by assumption) ?_
                (try simp only [Act.put, List.setIfInBounds_toArray, List.set_cons_zero, List.set_cons_succ])
                refine wpAnyH_take (i := 26) (oi := { dst := some 65, op := _, type := _, pos := _, after := _, guard := _ }) (v := undef) rfl (by kernel_rfl) (by kernel_rfl) (by kernel_rfl) (fun _ _ _ h => h) (Or.inr ⟨by rfl, rfl⟩) (by assumption) ?_
                (try simp only [Act.put, List.setIfInBounds_toArray, List.set_cons_zero, List.set_cons_succ])
                refine wpAnyH_take (i := 27) (oi := { dst := some 66, op := _, type := _, pos := _, after := _, guard := _ }) (v := undef) rfl (by kernel_rfl) (by kernel_rfl) (by kernel_rfl) (fun _ _ _ h => h) (Or.inr ⟨by rfl, rfl⟩) (by assumption) ?_
                (try simp only [Act.put, List.setIfInBounds_toArray, List.set_cons_zero, List.set_cons_succ])
                refine wpAnyH_take (i := 28) (oi := { dst := some 67, op := _, type := _, pos := _, after := _, guard := _ }) (v := undef) rfl (by kernel_rfl) (by kernel_rfl) (by kernel_rfl) (fun _ _ _ h => h) (Or.inr ⟨by rfl, rfl⟩) (by assumption) ?_
                (try simp only [Act.put, List.setIfInBounds_toArray, List.set_cons_zero, List.set_cons_succ])
                refine wpAnyH_take (i := 29) (oi := { dst := some 68, op := _, type := _, pos := _, after := _, guard := _ }) (v := ?_) rfl (by kernel_rfl) (by kernel_rfl) (by kernel_rfl) (fun _ _ _ h => h) (Or.inl ⟨by rfl, ?_⟩) (by assumption) ?_
                rotate_left
                · intro w hSw
                  (try dsimp only at hSw)
                  have hm := s8 hSw
                  obtain ⟨hm0, hm1, hm2, hm3, hm4, hmG⟩ := hm
                  clear hSw
                  go_simp
                  (try with_reducible rfl)
                (try simp only [Act.put, List.setIfInBounds_toArray, List.set_cons_zero, List.set_cons_succ])
                refine wpAnyH_done (by kernel_rfl) ?_ _
                have HE := Aside0.mk hHeld
                clear hHeld
                go_wp2_with fail
                go_ret
                exact ⟨by rw [← HR.out]; rfl, HE.out.2.below⟩
              | true =>
                rw [if_neg (by decide)] at hF
                obtain ⟨⟨mb, ks⟩, hm, hF⟩ := Option.bind_eq_some_iff.1 hF
                have FM := Aside0.mk hm
                clear hm
                refine start_ (n := 30) (S := fun w' => Itm w' b ⟨(d : Int), f1, f2, f3, f4⟩ ∧ Sk w w' (.slice (some ⟨G, 0, none⟩) (d + 1) cc) (lv.take d ++ [t])) (ds := [27]) #[false, false, false, false, false, false, false, false, false, false, false, false, false, false, false, false, false, false, false, false, false, false, false, false, false, false, false, false, false, false] (by kernel_rfl) rfl rfl ⟨HI.out, HS3.out.drew⟩ (fun hHeld => ?_)
                refine pure_ (i := 0) (N := some 39) (v := ?_) (a' := ?_) #[true, false, false, false, false, false, false, false, false, false, false, false, false, false, false, false, false, false, false, false, false, false, false, false, false, false, false, false, false, false] rfl rfl (by kernel_rfl) (fun _ _ _ h => h) (Or.inl ⟨by rfl, ?_⟩) ?_ ?_
                rotate_left
                · intro w'
                  go_simp
                  (try with_reducible rfl)
                rotate_left
                · simp only [Act.put, List.setIfInBounds_toArray, List.set_cons_zero, List.set_cons_succ]
                  rfl
                refine take_ (i := 1) (N := some 40) (v := ?_) (a' := ?_) #[true, true, false, false, false, false, false, false, false, false, false, false, false, false, false, false, false, false, false, false, false, false, false, false, false, false, false, false, false, false] rfl rfl (by kernel_rfl) (fun _ _ _ h => h) (Or.inl ⟨by rfl, ?_⟩) (by assumption) ?_ ?_
                rotate_left
                · intro w hSw
                  obtain ⟨hl0, hl1⟩ := hSw
                  have hm := s8 ⟨hl0, hl1⟩
                  obtain ⟨hm0, hm1, hm2, hm3, hm4, hmG⟩ := hm
                  clear hl0 hl1
                  have hdd : (d : Int) < (d : Int) + 1 := by omega
                  go_simp
                  (try with_reducible rfl)
                rotate_left
                · simp only [Act.put, List.setIfInBounds_toArray, List.set_cons_zero, List.set_cons_succ]
                  rfl
                refine take_ (i := 2) (N := some 41) (v := ?_) (a' := ?_) #[true, true, true, false, false, false, false, false, false, false, false, false, false, false, false, false, false, false, false, false, false, false, false, false, false, false, false, false, false, false] rfl rfl (by kernel_rfl) (fun _ _ _ h => h) (Or.inl ⟨by rfl, ?_⟩) (by assumption) ?_ ?_
                rotate_left
                · intro w hSw
                  obtain ⟨hl0, hl1⟩ := hSw
                  have hm := s8 ⟨hl0, hl1⟩
                  obtain ⟨hm0, hm1, hm2, hm3, hm4, hmG⟩ := hm
                  clear hl0 hl1
                  have hdd : (d : Int) < (d : Int) + 1 := by omega
                  go_simp
                  (try with_reducible rfl)
                rotate_left
                · simp only [Act.put, List.setIfInBounds_toArray, List.set_cons_zero, List.set_cons_succ]
                  rfl
                refine pure_ (i := 3) (N := some 42) (v := ?_) (a' := ?_) #[true, true, true, true, false, false, false, false, false, false, false, false, false, false, false, false, false, false, false, false, false, false, false, false, false, false, false, false, false, false] rfl rfl (by kernel_rfl) (fun _ _ _ h => h) (Or.inl ⟨by rfl, ?_⟩) ?_ ?_
                rotate_left
                · intro w'
                  go_simp
                  (try with_reducible rfl)
                rotate_left
                · simp only [Act.put, List.setIfInBounds_toArray, List.set_cons_zero, List.set_cons_succ]
                  rfl
                refine pure_ (i := 4) (N := some 43) (v := ?_) (a' := ?_) #[true, true, true, true, true, false, false, false, false, false, false, false, false, false, false, false, false, false, false, false, false, false, false, false, false, false, false, false, false, false] rfl rfl (by kernel_rfl) (fun _ _ _ h => h) (Or.inl ⟨by rfl, ?_⟩) ?_ ?_
                rotate_left
                · intro w'
                  go_simp
                  (try with_reducible rfl)
                rotate_left
                · simp only [Act.put, List.setIfInBounds_toArray, List.set_cons_zero, List.set_cons_succ]
                  rfl
                refine take_ (i := 5) (N := some 44) (v := ?_) (a' := ?_) #[true, true, true, true, true, true, false, false, false, false, false, false, false, false, false, false, false, false, false, false, false, false, false, false, false, false, false, false, false, false] rfl rfl (by kernel_rfl) (fun _ _ _ h => h) (Or.inl ⟨by rfl, ?_⟩) (by assumption) ?_ ?_
                rotate_left
                · intro w hSw
                  obtain ⟨hl0, hl1⟩ := hSw
                  have hm := s8 ⟨hl0, hl1⟩
                  obtain ⟨hm0, hm1, hm2, hm3, hm4, hmG⟩ := hm
                  clear hl0 hl1
                  have hdd : (d : Int) < (d : Int) + 1 := by omega
                  go_simp
                  (try with_reducible rfl)
                rotate_left
                · simp only [Act.put, List.setIfInBounds_toArray, List.set_cons_zero, List.set_cons_succ]
                  rfl
                refine take_ (i := 6) (N := some 45) (v := ?_) (a' := ?_) #[true, true, true, true, true, true, true, false, false, false, false, false, false, false, false, false, false, false, false, false, false, false, false, false, false, false, false, false, false, false] rfl rfl (by kernel_rfl) (fun _ _ _ h => h) (Or.inl ⟨by rfl, ?_⟩) (by assumption) ?_ ?_
                rotate_left
                · intro w hSw
                  obtain ⟨hl0, hl1⟩ := hSw
                  have hm := s8 ⟨hl0, hl1⟩
                  obtain ⟨hm0, hm1, hm2, hm3, hm4, hmG⟩ := hm
                  clear hl0 hl1
                  have hdd : (d : Int) < (d : Int) + 1 := by omega
                  go_simp
                  (try with_reducible rfl)
                rotate_left
                · simp only [Act.put, List.setIfInBounds_toArray, List.set_cons_zero, List.set_cons_succ]
                  rfl
                refine pure_ (i := 7) (N := some 46) (v := ?_) (a' := ?_) #[true, true, true, true, true, true, true, true, false, false, false, false, false, false, false, false, false, false, false, false, false, false, false, false, false, false, false, false, false, false] rfl rfl (by kernel_rfl) (fun _ _ _ h => h) (Or.inl ⟨by rfl, ?_⟩) ?_ ?_
                rotate_left
                · intro w'
                  go_simp
                  (try with_reducible rfl)
                rotate_left
                · simp only [Act.put, List.setIfInBounds_toArray, List.set_cons_zero, List.set_cons_succ]
                  rfl
                refine pure_ (i := 8) (N := some 47) (v := ?_) (a' := ?_) #[true, true, true, true, true, true, true, true, true, false, false, false, false, false, false, false, false, false, false, false, false, false, false, false, false, false, false, false, false, false] rfl rfl (by kernel_rfl) (fun _ _ _ h => h) (Or.inl ⟨by rfl, ?_⟩) ?_ ?_
                rotate_left
                · intro w'
                  go_simp
                  (try with_reducible rfl)
                rotate_left
                · simp only [Act.put, List.setIfInBounds_toArray, List.set_cons_zero, List.set_cons_succ]
                  rfl
                refine take_ (i := 9) (N := some 48) (v := ?_) (a' := ?_) #[true, true, true, true, true, true, true, true, true, true, false, false, false, false, false, false, false, false, false, false, false, false, false, false, false, false, false, false, false, false] rfl rfl (by kernel_rfl) (fun _ _ _ h => h) (Or.inl ⟨by rfl, ?_⟩) (by assumption) ?_ ?_
                rotate_left
                · intro w hSw
                  obtain ⟨hl0, hl1⟩ := hSw
                  have hm := s8 ⟨hl0, hl1⟩
                  obtain ⟨hm0, hm1, hm2, hm3, hm4, hmG⟩ := hm
                  clear hl0 hl1
                  have hdd : (d : Int) < (d : Int) + 1 := by omega
                  go_simp
                  (try with_reducible rfl)
                rotate_left
                · simp only [Act.put, List.setIfInBounds_toArray, List.set_cons_zero, List.set_cons_succ]
                  rfl
                refine take_ (i := 10) (N := some 49) (v := ?_) (a' := ?_) #[true, true, true, true, true, true, true, true, true, true, true, false, false, false, false, false, false, false, false, false, false, false, false, false, false, false, false, false, false, false] rfl rfl (by kernel_rfl) (fun _ _ _ h => h) (Or.inl ⟨by rfl, ?_⟩) (by assumption) ?_ ?_
                rotate_left
                · intro w hSw
                  obtain ⟨hl0, hl1⟩ := hSw
                  have hm := s8 ⟨hl0, hl1⟩
                  obtain ⟨hm0, hm1, hm2, hm3, hm4, hmG⟩ := hm
                  clear hl0 hl1
                  have hdd : (d : Int) < (d : Int) + 1 := by omega
                  go_simp
                  (try with_reducible rfl)
                rotate_left
                · simp only [Act.put, List.setIfInBounds_toArray, List.set_cons_zero, List.set_cons_succ]
                  rfl
                refine one_ (i := 11) (N := some 50) #[true, true, true, true, true, true, true, true, true, true, true, true, false, false, false, false, false, false, false, false, false, false, false, false, false, false, false, false, false, false] rfl rfl (by kernel_rfl) (by decide) (fun K hK => ?_)
                go_simp
                (go_at_call 63; refine (bare_calls ⟨(d : Int), f1, f2, f3, f4⟩ _).mono ?_; rintro e w4 ⟨rfl, hb4⟩); go_wp2_with fail
                refine hK.out _ _ ?_ (fun hHeld => ?_)
                · exact ⟨itm_below hHeld.1 hb4, hHeld.2.quiet hb4⟩
                clear hK K
                (try simp only [Act.put, List.setIfInBounds_toArray, List.set_cons_zero, List.set_cons_succ])
                refine take_ (i := 12) (N := some 51) (v := ?_) (a' := ?_) #[true, true, true, true, true, true, true, true, true, true, true, true, true, false, false, false, false, false, false, false, false, false, false, false, false, false, false, false, false, false] rfl rfl (by kernel_rfl) (fun _ _ _ h => h) (Or.inl ⟨by rfl, ?_⟩) (by assumption) ?_ ?_
                rotate_left
                · intro w hSw
                  obtain ⟨hl0, hl1⟩ := hSw
                  have hm := s8 ⟨hl0, hl1⟩
                  obtain ⟨hm0, hm1, hm2, hm3, hm4, hmG⟩ := hm
                  clear hl0 hl1
                  have hdd : (d : Int) < (d : Int) + 1 := by omega
                  go_simp
                  exact neq_step w ⟨(d : Int), f1, f2, f3, f4⟩ (bareI ⟨(d : Int), f1, f2, f3, f4⟩) _ _ true false k3 rfl
                rotate_left
                · simp only [Act.put, List.setIfInBounds_toArray, List.set_cons_zero, List.set_cons_succ]
                  rfl
                refine pure_ (i := 13) (N := some 52) (v := ?_) (a' := ?_) #[true, true, true, true, true, true, true, true, true, true, true, true, true, true, false, false, false, false, false, false, false, false, false, false, false, false, false, false, false, false] rfl rfl (by kernel_rfl) (fun _ _ _ h => h) (Or.inl ⟨by rfl, ?_⟩) ?_ ?_
                rotate_left
                · intro w'
                  go_simp
                  (try with_reducible rfl)
                rotate_left
                · simp only [Act.put, List.setIfInBounds_toArray, List.set_cons_zero, List.set_cons_succ]
                  rfl
                refine pure_ (i := 14) (N := some 53) (v := ?_) (a' := ?_) #[true, true, true, true, true, true, true, true, true, true, true, true, true, true, true, false, false, false, false, false, false, false, false, false, false, false, false, false, false, false] rfl rfl (by kernel_rfl) (fun _ _ _ h => h) (Or.inl ⟨by rfl, ?_⟩) ?_ ?_
                rotate_left
                · intro w'
                  go_simp
                  (try with_reducible rfl)
                rotate_left
                · simp only [Act.put, List.setIfInBounds_toArray, List.set_cons_zero, List.set_cons_succ]
                  rfl
                refine pure_ (i := 15) (N := some 54) (v := ?_) (a' := ?_) #[true, true, true, true, true, true, true, true, true, true, true, true, true, true, true, true, false, false, false, false, false, false, false, false, false, false, false, false, false, false] rfl rfl (by kernel_rfl) (fun _ _ _ h => h) (Or.inl ⟨by rfl, ?_⟩) ?_ ?_
                rotate_left
                · intro w'
                  go_simp
                  (try with_reducible rfl)
                rotate_left
                · simp only [Act.put, List.setIfInBounds_toArray, List.set_cons_zero, List.set_cons_succ]
                  rfl
                refine take_ (i := 16) (N := some 55) (v := ?_) (a' := ?_) #[true, true, true, true, true, true, true, true, true, true, true, true, true, true, true, true, true, false, false, false, false, false, false, false, false, false, false, false, false, false] rfl rfl (by kernel_rfl) (fun _ _ _ h => h) (Or.inl ⟨by rfl, ?_⟩) (by assumption) ?_ ?_
                rotate_left
                · intro w hSw
                  obtain ⟨hl0, hl1⟩ := hSw
                  have hm := s8 ⟨hl0, hl1⟩
                  obtain ⟨hm0, hm1, hm2, hm3, hm4, hmG⟩ := hm
                  clear hl0 hl1
                  have hdd : (d : Int) < (d : Int) + 1 := by omega
                  go_simp
                  (try with_reducible rfl)
                rotate_left
                · simp only [Act.put, List.setIfInBounds_toArray, List.set_cons_zero, List.set_cons_succ]
                  rfl
                refine one_ (i := 17) (N := some 56) #[true, true, true, true, true, true, true, true, true, true, true, true, true, true, true, true, true, true, false, false, false, false, false, false, false, false, false, false, false, false] rfl rfl (by kernel_rfl) (by decide) (fun K hK => ?_)
                go_simp
                (go_at_call 30; refine (utf_Valid.calls f3 _ _ FV.out (HT.out.step hHeld.2.below)).mono ?_; rintro e w5 ⟨rfl, hb5⟩); go_wp2_with fail
                refine hK.out _ _ ?_ (fun hHeld => ?_)
                · exact ⟨itm_below hHeld.1 hb5, hHeld.2.quiet hb5⟩
                clear hK K
                (try simp only [Act.put, List.setIfInBounds_toArray, List.set_cons_zero, List.set_cons_succ])
                refine pure_ (i := 18) (N := some 57) (v := ?_) (a' := ?_) #[true, true, true, true, true, true, true, true, true, true, true, true, true, true, true, true, true, true, true, false, false, false, false, false, false, false, false, false, false, false] rfl rfl (by kernel_rfl) (fun _ _ _ h => h) (Or.inl ⟨by rfl, ?_⟩) ?_ ?_
                rotate_left
                · intro w'
                  go_simp
                  (try with_reducible rfl)
                rotate_left
                · simp only [Act.put, List.setIfInBounds_toArray, List.set_cons_zero, List.set_cons_succ]
                  rfl
                refine pure_ (i := 19) (N := some 58) (v := ?_) (a' := ?_) #[true, true, true, true, true, true, true, true, true, true, true, true, true, true, true, true, true, true, true, true, false, false, false, false, false, false, false, false, false, false] rfl rfl (by kernel_rfl) (fun _ _ _ h => h) (Or.inl ⟨by rfl, ?_⟩) ?_ ?_
                rotate_left
                · intro w'
                  go_simp
                  (try with_reducible rfl)
                rotate_left
                · simp only [Act.put, List.setIfInBounds_toArray, List.set_cons_zero, List.set_cons_succ]
                  rfl
                refine pure_ (i := 20) (N := some 59) (v := ?_) (a' := ?_) #[true, true, true, true, true, true, true, true, true, true, true, true, true, true, true, true, true, true, true, true, true, false, false, false, false, false, false, false, false, false] rfl rfl (by kernel_rfl) (fun _ _ _ h => h) (Or.inl ⟨by rfl, ?_⟩) ?_ ?_
                rotate_left
                · intro w'
                  go_simp
                  (try with_reducible rfl)
                rotate_left
                · simp only [Act.put, List.setIfInBounds_toArray, List.set_cons_zero, List.set_cons_succ]
                  rfl
                refine take_ (i := 21) (N := some 60) (v := ?_) (a' := ?_) #[true, true, true, true, true, true, true, true, true, true, true, true, true, true, true, true, true, true, true, true, true, true, false, false, false, false, false, false, false, false] rfl rfl (by kernel_rfl) (fun _ _ _ h => h) (Or.inl ⟨by rfl, ?_⟩) (by assumption) ?_ ?_
                rotate_left
                · intro w hSw
                  obtain ⟨hl0, hl1⟩ := hSw
                  have hm := s8 ⟨hl0, hl1⟩
                  obtain ⟨hm0, hm1, hm2, hm3, hm4, hmG⟩ := hm
                  clear hl0 hl1
                  have hdd : (d : Int) < (d : Int) + 1 := by omega
                  go_simp
                  (try with_reducible rfl)
                rotate_left
                · simp only [Act.put, List.setIfInBounds_toArray, List.set_cons_zero, List.set_cons_succ]
                  rfl
                refine pure_ (i := 22) (N := some 61) (v := ?_) (a' := ?_) #[true, true, true, true, true, true, true, true, true, true, true, true, true, true, true, true, true, true, true, true, true, true, true, false, false, false, false, false, false, false] rfl rfl (by kernel_rfl) (fun _ _ _ h => h) (Or.inl ⟨by rfl, ?_⟩) ?_ ?_
                rotate_left
                · intro w'
                  go_simp
                  (try with_reducible rfl)
                rotate_left
                · simp only [Act.put, List.setIfInBounds_toArray, List.set_cons_zero, List.set_cons_succ]
                  rfl
                refine take_ (i := 23) (N := some 62) (v := ?_) (a' := ?_) #[true, true, true, true, true, true, true, true, true, true, true, true, true, true, true, true, true, true, true, true, true, true, true, true, false, false, false, false, false, false] rfl rfl (by kernel_rfl) (fun _ _ _ h => h) (Or.inl ⟨by rfl, ?_⟩) (by assumption) ?_ ?_
                rotate_left
                · intro w hSw
                  obtain ⟨hl0, hl1⟩ := hSw
                  have hm := s8 ⟨hl0, hl1⟩
                  obtain ⟨hm0, hm1, hm2, hm3, hm4, hmG⟩ := hm
                  clear hl0 hl1
                  have hdd : (d : Int) < (d : Int) + 1 := by omega
                  go_simp
                  (try with_reducible rfl)
                rotate_left
                · simp only [Act.put, List.setIfInBounds_toArray, List.set_cons_zero, List.set_cons_succ]
                  rfl
                refine take_ (i := 24) (N := some 63) (v := ?_) (a' := ?_) #[true, true, true, true, true, true, true, true, true, true, true, true, true, true, true, true, true, true, true, true, true, true, true, true, true, false, false, false, false, false] rfl rfl (by kernel_rfl) (fun _ _ _ h => h) (Or.inl ⟨by rfl, ?_⟩) (by assumption) ?_ ?_
                rotate_left
                · intro w hSw
                  obtain ⟨hl0, hl1⟩ := hSw
                  have hm := s8 ⟨hl0, hl1⟩
                  obtain ⟨hm0, hm1, hm2, hm3, hm4, hmG⟩ := hm
                  clear hl0 hl1
                  have hdd : (d : Int) < (d : Int) + 1 := by omega
                  go_simp
                  (try with_reducible rfl)
                rotate_left
                · simp only [Act.put, List.setIfInBounds_toArray, List.set_cons_zero, List.set_cons_succ]
                  rfl
                refine take_ (i := 25) (N := some 64) (v := ?_) (a' := ?_) #[true, true, true, true, true, true, true, true, true, true, true, true, true, true, true, true, true, true, true, true, true, true, true, true, true, true, false, false, false, false] rfl rfl (by kernel_rfl) (fun _ _ _ h => h) (Or.inl ⟨by rfl, ?_⟩) (by assumption) ?_ ?_
                rotate_left
                · intro w hSw
                  obtain ⟨hl0, hl1⟩ := hSw
                  have hm := s8 ⟨hl0, hl1⟩
                  obtain ⟨hm0, hm1, hm2, hm3, hm4, hmG⟩ := hm
                  clear hl0 hl1
                  have hdd : (d : Int) < (d : Int) + 1 := by omega
                  go_simp
                  (try with_reducible rfl)
                rotate_left
                · simp only [Act.put, List.setIfInBounds_toArray, List.set_cons_zero, List.set_cons_succ]
                  rfl
                refine take_ (i := 26) (N := some 65) (v := ?_) (a' := ?_) #[true, true, true, true, true, true, true, true, true, true, true, true, true, true, true, true, true, true, true, true, true, true, true, true, true, true, true, false, false, false] rfl rfl (by kernel_rfl) (fun _ _ _ h => h) (Or.inl ⟨by rfl, ?_⟩) (by assumption) ?_ ?_
                rotate_left
                · intro w hSw
                  obtain ⟨hl0, hl1⟩ := hSw
                  have hm := s8 ⟨hl0, hl1⟩
                  obtain ⟨hm0, hm1, hm2, hm3, hm4, hmG⟩ := hm
                  clear hl0 hl1
                  have hdd : (d : Int) < (d : Int) + 1 := by omega
                  go_simp
                  (try with_reducible rfl)
                rotate_left
                · simp only [Act.put, List.setIfInBounds_toArray, List.set_cons_zero, List.set_cons_succ]
                  rfl
                refine last_ (i := 27) (N := some 66) #[true, true, true, true, true, true, true, true, true, true, true, true, true, true, true, true, true, true, true, true, true, true, true, true, true, true, true, true, false, false] rfl rfl (by kernel_rfl) (by decide) (fun K hK => ?_)
                go_simp
                have HE := Aside0.mk hHeld
                have hte := hHeld.2.each t (List.mem_append_right _ List.mem_cons_self)
                (go_at_call 64; refine (member_calls w _ t.g t.kind t.kv t.keys ⟨(d : Int), f1, f2, f3, f4⟩ _ FM.out hte.2.1 hte.2.2 hHeld.2.below hte.1 HT.out).mono ?_; rintro e w6 ⟨rfl, hL⟩); go_wp2_with fail
                have HP := Aside0.mk hL
                clear hL hte hHeld
                refine hK.out _ _ ?_
                clear hK K
                (try simp only [Act.put, List.setIfInBounds_toArray, List.set_cons_zero, List.set_cons_succ])
                refine pure_ (i := 28) (N := some 67) (v := ?_) (a' := ?_) #[true, true, true, true, true, true, true, true, true, true, true, true, true, true, true, true, true, true, true, true, true, true, true, true, true, true, true, true, true, false] rfl rfl (by kernel_rfl) (fun _ _ _ h => h) (Or.inl ⟨by rfl, ?_⟩) ?_ ?_
                rotate_left
                · intro w'
                  go_simp
                  (try with_reducible rfl)
                rotate_left
                · simp only [Act.put, List.setIfInBounds_toArray, List.set_cons_zero, List.set_cons_succ]
                  rfl
                refine pure_ (i := 29) (N := some 68) (v := ?_) (a' := ?_) #[true, true, true, true, true, true, true, true, true, true, true, true, true, true, true, true, true, true, true, true, true, true, true, true, true, true, true, true, true, true] rfl rfl (by kernel_rfl) (fun _ _ _ h => h) (Or.inl ⟨by rfl, ?_⟩) ?_ ?_
                rotate_left
                · intro w'
                  go_simp
                  (try with_reducible rfl)
                rotate_left
                · simp only [Act.put, List.setIfInBounds_toArray, List.set_cons_zero, List.set_cons_succ]
                  rfl
                refine done_ (by kernel_rfl) ?_
                obtain ⟨kv', hS6⟩ := HE.out.2.top HP.out
                have hI6 := itm_left HE.out.1 (HE.out.2.each t (List.mem_append_right _ List.mem_cons_self)).2 HP.out
                obtain ⟨lv6, hl6⟩ : ∃ lv6 : List Level, lv.take d ++ [(⟨t.g, t.kind, kv', ks⟩ : Level)] = lv6 := ⟨_, rfl⟩
                rw [hl6] at hS6
                have HM6 : Aside0 ((lv6.map fun y => (y.kind, y.keys)) = (lv.take d).map (fun y => (y.kind, y.keys)) ++ [(t.kind, ks)]) := ⟨by rw [← hl6, List.map_append]; rfl⟩
                have HN6 : Aside0 (lv6.length = d + 1) := ⟨by rw [← hl6, List.length_append, List.length_take, List.length_singleton]; omega⟩
                clear hl6
                have HS6 := Aside0.mk hS6
                have HI6 := Aside0.mk hI6
                clear hS6 hI6 HP HE
                cases mb with
                | false =>
                  rw [if_pos rfl] at hF
                  have HR := Aside0.mk (Option.some.inj hF)
                  clear hF
                  go_wp2_with fail
                  go_ret
                  exact ⟨by rw [← HR.out]; rfl, HS6.out.below⟩
                | true =>
                  rw [if_neg (by decide)] at hF
                  obtain ⟨hm0, hm1, hm2, hm3, hm4⟩ := itm_cells HI6.out
                  by_cases hh : (f1 == 6 || f1 == 7) = true
                  · rw [if_pos (show holdsI ⟨(d : Int), f1, f2, f3, f4⟩ = true from hh)] at hF
                    have HDL : Aside0 (((lv6.map fun y => y.g).length + 1) * 8 ≤ 140737488355328) := ⟨by rw [List.length_map, HN6.out]; omega⟩
                    by_cases hdp : (64 : Int) ≤ (d : Int)
                    · rw [if_pos hdp] at hF
                      have HR := Aside0.mk (Option.some.inj hF)
                      clear hF
                      go_wp2_with (first
                        | (go_at_call 65; refine (holds_calls ⟨(d : Int), f1, f2, f3, f4⟩ w6).mono ?_; rintro e w7 ⟨rfl, hb7⟩; have HI7 := Aside0.mk (itm_below HI6.out hb7); have HS7 := Aside0.mk (HS6.out.quiet hb7); clear hb7 hm0 hm1 hm2 hm3 hm4; obtain ⟨hm0, hm1, hm2, hm3, hm4⟩ := itm_cells HI7.out)
                        | (at_builtin; refine Kd.R_append kptr (w0 := w) (W := w7.alloc (.cells #[.int .i64 f1, .slice none 0 0] 85)) w.heap.size rfl (.tmp 71) (.tmp 76) 86 82 (.pointer none) 8 rfl Tryd.underlying86 info82 rfl (by decide) (by decide) (.slice (some ⟨G, 0, none⟩) (d + 1) cc) (lv6.map fun y => y.g) w7.heap.size [.pointer (some ⟨w7.heap.size, 0, none⟩)] (fun _ => True) (fun _ => False) rfl (congrArg (fun q => Value.slice (some ⟨q, 0, none⟩) 1 1) (alloc_size w7 _).symm) rfl (fun _ h => h.elim) (fun _ _ => trivial) (HS7.out.quiet (below_alloc (Below.refl _ _) _)).row (HS7.out.quiet (below_alloc (Below.refl _ _) _)).below (HS7.out.quiet (below_alloc (Below.refl _ _) _)).below.size HDL.out ?_; intro v9 w9 hO9 hB9 hg9 hA9; have HS9 := Aside0.mk (Sk.push HS7.out f1 hO9 hB9 hg9); have HI9 := Aside0.mk (itm_push HS7.out HI7.out hg9); clear hO9 hB9 hg9 hA9 hm0 hm1 hm2 hm3 hm4; obtain ⟨hm0, hm1, hm2, hm3, hm4⟩ := itm_cells HI9.out)
                        | (go_at_call 65; refine (holds_calls ⟨(d : Int), f1, f2, f3, f4⟩ w9).mono ?_; rintro e w8 ⟨rfl, hb8⟩; have HI8 := Aside0.mk (itm_below HI9.out hb8); have HS8 := Aside0.mk (HS9.out.quiet hb8); clear hb8 hm0 hm1 hm2 hm3 hm4; obtain ⟨hm0, hm1, hm2, hm3, hm4⟩ := itm_cells HI8.out))
                      go_ret
                      exact ⟨by rw [← HR.out]; rfl, HS8.out.below⟩
                    · rw [if_neg hdp] at hF
                      have HF := Aside0.mk hF
                      clear hF
                      go_wp2_with (first
                        | (go_at_call 65; refine (holds_calls ⟨(d : Int), f1, f2, f3, f4⟩ w6).mono ?_; rintro e w7 ⟨rfl, hb7⟩; have HI7 := Aside0.mk (itm_below HI6.out hb7); have HS7 := Aside0.mk (HS6.out.quiet hb7); clear hb7 hm0 hm1 hm2 hm3 hm4; obtain ⟨hm0, hm1, hm2, hm3, hm4⟩ := itm_cells HI7.out)
                        | (at_builtin; refine Kd.R_append kptr (w0 := w) (W := w7.alloc (.cells #[.int .i64 f1, .slice none 0 0] 85)) w.heap.size rfl (.tmp 71) (.tmp 76) 86 82 (.pointer none) 8 rfl Tryd.underlying86 info82 rfl (by decide) (by decide) (.slice (some ⟨G, 0, none⟩) (d + 1) cc) (lv6.map fun y => y.g) w7.heap.size [.pointer (some ⟨w7.heap.size, 0, none⟩)] (fun _ => True) (fun _ => False) rfl (congrArg (fun q => Value.slice (some ⟨q, 0, none⟩) 1 1) (alloc_size w7 _).symm) rfl (fun _ h => h.elim) (fun _ _ => trivial) (HS7.out.quiet (below_alloc (Below.refl _ _) _)).row (HS7.out.quiet (below_alloc (Below.refl _ _) _)).below (HS7.out.quiet (below_alloc (Below.refl _ _) _)).below.size HDL.out ?_; intro v9 w9 hO9 hB9 hg9 hA9; have HS9 := Aside0.mk (Sk.push HS7.out f1 hO9 hB9 hg9); have HI9 := Aside0.mk (itm_push HS7.out HI7.out hg9); clear hO9 hB9 hg9 hA9 hm0 hm1 hm2 hm3 hm4; obtain ⟨hm0, hm1, hm2, hm3, hm4⟩ := itm_cells HI9.out)
                        | (go_at_call 65; refine (holds_calls ⟨(d : Int), f1, f2, f3, f4⟩ w9).mono ?_; rintro e w8 ⟨rfl, hb8⟩; have HI8 := Aside0.mk (itm_below HI9.out hb8); have HS8 := Aside0.mk (HS9.out.quiet hb8); clear hb8 hm0 hm1 hm2 hm3 hm4; obtain ⟨hm0, hm1, hm2, hm3, hm4⟩ := itm_cells HI8.out))
                      go_roundg (l.length - (j + 1))
                      case measure => omega
                      case rel => exact ⟨j + 1, lv6 ++ [(⟨w7.heap.size, f1, .slice none 0 0, []⟩ : Level)], rfl, hlt, by go_num, HS8, ⟨by rw [List.map_append, HM6.out, List.append_assoc]; exact HF.out⟩, ⟨by rw [List.length_append, HN6.out, List.length_singleton]; omega⟩⟩
                  · rw [if_neg (show ¬ holdsI ⟨(d : Int), f1, f2, f3, f4⟩ = true from hh)] at hF
                    have hh := Bool.eq_false_iff.2 hh
                    have HF := Aside0.mk hF
                    clear hF
                    go_wp2_with (first
                      | (go_at_call 65; refine (holds_calls ⟨(d : Int), f1, f2, f3, f4⟩ w6).mono ?_; rintro e w7 ⟨rfl, hb7⟩; have HI7 := Aside0.mk (itm_below HI6.out hb7); have HS7 := Aside0.mk (HS6.out.quiet hb7); clear hb7 hm0 hm1 hm2 hm3 hm4; obtain ⟨hm0, hm1, hm2, hm3, hm4⟩ := itm_cells HI7.out)
                      | (go_at_call 65; refine (holds_calls ⟨(d : Int), f1, f2, f3, f4⟩ w7).mono ?_; rintro e w8 ⟨rfl, hb8⟩; have HI8 := Aside0.mk (itm_below HI7.out hb8); have HS8 := Aside0.mk (HS7.out.quiet hb8); clear hb8 hm0 hm1 hm2 hm3 hm4; obtain ⟨hm0, hm1, hm2, hm3, hm4⟩ := itm_cells HI8.out))
                    go_roundg (l.length - (j + 1))
                    case measure => omega
                    case rel => exact ⟨j + 1, lv6, rfl, hlt, by go_num, HS8, ⟨by rw [HM6.out]; exact HF.out⟩, ⟨by rw [HN6.out]; omega⟩⟩
    · have hjl2 : l.drop j = [] := List.drop_eq_nil_of_le (by omega)
      have hF := HF.out
      rw [hjl2, rightF] at hF
      have HR := Aside0.mk (Option.some.inj hF)
      have HJ := Aside0.mk hjl2
      clear HF hF hjl2
      have hjl3 : ¬ (j : Int) < (l.length : Int) := by omega
      go_wp2_with fail
      go_ret
      exact ⟨by rw [← HR.out, Bool.true_and]; rfl, HS.out.below⟩
end Go.Proofs.YthhmmaihbjhhgaaDoor.Giv
namespace Go.Proofs.YthhmmaihbjhhgaaDoor.Giv
open Go.RowKit Go.Proofs.YthhmmaihbjhhgaaDoorW.PrintWords Go.Proofs.YthhmmaihbjhhgaaDoorW.PrintLast Go.Proofs.YthhmmaihbjhhgaaDoorW.PrintMore
open Go.Proofs.YthhmmaihbjhhgaaDoor.U1 Go.Proofs.YthhmmaihbjhhgaaDoor.Q1 Go.Proofs.YthhmmaihbjhhgaaDoor.J0 Go.Proofs.YthhmmaihbjhhgaaDoor.J1
set_option linter.unusedSimpArgs false
theorem size68 : (Tryd.prog.info? 68).map (·.size) = some 2 := by kernel_rfl
theorem lies68 : liesAt Tryd.prog Tryd.prog.depth 99 (3 / Tryd.prog.cellsOf 99) 0 68 1 = true := by kernel_rfl
set_option maxHeartbeats 1000000 in
set_option maxRecDepth 100000 in
theorem copy_used (b : Nat) (w : World) (h0 : w.cell? ⟨b, 0, none⟩ = some (.pointer (some ⟨b, 0, none⟩))) :
    Calls Tryd.prog 80 #[.pointer (some ⟨b, 0, none⟩)] w fun e w' => e = .returned (.tuple #[]) ∧ w' = w := by
  obtain ⟨j, hj, _⟩ := Option.map_eq_some_iff.1 size68
  go_enter Tryd.func80, Tryd.ntmps80
  go_wp2
  rw [Lib.run_neq_ptr_same w _ Tryd.underlying66 hj]
  go_wp2
  go_end0
  exact ⟨rfl, rfl⟩
set_option maxHeartbeats 1000000 in
set_option maxRecDepth 100000 in
theorem copy_fresh (b : Nat) (w : World) (h0 : w.cell? ⟨b, 0, none⟩ = some (.pointer none)) (hsh : w.shape? b = some (99, 3)) (hfz : w.frozen? ⟨b, 0, none⟩ = false) :
    Calls Tryd.prog 80 #[.pointer (some ⟨b, 0, none⟩)] w fun e w' => e = .returned (.tuple #[]) ∧ w' = w.setCell ⟨b, 0, none⟩ (.pointer (some ⟨b, 0, none⟩)) := by
  obtain ⟨j, hj, hjs⟩ := Option.map_eq_some_iff.1 size68
  go_enter Tryd.func80, Tryd.ntmps80
  go_wp2
  rw [Lib.run_to_unsafe w ⟨b, 0, none⟩ Tryd.underlying66 Tryd.underlying127 hj (by rw [hjs]; decide) hsh (Nat.zero_lt_succ 2)]
  simp only [Result.andThen]
  rw [Oper.upon_value]
  go_wp2
  rw [run_callFunc_extern Tryd.func96 (by kernel_rfl) (by kernel_rfl) (by kernel_rfl) (e := Extern.AbiNoEscape.same) (by kernel_rfl)]
  rw [Lib.run_noEscape]
  simp only [Result.andThen]
  rw [Oper.upon_value]
  go_wp2
  rw [Lib.run_from_unsafe w ⟨b, 0, none⟩ Tryd.underlying127 Tryd.underlying66 hj hsh lies68]
  simp only [Result.andThen]
  rw [Oper.upon_value]
  go_wp2
  go_end0
  exact ⟨rfl, rfl⟩
def toI (l : List UInt8) : List Int := l.map fun x => (x.toNat : Int)
/-- a writer: its block; the row of what was written; the row of what closes -/
structure WS (B g : Nat) (W : World) (bs ends : List UInt8) : Prop where
  at_ : ∃ p v ev, (p = .pointer none ∨ p = .pointer (some ⟨g, 0, none⟩)) ∧ W.heap[g]? = some (.cells #[p, v, ev] 99 (0, 0)) ∧ Kd.R (Kd.int .u8) 5 W B (fun k => k ≠ g) v (toI bs) ∧ Kd.R (Kd.int .u8) 5 W B (fun k => k ≠ g ∧ some k ≠ v.ownBlock) ev (toI ends)
  base : B ≤ g
/-- what a writer's call leaves alone: all blocks but its own and rows of bytes -/
def WK (g : Nat) (W W' : World) : Prop := W.heap.size ≤ W'.heap.size ∧ ∀ k, k < W.heap.size → k ≠ g → (∀ c z, W.heap[k]? ≠ some (.cells c 5 z)) → W'.heap[k]? = W.heap[k]?
theorem WK.refl (g : Nat) (W : World) : WK g W W := ⟨Nat.le_refl _, fun _ _ _ _ => rfl⟩
theorem WK.trans {g : Nat} {W W1 W2 : World} (h : WK g W W1) (h2 : WK g W1 W2) : WK g W W2 :=
  ⟨Nat.le_trans h.1 h2.1, fun k hk hg hc => (h2.2 k (Nat.lt_of_lt_of_le hk h.1) hg (by rw [h.2 k hk hg hc]; exact hc)).trans (h.2 k hk hg hc)⟩
theorem WK.of_keep {g : Nat} {W W1 : World} (h : KeepBut W W1 g none) : WK g W W1 := ⟨h.1, fun k hk hg _ => h.2 k hk hg (by simp)⟩
theorem WK.of_below {g : Nat} {W W1 : World} (h : Below W.heap.size W W1) : WK g W W1 := WK.of_keep (KeepBut.of_below h g none)
theorem WK.of_grown {g : Nat} {W W1 : World} {row : Option Nat} (h : W.grownBy W1 row) (ht : ∀ k, row = some k → ∃ c, W.heap[k]? = some (.cells c 5 (0, 0))) : WK g W W1 :=
  ⟨h.size, fun k hk _ hc => h.block k hk (fun e => by obtain ⟨c, h5⟩ := ht k e.symm; exact hc c _ h5)⟩
theorem WK.set_ {g : Nat} {W W1 : World} (h : WK g W W1) (j : Nat) (u : Value) : WK g W (W1.setCell ⟨g, j, none⟩ u) :=
  ⟨by simpa [World.setCell] using h.1, fun k hk hg hc => (Below.heap_setCell W1 ⟨g, j, none⟩ u k hg).trans (h.2 k hk hg hc)⟩
theorem WK.blk {g k : Nat} {W W1 : World} {c : Array Value} {t : TypeId} (h : WK g W W1) (hb : W.heap[k]? = some (.cells c t (0, 0))) (hg : k ≠ g) (ht : t ≠ 5) : W1.heap[k]? = some (.cells c t (0, 0)) :=
  (h.2 k (blk_lt hb) hg (fun c2 z e => by rw [hb] at e; injection e with e; injection e with _ e; exact ht e)).trans hb
theorem WS.quiet {B g : Nat} {W W1 : World} {bs ends : List UInt8} (h : WS B g W bs ends) (hb : Below W.heap.size W W1) : WS B g W1 bs ends := by
  obtain ⟨p, v, ev, hp, hk, hv, he⟩ := h.at_
  exact ⟨⟨p, v, ev, hp, (hb.block g (blk_lt hk)).trans hk, Kd.R_below hv hb, Kd.R_below he hb⟩, h.base⟩
theorem WS.lt {B g : Nat} {W : World} {bs ends : List UInt8} (h : WS B g W bs ends) : g < W.heap.size := by
  obtain ⟨p, v, ev, hp, hk, hv, he⟩ := h.at_
  exact blk_lt hk
theorem ws_copy {B g : Nat} {bs ends : List UInt8} {W : World} (h : WS B g W bs ends) :
    Calls Tryd.prog 80 #[.pointer (some ⟨g, 0, none⟩)] W fun e w' => e = .returned (.tuple #[]) ∧ ((∃ v ev, w'.heap[g]? = some (.cells #[.pointer (some ⟨g, 0, none⟩), v, ev] 99 (0, 0)) ∧ Kd.R (Kd.int .u8) 5 w' B (fun k => k ≠ g) v (toI bs) ∧ Kd.R (Kd.int .u8) 5 w' B (fun k => k ≠ g ∧ some k ≠ v.ownBlock) ev (toI ends)) ∧ Below B W w' ∧ KeepBut W w' g none) := by
  obtain ⟨⟨p, v, ev, hp, hb, hv, he⟩, hB⟩ := h
  rcases hp with rfl | rfl
  · refine (copy_fresh g W ((blk_cell hb 0).trans rfl) (by simp [World.shape?, hb]) (blk_frozen hb 0)).mono ?_
    rintro e w' ⟨rfl, rfl⟩
    have hk : KeepBut W (W.setCell ⟨g, 0, none⟩ (.pointer (some ⟨g, 0, none⟩))) g none := KeepBut.set_ (KeepBut.refl W g none) 0 _
    exact ⟨rfl, ⟨v, ev, blk_set hb 0 _, Kd.R_keep hv hk (fun _ h => h), Kd.R_keep he hk (fun _ h => h.1)⟩, (Below.refl B W).setCell (p := ⟨g, 0, none⟩) hB _, hk⟩
  · refine (copy_used g W ((blk_cell hb 0).trans rfl)).mono ?_
    rintro e w' ⟨rfl, rfl⟩
    exact ⟨rfl, ⟨v, ev, hb, hv, he⟩, Below.refl _ _, KeepBut.refl _ _ _⟩
theorem info5 : (Tryd.prog.info? 5).map (fun i => (i.zero, i.size, i.bytes)) = some (some (.int .u8 0), 1, 1) := by kernel_rfl
/-- behind an append to what was written -/
theorem ws_grown {B g : Nat} {W W1 : World} {v ev v1 : Value} {bs ends bs1 : List UInt8} {p : Value} (hp : p = .pointer (some ⟨g, 0, none⟩)) (hB : B ≤ g) (hk : W.heap[g]? = some (.cells #[p, v, ev] 99 (0, 0))) (hv : Kd.R (Kd.int .u8) 5 W B (fun k => k ≠ g) v (toI bs)) (he : Kd.R (Kd.int .u8) 5 W B (fun k => k ≠ g ∧ some k ≠ v.ownBlock) ev (toI ends))
    (hO : Kd.R (Kd.int .u8) 5 W1 B (fun k => k ≠ g) v1 (toI bs1)) (hG : W.grownBy W1 v.ownBlock) (hA : v1.ownBlock = v.ownBlock ∨ ∃ b, v1.ownBlock = some b ∧ W.heap.size ≤ b) :
    WS B g (W1.setCell ⟨g, 1, none⟩ v1) bs1 ends ∧ WK g W (W1.setCell ⟨g, 1, none⟩ v1) := by
  have hng : some g ≠ v.ownBlock := fun e => hv.1 g e.symm rfl
  have hk1 := blk_grown hk hG hng
  have hel := Kd.R_lt he
  refine ⟨⟨⟨p, v1, ev, .inr hp, blk_set hk1 1 _, Kd.R_far hO (fun _ h => h) _, Kd.R_far ?_ (fun _ h => h.1) _⟩, hB⟩, (WK.of_grown hG (fun k e => Kd.R_typed hv k e)).set_ 1 _⟩
  refine Kd.R_reok rfl (Kd.R_grown he hG (fun _ h => h.2)) (fun k e => ⟨(he.1 k e).1, ?_⟩)
  rcases hA with hA | ⟨b, hA, hb⟩
  · rw [hA]; exact (he.1 k e).2
  · rw [hA]
    intro e2
    have := hel k e
    injection e2 with e2
    omega
theorem toI_len (l : List UInt8) : (toI l).length = l.length := List.length_map _
theorem toI_app (a b : List UInt8) : toI (a ++ b) = toI a ++ toI b := List.map_append
theorem own_slice {W : World} {B e s n : Nat} {v : Value} {xs : List Value} (h : W.ownsRow B e s v n xs) : ∃ A m c, v = .slice A m c := by
  rcases h.2 with h2 | ⟨g, cap, cur, rfl, _⟩
  · exact ⟨none, 0, 0, h2.1⟩
  · exact ⟨_, _, _, rfl⟩
theorem byteCells_app (a b : List UInt8) : Lib.byteCells (a ++ b) = Lib.byteCells a ++ Lib.byteCells b := by unfold Lib.byteCells; exact List.map_append
/-- a string behind a row: the row is the old one or a new one -/
theorem app_str (w : World) (B : Nat) (ty : TypeId) (v : Value) (bs : List UInt8) (hown : w.ownsRow B 5 1 v bs.length (Lib.byteCells bs)) (s : ByteArray) (hl : bs.length + s.size ≤ 140737488355328) (hB : B ≤ w.heap.size) :
    ∃ v' w', (Builtin.append_ #[43, 9] ty #[v, .string s]).run Tryd.prog w = .ok v' w' ∧ w'.ownsRow B 5 1 v' (bs.length + s.size) (Lib.byteCells bs ++ Lib.strCells s) ∧ w.grownBy w' v.ownBlock ∧ (v'.ownBlock = v.ownBlock ∨ ∃ b, v'.ownBlock = some b ∧ w.heap.size ≤ b) := by
  obtain ⟨i5, hi, hz, hs, hb⟩ := info_parts info5
  obtain ⟨v', w', hr, h1, h2, h3⟩ := Lib.run_append_own_string (P := Tryd.prog) w B 43 9 ty 5 i5 Tryd.underlying43 Tryd.underlying9 hi hz hs hb v bs.length (Lib.byteCells bs) hown s (by unfold maxLen; omega) hl hB
  refine ⟨v', w', hr, h1, h2, ?_⟩
  rcases hown.2 with ⟨rfl, h0⟩ | ⟨g, cap, cur, rfl, hbg, hg, hnc, hcm, hcs, htake⟩
  · by_cases hm : s.size = 0
    · rw [h3.2 ⟨rfl, hm⟩]; exact .inl rfl
    · have hq := run_append_nil_string (P := Tryd.prog) w 43 9 ty 5 i5 (.int .u8 0) Tryd.underlying43 Tryd.underlying9 hi hz s (by omega) (by omega) (by rw [hb]; omega)
      rw [hr] at hq
      injection hq with hq _
      rw [hq]
      exact .inr ⟨_, rfl, Nat.le_refl _⟩
  · by_cases hroom : bs.length + s.size ≤ cap
    · have hq := Lib.run_append_room_string (P := Tryd.prog) w 43 9 ty 5 i5 Tryd.underlying43 Tryd.underlying9 hi hs g bs.length cap cur hg s hroom (by rw [hcs]; omega)
      rw [hr] at hq
      injection hq with hq _
      rw [hq]
      exact .inl rfl
    · have hq := Lib.run_append_grow_string (P := Tryd.prog) w 43 9 ty 5 i5 (.int .u8 0) Tryd.underlying43 Tryd.underlying9 hi hz ⟨g, 0, none⟩ bs.length cap (Lib.byteCells bs) (by rw [hs]; exact hown.1) (hown.cells (g := g) rfl) s (by omega) (by omega) (by rw [hb]; exact growslice_fits (by omega) (by omega))
      rw [hr] at hq
      injection hq with hq _
      rw [hq]
      exact .inr ⟨_, rfl, Nat.le_refl _⟩
set_option maxHeartbeats 2000000 in
set_option maxRecDepth 100000 in
theorem ws_byte (B g : Nat) (bs ends : List UInt8) (c : UInt8) (W : World) (h : WS B g W bs ends) (hlen : bs.length + 1 ≤ 140737488355328) (hBw : B ≤ W.heap.size) :
    Calls Tryd.prog 57 #[.pointer (some ⟨g, 0, none⟩), .int .u8 (c.toNat : Int)] W fun e w' => e = .returned .nilIface ∧ WS B g w' (bs ++ [c]) ends ∧ Below B W w' ∧ WK g W w' := by
  have H := Aside0.mk h
  have HL := Aside0.mk hlen
  have HBw := Aside0.mk hBw
  clear h hlen hBw
  go_enter Tryd.func57, Tryd.ntmps57
  go_wp2_with (first
    | (go_at_call 80; refine (ws_copy H.out).mono ?_; rintro e w1 ⟨rfl, ⟨v, ev, hk1, hv1, he1⟩, hb1, hkk⟩; have c1 : w1.cell? ⟨g, 1, none⟩ = some v := (blk_cell hk1 1).trans rfl; have HK1 := Aside0.mk hk1; have HV1 := Aside0.mk hv1; have HE1 := Aside0.mk he1; have HB1 := Aside0.mk hb1; have HKK := Aside0.mk hkk; clear hk1 hv1 he1 hb1 hkk)
    | (at_builtin; refine Kd.R_append (Kd.int .u8) (w0 := W) (W := w1) B rfl (.tmp 11) (.tmp 13) 43 5 (.int .u8 0) 1 rfl Tryd.underlying43 info5 rfl (by decide) (by decide) v (toI bs) (c.toNat : Int) [.int .u8 (c.toNat : Int)] (fun k => k ≠ g) (fun _ => False) rfl rfl rfl (fun _ h => h.elim) (fun k hk => by have := blk_lt HK1.out; omega) HV1.out HB1.out (Nat.le_trans HBw.out HB1.out.size) (by rw [toI_len]; have := HL.out; omega) ?_; intro v2 w2 hO2 hB2 hG2 hA2; have HW := Aside0.mk (ws_grown (bs1 := bs ++ [c]) rfl H.out.base HK1.out HV1.out HE1.out (by rw [toI_app]; exact hO2) hG2 hA2); have HB2 := Aside0.mk hB2; have hk2 := blk_grown HK1.out hG2 (fun e => HV1.out.1 g e.symm rfl); have d0 : w2.cell? ⟨g, 0, none⟩ = some (.pointer (some ⟨g, 0, none⟩)) := (blk_cell hk2 0).trans rfl; have d1 : w2.cell? ⟨g, 1, none⟩ = some v := (blk_cell hk2 1).trans rfl; have f1 : w2.frozen? ⟨g, 1, none⟩ = false := blk_frozen hk2 1; obtain ⟨As, n2, cc, hv2⟩ := own_slice (Kd.own_of_R hO2); subst hv2; clear hO2 hB2 hG2 hA2 hk2))
  go_ret
  exact ⟨rfl, HW.out.1, HB2.out.setCell (p := ⟨g, 1, none⟩) H.out.base _, (WK.of_keep HKK.out).trans HW.out.2⟩
theorem encs_cells (l : List UInt8) : Go.Proofs.YthhmmaihbjhhgaaDoorW.PrintWords.encs (Value.int .u8) (toI l) = Lib.byteCells l := by
  unfold Go.Proofs.YthhmmaihbjhhgaaDoorW.PrintWords.encs toI Lib.byteCells
  rw [List.map_map]; rfl
theorem strCells_list (s : ByteArray) : Lib.strCells s = Lib.byteCells s.data.toList := by
  unfold Lib.strCells Lib.byteCells; rfl
theorem own_R {W : World} {B : Nat} {ok : Nat → Prop} {v : Value} {l : List UInt8} (h : Kd.R (Kd.int .u8) 5 W B ok v (toI l)) : W.ownsRow B 5 1 v l.length (Lib.byteCells l) := by
  have := Kd.own_of_R h
  rw [encs_cells, toI_len] at this
  exact this
theorem R_own8 {W : World} {B : Nat} {ok : Nat → Prop} {v : Value} {l : List UInt8} (h : W.ownsRow B 5 1 v l.length (Lib.byteCells l)) (hok : ∀ k, v.ownBlock = some k → ok k) : Kd.R (Kd.int .u8) 5 W B ok v (toI l) :=
  Kd.R_of_own (by rw [encs_cells, toI_len]; exact h) hok
set_option maxHeartbeats 2000000 in
set_option maxRecDepth 100000 in
theorem ws_str (B g : Nat) (bs ends : List UInt8) (s : ByteArray) (W : World) (h : WS B g W bs ends) (hlen : bs.length + s.size ≤ 140737488355328) (hBw : B ≤ W.heap.size) :
    Calls Tryd.prog 54 #[.pointer (some ⟨g, 0, none⟩), .string s] W fun e w' => e = .returned (.tuple #[.int .i64 s.size, .nilIface]) ∧ WS B g w' (bs ++ s.data.toList) ends ∧ Below B W w' ∧ WK g W w' := by
  obtain ⟨i5, hi5, hz5, hs5, hb5⟩ := info_parts info5
  have H := Aside0.mk h
  have HL := Aside0.mk hlen
  have HBw := Aside0.mk hBw
  have HI := Aside0.mk hi5
  have HZ := Aside0.mk hz5
  have HS5 := Aside0.mk hs5
  have HB5 := Aside0.mk hb5
  clear h hlen hBw hi5 hz5 hs5 hb5
  go_enter Tryd.func54, Tryd.ntmps54
  go_wp2_with (first
    | (go_at_call 80; refine (ws_copy H.out).mono ?_; rintro e w1 ⟨rfl, ⟨v, ev, hk1, hv1, he1⟩, hb1, hkk⟩; have c1 : w1.cell? ⟨g, 1, none⟩ = some v := (blk_cell hk1 1).trans rfl; have HK1 := Aside0.mk hk1; have HV1 := Aside0.mk hv1; have HE1 := Aside0.mk he1; have HB1 := Aside0.mk hb1; have HKK := Aside0.mk hkk; clear hk1 hv1 he1 hb1 hkk)
    | (at_builtin; obtain ⟨v2, w2, hr2, hO2, hG2, hA2⟩ := app_str w1 B 43 v bs (own_R HV1.out) s HL.out (Nat.le_trans HBw.out HB1.out.size); refine Lib.wpList_append_run w1 rfl (.tmp 12) (.tmp 13) 43 9 rfl v (.string s) rfl rfl v2 w2 hr2 ?_; have hok2 : ∀ k, v2.ownBlock = some k → k ≠ g := (fun k e => hA2.elim (fun q => HV1.out.1 k (q ▸ e)) (fun ⟨b, q, hb⟩ => by rw [q] at e; injection e with e; have := blk_lt HK1.out; omega)); have HW := Aside0.mk (ws_grown (bs1 := bs ++ s.data.toList) rfl H.out.base HK1.out HV1.out HE1.out (R_own8 (by rw [List.length_append, data_length, byteCells_app, ← strCells_list]; exact hO2) hok2) hG2 hA2); have HB2 := Aside0.mk (HB1.out.grown hG2 (Nat.le_trans HBw.out HB1.out.size) (fun k hk => Kd.R_base HV1.out k hk)); have hk2 := blk_grown HK1.out hG2 (fun e => HV1.out.1 g e.symm rfl); have d0 : w2.cell? ⟨g, 0, none⟩ = some (.pointer (some ⟨g, 0, none⟩)) := (blk_cell hk2 0).trans rfl; have d1 : w2.cell? ⟨g, 1, none⟩ = some v := (blk_cell hk2 1).trans rfl; have f1 : w2.frozen? ⟨g, 1, none⟩ = false := blk_frozen hk2 1; obtain ⟨As, n2, cc, hv2⟩ := own_slice hO2; subst hv2; clear hr2 hO2 hG2 hA2 hk2 hok2))
  go_ret2
  exact ⟨rfl, HW.out.1, HB2.out.setCell (p := ⟨g, 1, none⟩) H.out.base _, (WK.of_keep HKK.out).trans HW.out.2⟩
set_option maxHeartbeats 1000000 in
set_option maxRecDepth 100000 in
theorem ws_text (B g : Nat) (bs ends : List UInt8) (W : World) (h : WS B g W bs ends) (h0 : bs ≠ []) (hlen : bs.length ≤ 140737488355328) :
    Calls Tryd.prog 55 #[.pointer (some ⟨g, 0, none⟩)] W fun e w' => e = .returned (.string ⟨bs.toArray⟩) ∧ Below B W w' := by
  obtain ⟨⟨p, v, ev, hp, hk, hv, he⟩, hB⟩ := h
  have hown := own_R hv
  have hl0 : bs.length ≠ 0 := by simpa using h0
  obtain ⟨gg, cap, cur, rfl, hbg, hg, hnc, hcm, hcs, htake⟩ : ∃ gg cap cur, v = .slice (some ⟨gg, 0, none⟩) bs.length cap ∧ B ≤ gg ∧ W.heap[gg]? = some (.cells cur 5 (0, 0)) ∧ bs.length ≤ cap ∧ cap ≤ maxLen ∧ cur.size = cap * 1 ∧ cur.toList.take (bs.length * 1) = Lib.byteCells bs := by
    rcases hown.2 with ⟨_, hz⟩ | ⟨gg, cap, cur, hv, r⟩
    · exact absurd hz hl0
    · exact ⟨gg, cap, cur, hv, r⟩
  have c1 : W.drew.cell? ⟨g, 1, none⟩ = some (.slice (some ⟨gg, 0, none⟩) bs.length cap) := (blk_cell hk 1).trans rfl
  have hSD : (Builtin.unsafeSliceData_ #[43] 107 #[.slice (some ⟨gg, 0, none⟩) bs.length cap]).run Tryd.prog W.drew = .ok (.pointer (some ⟨gg, 0, none⟩)) W.drew :=
    Lib.run_unsafeSliceData_row _ _ _ _ _ _ (by omega)
  have hUS : (Builtin.unsafeString_ #[107, 3] 9 #[.pointer (some ⟨gg, 0, none⟩), .int .i64 bs.length]).run Tryd.prog W.drew = .ok (.string ⟨bs.toArray⟩) (W.drew.freeze ⟨gg, 0, none⟩ bs.length) := by
    refine Lib.run_unsafeString_row W.drew 107 3 9 5 Tryd.underlying107 (by kernel_rfl) gg cur.size (by have hg' : W.drew.heap[gg]? = some (.cells cur 5 (0, 0)) := hg; simp [World.shape?, hg']) bs h0 (by omega) (by omega) ?_
    intro j x hx
    have := hown.cells (g := gg) rfl j (.int .u8 x.toNat) (by simp [Lib.byteCells, hx])
    exact this
  go_enter Tryd.func55, Tryd.ntmps55
  go_wp2
  go_region
  all_goals (go_wp2; go_ret; exact ⟨rfl, Lib.below_freeze (Below.drew (Below.refl B W)) (p := ⟨gg, 0, none⟩) hbg _⟩)
end Go.Proofs.YthhmmaihbjhhgaaDoor.Giv
namespace Go.Proofs.YthhmmaihbjhhgaaDoor.Giv
open Go.RowKit Go.Proofs.YthhmmaihbjhhgaaDoorW.PrintWords Go.Proofs.YthhmmaihbjhhgaaDoorW.PrintLast Go.Proofs.YthhmmaihbjhhgaaDoorW.PrintMore
open Go.Proofs.YthhmmaihbjhhgaaDoor.U1 Go.Proofs.YthhmmaihbjhhgaaDoor.Q1 Go.Proofs.YthhmmaihbjhhgaaDoor.J0 Go.Proofs.YthhmmaihbjhhgaaDoor.J1
set_option linter.unusedSimpArgs false
theorem toI_get (l : List UInt8) (q : Nat) (h : q < l.length) : rdOf (0 : Int) (toI l) (q : Int) = ((l.getD q 0).toNat : Int) := by
  unfold rdOf toI
  simp [List.getD, h]
/-- the last of what closes, and its row -/
theorem WS.top {B g q : Nat} {W : World} {bs ends : List UInt8} (h : WS B g W bs ends) (hq : ends.length = q + 1) :
    ∃ gg cc, W.cell? ⟨g, 2, none⟩ = some (.slice (some ⟨gg, 0, none⟩) (q + 1) cc) ∧ W.cell? ⟨gg, q, none⟩ = some (.int .u8 ((ends.getD q 0).toNat : Int)) ∧ W.frozen? ⟨g, 2, none⟩ = false ∧ q + 1 ≤ cc ∧ WS B g (W.setCell ⟨g, 2, none⟩ (.slice (some ⟨gg, 0, none⟩) q cc)) bs (ends.take q) := by
  obtain ⟨⟨p, v, ev, hp, hk, hv, he⟩, hB⟩ := h
  obtain ⟨gg, cc, hev, _⟩ := Kd.R_form he (by rw [toI_len]; omega)
  rw [toI_len, hq] at hev
  subst hev
  have hcc := (Kd.R_reads' he).2.1
  have hcell := (Kd.R_cell (0 : Int) (by rw [toI_len, hq]; exact he) (q : Int) (by omega) (by rw [toI_len]; omega)).1
  rw [toI_get ends q (by omega), Int.toNat_natCast] at hcell
  refine ⟨gg, cc, (blk_cell hk 2).trans rfl, hcell, blk_frozen hk 2, hcc, ⟨⟨p, v, _, hp, blk_set hk 2 _, Kd.R_far hv (fun _ h => h) _, Kd.R_far ?_ (fun _ h => h.1) _⟩, hB⟩⟩
  have := Kd.R_take (m := q) he (by rw [toI_len]; omega)
  rw [show toI (ends.take q) = (toI ends).take q from List.map_take]
  exact this
theorem WS.len {B g : Nat} {W : World} {bs ends : List UInt8} (h : WS B g W bs ends) : ∃ A cc, W.cell? ⟨g, 2, none⟩ = some (.slice A ends.length cc) := by
  obtain ⟨⟨p, v, ev, hp, hk, hv, he⟩, hB⟩ := h
  obtain ⟨A, cc, hev⟩ := Kd.R_slice he
  rw [toI_len] at hev
  subst hev
  exact ⟨A, cc, (blk_cell hk 2).trans rfl⟩
theorem take_last (l : List UInt8) (q : Nat) (h : q < l.length) : (l.drop q).reverse = (l.drop (q + 1)).reverse ++ [l.getD q 0] := by
  rw [List.drop_eq_getElem_cons h, List.reverse_cons]
  simp [List.getD, h]
theorem WS.drew1 {B g : Nat} {W : World} {bs ends : List UInt8} (h : WS B g W bs ends) : WS B g W.drew bs ends := h.quiet (below_drew1 (Below.refl _ _))
set_option maxHeartbeats 8000000 in
set_option maxRecDepth 100000 in
theorem shut_calls (B g : Nat) (bs ends : List UInt8) (n : Nat) (W : World) (h : WS B g W bs ends) (hn : n ≤ ends.length) (hlen : bs.length + ends.length ≤ 140737488355328) (hBw : B ≤ W.heap.size) :
    Calls Tryd.prog 71 #[.pointer (some ⟨g, 0, none⟩), .int .i64 (n : Int)] W fun e w' => e = .returned (.tuple #[]) ∧ WS B g w' (bs ++ (ends.drop n).reverse) (ends.take n) ∧ Below B W w' ∧ WK g W w' := by
  have H0 := Aside0.mk h
  have HL := Aside0.mk hlen
  have HBw := Aside0.mk hBw
  have hn63 : n ≤ 140737488355328 := by omega
  have HN := Aside0.mk hn
  clear h hlen hBw hn
  go_enter Tryd.func71, Tryd.ntmps71
  go_wp2_with fail
  go_loopg [] ends.length (fun kq wr => ∃ m : Nat, kq = m ∧ n ≤ m ∧ Aside0 (m ≤ ends.length) ∧ Aside0 (WS B g wr (bs ++ (ends.drop m).reverse) (ends.take m)) ∧ Aside0 (Below B W wr) ∧ Aside0 (WK g W wr))
  case atStart => exact ⟨ends.length, rfl, HN.out, ⟨Nat.le_refl _⟩, ⟨by rw [List.drop_length, List.take_length]; simpa using H0.out⟩, ⟨Below.refl _ _⟩, ⟨WK.refl _ _⟩⟩
  case round =>
    clear H0
    obtain ⟨m, hkq, hnm, HM, HS, HB, HK⟩ := hrel
    have HQ := Aside0.mk hkq
    clear hkq
    have hlm : (ends.take m).length = m := by rw [List.length_take]; have := HM.out; omega
    by_cases hlt : n < m
    · obtain ⟨q, rfl⟩ : ∃ q, m = q + 1 := ⟨m - 1, by omega⟩
      obtain ⟨gg, cc, c2, c3, _, _, _⟩ := HS.out.top hlm
      clear hlm
      have hgq : (ends.take (q + 1)).getD q 0 = ends.getD q 0 := by simp [List.getD, List.getElem?_take]
      rw [hgq] at c3
      clear hgq
      have C2 := Aside0.mk c2
      have C3 := Aside0.mk c3
      have HLn : Aside0 ((bs ++ (ends.drop (q + 1)).reverse).length + 1 ≤ 140737488355328) := ⟨by rw [List.length_append, List.length_reverse, List.length_drop]; have := HL.out; have := HM.out; omega⟩
      have hq63 : q + 1 ≤ 140737488355328 := by have := HL.out; have := HM.out; omega
      have hwq : IntKind.i64.wrap (q : Int) = (q : Int) := IntWalk.i64_in (q : Int) ⟨by omega, by omega⟩
      have hq0 : (0 : Int) ≤ (q : Int) := by omega
      have hq1 : (q : Int) < (q : Int) + 1 := by omega
      go_wp2_with fail
      refine start_ (n := 16) (S := fun w' => w'.cell? ⟨g, 2, none⟩ = some (.slice (some ⟨gg, 0, none⟩) (q + 1) cc) ∧ w'.cell? ⟨gg, q, none⟩ = some (.int .u8 ((ends.getD q 0).toNat : Int))) (ds := [15]) #[false, false, false, false, false, false, false, false, false, false, false, false, false, false, false, false] (by kernel_rfl) rfl rfl ⟨C2.out, C3.out⟩ (fun hHeld => ?_)
      refine pure_ (i := 0) (N := some 11) (v := ?_) (a' := ?_) #[true, false, false, false, false, false, false, false, false, false, false, false, false, false, false, false] rfl rfl (by kernel_rfl) (fun _ _ _ h => h) (Or.inl ⟨by rfl, ?_⟩) ?_ ?_
      rotate_left
      · intro w'
        go_simp
        (try with_reducible rfl)
      rotate_left
      · simp only [Act.put, List.setIfInBounds_toArray, List.set_cons_zero, List.set_cons_succ]
        rfl
      refine pure_ (i := 1) (N := some 12) (v := ?_) (a' := ?_) #[true, true, false, false, false, false, false, false, false, false, false, false, false, false, false, false] rfl rfl (by kernel_rfl) (fun _ _ _ h => h) (Or.inl ⟨by rfl, ?_⟩) ?_ ?_
      rotate_left
      · intro w'
        go_simp
        (try with_reducible rfl)
      rotate_left
      · simp only [Act.put, List.setIfInBounds_toArray, List.set_cons_zero, List.set_cons_succ]
        rfl
      refine pure_ (i := 2) (N := some 13) (v := ?_) (a' := ?_) #[true, true, true, false, false, false, false, false, false, false, false, false, false, false, false, false] rfl rfl (by kernel_rfl) (fun _ _ _ h => h) (Or.inl ⟨by rfl, ?_⟩) ?_ ?_
      rotate_left
      · intro w'
        go_simp
        (try with_reducible rfl)
      rotate_left
      · simp only [Act.put, List.setIfInBounds_toArray, List.set_cons_zero, List.set_cons_succ]
        rfl
      refine pure_ (i := 3) (N := some 14) (v := ?_) (a' := ?_) #[true, true, true, true, false, false, false, false, false, false, false, false, false, false, false, false] rfl rfl (by kernel_rfl) (fun _ _ _ h => h) (Or.inl ⟨by rfl, ?_⟩) ?_ ?_
      rotate_left
      · intro w'
        go_simp
        (try with_reducible rfl)
      rotate_left
      · simp only [Act.put, List.setIfInBounds_toArray, List.set_cons_zero, List.set_cons_succ]
        rfl
      refine pure_ (i := 4) (N := some 15) (v := ?_) (a' := ?_) #[true, true, true, true, true, false, false, false, false, false, false, false, false, false, false, false] rfl rfl (by kernel_rfl) (fun _ _ _ h => h) (Or.inl ⟨by rfl, ?_⟩) ?_ ?_
      rotate_left
      · intro w'
        go_simp
        (try with_reducible rfl)
      rotate_left
      · simp only [Act.put, List.setIfInBounds_toArray, List.set_cons_zero, List.set_cons_succ]
        rfl
      refine pure_ (i := 5) (N := some 16) (v := ?_) (a' := ?_) #[true, true, true, true, true, true, false, false, false, false, false, false, false, false, false, false] rfl rfl (by kernel_rfl) (fun _ _ _ h => h) (Or.inl ⟨by rfl, ?_⟩) ?_ ?_
      rotate_left
      · intro w'
        go_simp
        (try with_reducible rfl)
      rotate_left
      · simp only [Act.put, List.setIfInBounds_toArray, List.set_cons_zero, List.set_cons_succ]
        rfl
      refine take_ (i := 6) (N := some 17) (v := ?_) (a' := ?_) #[true, true, true, true, true, true, true, false, false, false, false, false, false, false, false, false] rfl rfl (by kernel_rfl) (fun _ _ _ h => h) (Or.inl ⟨by rfl, ?_⟩) (by assumption) ?_ ?_
      rotate_left
      · intro w hSw
        obtain ⟨hl0, hl1⟩ := hSw
        skip
        go_simp
        (try with_reducible rfl)
      rotate_left
      · simp only [Act.put, List.setIfInBounds_toArray, List.set_cons_zero, List.set_cons_succ]
        rfl
      refine pure_ (i := 7) (N := some 18) (v := ?_) (a' := ?_) #[true, true, true, true, true, true, true, true, false, false, false, false, false, false, false, false] rfl rfl (by kernel_rfl) (fun _ _ _ h => h) (Or.inl ⟨by rfl, ?_⟩) ?_ ?_
      rotate_left
      · intro w'
        go_simp
        (try with_reducible rfl)
      rotate_left
      · simp only [Act.put, List.setIfInBounds_toArray, List.set_cons_zero, List.set_cons_succ]
        rfl
      refine pure_ (i := 8) (N := some 19) (v := ?_) (a' := ?_) #[true, true, true, true, true, true, true, true, true, false, false, false, false, false, false, false] rfl rfl (by kernel_rfl) (fun _ _ _ h => h) (Or.inl ⟨by rfl, ?_⟩) ?_ ?_
      rotate_left
      · intro w'
        go_simp
        (try with_reducible rfl)
      rotate_left
      · simp only [Act.put, List.setIfInBounds_toArray, List.set_cons_zero, List.set_cons_succ]
        rfl
      refine pure_ (i := 9) (N := some 20) (v := ?_) (a' := ?_) #[true, true, true, true, true, true, true, true, true, true, false, false, false, false, false, false] rfl rfl (by kernel_rfl) (fun _ _ _ h => h) (Or.inl ⟨by rfl, ?_⟩) ?_ ?_
      rotate_left
      · intro w'
        go_simp
        (try with_reducible rfl)
      rotate_left
      · simp only [Act.put, List.setIfInBounds_toArray, List.set_cons_zero, List.set_cons_succ]
        rfl
      refine take_ (i := 10) (N := some 21) (v := ?_) (a' := ?_) #[true, true, true, true, true, true, true, true, true, true, true, false, false, false, false, false] rfl rfl (by kernel_rfl) (fun _ _ _ h => h) (Or.inl ⟨by rfl, ?_⟩) (by assumption) ?_ ?_
      rotate_left
      · intro w hSw
        obtain ⟨hl0, hl1⟩ := hSw
        skip
        go_simp
        (try with_reducible rfl)
      rotate_left
      · simp only [Act.put, List.setIfInBounds_toArray, List.set_cons_zero, List.set_cons_succ]
        rfl
      refine pure_ (i := 11) (N := some 22) (v := ?_) (a' := ?_) #[true, true, true, true, true, true, true, true, true, true, true, true, false, false, false, false] rfl rfl (by kernel_rfl) (fun _ _ _ h => h) (Or.inl ⟨by rfl, ?_⟩) ?_ ?_
      rotate_left
      · intro w'
        go_simp
        (try with_reducible rfl)
      rotate_left
      · simp only [Act.put, List.setIfInBounds_toArray, List.set_cons_zero, List.set_cons_succ]
        rfl
      refine pure_ (i := 12) (N := some 23) (v := ?_) (a' := ?_) #[true, true, true, true, true, true, true, true, true, true, true, true, true, false, false, false] rfl rfl (by kernel_rfl) (fun _ _ _ h => h) (Or.inl ⟨by rfl, ?_⟩) ?_ ?_
      rotate_left
      · intro w'
        go_simp
        (try with_reducible rfl)
      rotate_left
      · simp only [Act.put, List.setIfInBounds_toArray, List.set_cons_zero, List.set_cons_succ]
        rfl
      refine pure_ (i := 13) (N := some 24) (v := ?_) (a' := ?_) #[true, true, true, true, true, true, true, true, true, true, true, true, true, true, false, false] rfl rfl (by kernel_rfl) (fun _ _ _ h => h) (Or.inl ⟨by rfl, ?_⟩) ?_ ?_
      rotate_left
      · intro w'
        go_simp
        (try with_reducible rfl)
      rotate_left
      · simp only [Act.put, List.setIfInBounds_toArray, List.set_cons_zero, List.set_cons_succ]
        rfl
      refine take_ (i := 14) (N := some 25) (v := ?_) (a' := ?_) #[true, true, true, true, true, true, true, true, true, true, true, true, true, true, true, false] rfl rfl (by kernel_rfl) (fun _ _ _ h => h) (Or.inl ⟨by rfl, ?_⟩) (by assumption) ?_ ?_
      rotate_left
      · intro w hSw
        obtain ⟨hl0, hl1⟩ := hSw
        skip
        go_simp
        (try with_reducible rfl)
      rotate_left
      · simp only [Act.put, List.setIfInBounds_toArray, List.set_cons_zero, List.set_cons_succ]
        rfl
      refine last_ (i := 15) (N := some 26) #[true, true, true, true, true, true, true, true, true, true, true, true, true, true, true, true] rfl rfl (by kernel_rfl) (by decide) (fun K hK => ?_)
      go_simp
      (go_at_call 57; refine (ws_byte B g _ _ (ends.getD q 0) _ HS.out.drew1 HLn.out (Nat.le_trans HBw.out HB.out.size)).mono ?_; rintro e w2 ⟨rfl, hS2, hB2, hK2⟩); go_wp2_with fail
      have HS2 := Aside0.mk hS2
      have HB2 := Aside0.mk hB2
      have HK2 := Aside0.mk hK2
      clear hS2 hB2 hK2
      refine hK.out _ _ ?_
      clear hK K
      (try simp only [Act.put, List.setIfInBounds_toArray, List.set_cons_zero, List.set_cons_succ])
      refine done_ (by kernel_rfl) ?_
      have hlm2 : (ends.take (q + 1)).length = q + 1 := by rw [List.length_take]; have := HM.out; omega
      obtain ⟨gg2, cc2, d2, _, df, hc2, hS3⟩ := HS2.out.top hlm2
      clear hlm2
      rw [List.take_take, Nat.min_eq_left (Nat.le_succ q)] at hS3
      have D2 := Aside0.mk d2
      have HS3 := Aside0.mk hS3
      have hqc : q ≤ cc2 := by omega
      clear hc2
      clear hS3
      go_wp2_with fail
      refine start_ (n := 15) (S := fun w' => w'.cell? ⟨g, 2, none⟩ = some (.slice (some ⟨gg2, 0, none⟩) (q + 1) cc2) ∧ True) (ds := [14]) #[false, false, false, false, false, false, false, false, false, false, false, false, false, false, false] (by kernel_rfl) rfl rfl ⟨D2.out, trivial⟩ (fun hHeld => ?_)
      refine pure_ (i := 0) (N := some 27) (v := ?_) (a' := ?_) #[true, false, false, false, false, false, false, false, false, false, false, false, false, false, false] rfl rfl (by kernel_rfl) (fun _ _ _ h => h) (Or.inl ⟨by rfl, ?_⟩) ?_ ?_
      rotate_left
      · intro w'
        go_simp
        (try with_reducible rfl)
      rotate_left
      · simp only [Act.put, List.setIfInBounds_toArray, List.set_cons_zero, List.set_cons_succ]
        rfl
      refine pure_ (i := 1) (N := some 28) (v := ?_) (a' := ?_) #[true, true, false, false, false, false, false, false, false, false, false, false, false, false, false] rfl rfl (by kernel_rfl) (fun _ _ _ h => h) (Or.inl ⟨by rfl, ?_⟩) ?_ ?_
      rotate_left
      · intro w'
        go_simp
        (try with_reducible rfl)
      rotate_left
      · simp only [Act.put, List.setIfInBounds_toArray, List.set_cons_zero, List.set_cons_succ]
        rfl
      refine pure_ (i := 2) (N := some 29) (v := ?_) (a' := ?_) #[true, true, true, false, false, false, false, false, false, false, false, false, false, false, false] rfl rfl (by kernel_rfl) (fun _ _ _ h => h) (Or.inl ⟨by rfl, ?_⟩) ?_ ?_
      rotate_left
      · intro w'
        go_simp
        (try with_reducible rfl)
      rotate_left
      · simp only [Act.put, List.setIfInBounds_toArray, List.set_cons_zero, List.set_cons_succ]
        rfl
      refine pure_ (i := 3) (N := some 30) (v := ?_) (a' := ?_) #[true, true, true, true, false, false, false, false, false, false, false, false, false, false, false] rfl rfl (by kernel_rfl) (fun _ _ _ h => h) (Or.inl ⟨by rfl, ?_⟩) ?_ ?_
      rotate_left
      · intro w'
        go_simp
        (try with_reducible rfl)
      rotate_left
      · simp only [Act.put, List.setIfInBounds_toArray, List.set_cons_zero, List.set_cons_succ]
        rfl
      refine take_ (i := 4) (N := some 31) (v := ?_) (a' := ?_) #[true, true, true, true, true, false, false, false, false, false, false, false, false, false, false] rfl rfl (by kernel_rfl) (fun _ _ _ h => h) (Or.inl ⟨by rfl, ?_⟩) (by assumption) ?_ ?_
      rotate_left
      · intro w hSw
        obtain ⟨hl0, hl1⟩ := hSw
        go_simp
        (try with_reducible rfl)
      rotate_left
      · simp only [Act.put, List.setIfInBounds_toArray, List.set_cons_zero, List.set_cons_succ]
        rfl
      refine pure_ (i := 5) (N := some 32) (v := ?_) (a' := ?_) #[true, true, true, true, true, true, false, false, false, false, false, false, false, false, false] rfl rfl (by kernel_rfl) (fun _ _ _ h => h) (Or.inl ⟨by rfl, ?_⟩) ?_ ?_
      rotate_left
      · intro w'
        go_simp
        (try with_reducible rfl)
      rotate_left
      · simp only [Act.put, List.setIfInBounds_toArray, List.set_cons_zero, List.set_cons_succ]
        rfl
      refine pure_ (i := 6) (N := some 33) (v := ?_) (a' := ?_) #[true, true, true, true, true, true, true, false, false, false, false, false, false, false, false] rfl rfl (by kernel_rfl) (fun _ _ _ h => h) (Or.inl ⟨by rfl, ?_⟩) ?_ ?_
      rotate_left
      · intro w'
        go_simp
        (try with_reducible rfl)
      rotate_left
      · simp only [Act.put, List.setIfInBounds_toArray, List.set_cons_zero, List.set_cons_succ]
        rfl
      refine pure_ (i := 7) (N := some 34) (v := ?_) (a' := ?_) #[true, true, true, true, true, true, true, true, false, false, false, false, false, false, false] rfl rfl (by kernel_rfl) (fun _ _ _ h => h) (Or.inl ⟨by rfl, ?_⟩) ?_ ?_
      rotate_left
      · intro w'
        go_simp
        (try with_reducible rfl)
      rotate_left
      · simp only [Act.put, List.setIfInBounds_toArray, List.set_cons_zero, List.set_cons_succ]
        rfl
      refine take_ (i := 8) (N := some 35) (v := ?_) (a' := ?_) #[true, true, true, true, true, true, true, true, true, false, false, false, false, false, false] rfl rfl (by kernel_rfl) (fun _ _ _ h => h) (Or.inl ⟨by rfl, ?_⟩) (by assumption) ?_ ?_
      rotate_left
      · intro w hSw
        obtain ⟨hl0, hl1⟩ := hSw
        go_simp
        (try with_reducible rfl)
      rotate_left
      · simp only [Act.put, List.setIfInBounds_toArray, List.set_cons_zero, List.set_cons_succ]
        rfl
      refine pure_ (i := 9) (N := some 36) (v := ?_) (a' := ?_) #[true, true, true, true, true, true, true, true, true, true, false, false, false, false, false] rfl rfl (by kernel_rfl) (fun _ _ _ h => h) (Or.inl ⟨by rfl, ?_⟩) ?_ ?_
      rotate_left
      · intro w'
        go_simp
        (try with_reducible rfl)
      rotate_left
      · simp only [Act.put, List.setIfInBounds_toArray, List.set_cons_zero, List.set_cons_succ]
        rfl
      refine pure_ (i := 10) (N := some 37) (v := ?_) (a' := ?_) #[true, true, true, true, true, true, true, true, true, true, true, false, false, false, false] rfl rfl (by kernel_rfl) (fun _ _ _ h => h) (Or.inl ⟨by rfl, ?_⟩) ?_ ?_
      rotate_left
      · intro w'
        go_simp
        (try with_reducible rfl)
      rotate_left
      · simp only [Act.put, List.setIfInBounds_toArray, List.set_cons_zero, List.set_cons_succ]
        rfl
      refine pure_ (i := 11) (N := some 38) (v := ?_) (a' := ?_) #[true, true, true, true, true, true, true, true, true, true, true, true, false, false, false] rfl rfl (by kernel_rfl) (fun _ _ _ h => h) (Or.inl ⟨by rfl, ?_⟩) ?_ ?_
      rotate_left
      · intro w'
        go_simp
        (try with_reducible rfl)
      rotate_left
      · simp only [Act.put, List.setIfInBounds_toArray, List.set_cons_zero, List.set_cons_succ]
        rfl
      refine pure_ (i := 12) (N := some 39) (v := ?_) (a' := ?_) #[true, true, true, true, true, true, true, true, true, true, true, true, true, false, false] rfl rfl (by kernel_rfl) (fun _ _ _ h => h) (Or.inl ⟨by rfl, ?_⟩) ?_ ?_
      rotate_left
      · intro w'
        go_simp
        (try with_reducible rfl)
      rotate_left
      · simp only [Act.put, List.setIfInBounds_toArray, List.set_cons_zero, List.set_cons_succ]
        rfl
      refine pure_ (i := 13) (N := some 40) (v := ?_) (a' := ?_) #[true, true, true, true, true, true, true, true, true, true, true, true, true, true, false] rfl rfl (by kernel_rfl) (fun _ _ _ h => h) (Or.inl ⟨by rfl, ?_⟩) ?_ ?_
      rotate_left
      · intro w'
        go_simp
        (try with_reducible rfl)
      rotate_left
      · simp only [Act.put, List.setIfInBounds_toArray, List.set_cons_zero, List.set_cons_succ]
        rfl
      refine last_ (i := 14) (N := none) #[true, true, true, true, true, true, true, true, true, true, true, true, true, true, true] rfl rfl (by kernel_rfl) (by decide) (fun K hK => ?_)
      go_simp
      refine hK.out _ _ ?_
      clear hK K
      (try simp only [Act.put, List.setIfInBounds_toArray, List.set_cons_zero, List.set_cons_succ])
      refine done_ (by kernel_rfl) ?_
      go_wp2_with fail
      go_roundg q
      case measure => have := HQ.out; omega
      case rel => exact ⟨q, rfl, by omega, ⟨by have := HM.out; omega⟩, ⟨by rw [take_last ends q HM.out, ← List.append_assoc]; exact HS3.out.drew1⟩, ⟨below_drew1 (((below_drew1 HB.out).trans HB2.out).setCell (p := ⟨g, 2, none⟩) HS.out.base _)⟩, ⟨(((HK.out.trans (WK.of_below (below_drew1 (Below.refl _ _)))).trans HK2.out).set_ 2 _).trans (WK.of_below (below_drew1 (Below.refl _ _)))⟩⟩
    · obtain rfl : m = n := by omega
      obtain ⟨A, cc, c2⟩ := HS.out.len
      rw [hlm] at c2
      go_wp2_with fail
      go_end0
      exact ⟨rfl, HS.out, HB.out, HK.out⟩
end Go.Proofs.YthhmmaihbjhhgaaDoor.Giv
namespace Go.Proofs.YthhmmaihbjhhgaaDoor.Giv
open Go.RowKit
theorem dig8 (d : Nat) (h : d < 10) : (UInt8.ofNat (48 + d)).toNat = 48 + d := by simp; omega
theorem dec_step (u : Nat) (h : ¬ u < 10) : Lib.decDigits u = Lib.decDigits (u / 10) ++ [UInt8.ofNat (48 + u % 10)] := by
  rw [Lib.decDigits, dif_neg h]
theorem digits_all (n : Nat) : ∀ x ∈ Lib.decDigits n, 48 ≤ x.toNat ∧ x.toNat ≤ 57 := by
  induction n using Nat.strongRecOn with
  | _ u ih =>
    intro x hx
    by_cases h : u < 10
    · rw [Lib.decDigits_one h] at hx
      obtain rfl := List.mem_singleton.1 hx
      rw [dig8 u h]; omega
    · rw [dec_step u h] at hx
      rcases List.mem_append.1 hx with hx | hx
      · exact ih (u / 10) (by omega) x hx
      · obtain rfl := List.mem_singleton.1 hx
        rw [dig8 _ (by omega)]; omega
theorem digits_ne (n : Nat) : Lib.decDigits n ≠ [] := by
  intro e
  have := congrArg List.length e
  rw [Lib.decDigits_length] at this
  have h2 := Lib.nDigits_pos n
  simp at this; omega
theorem nd_le : ∀ (k u : Nat), u < 10 ^ (k + 1) → Lib.nDigits u ≤ k + 1
  | 0, u, h => by rw [Lib.nDigits_small (by simpa using h)]; omega
  | k + 1, u, h => by
    by_cases c : u < 10
    · rw [Lib.nDigits_small c]; omega
    · rw [Nat.pow_succ] at h
      rw [Lib.nDigits_big c]
      have := nd_le k (u / 10) (by omega)
      omega
theorem parse_dec (u : Nat) : u < 18446744073709551616 → ∀ r, Lib.parseUint10 0 (Lib.decDigits u ++ r) = Lib.parseUint10 u r := by
  induction u using Nat.strongRecOn with
  | _ u ih =>
    intro hu r
    by_cases h : u < 10
    · rw [Lib.decDigits_one h, List.cons_append, List.nil_append, Lib.parseUint10, dig8 u h, if_pos (by omega), if_neg (by omega), if_neg (by omega)]
      congr 1; omega
    · rw [dec_step u h, List.append_assoc, ih (u / 10) (by omega) (by omega), List.cons_append, List.nil_append, Lib.parseUint10, dig8 _ (by omega), if_pos (by omega), if_neg (by omega), if_neg (by omega)]
      congr 1; omega
theorem mag_dec (u : Nat) (h : u < 18446744073709551616) : Lib.parseMag (Lib.decDigits u) = .ok u := by
  unfold Lib.parseMag
  rw [if_neg (digits_ne u)]
  have := parse_dec u h []
  rw [List.append_nil] at this
  rw [this]; rfl
theorem atoi_itoa (n : Int) (h : -9223372036854775808 ≤ n ∧ n ≤ 9223372036854775807) : Lib.atoiAll (Lib.itoa n) = .ok n := by
  unfold Lib.itoa
  by_cases c : n < 0
  · rw [if_pos c, Lib.atoiAll_minus, mag_dec _ (by omega)]
    simp only [Lib.signed]
    rw [if_neg (by omega)]
    congr 1; omega
  · rw [if_neg c]
    obtain ⟨x, r, hx⟩ : ∃ x r, Lib.decDigits n.toNat = x :: r := by
      cases hd : Lib.decDigits n.toNat with
      | nil => exact absurd hd (digits_ne _)
      | cons x r => exact ⟨x, r, rfl⟩
    have := digits_all n.toNat x (by rw [hx]; exact List.mem_cons_self)
    have hm := mag_dec n.toNat (by omega)
    rw [hx] at hm ⊢
    rw [Lib.atoiAll_plain x r (by omega) (by omega), hm]
    simp only [Lib.signless]
    rw [if_neg (by omega)]
    congr 1; omega
theorem itoa_len (n : Int) (h : -9223372036854775808 ≤ n ∧ n ≤ 9223372036854775807) : (Lib.itoa n).length ≤ 20 := by
  unfold Lib.itoa
  split
  · rw [List.length_cons, Lib.decDigits_length]
    have := nd_le 18 n.natAbs (by omega)
    omega
  · rw [Lib.decDigits_length]
    have := nd_le 18 n.toNat (by omega)
    omega
theorem readN_itoa (n : Int) (h : -9223372036854775808 ≤ n ∧ n ≤ 9223372036854775807) : readN (itoaS n) = (n, true) := by
  unfold readN
  have h1 := itoa_len n h
  have h2 : (itoaS n).size = (Lib.itoa n).length := by show (Lib.itoa n).toArray.size = _; rw [List.size_toArray]
  rw [if_neg (by omega)]
  rw [show (itoaS n).data.toList = Lib.itoa n from rfl, atoi_itoa n h]
  simp only [if_true]
theorem readN_yes (s : ByteArray) (h : (readN s).2 = true) : itoaS (readN s).1 = s ∧ -9223372036854775808 ≤ (readN s).1 ∧ (readN s).1 ≤ 9223372036854775807 := by
  unfold readN at h ⊢
  split at h
  · simp at h
  · rename_i c
    rw [if_neg c]
    split at h
    · rename_i v hv
      split at h
      · rename_i c2
        rw [if_pos c2]
        exact ⟨c2, Lib.atoiAll_bounds hv⟩
      · simp at h
    · simp at h
end Go.Proofs.YthhmmaihbjhhgaaDoor.Giv
namespace Go.Proofs.YthhmmaihbjhhgaaDoor.Giv
open Go.RowKit Go.Proofs.YthhmmaihbjhhgaaDoorW.PrintWords Go.Proofs.YthhmmaihbjhhgaaDoorW.PrintLast Go.Proofs.YthhmmaihbjhhgaaDoorW.PrintMore
open Go.Proofs.YthhmmaihbjhhgaaDoor.U1 Go.Proofs.YthhmmaihbjhhgaaDoor.Q1 Go.Proofs.YthhmmaihbjhhgaaDoor.J0 Go.Proofs.YthhmmaihbjhhgaaDoor.J1
set_option linter.unusedSimpArgs false
theorem writeS_f (s : ByteArray) (h : 6 * s.size + 2 ≤ 140737488355328) : quote_Write.f s = some ((writeS s).1, (writeS s).2) := by unfold quote_Write.f; rw [if_pos h]
theorem inner6 (s : ByteArray) : (writeS s).1.data.toList.length ≤ 6 * s.size + 2 := by
  unfold writeS; split
  · show (quoted s.data.toList).length ≤ _
    have := inner_len s.data.toList
    rw [data_length] at this
    unfold quoted
    rw [List.length_append, List.length_cons, List.length_singleton]; omega
  · exact Nat.zero_le _
set_option maxHeartbeats 4000000 in
set_option maxRecDepth 100000 in
theorem quoted_calls (B g : Nat) (bs ends : List UInt8) (s : ByteArray) (W : World) (h : WS B g W bs ends) (hlen : bs.length + (6 * s.size + 2) ≤ 140737488355328) (hBw : B ≤ W.heap.size) (ht : Tabs W) :
    Calls Tryd.prog 72 #[.pointer (some ⟨g, 0, none⟩), .string s] W fun e w' => e = .returned (.tuple #[]) ∧ WS B g w' (bs ++ (writeS s).1.data.toList) ends ∧ Below B W w' ∧ WK g W w' := by
  have H := Aside0.mk h
  have HL := Aside0.mk hlen
  have HBw := Aside0.mk hBw
  have HT := Aside0.mk ht
  have H6 := Aside0.mk (inner6 s)
  clear h hlen hBw ht
  have HQ := Aside0.mk (writeS_f s (by have := HL.out; omega))
  obtain ⟨⟨r1, r2⟩, hr⟩ : ∃ r, writeS s = r := ⟨_, rfl⟩
  rw [hr] at HQ H6 ⊢
  clear hr
  simp only at HQ H6 ⊢
  go_enter Tryd.func72, Tryd.ntmps72
  go_wp2_with (first
    | (go_at_call 33; refine (quote_Write.calls s r1 r2 _ HQ.out HT.out).mono ?_; rintro e w1 ⟨rfl, hb1⟩; have HB1 := Aside0.mk hb1; have HS1 := Aside0.mk (H.out.quiet hb1); clear hb1)
    | (go_at_call 54; refine (ws_str B g bs ends r1 _ HS1.out (by have := HL.out; have h6 := H6.out; rw [data_length] at h6; omega) (Nat.le_trans HBw.out HB1.out.size)).mono ?_; rintro e w2 ⟨rfl, hS2, hB2, hK2⟩; have HS2 := Aside0.mk hS2; have HB2 := Aside0.mk hB2; have HK2 := Aside0.mk hK2; clear hS2 hB2 hK2))
  go_end0
  exact ⟨rfl, HS2.out, (HB1.out.mono HBw.out).trans HB2.out, (WK.of_below HB1.out).trans HK2.out⟩
/-- what an item is written as, or its beginning; what closes it -/
def valB (x : S59) : List UInt8 := if x.f1 = 1 then [110, 117, 108, 108] else if x.f1 = 2 then [102, 97, 108, 115, 101] else if x.f1 = 3 then [116, 114, 117, 101] else if x.f1 = 4 then Lib.itoa x.f4 else if x.f1 = 5 then (writeS x.f3).1.data.toList else if x.f1 = 6 then [91] else [123]
def endB (x : S59) : List UInt8 := if x.f1 = 6 then [93] else if x.f1 = 7 then [125] else []
/-- behind an append to what closes -/
theorem ws_push {B g : Nat} {W W1 : World} {p v ev ev1 : Value} {bs ends ends1 : List UInt8} (hp : p = .pointer none ∨ p = .pointer (some ⟨g, 0, none⟩)) (hB : B ≤ g) (hk : W.heap[g]? = some (.cells #[p, v, ev] 99 (0, 0))) (hv : Kd.R (Kd.int .u8) 5 W B (fun k => k ≠ g) v (toI bs)) (he : Kd.R (Kd.int .u8) 5 W B (fun k => k ≠ g ∧ some k ≠ v.ownBlock) ev (toI ends))
    (hO : Kd.R (Kd.int .u8) 5 W1 B (fun k => k ≠ g) ev1 (toI ends1)) (hG : W.grownBy W1 ev.ownBlock) (hA : ev1.ownBlock = ev.ownBlock ∨ ∃ b, ev1.ownBlock = some b ∧ W.heap.size ≤ b) :
    WS B g (W1.setCell ⟨g, 2, none⟩ ev1) bs ends1 ∧ WK g W (W1.setCell ⟨g, 2, none⟩ ev1) := by
  have hng : some g ≠ ev.ownBlock := fun e => (he.1 g e.symm).1 rfl
  have hk1 := blk_grown hk hG hng
  have hvl := Kd.R_lt hv
  have hv1 : Kd.R (Kd.int .u8) 5 W1 B (fun k => k ≠ g) v (toI bs) :=
    Kd.R_reok rfl (Kd.R_grown (Kd.R_tight rfl hv) hG (fun k e e2 => (he.1 k e2.symm).2 e)) hv.1
  have he1 : Kd.R (Kd.int .u8) 5 W1 B (fun k => k ≠ g ∧ some k ≠ v.ownBlock) ev1 (toI ends1) := by
    refine Kd.R_reok rfl hO (fun k e => ⟨hO.1 k e, fun e2 => ?_⟩)
    rcases hA with hA | ⟨b, hA, hb⟩
    · exact (he.1 k (hA ▸ e)).2 e2
    · rw [hA] at e
      injection e with e
      have := hvl k e2.symm
      omega
  exact ⟨⟨⟨p, v, ev1, hp, blk_set hk1 2 _, Kd.R_far hv1 (fun _ h => h) _, Kd.R_far he1 (fun _ h => h.1) _⟩, hB⟩, (WK.of_grown hG (fun k e => Kd.R_typed he k e)).set_ 2 _⟩
set_option maxHeartbeats 8000000 in
set_option maxRecDepth 100000 in
theorem value1 (B g : Nat) (bs ends : List UInt8) (x : S59) (W : World) (hk : x.f1 = 1) (h : WS B g W bs ends) (hlen : bs.length + ends.length + (6 * x.f3.size + 100) ≤ 140737488355328) (hBw : B ≤ W.heap.size) (hj : JTabs W) :
    Calls Tryd.prog 73 #[.pointer (some ⟨g, 0, none⟩), itemV x] W fun e w' => e = .returned (.tuple #[]) ∧ WS B g w' (bs ++ [110, 117, 108, 108]) (ends ++ []) ∧ Below B W w' ∧ WK g W w' := by
  have HB0 : Aside0 (Below W.heap.size W (W.alloc (.cells #[.int .i64 x.f0, .int .i64 x.f1, .string x.f2, .string x.f3, .int .i64 x.f4] 59))) := ⟨below_alloc (Below.refl _ _) _⟩
  have HS := Aside0.mk (h.quiet HB0.out)
  have HI : Aside0 (Itm (W.alloc (.cells #[.int .i64 x.f0, .int .i64 x.f1, .string x.f2, .string x.f3, .int .i64 x.f4] 59)) W.heap.size x) := ⟨heap_alloc_new _ _⟩
  have HL := Aside0.mk hlen
  have HBw := Aside0.mk hBw
  have JT := Aside0.mk (hj.step HB0.out)
  have c1 : (x.f1 == 1) = true := by rw [hk]; rfl
  have hng : W.heap.size ≠ g := by have := h.lt; omega
  clear h hlen hBw hj hk
  unfold itemV
  go_enter Tryd.func73, Tryd.ntmps73
  go_upto_block 0 with (fail)
  obtain ⟨b, hb⟩ : ∃ b, W.heap.size = b := ⟨_, rfl⟩
  have HNG := Aside0.mk hng
  have HBS := Aside0.mk hb
  rw [hb] at HI
  rw [hb]
  clear hb hng
  generalize W.alloc (.cells #[.int .i64 x.f0, .int .i64 x.f1, .string x.f2, .string x.f3, .int .i64 x.f4] 59) = w1 at HB0 HS HI JT ⊢
  obtain ⟨hm0, hm1, hm2, hm3, hm4⟩ := itm_cells HI.out
  go_wp2_with (go_at_call 54; refine (ws_str B g bs ends ⟨#[110, 117, 108, 108]⟩ _ HS.out (by have := HL.out; show _ + 4 ≤ _; omega) (Nat.le_trans HBw.out HB0.out.size)).mono ?_; rintro e w2 ⟨rfl, hS2, hB2, hK2⟩; have HS2 := Aside0.mk hS2; have HB2 := Aside0.mk hB2; have HK2 := Aside0.mk hK2; clear hS2 hB2 hK2)
  go_end0
  exact ⟨rfl, by rw [List.append_nil]; exact HS2.out, (HB0.out.mono HBw.out).trans HB2.out, (WK.of_below HB0.out).trans HK2.out⟩
set_option maxHeartbeats 8000000 in
set_option maxRecDepth 100000 in
theorem value2 (B g : Nat) (bs ends : List UInt8) (x : S59) (W : World) (hk : x.f1 = 2) (h : WS B g W bs ends) (hlen : bs.length + ends.length + (6 * x.f3.size + 100) ≤ 140737488355328) (hBw : B ≤ W.heap.size) (hj : JTabs W) :
    Calls Tryd.prog 73 #[.pointer (some ⟨g, 0, none⟩), itemV x] W fun e w' => e = .returned (.tuple #[]) ∧ WS B g w' (bs ++ [102, 97, 108, 115, 101]) (ends ++ []) ∧ Below B W w' ∧ WK g W w' := by
  have HB0 : Aside0 (Below W.heap.size W (W.alloc (.cells #[.int .i64 x.f0, .int .i64 x.f1, .string x.f2, .string x.f3, .int .i64 x.f4] 59))) := ⟨below_alloc (Below.refl _ _) _⟩
  have HS := Aside0.mk (h.quiet HB0.out)
  have HI : Aside0 (Itm (W.alloc (.cells #[.int .i64 x.f0, .int .i64 x.f1, .string x.f2, .string x.f3, .int .i64 x.f4] 59)) W.heap.size x) := ⟨heap_alloc_new _ _⟩
  have HL := Aside0.mk hlen
  have HBw := Aside0.mk hBw
  have JT := Aside0.mk (hj.step HB0.out)
  have c1 : (x.f1 == 1) = false := by rw [hk]; rfl
  have c2 : (x.f1 == 2) = true := by rw [hk]; rfl
  have hng : W.heap.size ≠ g := by have := h.lt; omega
  clear h hlen hBw hj hk
  unfold itemV
  go_enter Tryd.func73, Tryd.ntmps73
  go_upto_block 0 with (fail)
  obtain ⟨b, hb⟩ : ∃ b, W.heap.size = b := ⟨_, rfl⟩
  have HNG := Aside0.mk hng
  have HBS := Aside0.mk hb
  rw [hb] at HI
  rw [hb]
  clear hb hng
  generalize W.alloc (.cells #[.int .i64 x.f0, .int .i64 x.f1, .string x.f2, .string x.f3, .int .i64 x.f4] 59) = w1 at HB0 HS HI JT ⊢
  obtain ⟨hm0, hm1, hm2, hm3, hm4⟩ := itm_cells HI.out
  go_wp2_with (go_at_call 54; refine (ws_str B g bs ends ⟨#[102, 97, 108, 115, 101]⟩ _ HS.out (by have := HL.out; show _ + 5 ≤ _; omega) (Nat.le_trans HBw.out HB0.out.size)).mono ?_; rintro e w2 ⟨rfl, hS2, hB2, hK2⟩; have HS2 := Aside0.mk hS2; have HB2 := Aside0.mk hB2; have HK2 := Aside0.mk hK2; clear hS2 hB2 hK2)
  go_end0
  exact ⟨rfl, by rw [List.append_nil]; exact HS2.out, (HB0.out.mono HBw.out).trans HB2.out, (WK.of_below HB0.out).trans HK2.out⟩
set_option maxHeartbeats 8000000 in
set_option maxRecDepth 100000 in
theorem value3 (B g : Nat) (bs ends : List UInt8) (x : S59) (W : World) (hk : x.f1 = 3) (h : WS B g W bs ends) (hlen : bs.length + ends.length + (6 * x.f3.size + 100) ≤ 140737488355328) (hBw : B ≤ W.heap.size) (hj : JTabs W) :
    Calls Tryd.prog 73 #[.pointer (some ⟨g, 0, none⟩), itemV x] W fun e w' => e = .returned (.tuple #[]) ∧ WS B g w' (bs ++ [116, 114, 117, 101]) (ends ++ []) ∧ Below B W w' ∧ WK g W w' := by
  have HB0 : Aside0 (Below W.heap.size W (W.alloc (.cells #[.int .i64 x.f0, .int .i64 x.f1, .string x.f2, .string x.f3, .int .i64 x.f4] 59))) := ⟨below_alloc (Below.refl _ _) _⟩
  have HS := Aside0.mk (h.quiet HB0.out)
  have HI : Aside0 (Itm (W.alloc (.cells #[.int .i64 x.f0, .int .i64 x.f1, .string x.f2, .string x.f3, .int .i64 x.f4] 59)) W.heap.size x) := ⟨heap_alloc_new _ _⟩
  have HL := Aside0.mk hlen
  have HBw := Aside0.mk hBw
  have JT := Aside0.mk (hj.step HB0.out)
  have c1 : (x.f1 == 1) = false := by rw [hk]; rfl
  have c2 : (x.f1 == 2) = false := by rw [hk]; rfl
  have c3 : (x.f1 == 3) = true := by rw [hk]; rfl
  have hng : W.heap.size ≠ g := by have := h.lt; omega
  clear h hlen hBw hj hk
  unfold itemV
  go_enter Tryd.func73, Tryd.ntmps73
  go_upto_block 0 with (fail)
  obtain ⟨b, hb⟩ : ∃ b, W.heap.size = b := ⟨_, rfl⟩
  have HNG := Aside0.mk hng
  have HBS := Aside0.mk hb
  rw [hb] at HI
  rw [hb]
  clear hb hng
  generalize W.alloc (.cells #[.int .i64 x.f0, .int .i64 x.f1, .string x.f2, .string x.f3, .int .i64 x.f4] 59) = w1 at HB0 HS HI JT ⊢
  obtain ⟨hm0, hm1, hm2, hm3, hm4⟩ := itm_cells HI.out
  go_wp2_with (go_at_call 54; refine (ws_str B g bs ends ⟨#[116, 114, 117, 101]⟩ _ HS.out (by have := HL.out; show _ + 4 ≤ _; omega) (Nat.le_trans HBw.out HB0.out.size)).mono ?_; rintro e w2 ⟨rfl, hS2, hB2, hK2⟩; have HS2 := Aside0.mk hS2; have HB2 := Aside0.mk hB2; have HK2 := Aside0.mk hK2; clear hS2 hB2 hK2)
  go_end0
  exact ⟨rfl, by rw [List.append_nil]; exact HS2.out, (HB0.out.mono HBw.out).trans HB2.out, (WK.of_below HB0.out).trans HK2.out⟩
set_option maxHeartbeats 8000000 in
set_option maxRecDepth 100000 in
theorem value5 (B g : Nat) (bs ends : List UInt8) (x : S59) (W : World) (hk : x.f1 = 5) (h : WS B g W bs ends) (hlen : bs.length + ends.length + (6 * x.f3.size + 100) ≤ 140737488355328) (hBw : B ≤ W.heap.size) (hj : JTabs W) :
    Calls Tryd.prog 73 #[.pointer (some ⟨g, 0, none⟩), itemV x] W fun e w' => e = .returned (.tuple #[]) ∧ WS B g w' (bs ++ (writeS x.f3).1.data.toList) (ends ++ []) ∧ Below B W w' ∧ WK g W w' := by
  have HB0 : Aside0 (Below W.heap.size W (W.alloc (.cells #[.int .i64 x.f0, .int .i64 x.f1, .string x.f2, .string x.f3, .int .i64 x.f4] 59))) := ⟨below_alloc (Below.refl _ _) _⟩
  have HS := Aside0.mk (h.quiet HB0.out)
  have HI : Aside0 (Itm (W.alloc (.cells #[.int .i64 x.f0, .int .i64 x.f1, .string x.f2, .string x.f3, .int .i64 x.f4] 59)) W.heap.size x) := ⟨heap_alloc_new _ _⟩
  have HL := Aside0.mk hlen
  have HBw := Aside0.mk hBw
  have JT := Aside0.mk (hj.step HB0.out)
  have c1 : (x.f1 == 1) = false := by rw [hk]; rfl
  have c2 : (x.f1 == 2) = false := by rw [hk]; rfl
  have c3 : (x.f1 == 3) = false := by rw [hk]; rfl
  have c4 : (x.f1 == 4) = false := by rw [hk]; rfl
  have c5 : (x.f1 == 5) = true := by rw [hk]; rfl
  have hng : W.heap.size ≠ g := by have := h.lt; omega
  clear h hlen hBw hj hk
  unfold itemV
  go_enter Tryd.func73, Tryd.ntmps73
  go_upto_block 0 with (fail)
  obtain ⟨b, hb⟩ : ∃ b, W.heap.size = b := ⟨_, rfl⟩
  have HNG := Aside0.mk hng
  have HBS := Aside0.mk hb
  rw [hb] at HI
  rw [hb]
  clear hb hng
  generalize W.alloc (.cells #[.int .i64 x.f0, .int .i64 x.f1, .string x.f2, .string x.f3, .int .i64 x.f4] 59) = w1 at HB0 HS HI JT ⊢
  obtain ⟨hm0, hm1, hm2, hm3, hm4⟩ := itm_cells HI.out
  go_wp2_with (go_at_call 72; refine (quoted_calls B g bs ends x.f3 _ HS.out (by have := HL.out; omega) (Nat.le_trans HBw.out HB0.out.size) JT.out.tabs).mono ?_; rintro e w2 ⟨rfl, hS2, hB2, hK2⟩; have HS2 := Aside0.mk hS2; have HB2 := Aside0.mk hB2; have HK2 := Aside0.mk hK2; clear hS2 hB2 hK2)
  go_end0
  exact ⟨rfl, by rw [List.append_nil]; exact HS2.out, (HB0.out.mono HBw.out).trans HB2.out, (WK.of_below HB0.out).trans HK2.out⟩
set_option maxHeartbeats 8000000 in
set_option maxRecDepth 100000 in
theorem value6 (B g : Nat) (bs ends : List UInt8) (x : S59) (W : World) (hk : x.f1 = 6) (h : WS B g W bs ends) (hlen : bs.length + ends.length + (6 * x.f3.size + 100) ≤ 140737488355328) (hBw : B ≤ W.heap.size) (hj : JTabs W) :
    Calls Tryd.prog 73 #[.pointer (some ⟨g, 0, none⟩), itemV x] W fun e w' => e = .returned (.tuple #[]) ∧ WS B g w' (bs ++ [91]) (ends ++ [93]) ∧ Below B W w' ∧ WK g W w' := by
  have HB0 : Aside0 (Below W.heap.size W (W.alloc (.cells #[.int .i64 x.f0, .int .i64 x.f1, .string x.f2, .string x.f3, .int .i64 x.f4] 59))) := ⟨below_alloc (Below.refl _ _) _⟩
  have HS := Aside0.mk (h.quiet HB0.out)
  have HI : Aside0 (Itm (W.alloc (.cells #[.int .i64 x.f0, .int .i64 x.f1, .string x.f2, .string x.f3, .int .i64 x.f4] 59)) W.heap.size x) := ⟨heap_alloc_new _ _⟩
  have HL := Aside0.mk hlen
  have HBw := Aside0.mk hBw
  have JT := Aside0.mk (hj.step HB0.out)
  have c1 : (x.f1 == 1) = false := by rw [hk]; rfl
  have c2 : (x.f1 == 2) = false := by rw [hk]; rfl
  have c3 : (x.f1 == 3) = false := by rw [hk]; rfl
  have c4 : (x.f1 == 4) = false := by rw [hk]; rfl
  have c5 : (x.f1 == 5) = false := by rw [hk]; rfl
  have c6 : (x.f1 == 6) = true := by rw [hk]; rfl
  have hng : W.heap.size ≠ g := by have := h.lt; omega
  clear h hlen hBw hj hk
  unfold itemV
  go_enter Tryd.func73, Tryd.ntmps73
  go_upto_block 0 with (fail)
  obtain ⟨b, hb⟩ : ∃ b, W.heap.size = b := ⟨_, rfl⟩
  have HNG := Aside0.mk hng
  have HBS := Aside0.mk hb
  rw [hb] at HI
  rw [hb]
  clear hb hng
  generalize W.alloc (.cells #[.int .i64 x.f0, .int .i64 x.f1, .string x.f2, .string x.f3, .int .i64 x.f4] 59) = w1 at HB0 HS HI JT ⊢
  obtain ⟨hm0, hm1, hm2, hm3, hm4⟩ := itm_cells HI.out
  go_wp2_with (first
    | (go_at_call 57; refine (ws_byte B g bs ends 91 _ HS.out (by have := HL.out; omega) (Nat.le_trans HBw.out HB0.out.size)).mono ?_; rintro e w2 ⟨rfl, hS2, hB2, hK2⟩; obtain ⟨⟨p, v, ev, hp, hk, hv, he⟩, hBg⟩ := hS2; have c2 : w2.cell? ⟨g, 2, none⟩ = some ev := (blk_cell hk 2).trans rfl; have HP := Aside0.mk hp; have HKG := Aside0.mk hk; have HV := Aside0.mk hv; have HE := Aside0.mk he; have HBG := Aside0.mk hBg; have HB2 := Aside0.mk hB2; have HK2 := Aside0.mk hK2; clear hp hk hv he hBg hB2 hK2)
    | (at_builtin; refine Kd.R_append (Kd.int .u8) (w0 := w1) (W := w2) B rfl (.tmp 49) (.tmp 50) 43 5 (.int .u8 0) 1 rfl Tryd.underlying43 info5 rfl (by decide) (by decide) ev (toI ends) 93 [.int .u8 93] (fun k => k ≠ g) (fun _ => False) rfl rfl rfl (fun _ h => h.elim) (fun k hk => by have := blk_lt HKG.out; omega) (Kd.R_mono HE.out (fun _ h => h.1)) HB2.out (Nat.le_trans HBw.out (Nat.le_trans HB0.out.size HB2.out.size)) (by rw [toI_len]; have := HL.out; omega) ?_; intro v3 w3 hO3 hB3 hG3 hA3; have HW := Aside0.mk (ws_push (ends1 := ends ++ [93]) HP.out HBG.out HKG.out HV.out HE.out (by rw [toI_app]; exact hO3) hG3 hA3); have HB3 := Aside0.mk hB3; have hk3 := blk_grown HKG.out hG3 (fun e => (HE.out.1 g e.symm).1 rfl); have d2 : w3.cell? ⟨g, 2, none⟩ = some ev := (blk_cell hk3 2).trans rfl; have f2 : w3.frozen? ⟨g, 2, none⟩ = false := blk_frozen hk3 2; obtain ⟨As, n2, cc, hv3⟩ := own_slice (Kd.own_of_R hO3); subst hv3; clear hO3 hB3 hG3 hA3 hk3))
  go_end0
  exact ⟨rfl, HW.out.1, ((HB0.out.mono HBw.out).trans HB3.out).setCell (p := ⟨g, 2, none⟩) HBG.out _, ((WK.of_below HB0.out).trans HK2.out).trans HW.out.2⟩
set_option maxHeartbeats 8000000 in
set_option maxRecDepth 100000 in
theorem value7 (B g : Nat) (bs ends : List UInt8) (x : S59) (W : World) (hk : x.f1 = 7) (h : WS B g W bs ends) (hlen : bs.length + ends.length + (6 * x.f3.size + 100) ≤ 140737488355328) (hBw : B ≤ W.heap.size) (hj : JTabs W) :
    Calls Tryd.prog 73 #[.pointer (some ⟨g, 0, none⟩), itemV x] W fun e w' => e = .returned (.tuple #[]) ∧ WS B g w' (bs ++ [123]) (ends ++ [125]) ∧ Below B W w' ∧ WK g W w' := by
  have HB0 : Aside0 (Below W.heap.size W (W.alloc (.cells #[.int .i64 x.f0, .int .i64 x.f1, .string x.f2, .string x.f3, .int .i64 x.f4] 59))) := ⟨below_alloc (Below.refl _ _) _⟩
  have HS := Aside0.mk (h.quiet HB0.out)
  have HI : Aside0 (Itm (W.alloc (.cells #[.int .i64 x.f0, .int .i64 x.f1, .string x.f2, .string x.f3, .int .i64 x.f4] 59)) W.heap.size x) := ⟨heap_alloc_new _ _⟩
  have HL := Aside0.mk hlen
  have HBw := Aside0.mk hBw
  have JT := Aside0.mk (hj.step HB0.out)
  have c1 : (x.f1 == 1) = false := by rw [hk]; rfl
  have c2 : (x.f1 == 2) = false := by rw [hk]; rfl
  have c3 : (x.f1 == 3) = false := by rw [hk]; rfl
  have c4 : (x.f1 == 4) = false := by rw [hk]; rfl
  have c5 : (x.f1 == 5) = false := by rw [hk]; rfl
  have c6 : (x.f1 == 6) = false := by rw [hk]; rfl
  have c7 : (x.f1 == 7) = true := by rw [hk]; rfl
  have hng : W.heap.size ≠ g := by have := h.lt; omega
  clear h hlen hBw hj hk
  unfold itemV
  go_enter Tryd.func73, Tryd.ntmps73
  go_upto_block 0 with (fail)
  obtain ⟨b, hb⟩ : ∃ b, W.heap.size = b := ⟨_, rfl⟩
  have HNG := Aside0.mk hng
  have HBS := Aside0.mk hb
  rw [hb] at HI
  rw [hb]
  clear hb hng
  generalize W.alloc (.cells #[.int .i64 x.f0, .int .i64 x.f1, .string x.f2, .string x.f3, .int .i64 x.f4] 59) = w1 at HB0 HS HI JT ⊢
  obtain ⟨hm0, hm1, hm2, hm3, hm4⟩ := itm_cells HI.out
  go_wp2_with (first
    | (go_at_call 57; refine (ws_byte B g bs ends 123 _ HS.out (by have := HL.out; omega) (Nat.le_trans HBw.out HB0.out.size)).mono ?_; rintro e w2 ⟨rfl, hS2, hB2, hK2⟩; obtain ⟨⟨p, v, ev, hp, hk, hv, he⟩, hBg⟩ := hS2; have c2 : w2.cell? ⟨g, 2, none⟩ = some ev := (blk_cell hk 2).trans rfl; have HP := Aside0.mk hp; have HKG := Aside0.mk hk; have HV := Aside0.mk hv; have HE := Aside0.mk he; have HBG := Aside0.mk hBg; have HB2 := Aside0.mk hB2; have HK2 := Aside0.mk hK2; clear hp hk hv he hBg hB2 hK2)
    | (at_builtin; refine Kd.R_append (Kd.int .u8) (w0 := w1) (W := w2) B rfl (.tmp 64) (.tmp 65) 43 5 (.int .u8 0) 1 rfl Tryd.underlying43 info5 rfl (by decide) (by decide) ev (toI ends) 125 [.int .u8 125] (fun k => k ≠ g) (fun _ => False) rfl rfl rfl (fun _ h => h.elim) (fun k hk => by have := blk_lt HKG.out; omega) (Kd.R_mono HE.out (fun _ h => h.1)) HB2.out (Nat.le_trans HBw.out (Nat.le_trans HB0.out.size HB2.out.size)) (by rw [toI_len]; have := HL.out; omega) ?_; intro v3 w3 hO3 hB3 hG3 hA3; have HW := Aside0.mk (ws_push (ends1 := ends ++ [125]) HP.out HBG.out HKG.out HV.out HE.out (by rw [toI_app]; exact hO3) hG3 hA3); have HB3 := Aside0.mk hB3; have hk3 := blk_grown HKG.out hG3 (fun e => (HE.out.1 g e.symm).1 rfl); have d2 : w3.cell? ⟨g, 2, none⟩ = some ev := (blk_cell hk3 2).trans rfl; have f2 : w3.frozen? ⟨g, 2, none⟩ = false := blk_frozen hk3 2; obtain ⟨As, n2, cc, hv3⟩ := own_slice (Kd.own_of_R hO3); subst hv3; clear hO3 hB3 hG3 hA3 hk3))
  go_end0
  exact ⟨rfl, HW.out.1, ((HB0.out.mono HBw.out).trans HB3.out).setCell (p := ⟨g, 2, none⟩) HBG.out _, ((WK.of_below HB0.out).trans HK2.out).trans HW.out.2⟩
set_option maxHeartbeats 8000000 in
set_option maxRecDepth 100000 in
theorem value4 (B g : Nat) (bs ends : List UInt8) (x : S59) (W : World) (hk : x.f1 = 4) (h : WS B g W bs ends) (hlen : bs.length + ends.length + (6 * x.f3.size + 100) ≤ 140737488355328) (hBw : B ≤ W.heap.size) (hj : JTabs W) (hn : -9223372036854775808 ≤ x.f4 ∧ x.f4 ≤ 9223372036854775807) :
    Calls Tryd.prog 73 #[.pointer (some ⟨g, 0, none⟩), itemV x] W fun e w' => e = .returned (.tuple #[]) ∧ WS B g w' (bs ++ Lib.itoa x.f4) (ends ++ []) ∧ Below B W w' ∧ WK g W w' := by
  have HB0 : Aside0 (Below W.heap.size W (W.alloc (.cells #[.int .i64 x.f0, .int .i64 x.f1, .string x.f2, .string x.f3, .int .i64 x.f4] 59))) := ⟨below_alloc (Below.refl _ _) _⟩
  have HS := Aside0.mk (h.quiet HB0.out)
  have HI : Aside0 (Itm (W.alloc (.cells #[.int .i64 x.f0, .int .i64 x.f1, .string x.f2, .string x.f3, .int .i64 x.f4] 59)) W.heap.size x) := ⟨heap_alloc_new _ _⟩
  have HL := Aside0.mk hlen
  have HBw := Aside0.mk hBw
  have JT := Aside0.mk (hj.step HB0.out)
  have c1 : (x.f1 == 1) = false := by rw [hk]; rfl
  have c2 : (x.f1 == 2) = false := by rw [hk]; rfl
  have c3 : (x.f1 == 3) = false := by rw [hk]; rfl
  have c4 : (x.f1 == 4) = true := by rw [hk]; rfl
  have hng : W.heap.size ≠ g := by have := h.lt; omega
  have HN := Aside0.mk hn
  clear h hlen hBw hj hk hn
  unfold itemV
  go_enter Tryd.func73, Tryd.ntmps73
  go_upto_block 0 with (fail)
  obtain ⟨b, hb⟩ : ∃ b, W.heap.size = b := ⟨_, rfl⟩
  have HNG := Aside0.mk hng
  have HBS := Aside0.mk hb
  rw [hb] at HI
  rw [hb]
  clear hb hng
  generalize W.alloc (.cells #[.int .i64 x.f0, .int .i64 x.f1, .string x.f2, .string x.f3, .int .i64 x.f4] 59) = w1 at HB0 HS HI JT ⊢
  obtain ⟨hm0, hm1, hm2, hm3, hm4⟩ := itm_cells HI.out
  go_wp2_with fail
  refine start_ (n := 7) (S := fun w' => Itm w' b x ∧ WS B g w' bs ends) (ds := [6]) #[false, false, false, false, false, false, false] (by kernel_rfl) rfl rfl ⟨HI.out, HS.out.drew1⟩ (fun hHeld => ?_)
  refine pure_ (i := 0) (N := some 26) (v := ?_) (a' := ?_) #[true, false, false, false, false, false, false] rfl rfl (by kernel_rfl) (fun _ _ _ h => h) (Or.inl ⟨by rfl, ?_⟩) ?_ ?_
  rotate_left
  · intro w'
    go_simp
    (try with_reducible rfl)
  rotate_left
  · simp only [Act.put, List.setIfInBounds_toArray, List.set_cons_zero, List.set_cons_succ]
    rfl
  refine pure_ (i := 1) (N := some 27) (v := ?_) (a' := ?_) #[true, true, false, false, false, false, false] rfl rfl (by kernel_rfl) (fun _ _ _ h => h) (Or.inl ⟨by rfl, ?_⟩) ?_ ?_
  rotate_left
  · intro w'
    go_simp
    (try with_reducible rfl)
  rotate_left
  · simp only [Act.put, List.setIfInBounds_toArray, List.set_cons_zero, List.set_cons_succ]
    rfl
  refine pure_ (i := 2) (N := some 28) (v := ?_) (a' := ?_) #[true, true, true, false, false, false, false] rfl rfl (by kernel_rfl) (fun _ _ _ h => h) (Or.inl ⟨by rfl, ?_⟩) ?_ ?_
  rotate_left
  · intro w'
    go_simp
    (try with_reducible rfl)
  rotate_left
  · simp only [Act.put, List.setIfInBounds_toArray, List.set_cons_zero, List.set_cons_succ]
    rfl
  refine pure_ (i := 3) (N := some 29) (v := ?_) (a' := ?_) #[true, true, true, true, false, false, false] rfl rfl (by kernel_rfl) (fun _ _ _ h => h) (Or.inl ⟨by rfl, ?_⟩) ?_ ?_
  rotate_left
  · intro w'
    go_simp
    (try with_reducible rfl)
  rotate_left
  · simp only [Act.put, List.setIfInBounds_toArray, List.set_cons_zero, List.set_cons_succ]
    rfl
  refine take_ (i := 4) (N := some 30) (v := ?_) (a' := ?_) #[true, true, true, true, true, false, false] rfl rfl (by kernel_rfl) (fun _ _ _ h => h) (Or.inl ⟨by rfl, ?_⟩) (by assumption) ?_ ?_
  rotate_left
  · intro w hSw
    obtain ⟨hl0, hl1⟩ := hSw
    have hm4 := (itm_cells hl0).2.2.2.2
    clear hl0 hl1
    go_simp
    (try with_reducible rfl)
  rotate_left
  · simp only [Act.put, List.setIfInBounds_toArray, List.set_cons_zero, List.set_cons_succ]
    rfl
  refine one_ (i := 5) (N := some 31) #[true, true, true, true, true, true, false] rfl rfl (by kernel_rfl) (by decide) (fun K hK => ?_)
  go_simp
  (go_at_call 91; refine (print_calls x.f4 HN.out.1 HN.out.2 _ (JT.out.step (below_drew1 (Below.refl _ _)))).mono ?_; rintro e w3 ⟨rfl, hb3⟩; have HB3 := Aside0.mk hb3); go_wp2_with fail
  refine hK.out _ _ ?_ (fun hHeld => ?_)
  · exact ⟨itm_below hHeld.1 HB3.out, hHeld.2.quiet HB3.out⟩
  clear hK K
  (try simp only [Act.put, List.setIfInBounds_toArray, List.set_cons_zero, List.set_cons_succ])
  refine last_ (i := 6) (N := some 32) #[true, true, true, true, true, true, true] rfl rfl (by kernel_rfl) (by decide) (fun K hK => ?_)
  go_simp
  have HE := Aside0.mk hHeld
  (go_at_call 54; refine (ws_str B g bs ends (itoaS x.f4) _ HE.out.2 (by have := HL.out; have h1 := itoa_len x.f4 HN.out; show _ + (Lib.itoa x.f4).toArray.size ≤ _; rw [List.size_toArray]; omega) (Nat.le_trans HBw.out (Nat.le_trans HB0.out.size (show w1.heap.size ≤ _ from HB3.out.size)))).mono ?_; rintro e w2 ⟨rfl, hS2, hB2, hK2⟩); go_wp2_with fail
  have HS2 := Aside0.mk hS2
  have HB2 := Aside0.mk hB2
  have HK2 := Aside0.mk hK2
  clear hS2 hB2 hK2 hHeld
  refine hK.out _ _ ?_
  clear hK K
  (try simp only [Act.put, List.setIfInBounds_toArray, List.set_cons_zero, List.set_cons_succ])
  refine done_ (by kernel_rfl) ?_
  go_wp2_with fail
  go_end0
  have hd : Below w1.heap.size w1 w3 := (below_drew1 (Below.refl _ _)).trans HB3.out
  exact ⟨rfl, by rw [List.append_nil]; exact HS2.out, ((HB0.out.mono HBw.out).trans (hd.mono (Nat.le_trans HBw.out HB0.out.size))).trans HB2.out, ((WK.of_below HB0.out).trans (WK.of_below hd)).trans HK2.out⟩
theorem value_calls_w (B g : Nat) (bs ends : List UInt8) (x : S59) (W : World) (hk : 1 ≤ x.f1 ∧ x.f1 ≤ 7) (h : WS B g W bs ends) (hlen : bs.length + ends.length + (6 * x.f3.size + 100) ≤ 140737488355328) (hBw : B ≤ W.heap.size) (hj : JTabs W) (hn : -9223372036854775808 ≤ x.f4 ∧ x.f4 ≤ 9223372036854775807) :
    Calls Tryd.prog 73 #[.pointer (some ⟨g, 0, none⟩), itemV x] W fun e w' => e = .returned (.tuple #[]) ∧ WS B g w' (bs ++ valB x) (ends ++ endB x) ∧ Below B W w' ∧ WK g W w' := by
  unfold valB endB
  have : x.f1 = 1 ∨ x.f1 = 2 ∨ x.f1 = 3 ∨ x.f1 = 4 ∨ x.f1 = 5 ∨ x.f1 = 6 ∨ x.f1 = 7 := by omega
  rcases this with k | k | k | k | k | k | k
  · simp only [k, if_true]; exact value1 B g bs ends x W k h hlen hBw hj
  · simp only [k]; exact value2 B g bs ends x W k h hlen hBw hj
  · simp only [k]; exact value3 B g bs ends x W k h hlen hBw hj
  · simp only [k]; exact value4 B g bs ends x W k h hlen hBw hj hn
  · simp only [k]; exact value5 B g bs ends x W k h hlen hBw hj
  · simp only [k]; exact value6 B g bs ends x W k h hlen hBw hj
  · simp only [k]; exact value7 B g bs ends x W k h hlen hBw hj
end Go.Proofs.YthhmmaihbjhhgaaDoor.Giv
namespace Go.Proofs.YthhmmaihbjhhgaaDoor.Giv
open Go.RowKit Go.Proofs.YthhmmaihbjhhgaaDoorW.PrintWords Go.Proofs.YthhmmaihbjhhgaaDoorW.PrintLast Go.Proofs.YthhmmaihbjhhgaaDoorW.PrintMore
open Go.Proofs.YthhmmaihbjhhgaaDoor.U1 Go.Proofs.YthhmmaihbjhhgaaDoor.Q1 Go.Proofs.YthhmmaihbjhhgaaDoor.J0 Go.Proofs.YthhmmaihbjhhgaaDoor.J1
set_option linter.unusedSimpArgs false
def json_Right.f (l : List S59) : Option Bool := if l.length * 56 ≤ 140737488355328 then (rightF true [(6, [])] l).map (fun r => r && decide (0 < l.length)) else none
theorem json_Right.calls (A : Option Addr) (c : Nat) (l : List S59) (r : Bool) (w : World) (hC : Kd.C k59 w A l.length l) (hc : l.length ≤ c) (h : json_Right.f l = some r) (ht : Tabs w := by first | assumption | (refine Tabs.step (by assumption) ?_; repeat (first | exact Aside0.out (by assumption) | apply below_alloc | apply pw_below_drewN | apply below_drew1 | exact Below.refl _ _))) :
    Calls Tryd.prog 42 #[.slice A l.length c] w fun e w' => e = .returned (.bool r) ∧ Below w.heap.size w w' := by
  unfold json_Right.f at h
  by_cases hl : l.length * 56 ≤ 140737488355328
  · rw [if_pos hl] at h
    obtain ⟨q, hq, rfl⟩ := Option.map_eq_some_iff.1 h
    exact right_walk w A c l q hC hc hl ht hq
  · rw [if_neg hl] at h; cases h
/-- a comma? what the item ahead has as its depth (none: there is none) -/
def commaB (prev : Option Int) (d : Int) : List UInt8 := match prev with | none => [] | some p => if d ≤ p then [44] else []
/-- an object's member's key -/
def keyB (ends : List UInt8) (key : ByteArray) : List UInt8 := if ends.getLast? = some 125 then (writeS key).1.data.toList ++ [58] else []
def sizeI (x : S59) : Nat := 6 * x.f2.size + 6 * x.f3.size + 200
/-- Print, as it goes -/
def printF : Option Int → List UInt8 → List UInt8 → List S59 → Option (List UInt8)
  | _, bs, ends, [] => some (bs ++ ends.reverse)
  | prev, bs, ends, x :: l => if 0 ≤ x.f0 ∧ x.f0 ≤ ends.length ∧ 1 ≤ x.f1 ∧ x.f1 ≤ 7 ∧ (-9223372036854775808 ≤ x.f4 ∧ x.f4 ≤ 9223372036854775807) ∧ bs.length + ends.length + sizeI x ≤ 140737488355328 then
      printF (some x.f0) (bs ++ (ends.drop x.f0.toNat).reverse ++ commaB prev x.f0 ++ keyB (ends.take x.f0.toNat) x.f2 ++ valB x) (ends.take x.f0.toNat ++ endB x) l else none
def prevD (l : List S59) (j : Nat) : Option Int := if j = 0 then none else some (rd_T59 l ((j - 1 : Nat) : Int)).f0
theorem prevD_succ (l : List S59) (j : Nat) (x : S59) (h : rd_T59 l (j : Int) = x) : prevD l (j + 1) = some x.f0 := by
  unfold prevD
  rw [if_neg (Nat.succ_ne_zero j), Nat.add_sub_cancel, h]
theorem u8_ne (c : UInt8) (h : c ≠ 125) : ((c.toNat : Int) == 125) = false := by
  refine beq_eq_false_iff_ne.mpr (fun e => h (UInt8.toNat_inj.mp ?_))
  show c.toNat = 125
  omega
theorem last_take (ends : List UInt8) (q : Nat) (h : ends.length = q + 1) : ends.getLast? = some (ends.getD q 0) := by
  rw [List.getLast?_eq_getElem?, h]
  simp [List.getD, h]
set_option maxHeartbeats 8000000 in
set_option maxRecDepth 100000 in
theorem print_walk (w : World) (A : Option Addr) (c : Nat) (l : List S59) (r : List UInt8) (hC : Kd.C k59 w A l.length l) (hc : l.length ≤ c) (ht : JTabs w) (hr : json_Right.f l = some true) (h : printF none [] [] l = some r) (hr0 : r ≠ []) (hr1 : r.length ≤ 140737488355328) :
    Calls Tryd.prog 47 #[.slice A l.length c] w fun e w' => e = .returned (.string ⟨r.toArray⟩) ∧ Below w.heap.size w w' := by
  have HC := Aside0.mk hC
  have HT := Aside0.mk ht
  have HF := Aside0.mk h
  have HRF := Aside0.mk hr
  have HCC := Aside0.mk hc
  have HR0 := Aside0.mk hr0
  have HR1 := Aside0.mk hr1
  have hl : l.length * 56 ≤ 140737488355328 := by
    unfold json_Right.f at hr
    by_cases hl : l.length * 56 ≤ 140737488355328
    · exact hl
    · rw [if_neg hl] at hr; cases hr
  have HL := Aside0.mk hl
  clear hC ht h hl hc hr hr0 hr1
  go_enter Tryd.func47, Tryd.ntmps47
  go_wp2_with (go_at_call 42; refine (json_Right.calls A c l true _ HC.out HCC.out HRF.out HT.out.tabs).mono ?_; rintro e w1 ⟨rfl, hb1⟩; have HB1 := Aside0.mk hb1; clear hb1)
  have HS0 : Aside0 (WS w.heap.size w1.heap.size (w1.alloc (.cells #[.pointer none, .slice none 0 0, .slice none 0 0] 99)) [] []) := ⟨⟨⟨_, _, _, .inl rfl, heap_alloc_new _ _, Kd.R_nil _ _ _ _ _, Kd.R_nil _ _ _ _ _⟩, HB1.out.size⟩⟩
  have HB2 : Aside0 (Below w.heap.size w (w1.alloc (.cells #[.pointer none, .slice none 0 0, .slice none 0 0] 99))) := ⟨HB1.out.alloc HB1.out.size _⟩
  obtain ⟨g, hg⟩ : ∃ g, w1.heap.size = g := ⟨_, rfl⟩
  rw [hg] at HS0
  rw [hg]
  clear hg
  generalize w1.alloc (.cells #[.pointer none, .slice none 0 0, .slice none 0 0] 99) = w2 at HS0 HB2 ⊢
  clear HB1
  go_loopg [14] l.length (fun kq v14 wr => ∃ (j : Nat) (bs ends : List UInt8), kq = l.length - j ∧ j ≤ l.length ∧ v14 = .int .i64 (j : Int) ∧ Aside0 (WS w.heap.size g wr bs ends) ∧ Aside0 (printF (prevD l j) bs ends (l.drop j) = some r) ∧ Aside0 (Below w.heap.size w wr))
  case atStart => exact ⟨0, [], [], rfl, Nat.zero_le _, rfl, HS0, HF, HB2⟩
  case round =>
    clear HF HS0 HB2
    obtain ⟨j, bs, ends, hkq, hjl, rfl, HS, HF, HB⟩ := hrel
    have hgl : j < 9223372036854775807 := by have := HL.out; omega
    by_cases hlt : j < l.length
    · obtain ⟨ad, hA, a0, a1, a2, a3, a4⟩ := at_T59 (Kd.C_below HC.out HB.out) (j : Int) (by omega) (by omega)
      subst hA
      have HX := Aside0.mk (drop_T59 l j hlt)
      obtain ⟨⟨f0, f1, f2, f3, f4⟩, hx⟩ : ∃ x, rd_T59 l (j : Int) = x := ⟨_, rfl⟩
      have HPD := Aside0.mk (prevD_succ l j _ hx)
      rw [hx] at a0 a1 a2 a3 a4 HX
      simp only [Int.toNat_natCast] at a0 a1 a2 a3 a4
      clear hx
      have hF := HF.out
      rw [HX.out, printF] at hF
      simp only at hF
      clear HF
      by_cases hgd : 0 ≤ f0 ∧ f0 ≤ (ends.length : Int) ∧ 1 ≤ f1 ∧ f1 ≤ 7 ∧ (-9223372036854775808 ≤ f4 ∧ f4 ≤ 9223372036854775807) ∧ bs.length + ends.length + sizeI ⟨f0, f1, f2, f3, f4⟩ ≤ 140737488355328
      · rw [if_pos hgd] at hF
        obtain ⟨g0, g1, g2, g3, g4, g5⟩ := hgd
        obtain ⟨d, rfl⟩ : ∃ d : Nat, f0 = d := ⟨f0.toNat, by omega⟩
        rw [Int.toNat_natCast] at hF
        have hde : d ≤ ends.length := by omega
        have G23 := Aside0.mk (And.intro g2 g3)
        have G4 := Aside0.mk g4
        have G5 : Aside0 (bs.length + ends.length + (6 * f2.size + 6 * f3.size + 200) ≤ 140737488355328) := ⟨g5⟩
        have HDE := Aside0.mk hde
        have hd63 : d ≤ 140737488355328 := by omega
        clear g0 g1 g2 g3 g4 g5 hde
        have HF := Aside0.mk hF
        clear hF
        have HI : Aside0 (Itm (wr.alloc (.cells #[.int .i64 (d : Int), .int .i64 f1, .string f2, .string f3, .int .i64 f4] 59)) wr.heap.size ⟨(d : Int), f1, f2, f3, f4⟩) := ⟨heap_alloc_new _ _⟩
        have HS3 : Aside0 (WS w.heap.size g (wr.alloc (.cells #[.int .i64 (d : Int), .int .i64 f1, .string f2, .string f3, .int .i64 f4] 59)) bs ends) := ⟨HS.out.quiet (below_alloc (Below.refl _ _) _)⟩
        have HB3 : Aside0 (Below w.heap.size w (wr.alloc (.cells #[.int .i64 (d : Int), .int .i64 f1, .string f2, .string f3, .int .i64 f4] 59))) := ⟨HB.out.alloc HB.out.size _⟩
        have HNG : Aside0 (wr.heap.size ≠ g) := ⟨by have := HS.out.lt; omega⟩
        go_upto_region 8 with ((go_at_call 71; refine (shut_calls w.heap.size g bs ends d _ HS3.out HDE.out (by have := G5.out; omega) HB3.out.size).mono ?_; rintro e w4 ⟨rfl, hS4, hB4, hK4⟩; have HI4 : Aside0 (Itm w4 wr.heap.size ⟨(d : Int), f1, f2, f3, f4⟩) := ⟨WK.blk hK4 HI.out HNG.out (by decide)⟩; have HS4 := Aside0.mk hS4; have HB4 := Aside0.mk (HB3.out.trans hB4); clear hS4 hB4 hK4))
        obtain ⟨b, hb⟩ : ∃ b, wr.heap.size = b := ⟨_, rfl⟩
        rw [hb] at HI4 HNG
        rw [hb]
        clear hb HI HS3 HB3
        rcases Nat.eq_zero_or_pos j with hj0 | hj0
        · have hnj : ¬ 0 < j := by omega
          have HCM : Aside0 (commaB (prevD l j) (d : Int) = []) := ⟨by rw [hj0]; rfl⟩
          clear hj0
          refine wp_region_held_drew (S := fun w' => Itm w' b ⟨(d : Int), f1, f2, f3, f4⟩ ∧ True) (by kernel_rfl) ⟨HI4.out, trivial⟩ (fun hHeld => ?_)
          refine wpAnyH_take (i := 0) (oi := { dst := some 23, op := _, type := _, pos := _, after := _, guard := _ }) (v := ?_) rfl (by kernel_rfl) (by kernel_rfl) (by kernel_rfl) (fun _ _ _ h => h) (Or.inl ⟨by rfl, ?_⟩) (by assumption) ?_
          rotate_left
          · intro w hSw
            (try dsimp only at hSw)
            clear hSw
            go_simp
            (try with_reducible rfl)
          (try simp only [Act.put, List.setIfInBounds_toArray, List.set_cons_zero, List.set_cons_succ])
          refine wpAnyH_take (i := 1) (oi := { dst := some 24, op := _, type := _, pos := _, after := _, guard := _ }) (v := ?_) rfl (by kernel_rfl) (by kernel_rfl) (by kernel_rfl) (fun _ _ _ h => h) (Or.inl ⟨by rfl, ?_⟩) (by assumption) ?_
          rotate_left
          · intro w hSw
            (try dsimp only at hSw)
            clear hSw
            go_simp
            (try with_reducible rfl)
          (try simp only [Act.put, List.setIfInBounds_toArray, List.set_cons_zero, List.set_cons_succ])
          refine wpAnyH_take (i := 2) (oi := { dst := some 25, op := _, type := _, pos := _, after := _, guard := _ }) (v := ?_) rfl (by kernel_rfl) (by kernel_rfl) (by kernel_rfl) (fun _ _ _ h => h) (Or.inl ⟨by rfl, ?_⟩) (by assumption) ?_
          rotate_left
          · intro w hSw
            (try dsimp only at hSw)
            clear hSw
            go_simp
            (try with_reducible rfl)
          (try simp only [Act.put, List.setIfInBounds_toArray, List.set_cons_zero, List.set_cons_succ])
          refine wpAnyH_take (i := 3) (oi := { dst := some 26, op := _, type := _, pos := _, after := _, guard := _ }) (v := undef) rfl (by kernel_rfl) (by kernel_rfl) (by kernel_rfl) (fun _ _ _ h => h) (Or.inr ⟨by rfl, rfl⟩) (by assumption) ?_
          (try simp only [Act.put, List.setIfInBounds_toArray, List.set_cons_zero, List.set_cons_succ])
          refine wpAnyH_take (i := 4) (oi := { dst := some 27, op := _, type := _, pos := _, after := _, guard := _ }) (v := undef) rfl (by kernel_rfl) (by kernel_rfl) (by kernel_rfl) (fun _ _ _ h => h) (Or.inr ⟨by rfl, rfl⟩) (by assumption) ?_
          (try simp only [Act.put, List.setIfInBounds_toArray, List.set_cons_zero, List.set_cons_succ])
          refine wpAnyH_take (i := 5) (oi := { dst := some 28, op := _, type := _, pos := _, after := _, guard := _ }) (v := undef) rfl (by kernel_rfl) (by kernel_rfl) (by kernel_rfl) (fun _ _ _ h => h) (Or.inr ⟨by rfl, rfl⟩) (by assumption) ?_
          (try simp only [Act.put, List.setIfInBounds_toArray, List.set_cons_zero, List.set_cons_succ])
          refine wpAnyH_take (i := 6) (oi := { dst := some 29, op := _, type := _, pos := _, after := _, guard := _ }) (v := undef) rfl (by kernel_rfl) (by kernel_rfl) (by kernel_rfl) (fun _ _ _ h => h) (Or.inr ⟨by rfl, rfl⟩) (by assumption) ?_
          (try simp only [Act.put, List.setIfInBounds_toArray, List.set_cons_zero, List.set_cons_succ])
          refine wpAnyH_take (i := 7) (oi := { dst := some 30, op := _, type := _, pos := _, after := _, guard := _ }) (v := undef) rfl (by kernel_rfl) (by kernel_rfl) (by kernel_rfl) (fun _ _ _ h => h) (Or.inr ⟨by rfl, rfl⟩) (by assumption) ?_
          (try simp only [Act.put, List.setIfInBounds_toArray, List.set_cons_zero, List.set_cons_succ])
          refine wpAnyH_take (i := 8) (oi := { dst := some 31, op := _, type := _, pos := _, after := _, guard := _ }) (v := undef) rfl (by kernel_rfl) (by kernel_rfl) (by kernel_rfl) (fun _ _ _ h => h) (Or.inr ⟨by rfl, rfl⟩) (by assumption) ?_
          (try simp only [Act.put, List.setIfInBounds_toArray, List.set_cons_zero, List.set_cons_succ])
          refine wpAnyH_take (i := 9) (oi := { dst := some 32, op := _, type := _, pos := _, after := _, guard := _ }) (v := undef) rfl (by kernel_rfl) (by kernel_rfl) (by kernel_rfl) (fun _ _ _ h => h) (Or.inr ⟨by rfl, rfl⟩) (by assumption) ?_
          (try simp only [Act.put, List.setIfInBounds_toArray, List.set_cons_zero, List.set_cons_succ])
          refine wpAnyH_take (i := 10) (oi := { dst := some 33, op := _, type := _, pos := _, after := _, guard := _ }) (v := undef) rfl (by kernel_rfl) (by kernel_rfl) (by kernel_rfl) (fun _ _ _ h => h) (Or.inr ⟨by rfl, rfl⟩) (by assumption) ?_
          (try simp only [Act.put, List.setIfInBounds_toArray, List.set_cons_zero, List.set_cons_succ])
          refine wpAnyH_take (i := 11) (oi := { dst := some 34, op := _, type := _, pos := _, after := _, guard := _ }) (v := undef) rfl (by kernel_rfl) (by kernel_rfl) (by kernel_rfl) (fun _ _ _ h => h) (Or.inr ⟨by rfl, rfl⟩) (by assumption) ?_
          (try simp only [Act.put, List.setIfInBounds_toArray, List.set_cons_zero, List.set_cons_succ])
          refine wpAnyH_take (i := 12) (oi := { dst := some 35, op := _, type := _, pos := _, after := _, guard := _ }) (v := ?_) rfl (by kernel_rfl) (by kernel_rfl) (by kernel_rfl) (fun _ _ _ h => h) (Or.inl ⟨by rfl, ?_⟩) (by assumption) ?_
          rotate_left
          · intro w hSw
            (try dsimp only at hSw)
            clear hSw
            go_simp
            (try with_reducible rfl)
          (try simp only [Act.put, List.setIfInBounds_toArray, List.set_cons_zero, List.set_cons_succ])
          refine wpAnyH_done (by kernel_rfl) ?_ _
          clear hHeld
          go_upto_region 10 with fail
          have hlen1 : (ends.take d).length = d := by rw [List.length_take]; have := HDE.out; omega
          obtain ⟨w5, hw5⟩ : ∃ w5, w4.drew = w5 := ⟨_, rfl⟩
          have HS4 := Aside0.mk HS4.out.drew1
          have HI4 : Aside0 (Itm w4.drew b ⟨(d : Int), f1, f2, f3, f4⟩) := HI4
          have HB4 := Aside0.mk (below_drew1 HB4.out)
          rw [hw5] at HS4 HI4 HB4
          rw [hw5]
          clear hw5
          have HS5 := HS4
          have HI5 := HI4
          have HB5 := HB4
          rcases Nat.eq_zero_or_pos d with hd0 | hd0
          · have hnd : ¬ 0 < d := by omega
            have HKB : Aside0 (keyB (ends.take d) f2 = []) := ⟨by rw [hd0, List.take_zero]; rfl⟩
            clear hd0
            obtain ⟨A2, cc2, c2⟩ := HS5.out.len
            rw [hlen1] at c2
            clear hlen1
            first
            | skip
            obtain ⟨hm0, hm1, hm2, hm3, hm4⟩ := itm_cells HI5.out
            go_wp2_with (go_at_call 73; refine (value_calls_w w.heap.size g (bs ++ (ends.drop d).reverse) (ends.take d) ⟨(d : Int), f1, f2, f3, f4⟩ w5 G23.out HS5.out (by have h5 := G5.out; have hd := HDE.out; skip; simp only [List.length_append, List.length_reverse, List.length_drop, List.length_take, List.length_cons, List.length_nil]; omega) HB5.out.size (HT.out.step HB5.out) G4.out).mono ?_; rintro e w8 ⟨rfl, hS8, hB8, hK8⟩; have HS8 := Aside0.mk hS8; have HB8 := Aside0.mk (HB5.out.trans hB8); clear hS8 hB8 hK8)
            go_roundg (l.length - (j + 1))
            case measure => omega
            case rel => exact ⟨j + 1, _, _, rfl, hlt, by go_num, HS8, ⟨by rw [HPD.out]; have hF := HF.out; rw [HCM.out, HKB.out] at hF; simpa only [List.append_nil, List.append_assoc] using hF⟩, HB8⟩
          · obtain ⟨q, rfl⟩ : ∃ q, d = q + 1 := ⟨d - 1, by omega⟩
            clear hd0
            have hlast := last_take _ q hlen1
            obtain ⟨gg, cc, c2, c3, _, _, _⟩ := HS5.out.top hlen1
            clear hlen1
            obtain ⟨lc, hlc⟩ : ∃ lc : UInt8, (ends.take (q + 1)).getD q 0 = lc := ⟨_, rfl⟩
            rw [hlc] at c3 hlast
            clear hlc
            have hwq : IntKind.i64.wrap (q : Int) = (q : Int) := IntWalk.i64_in (q : Int) ⟨by omega, by omega⟩
            have hq0 : (0 : Int) ≤ (q : Int) := by omega
            have hq1 : (q : Int) < (q : Int) + 1 := by omega
            by_cases hl125 : lc = 125
            · subst hl125
              have HKB : Aside0 (keyB (ends.take (q + 1)) f2 = (writeS f2).1.data.toList ++ [58]) := ⟨by unfold keyB; rw [if_pos hlast]⟩
              clear hlast
              obtain ⟨hm0, hm1, hm2, hm3, hm4⟩ := itm_cells HI5.out
              go_upto_region 14 with (first | (go_at_call 72; refine (quoted_calls w.heap.size g (bs ++ (ends.drop (q + 1)).reverse) (ends.take (q + 1)) f2 w5 HS5.out (by have h5 := G5.out; have hd := HDE.out; simp only [List.length_append, List.length_reverse, List.length_drop, List.length_take, List.length_cons, List.length_nil]; omega) HB5.out.size (HT.out.step HB5.out).tabs).mono ?_; rintro e w6 ⟨rfl, hS6, hB6, hK6⟩; have HI6 : Aside0 (Itm w6 b ⟨((q + 1 : Nat) : Int), f1, f2, f3, f4⟩) := ⟨WK.blk hK6 HI5.out HNG.out (by decide)⟩; have HS6 := Aside0.mk hS6; have HB6 := Aside0.mk (HB5.out.trans hB6); clear hS6 hB6 hK6) | (go_at_call 57; refine (ws_byte w.heap.size g ((bs ++ (ends.drop (q + 1)).reverse) ++ (writeS f2).1.data.toList) (ends.take (q + 1)) 58 w6 HS6.out (by have h5 := G5.out; have hd := HDE.out; have h6 := inner6 f2; simp only [List.length_append, List.length_reverse, List.length_drop, List.length_take, List.length_cons, List.length_nil]; omega) HB6.out.size).mono ?_; rintro e w7 ⟨rfl, hS7, hB7, hK7⟩; have HI7 : Aside0 (Itm w7 b ⟨((q + 1 : Nat) : Int), f1, f2, f3, f4⟩) := ⟨WK.blk hK7 HI6.out HNG.out (by decide)⟩; have HS7 := Aside0.mk hS7; have HB7 := Aside0.mk (HB6.out.trans hB7); clear hS7 hB7 hK7))
              clear hm0 hm1 hm2 hm3 hm4
              obtain ⟨hm0, hm1, hm2, hm3, hm4⟩ := itm_cells HI7.out
              go_wp2_with (go_at_call 73; refine (value_calls_w w.heap.size g ((bs ++ (ends.drop (q + 1)).reverse) ++ (writeS f2).1.data.toList ++ [58]) (ends.take (q + 1)) ⟨((q + 1 : Nat) : Int), f1, f2, f3, f4⟩ w7 G23.out HS7.out (by have h5 := G5.out; have hd := HDE.out; have h6 := inner6 f2; simp only [List.length_append, List.length_reverse, List.length_drop, List.length_take, List.length_cons, List.length_nil]; omega) HB7.out.size (HT.out.step HB7.out) G4.out).mono ?_; rintro e w8 ⟨rfl, hS8, hB8, hK8⟩; have HS8 := Aside0.mk hS8; have HB8 := Aside0.mk (HB7.out.trans hB8); clear hS8 hB8 hK8)
              go_roundg (l.length - (j + 1))
              case measure => omega
              case rel => exact ⟨j + 1, _, _, rfl, hlt, by go_num, HS8, ⟨by rw [HPD.out]; have hF := HF.out; rw [HCM.out, HKB.out] at hF; simpa only [List.append_nil, List.append_assoc] using hF⟩, HB8⟩
            · have hne : (lc == 125) = false := beq_eq_false_iff_ne.mpr hl125
              have hne2 : ((lc.toNat : Int) == 125) = false := u8_ne lc hl125
              have HKB : Aside0 (keyB (ends.take (q + 1)) f2 = []) := ⟨by unfold keyB; rw [if_neg (by rw [hlast]; intro e; exact hl125 (Option.some.inj e))]⟩
              clear hlast hl125
              obtain ⟨hm0, hm1, hm2, hm3, hm4⟩ := itm_cells HI5.out
              go_wp2_with (go_at_call 73; refine (value_calls_w w.heap.size g (bs ++ (ends.drop (q + 1)).reverse) (ends.take (q + 1)) ⟨((q + 1 : Nat) : Int), f1, f2, f3, f4⟩ w5 G23.out HS5.out (by have h5 := G5.out; have hd := HDE.out; skip; simp only [List.length_append, List.length_reverse, List.length_drop, List.length_take, List.length_cons, List.length_nil]; omega) HB5.out.size (HT.out.step HB5.out) G4.out).mono ?_; rintro e w8 ⟨rfl, hS8, hB8, hK8⟩; have HS8 := Aside0.mk hS8; have HB8 := Aside0.mk (HB5.out.trans hB8); clear hS8 hB8 hK8)
              go_roundg (l.length - (j + 1))
              case measure => omega
              case rel => exact ⟨j + 1, _, _, rfl, hlt, by go_num, HS8, ⟨by rw [HPD.out]; have hF := HF.out; rw [HCM.out, HKB.out] at hF; simpa only [List.append_nil, List.append_assoc] using hF⟩, HB8⟩
        · obtain ⟨i, rfl⟩ : ∃ i, j = i + 1 := ⟨j - 1, by omega⟩
          clear hj0
          obtain ⟨ad2, hA2, p0, _, _, _, _⟩ := at_T59 (Kd.C_below HC.out HB4.out) (i : Int) (by omega) (by omega)
          injection hA2 with hA2
          subst hA2
          simp only [Int.toNat_natCast] at p0
          obtain ⟨pf, hpf⟩ : ∃ pf, (rd_T59 l (i : Int)).f0 = pf := ⟨_, rfl⟩
          rw [hpf] at p0
          have hcb : commaB (prevD l (i + 1)) (d : Int) = if (d : Int) ≤ pf then [44] else [] := by unfold prevD; rw [if_neg (Nat.succ_ne_zero i), Nat.add_sub_cancel, hpf]; rfl
          clear hpf
          have hwi : IntKind.i64.wrap (i : Int) = (i : Int) := IntWalk.i64_in (i : Int) ⟨by omega, by omega⟩
          have hi0 : (0 : Int) ≤ (i : Int) := by omega
          have hi1 : (i : Int) < (l.length : Int) := by omega
          have hi2 : i < l.length := by omega
          by_cases hcm : (d : Int) ≤ pf
          · have HCM := Aside0.mk (hcb.trans (if_pos hcm))
            clear hcb
            refine wp_region_held_drew (S := fun w' => Itm w' b ⟨(d : Int), f1, f2, f3, f4⟩ ∧ w'.cell? (ad.add (i * 5)) = some (.int .i64 pf)) (by kernel_rfl) ⟨HI4.out, p0⟩ (fun hHeld => ?_)
            refine wpAnyH_take (i := 0) (oi := { dst := some 23, op := _, type := _, pos := _, after := _, guard := _ }) (v := ?_) rfl (by kernel_rfl) (by kernel_rfl) (by kernel_rfl) (fun _ _ _ h => h) (Or.inl ⟨by rfl, ?_⟩) (by assumption) ?_
            rotate_left
            · intro w hSw
              (try dsimp only at hSw)
              have hm0 := (itm_cells hSw.1).1
              have hm9 := hSw.2
              clear hSw
              go_simp
              (try with_reducible rfl)
            (try simp only [Act.put, List.setIfInBounds_toArray, List.set_cons_zero, List.set_cons_succ])
            refine wpAnyH_take (i := 1) (oi := { dst := some 24, op := _, type := _, pos := _, after := _, guard := _ }) (v := ?_) rfl (by kernel_rfl) (by kernel_rfl) (by kernel_rfl) (fun _ _ _ h => h) (Or.inl ⟨by rfl, ?_⟩) (by assumption) ?_
            rotate_left
            · intro w hSw
              (try dsimp only at hSw)
              have hm0 := (itm_cells hSw.1).1
              have hm9 := hSw.2
              clear hSw
              go_simp
              (try with_reducible rfl)
            (try simp only [Act.put, List.setIfInBounds_toArray, List.set_cons_zero, List.set_cons_succ])
            refine wpAnyH_take (i := 2) (oi := { dst := some 25, op := _, type := _, pos := _, after := _, guard := _ }) (v := ?_) rfl (by kernel_rfl) (by kernel_rfl) (by kernel_rfl) (fun _ _ _ h => h) (Or.inl ⟨by rfl, ?_⟩) (by assumption) ?_
            rotate_left
            · intro w hSw
              (try dsimp only at hSw)
              have hm0 := (itm_cells hSw.1).1
              have hm9 := hSw.2
              clear hSw
              go_simp
              (try with_reducible rfl)
            (try simp only [Act.put, List.setIfInBounds_toArray, List.set_cons_zero, List.set_cons_succ])
            refine wpAnyH_take (i := 3) (oi := { dst := some 26, op := _, type := _, pos := _, after := _, guard := _ }) (v := ?_) rfl (by kernel_rfl) (by kernel_rfl) (by kernel_rfl) (fun _ _ _ h => h) (Or.inl ⟨by rfl, ?_⟩) (by assumption) ?_
            rotate_left
            · intro w hSw
              (try dsimp only at hSw)
              have hm0 := (itm_cells hSw.1).1
              have hm9 := hSw.2
              clear hSw
              go_simp
              (try with_reducible rfl)
            (try simp only [Act.put, List.setIfInBounds_toArray, List.set_cons_zero, List.set_cons_succ])
            refine wpAnyH_take (i := 4) (oi := { dst := some 27, op := _, type := _, pos := _, after := _, guard := _ }) (v := ?_) rfl (by kernel_rfl) (by kernel_rfl) (by kernel_rfl) (fun _ _ _ h => h) (Or.inl ⟨by rfl, ?_⟩) (by assumption) ?_
            rotate_left
            · intro w hSw
              (try dsimp only at hSw)
              have hm0 := (itm_cells hSw.1).1
              have hm9 := hSw.2
              clear hSw
              go_simp
              (try with_reducible rfl)
            (try simp only [Act.put, List.setIfInBounds_toArray, List.set_cons_zero, List.set_cons_succ])
            refine wpAnyH_take (i := 5) (oi := { dst := some 28, op := _, type := _, pos := _, after := _, guard := _ }) (v := ?_) rfl (by kernel_rfl) (by kernel_rfl) (by kernel_rfl) (fun _ _ _ h => h) (Or.inl ⟨by rfl, ?_⟩) (by assumption) ?_
            rotate_left
            · intro w hSw
              (try dsimp only at hSw)
              have hm0 := (itm_cells hSw.1).1
              have hm9 := hSw.2
              clear hSw
              go_simp
              (try with_reducible rfl)
            (try simp only [Act.put, List.setIfInBounds_toArray, List.set_cons_zero, List.set_cons_succ])
            refine wpAnyH_take (i := 6) (oi := { dst := some 29, op := _, type := _, pos := _, after := _, guard := _ }) (v := ?_) rfl (by kernel_rfl) (by kernel_rfl) (by kernel_rfl) (fun _ _ _ h => h) (Or.inl ⟨by rfl, ?_⟩) (by assumption) ?_
            rotate_left
            · intro w hSw
              (try dsimp only at hSw)
              have hm0 := (itm_cells hSw.1).1
              have hm9 := hSw.2
              clear hSw
              go_simp
              (try with_reducible rfl)
            (try simp only [Act.put, List.setIfInBounds_toArray, List.set_cons_zero, List.set_cons_succ])
            refine wpAnyH_take (i := 7) (oi := { dst := some 30, op := _, type := _, pos := _, after := _, guard := _ }) (v := ?_) rfl (by kernel_rfl) (by kernel_rfl) (by kernel_rfl) (fun _ _ _ h => h) (Or.inl ⟨by rfl, ?_⟩) (by assumption) ?_
            rotate_left
            · intro w hSw
              (try dsimp only at hSw)
              have hm0 := (itm_cells hSw.1).1
              have hm9 := hSw.2
              clear hSw
              go_simp
              (try with_reducible rfl)
            (try simp only [Act.put, List.setIfInBounds_toArray, List.set_cons_zero, List.set_cons_succ])
            refine wpAnyH_take (i := 8) (oi := { dst := some 31, op := _, type := _, pos := _, after := _, guard := _ }) (v := ?_) rfl (by kernel_rfl) (by kernel_rfl) (by kernel_rfl) (fun _ _ _ h => h) (Or.inl ⟨by rfl, ?_⟩) (by assumption) ?_
            rotate_left
            · intro w hSw
              (try dsimp only at hSw)
              have hm0 := (itm_cells hSw.1).1
              have hm9 := hSw.2
              clear hSw
              go_simp
              (try with_reducible rfl)
            (try simp only [Act.put, List.setIfInBounds_toArray, List.set_cons_zero, List.set_cons_succ])
            refine wpAnyH_take (i := 9) (oi := { dst := some 32, op := _, type := _, pos := _, after := _, guard := _ }) (v := ?_) rfl (by kernel_rfl) (by kernel_rfl) (by kernel_rfl) (fun _ _ _ h => h) (Or.inl ⟨by rfl, ?_⟩) (by assumption) ?_
            rotate_left
            · intro w hSw
              (try dsimp only at hSw)
              have hm0 := (itm_cells hSw.1).1
              have hm9 := hSw.2
              clear hSw
              go_simp
              (try with_reducible rfl)
            (try simp only [Act.put, List.setIfInBounds_toArray, List.set_cons_zero, List.set_cons_succ])
            refine wpAnyH_take (i := 10) (oi := { dst := some 33, op := _, type := _, pos := _, after := _, guard := _ }) (v := ?_) rfl (by kernel_rfl) (by kernel_rfl) (by kernel_rfl) (fun _ _ _ h => h) (Or.inl ⟨by rfl, ?_⟩) (by assumption) ?_
            rotate_left
            · intro w hSw
              (try dsimp only at hSw)
              have hm0 := (itm_cells hSw.1).1
              have hm9 := hSw.2
              clear hSw
              go_simp
              (try with_reducible rfl)
            (try simp only [Act.put, List.setIfInBounds_toArray, List.set_cons_zero, List.set_cons_succ])
            refine wpAnyH_take (i := 11) (oi := { dst := some 34, op := _, type := _, pos := _, after := _, guard := _ }) (v := ?_) rfl (by kernel_rfl) (by kernel_rfl) (by kernel_rfl) (fun _ _ _ h => h) (Or.inl ⟨by rfl, ?_⟩) (by assumption) ?_
            rotate_left
            · intro w hSw
              (try dsimp only at hSw)
              have hm0 := (itm_cells hSw.1).1
              have hm9 := hSw.2
              clear hSw
              go_simp
              (try with_reducible rfl)
            (try simp only [Act.put, List.setIfInBounds_toArray, List.set_cons_zero, List.set_cons_succ])
            refine wpAnyH_take (i := 12) (oi := { dst := some 35, op := _, type := _, pos := _, after := _, guard := _ }) (v := ?_) rfl (by kernel_rfl) (by kernel_rfl) (by kernel_rfl) (fun _ _ _ h => h) (Or.inl ⟨by rfl, ?_⟩) (by assumption) ?_
            rotate_left
            · intro w hSw
              (try dsimp only at hSw)
              have hm0 := (itm_cells hSw.1).1
              have hm9 := hSw.2
              clear hSw
              go_simp
              (try with_reducible rfl)
            (try simp only [Act.put, List.setIfInBounds_toArray, List.set_cons_zero, List.set_cons_succ])
            refine wpAnyH_done (by kernel_rfl) ?_ _
            clear hHeld p0
            go_upto_region 10 with ((go_at_call 57; refine (ws_byte w.heap.size g (bs ++ (ends.drop d).reverse) (ends.take d) 44 w4.drew HS4.out.drew1 (by have h5 := G5.out; have hd := HDE.out; simp only [List.length_append, List.length_reverse, List.length_drop]; omega) (below_drew1 HB4.out).size).mono ?_; rintro e w9 ⟨rfl, hS9, hB9, hK9⟩; have HI9 : Aside0 (Itm w9 b ⟨(d : Int), f1, f2, f3, f4⟩) := ⟨WK.blk hK9 HI4.out HNG.out (by decide)⟩; have HS9 := Aside0.mk hS9; have HB9 := Aside0.mk ((below_drew1 HB4.out).trans hB9); clear hS9 hB9 hK9))
            have hlen1 : (ends.take d).length = d := by rw [List.length_take]; have := HDE.out; omega
            obtain ⟨w5, hw5⟩ : ∃ w5, w9 = w5 := ⟨_, rfl⟩
            rw [hw5] at HS9 HI9 HB9
            rw [hw5]
            clear hw5
            have HS5 := HS9
            have HI5 := HI9
            have HB5 := HB9
            rcases Nat.eq_zero_or_pos d with hd0 | hd0
            · have hnd : ¬ 0 < d := by omega
              have HKB : Aside0 (keyB (ends.take d) f2 = []) := ⟨by rw [hd0, List.take_zero]; rfl⟩
              clear hd0
              obtain ⟨A2, cc2, c2⟩ := HS5.out.len
              rw [hlen1] at c2
              clear hlen1
              first
              | skip
              obtain ⟨hm0, hm1, hm2, hm3, hm4⟩ := itm_cells HI5.out
              go_wp2_with (go_at_call 73; refine (value_calls_w w.heap.size g (bs ++ (ends.drop d).reverse ++ [44]) (ends.take d) ⟨(d : Int), f1, f2, f3, f4⟩ w5 G23.out HS5.out (by have h5 := G5.out; have hd := HDE.out; skip; simp only [List.length_append, List.length_reverse, List.length_drop, List.length_take, List.length_cons, List.length_nil]; omega) HB5.out.size (HT.out.step HB5.out) G4.out).mono ?_; rintro e w8 ⟨rfl, hS8, hB8, hK8⟩; have HS8 := Aside0.mk hS8; have HB8 := Aside0.mk (HB5.out.trans hB8); clear hS8 hB8 hK8)
              go_roundg (l.length - ((i + 1) + 1))
              case measure => omega
              case rel => exact ⟨(i + 1) + 1, _, _, rfl, hlt, by go_num, HS8, ⟨by rw [HPD.out]; have hF := HF.out; rw [HCM.out, HKB.out] at hF; simpa only [List.append_nil, List.append_assoc] using hF⟩, HB8⟩
            · obtain ⟨q, rfl⟩ : ∃ q, d = q + 1 := ⟨d - 1, by omega⟩
              clear hd0
              have hlast := last_take _ q hlen1
              obtain ⟨gg, cc, c2, c3, _, _, _⟩ := HS5.out.top hlen1
              clear hlen1
              obtain ⟨lc, hlc⟩ : ∃ lc : UInt8, (ends.take (q + 1)).getD q 0 = lc := ⟨_, rfl⟩
              rw [hlc] at c3 hlast
              clear hlc
              have hwq : IntKind.i64.wrap (q : Int) = (q : Int) := IntWalk.i64_in (q : Int) ⟨by omega, by omega⟩
              have hq0 : (0 : Int) ≤ (q : Int) := by omega
              have hq1 : (q : Int) < (q : Int) + 1 := by omega
              by_cases hl125 : lc = 125
              · subst hl125
                have HKB : Aside0 (keyB (ends.take (q + 1)) f2 = (writeS f2).1.data.toList ++ [58]) := ⟨by unfold keyB; rw [if_pos hlast]⟩
                clear hlast
                obtain ⟨hm0, hm1, hm2, hm3, hm4⟩ := itm_cells HI5.out
                go_upto_region 14 with (first | (go_at_call 72; refine (quoted_calls w.heap.size g (bs ++ (ends.drop (q + 1)).reverse ++ [44]) (ends.take (q + 1)) f2 w5 HS5.out (by have h5 := G5.out; have hd := HDE.out; simp only [List.length_append, List.length_reverse, List.length_drop, List.length_take, List.length_cons, List.length_nil]; omega) HB5.out.size (HT.out.step HB5.out).tabs).mono ?_; rintro e w6 ⟨rfl, hS6, hB6, hK6⟩; have HI6 : Aside0 (Itm w6 b ⟨((q + 1 : Nat) : Int), f1, f2, f3, f4⟩) := ⟨WK.blk hK6 HI5.out HNG.out (by decide)⟩; have HS6 := Aside0.mk hS6; have HB6 := Aside0.mk (HB5.out.trans hB6); clear hS6 hB6 hK6) | (go_at_call 57; refine (ws_byte w.heap.size g ((bs ++ (ends.drop (q + 1)).reverse ++ [44]) ++ (writeS f2).1.data.toList) (ends.take (q + 1)) 58 w6 HS6.out (by have h5 := G5.out; have hd := HDE.out; have h6 := inner6 f2; simp only [List.length_append, List.length_reverse, List.length_drop, List.length_take, List.length_cons, List.length_nil]; omega) HB6.out.size).mono ?_; rintro e w7 ⟨rfl, hS7, hB7, hK7⟩; have HI7 : Aside0 (Itm w7 b ⟨((q + 1 : Nat) : Int), f1, f2, f3, f4⟩) := ⟨WK.blk hK7 HI6.out HNG.out (by decide)⟩; have HS7 := Aside0.mk hS7; have HB7 := Aside0.mk (HB6.out.trans hB7); clear hS7 hB7 hK7))
                clear hm0 hm1 hm2 hm3 hm4
                obtain ⟨hm0, hm1, hm2, hm3, hm4⟩ := itm_cells HI7.out
                go_wp2_with (go_at_call 73; refine (value_calls_w w.heap.size g ((bs ++ (ends.drop (q + 1)).reverse ++ [44]) ++ (writeS f2).1.data.toList ++ [58]) (ends.take (q + 1)) ⟨((q + 1 : Nat) : Int), f1, f2, f3, f4⟩ w7 G23.out HS7.out (by have h5 := G5.out; have hd := HDE.out; have h6 := inner6 f2; simp only [List.length_append, List.length_reverse, List.length_drop, List.length_take, List.length_cons, List.length_nil]; omega) HB7.out.size (HT.out.step HB7.out) G4.out).mono ?_; rintro e w8 ⟨rfl, hS8, hB8, hK8⟩; have HS8 := Aside0.mk hS8; have HB8 := Aside0.mk (HB7.out.trans hB8); clear hS8 hB8 hK8)
                go_roundg (l.length - ((i + 1) + 1))
                case measure => omega
                case rel => exact ⟨(i + 1) + 1, _, _, rfl, hlt, by go_num, HS8, ⟨by rw [HPD.out]; have hF := HF.out; rw [HCM.out, HKB.out] at hF; simpa only [List.append_nil, List.append_assoc] using hF⟩, HB8⟩
              · have hne : (lc == 125) = false := beq_eq_false_iff_ne.mpr hl125
                have hne2 : ((lc.toNat : Int) == 125) = false := u8_ne lc hl125
                have HKB : Aside0 (keyB (ends.take (q + 1)) f2 = []) := ⟨by unfold keyB; rw [if_neg (by rw [hlast]; intro e; exact hl125 (Option.some.inj e))]⟩
                clear hlast hl125
                obtain ⟨hm0, hm1, hm2, hm3, hm4⟩ := itm_cells HI5.out
                go_wp2_with (go_at_call 73; refine (value_calls_w w.heap.size g (bs ++ (ends.drop (q + 1)).reverse ++ [44]) (ends.take (q + 1)) ⟨((q + 1 : Nat) : Int), f1, f2, f3, f4⟩ w5 G23.out HS5.out (by have h5 := G5.out; have hd := HDE.out; skip; simp only [List.length_append, List.length_reverse, List.length_drop, List.length_take, List.length_cons, List.length_nil]; omega) HB5.out.size (HT.out.step HB5.out) G4.out).mono ?_; rintro e w8 ⟨rfl, hS8, hB8, hK8⟩; have HS8 := Aside0.mk hS8; have HB8 := Aside0.mk (HB5.out.trans hB8); clear hS8 hB8 hK8)
                go_roundg (l.length - ((i + 1) + 1))
                case measure => omega
                case rel => exact ⟨(i + 1) + 1, _, _, rfl, hlt, by go_num, HS8, ⟨by rw [HPD.out]; have hF := HF.out; rw [HCM.out, HKB.out] at hF; simpa only [List.append_nil, List.append_assoc] using hF⟩, HB8⟩
          · have HCM := Aside0.mk (hcb.trans (if_neg hcm))
            clear hcb
            refine wp_region_held_drew (S := fun w' => Itm w' b ⟨(d : Int), f1, f2, f3, f4⟩ ∧ w'.cell? (ad.add (i * 5)) = some (.int .i64 pf)) (by kernel_rfl) ⟨HI4.out, p0⟩ (fun hHeld => ?_)
            refine wpAnyH_take (i := 0) (oi := { dst := some 23, op := _, type := _, pos := _, after := _, guard := _ }) (v := ?_) rfl (by kernel_rfl) (by kernel_rfl) (by kernel_rfl) (fun _ _ _ h => h) (Or.inl ⟨by rfl, ?_⟩) (by assumption) ?_
            rotate_left
            · intro w hSw
              (try dsimp only at hSw)
              have hm0 := (itm_cells hSw.1).1
              have hm9 := hSw.2
              clear hSw
              go_simp
              (try with_reducible rfl)
            (try simp only [Act.put, List.setIfInBounds_toArray, List.set_cons_zero, List.set_cons_succ])
            refine wpAnyH_take (i := 1) (oi := { dst := some 24, op := _, type := _, pos := _, after := _, guard := _ }) (v := ?_) rfl (by kernel_rfl) (by kernel_rfl) (by kernel_rfl) (fun _ _ _ h => h) (Or.inl ⟨by rfl, ?_⟩) (by assumption) ?_
            rotate_left
            · intro w hSw
              (try dsimp only at hSw)
              have hm0 := (itm_cells hSw.1).1
              have hm9 := hSw.2
              clear hSw
              go_simp
              (try with_reducible rfl)
            (try simp only [Act.put, List.setIfInBounds_toArray, List.set_cons_zero, List.set_cons_succ])
            refine wpAnyH_take (i := 2) (oi := { dst := some 25, op := _, type := _, pos := _, after := _, guard := _ }) (v := ?_) rfl (by kernel_rfl) (by kernel_rfl) (by kernel_rfl) (fun _ _ _ h => h) (Or.inl ⟨by rfl, ?_⟩) (by assumption) ?_
            rotate_left
            · intro w hSw
              (try dsimp only at hSw)
              have hm0 := (itm_cells hSw.1).1
              have hm9 := hSw.2
              clear hSw
              go_simp
              (try with_reducible rfl)
            (try simp only [Act.put, List.setIfInBounds_toArray, List.set_cons_zero, List.set_cons_succ])
            refine wpAnyH_take (i := 3) (oi := { dst := some 26, op := _, type := _, pos := _, after := _, guard := _ }) (v := ?_) rfl (by kernel_rfl) (by kernel_rfl) (by kernel_rfl) (fun _ _ _ h => h) (Or.inl ⟨by rfl, ?_⟩) (by assumption) ?_
            rotate_left
            · intro w hSw
              (try dsimp only at hSw)
              have hm0 := (itm_cells hSw.1).1
              have hm9 := hSw.2
              clear hSw
              go_simp
              (try with_reducible rfl)
            (try simp only [Act.put, List.setIfInBounds_toArray, List.set_cons_zero, List.set_cons_succ])
            refine wpAnyH_take (i := 4) (oi := { dst := some 27, op := _, type := _, pos := _, after := _, guard := _ }) (v := ?_) rfl (by kernel_rfl) (by kernel_rfl) (by kernel_rfl) (fun _ _ _ h => h) (Or.inl ⟨by rfl, ?_⟩) (by assumption) ?_
            rotate_left
            · intro w hSw
              (try dsimp only at hSw)
              have hm0 := (itm_cells hSw.1).1
              have hm9 := hSw.2
              clear hSw
              go_simp
              (try with_reducible rfl)
            (try simp only [Act.put, List.setIfInBounds_toArray, List.set_cons_zero, List.set_cons_succ])
            refine wpAnyH_take (i := 5) (oi := { dst := some 28, op := _, type := _, pos := _, after := _, guard := _ }) (v := ?_) rfl (by kernel_rfl) (by kernel_rfl) (by kernel_rfl) (fun _ _ _ h => h) (Or.inl ⟨by rfl, ?_⟩) (by assumption) ?_
            rotate_left
            · intro w hSw
              (try dsimp only at hSw)
              have hm0 := (itm_cells hSw.1).1
              have hm9 := hSw.2
              clear hSw
              go_simp
              (try with_reducible rfl)
            (try simp only [Act.put, List.setIfInBounds_toArray, List.set_cons_zero, List.set_cons_succ])
            refine wpAnyH_take (i := 6) (oi := { dst := some 29, op := _, type := _, pos := _, after := _, guard := _ }) (v := ?_) rfl (by kernel_rfl) (by kernel_rfl) (by kernel_rfl) (fun _ _ _ h => h) (Or.inl ⟨by rfl, ?_⟩) (by assumption) ?_
            rotate_left
            · intro w hSw
              (try dsimp only at hSw)
              have hm0 := (itm_cells hSw.1).1
              have hm9 := hSw.2
              clear hSw
              go_simp
              (try with_reducible rfl)
            (try simp only [Act.put, List.setIfInBounds_toArray, List.set_cons_zero, List.set_cons_succ])
            refine wpAnyH_take (i := 7) (oi := { dst := some 30, op := _, type := _, pos := _, after := _, guard := _ }) (v := ?_) rfl (by kernel_rfl) (by kernel_rfl) (by kernel_rfl) (fun _ _ _ h => h) (Or.inl ⟨by rfl, ?_⟩) (by assumption) ?_
            rotate_left
            · intro w hSw
              (try dsimp only at hSw)
              have hm0 := (itm_cells hSw.1).1
              have hm9 := hSw.2
              clear hSw
              go_simp
              (try with_reducible rfl)
            (try simp only [Act.put, List.setIfInBounds_toArray, List.set_cons_zero, List.set_cons_succ])
            refine wpAnyH_take (i := 8) (oi := { dst := some 31, op := _, type := _, pos := _, after := _, guard := _ }) (v := ?_) rfl (by kernel_rfl) (by kernel_rfl) (by kernel_rfl) (fun _ _ _ h => h) (Or.inl ⟨by rfl, ?_⟩) (by assumption) ?_
            rotate_left
            · intro w hSw
              (try dsimp only at hSw)
              have hm0 := (itm_cells hSw.1).1
              have hm9 := hSw.2
              clear hSw
              go_simp
              (try with_reducible rfl)
            (try simp only [Act.put, List.setIfInBounds_toArray, List.set_cons_zero, List.set_cons_succ])
            refine wpAnyH_take (i := 9) (oi := { dst := some 32, op := _, type := _, pos := _, after := _, guard := _ }) (v := ?_) rfl (by kernel_rfl) (by kernel_rfl) (by kernel_rfl) (fun _ _ _ h => h) (Or.inl ⟨by rfl, ?_⟩) (by assumption) ?_
            rotate_left
            · intro w hSw
              (try dsimp only at hSw)
              have hm0 := (itm_cells hSw.1).1
              have hm9 := hSw.2
              clear hSw
              go_simp
              (try with_reducible rfl)
            (try simp only [Act.put, List.setIfInBounds_toArray, List.set_cons_zero, List.set_cons_succ])
            refine wpAnyH_take (i := 10) (oi := { dst := some 33, op := _, type := _, pos := _, after := _, guard := _ }) (v := ?_) rfl (by kernel_rfl) (by kernel_rfl) (by kernel_rfl) (fun _ _ _ h => h) (Or.inl ⟨by rfl, ?_⟩) (by assumption) ?_
            rotate_left
            · intro w hSw
              (try dsimp only at hSw)
              have hm0 := (itm_cells hSw.1).1
              have hm9 := hSw.2
              clear hSw
              go_simp
              (try with_reducible rfl)
            (try simp only [Act.put, List.setIfInBounds_toArray, List.set_cons_zero, List.set_cons_succ])
            refine wpAnyH_take (i := 11) (oi := { dst := some 34, op := _, type := _, pos := _, after := _, guard := _ }) (v := ?_) rfl (by kernel_rfl) (by kernel_rfl) (by kernel_rfl) (fun _ _ _ h => h) (Or.inl ⟨by rfl, ?_⟩) (by assumption) ?_
            rotate_left
            · intro w hSw
              (try dsimp only at hSw)
              have hm0 := (itm_cells hSw.1).1
              have hm9 := hSw.2
              clear hSw
              go_simp
              (try with_reducible rfl)
            (try simp only [Act.put, List.setIfInBounds_toArray, List.set_cons_zero, List.set_cons_succ])
            refine wpAnyH_take (i := 12) (oi := { dst := some 35, op := _, type := _, pos := _, after := _, guard := _ }) (v := ?_) rfl (by kernel_rfl) (by kernel_rfl) (by kernel_rfl) (fun _ _ _ h => h) (Or.inl ⟨by rfl, ?_⟩) (by assumption) ?_
            rotate_left
            · intro w hSw
              (try dsimp only at hSw)
              have hm0 := (itm_cells hSw.1).1
              have hm9 := hSw.2
              clear hSw
              go_simp
              (try with_reducible rfl)
            (try simp only [Act.put, List.setIfInBounds_toArray, List.set_cons_zero, List.set_cons_succ])
            refine wpAnyH_done (by kernel_rfl) ?_ _
            clear hHeld p0
            go_upto_region 10 with fail
            have hlen1 : (ends.take d).length = d := by rw [List.length_take]; have := HDE.out; omega
            obtain ⟨w5, hw5⟩ : ∃ w5, w4.drew = w5 := ⟨_, rfl⟩
            have HS4 := Aside0.mk HS4.out.drew1
            have HI4 : Aside0 (Itm w4.drew b ⟨(d : Int), f1, f2, f3, f4⟩) := HI4
            have HB4 := Aside0.mk (below_drew1 HB4.out)
            rw [hw5] at HS4 HI4 HB4
            rw [hw5]
            clear hw5
            have HS5 := HS4
            have HI5 := HI4
            have HB5 := HB4
            rcases Nat.eq_zero_or_pos d with hd0 | hd0
            · have hnd : ¬ 0 < d := by omega
              have HKB : Aside0 (keyB (ends.take d) f2 = []) := ⟨by rw [hd0, List.take_zero]; rfl⟩
              clear hd0
              obtain ⟨A2, cc2, c2⟩ := HS5.out.len
              rw [hlen1] at c2
              clear hlen1
              first
              | skip
              obtain ⟨hm0, hm1, hm2, hm3, hm4⟩ := itm_cells HI5.out
              go_wp2_with (go_at_call 73; refine (value_calls_w w.heap.size g (bs ++ (ends.drop d).reverse) (ends.take d) ⟨(d : Int), f1, f2, f3, f4⟩ w5 G23.out HS5.out (by have h5 := G5.out; have hd := HDE.out; skip; simp only [List.length_append, List.length_reverse, List.length_drop, List.length_take, List.length_cons, List.length_nil]; omega) HB5.out.size (HT.out.step HB5.out) G4.out).mono ?_; rintro e w8 ⟨rfl, hS8, hB8, hK8⟩; have HS8 := Aside0.mk hS8; have HB8 := Aside0.mk (HB5.out.trans hB8); clear hS8 hB8 hK8)
              go_roundg (l.length - ((i + 1) + 1))
              case measure => omega
              case rel => exact ⟨(i + 1) + 1, _, _, rfl, hlt, by go_num, HS8, ⟨by rw [HPD.out]; have hF := HF.out; rw [HCM.out, HKB.out] at hF; simpa only [List.append_nil, List.append_assoc] using hF⟩, HB8⟩
            · obtain ⟨q, rfl⟩ : ∃ q, d = q + 1 := ⟨d - 1, by omega⟩
              clear hd0
              have hlast := last_take _ q hlen1
              obtain ⟨gg, cc, c2, c3, _, _, _⟩ := HS5.out.top hlen1
              clear hlen1
              obtain ⟨lc, hlc⟩ : ∃ lc : UInt8, (ends.take (q + 1)).getD q 0 = lc := ⟨_, rfl⟩
              rw [hlc] at c3 hlast
              clear hlc
              have hwq : IntKind.i64.wrap (q : Int) = (q : Int) := IntWalk.i64_in (q : Int) ⟨by omega, by omega⟩
              have hq0 : (0 : Int) ≤ (q : Int) := by omega
              have hq1 : (q : Int) < (q : Int) + 1 := by omega
              by_cases hl125 : lc = 125
              · subst hl125
                have HKB : Aside0 (keyB (ends.take (q + 1)) f2 = (writeS f2).1.data.toList ++ [58]) := ⟨by unfold keyB; rw [if_pos hlast]⟩
                clear hlast
                obtain ⟨hm0, hm1, hm2, hm3, hm4⟩ := itm_cells HI5.out
                go_upto_region 14 with (first | (go_at_call 72; refine (quoted_calls w.heap.size g (bs ++ (ends.drop (q + 1)).reverse) (ends.take (q + 1)) f2 w5 HS5.out (by have h5 := G5.out; have hd := HDE.out; simp only [List.length_append, List.length_reverse, List.length_drop, List.length_take, List.length_cons, List.length_nil]; omega) HB5.out.size (HT.out.step HB5.out).tabs).mono ?_; rintro e w6 ⟨rfl, hS6, hB6, hK6⟩; have HI6 : Aside0 (Itm w6 b ⟨((q + 1 : Nat) : Int), f1, f2, f3, f4⟩) := ⟨WK.blk hK6 HI5.out HNG.out (by decide)⟩; have HS6 := Aside0.mk hS6; have HB6 := Aside0.mk (HB5.out.trans hB6); clear hS6 hB6 hK6) | (go_at_call 57; refine (ws_byte w.heap.size g ((bs ++ (ends.drop (q + 1)).reverse) ++ (writeS f2).1.data.toList) (ends.take (q + 1)) 58 w6 HS6.out (by have h5 := G5.out; have hd := HDE.out; have h6 := inner6 f2; simp only [List.length_append, List.length_reverse, List.length_drop, List.length_take, List.length_cons, List.length_nil]; omega) HB6.out.size).mono ?_; rintro e w7 ⟨rfl, hS7, hB7, hK7⟩; have HI7 : Aside0 (Itm w7 b ⟨((q + 1 : Nat) : Int), f1, f2, f3, f4⟩) := ⟨WK.blk hK7 HI6.out HNG.out (by decide)⟩; have HS7 := Aside0.mk hS7; have HB7 := Aside0.mk (HB6.out.trans hB7); clear hS7 hB7 hK7))
                clear hm0 hm1 hm2 hm3 hm4
                obtain ⟨hm0, hm1, hm2, hm3, hm4⟩ := itm_cells HI7.out
                go_wp2_with (go_at_call 73; refine (value_calls_w w.heap.size g ((bs ++ (ends.drop (q + 1)).reverse) ++ (writeS f2).1.data.toList ++ [58]) (ends.take (q + 1)) ⟨((q + 1 : Nat) : Int), f1, f2, f3, f4⟩ w7 G23.out HS7.out (by have h5 := G5.out; have hd := HDE.out; have h6 := inner6 f2; simp only [List.length_append, List.length_reverse, List.length_drop, List.length_take, List.length_cons, List.length_nil]; omega) HB7.out.size (HT.out.step HB7.out) G4.out).mono ?_; rintro e w8 ⟨rfl, hS8, hB8, hK8⟩; have HS8 := Aside0.mk hS8; have HB8 := Aside0.mk (HB7.out.trans hB8); clear hS8 hB8 hK8)
                go_roundg (l.length - ((i + 1) + 1))
                case measure => omega
                case rel => exact ⟨(i + 1) + 1, _, _, rfl, hlt, by go_num, HS8, ⟨by rw [HPD.out]; have hF := HF.out; rw [HCM.out, HKB.out] at hF; simpa only [List.append_nil, List.append_assoc] using hF⟩, HB8⟩
              · have hne : (lc == 125) = false := beq_eq_false_iff_ne.mpr hl125
                have hne2 : ((lc.toNat : Int) == 125) = false := u8_ne lc hl125
                have HKB : Aside0 (keyB (ends.take (q + 1)) f2 = []) := ⟨by unfold keyB; rw [if_neg (by rw [hlast]; intro e; exact hl125 (Option.some.inj e))]⟩
                clear hlast hl125
                obtain ⟨hm0, hm1, hm2, hm3, hm4⟩ := itm_cells HI5.out
                go_wp2_with (go_at_call 73; refine (value_calls_w w.heap.size g (bs ++ (ends.drop (q + 1)).reverse) (ends.take (q + 1)) ⟨((q + 1 : Nat) : Int), f1, f2, f3, f4⟩ w5 G23.out HS5.out (by have h5 := G5.out; have hd := HDE.out; skip; simp only [List.length_append, List.length_reverse, List.length_drop, List.length_take, List.length_cons, List.length_nil]; omega) HB5.out.size (HT.out.step HB5.out) G4.out).mono ?_; rintro e w8 ⟨rfl, hS8, hB8, hK8⟩; have HS8 := Aside0.mk hS8; have HB8 := Aside0.mk (HB5.out.trans hB8); clear hS8 hB8 hK8)
                go_roundg (l.length - ((i + 1) + 1))
                case measure => omega
                case rel => exact ⟨(i + 1) + 1, _, _, rfl, hlt, by go_num, HS8, ⟨by rw [HPD.out]; have hF := HF.out; rw [HCM.out, HKB.out] at hF; simpa only [List.append_nil, List.append_assoc] using hF⟩, HB8⟩
      · rw [if_neg hgd] at hF; cases hF
    · have hjl2 : l.drop j = [] := List.drop_eq_nil_of_le (by omega)
      have hF := HF.out
      rw [hjl2, printF] at hF
      have HR := Aside0.mk (Option.some.inj hF)
      clear HF hF hjl2
      have hjl3 : ¬ (j : Int) < (l.length : Int) := by omega
      have HLE : Aside0 (bs.length + ends.length ≤ 140737488355328) := ⟨by have := HR1.out; rw [← HR.out, List.length_append, List.length_reverse] at this; exact this⟩
      go_wp2_with (first
        | (go_at_call 71; refine (shut_calls w.heap.size g bs ends 0 wr HS.out (Nat.zero_le _) HLE.out HB.out.size).mono ?_; rintro e w4 ⟨rfl, hS4, hB4, hK4⟩; rw [List.drop_zero, HR.out] at hS4; have HS4 := Aside0.mk hS4; have HB4 := Aside0.mk (HB.out.trans hB4); clear hS4 hB4 hK4)
        | (go_at_call 55; refine (ws_text w.heap.size g r _ w4 HS4.out HR0.out HR1.out).mono ?_; rintro e w5 ⟨rfl, hB5⟩; have HB5 := Aside0.mk (HB4.out.trans hB5); clear hB5))
      go_ret
      exact ⟨rfl, HB5.out⟩
set_option maxHeartbeats 8000000 in
set_option maxRecDepth 100000 in
theorem print_no (w : World) (A : Option Addr) (c : Nat) (l : List S59) (hC : Kd.C k59 w A l.length l) (hc : l.length ≤ c) (ht : JTabs w) (hr : json_Right.f l = some false) :
    Calls Tryd.prog 47 #[.slice A l.length c] w fun e w' => e = .returned (.string ⟨#[]⟩) ∧ Below w.heap.size w w' := by
  have HC := Aside0.mk hC
  have HT := Aside0.mk ht
  have HRF := Aside0.mk hr
  have HCC := Aside0.mk hc
  clear hC ht hc hr
  go_enter Tryd.func47, Tryd.ntmps47
  go_wp2_with (go_at_call 42; refine (json_Right.calls A c l false _ HC.out HCC.out HRF.out HT.out.tabs).mono ?_; rintro e w1 ⟨rfl, hb1⟩; have HB1 := Aside0.mk hb1; clear hb1)
  go_ret
  exact ⟨rfl, HB1.out⟩
def json_Print.f (l : List S59) : Option ByteArray := (json_Right.f l).bind fun ok => if ok = true then (printF none [] [] l).bind fun r => if r ≠ [] ∧ r.length ≤ 140737488355328 then some ⟨r.toArray⟩ else none else some ⟨#[]⟩
theorem json_Print.calls (A : Option Addr) (c : Nat) (l : List S59) (r : ByteArray) (w : World) (hC : Kd.C k59 w A l.length l) (hc : l.length ≤ c) (h : json_Print.f l = some r) (ht : JTabs w := by first | assumption | (refine JTabs.step (by assumption) ?_; repeat (first | exact Aside0.out (by assumption) | apply below_alloc | apply pw_below_drewN | apply below_drew1 | exact Below.refl _ _))) :
    Calls Tryd.prog 47 #[.slice A l.length c] w fun e w' => e = .returned (.string r) ∧ Below w.heap.size w w' := by
  unfold json_Print.f at h
  obtain ⟨ok, hr, h⟩ := Option.bind_eq_some_iff.1 h
  cases ok with
  | true =>
    rw [if_pos rfl] at h
    obtain ⟨q, hq, h⟩ := Option.bind_eq_some_iff.1 h
    by_cases h0 : q ≠ [] ∧ q.length ≤ 140737488355328
    · rw [if_pos h0] at h
      cases h
      exact print_walk w A c l q hC hc ht hr hq h0.1 h0.2
    · rw [if_neg h0] at h; cases h
  | false =>
    rw [if_neg (by decide)] at h
    cases h
    exact print_no w A c l hC hc ht hr
end Go.Proofs.YthhmmaihbjhhgaaDoor.Giv
namespace Go.Proofs.YthhmmaihbjhhgaaDoor.Giv
open Go.RowKit Go.Proofs.YthhmmaihbjhhgaaDoorW.PrintWords Go.Proofs.YthhmmaihbjhhgaaDoorW.PrintLast Go.Proofs.YthhmmaihbjhhgaaDoorW.PrintMore
open Go.Proofs.YthhmmaihbjhhgaaDoor.U1 Go.Proofs.YthhmmaihbjhhgaaDoor.Q1 Go.Proofs.YthhmmaihbjhhgaaDoor.J0 Go.Proofs.YthhmmaihbjhhgaaDoor.J1
set_option maxHeartbeats 8000000 in
set_option maxRecDepth 100000 in
theorem members_shut (w0 W : World) (g : Nat) (s : ByteArray) (p : Nat) (v : Value) (out : List S59) (x : S59) (e : Nat) (hR : Rd W g s p v) (hO : Out w0 W g v out) (hB : Below w0.heap.size w0 W) (hg : w0.heap.size ≤ g) (hp : p ≤ s.size) (hs : s.size ≤ 4611686018427387904)
    (ht : (takesP s p e).1 = true) :
    Calls Tryd.prog 87 #[.pointer (some ⟨g, 0, none⟩), itemV x, .int .u8 (e : Int)] W fun ev W' => ev = .returned (.int .i64 0) ∧ Left w0 W W' g s (takesP s p e).2 v out := by
  have HR := Aside0.mk hR
  have HO := Aside0.mk hO
  have HB := Aside0.mk hB
  have HG := Aside0.mk hg
  have HS := Aside0.mk hs
  have HPs := Aside0.mk hp
  clear hR hB hg hs hO hp
  unfold itemV
  go_enter Tryd.func87, Tryd.ntmps87
  go_wp2_with fail
  obtain ⟨b, hb⟩ : ∃ b, W.heap.size = b := ⟨_, rfl⟩
  have HM := Aside0.mk (MS.start (x := x) (W.alloc (.cells #[.int .i64 x.f0, .int .i64 x.f1, .string x.f2, .string x.f3, .int .i64 x.f4] 59)) HR.out HO.out HB.out HG.out hb rfl)
  rw [hb]
  generalize W.alloc (.cells #[.int .i64 x.f0, .int .i64 x.f1, .string x.f2, .string x.f3, .int .i64 x.f4] 59) = W1 at HM ⊢
  clear hb HR HO HB
  go_wp2_with (go_at_call 101; refine (takes_calls w0 W1 g s p v e HM.out.rd HM.out.below HG.out HPs.out HS.out).mono ?_; rintro ev w1 ⟨rfl, hR1, hB1, hK1⟩; have HM1 := Aside0.mk (HM.out.quiet hR1 hB1 hK1); clear hR1 hB1 hK1)
  go_ret
  exact ⟨rfl, HM1.out.left⟩
theorem members_calls (w0 : World) (g : Nat) (s : ByteArray) (k : Nat) (hg : w0.heap.size ≤ g) (hs : s.size ≤ 4611686018427387904) (hj : JTabs w0) (hIH : ∀ j, j < k → VC w0 g s j)
    (W : World) (p : Nat) (v : Value) (out : List S59) (x : S59) (e : Nat) (r : Res) (h : membersF k s p out x e = some r) (hR : Rd W g s p v) (hO : Out w0 W g v out) (hB : Below w0.heap.size w0 W) (hp : p ≤ s.size) :
    Calls Tryd.prog 87 #[.pointer (some ⟨g, 0, none⟩), itemV x, .int .u8 (e : Int)] W fun ev W' => ev = .returned (.int .i64 r.1) ∧ Left w0 W W' g s r.2.1 v r.2.2 := by
  cases k with
  | zero => simp [membersF] at h
  | succ k =>
    rw [membersF] at h
    by_cases ht : (takesP s p e).1 = true
    · rw [if_pos ht] at h
      cases h
      exact members_shut w0 W g s p v _ x e hR hO hB hg hp hs ht
    · rw [if_neg ht] at h
      exact members_loop w0 W g s p v out x e k r hR hO hB hg hp hs hj (fun j hjk => hIH j (by omega)) (Bool.eq_false_iff.2 ht) h
theorem value_calls (w0 : World) (g : Nat) (s : ByteArray) (hg : w0.heap.size ≤ g) (hs : s.size ≤ 4611686018427387904) (hj : JTabs w0) : ∀ k, VC w0 g s k := by
  intro k
  induction k using Nat.strongRecOn with
  | _ k ih =>
    intro W p v out x r h hR hO hB hp
    cases k with
    | zero => simp [valueF] at h
    | succ k =>
      have hM := fun (W1 : World) (p1 : Nat) (v1 : Value) (o1 : List S59) (y : S59) (e : Nat) (r1 : Res) (h1 : membersF k s p1 o1 y e = some r1) (hR1 : Rd W1 g s p1 v1) (hO1 : Out w0 W1 g v1 o1) (hB1 : Below w0.heap.size w0 W1) (hp1 : p1 ≤ s.size) =>
        members_calls w0 g s k hg hs hj (fun j hjk => ih j (by omega)) W1 p1 v1 o1 y e r1 h1 hR1 hO1 hB1 hp1
      rw [valueF] at h
      by_cases h91 : nextC s p = 91
      · rw [if_pos h91] at h
        by_cases hd : 64 ≤ x.f0
        · rw [if_pos hd] at h
          cases h
          exact value_deep91 w0 W g s p v _ x hR hO hB hg hp hs hj h91 hd
        · rw [if_neg hd] at h
          by_cases hl : (out.length + 1) * 56 ≤ 140737488355328 ∧ skipP s p < s.size
          · rw [if_pos hl] at h
            exact value_open91 w0 W g s p v out x hR hO hB hg hp hs hj h91 (by omega) hl.1 hl.2 r.1 r.2.1 r.2.2 (fun W1 v1 a b c => hM W1 _ v1 _ _ 93 r h a b c (by omega))
          · rw [if_neg hl] at h; cases h
      · rw [if_neg h91] at h
        by_cases h123 : nextC s p = 123
        · rw [if_pos h123] at h
          by_cases hd : 64 ≤ x.f0
          · rw [if_pos hd] at h
            cases h
            exact value_deep123 w0 W g s p v _ x hR hO hB hg hp hs hj h123 hd
          · rw [if_neg hd] at h
            by_cases hl : (out.length + 1) * 56 ≤ 140737488355328 ∧ skipP s p < s.size
            · rw [if_pos hl] at h
              exact value_open123 w0 W g s p v out x hR hO hB hg hp hs hj h123 (by omega) hl.1 hl.2 r.1 r.2.1 r.2.2 (fun W1 v1 a b c => hM W1 _ v1 _ _ 125 r h a b c (by omega))
            · rw [if_neg hl] at h; cases h
        · rw [if_neg h123] at h
          by_cases h34 : nextC s p = 34
          · rw [if_pos h34] at h
            obtain ⟨⟨t, m1, er⟩, hq, h⟩ := Option.bind_eq_some_iff.1 h
            simp only at h
            by_cases hl : 0 ≤ m1 ∧ (skipP s p : Int) + m1 ≤ s.size ∧ (out.length + 1) * 56 ≤ 140737488355328
            · rw [if_pos hl] at h
              obtain ⟨m, rfl⟩ : ∃ m : Nat, m1 = m := ⟨m1.toNat, by omega⟩
              rw [Int.toNat_natCast] at h
              by_cases he : er = 0
              · rw [if_pos he] at h
                subst he
                cases h
                exact value_text w0 W g s p v out x hR hO hB hg hp hs hj hl.2.2 k t m h34 hq (by omega)
              · rw [if_neg he] at h
                cases h
                exact value_text_err w0 W g s p v _ x hR hO hB hg hp hs hj k t m er h34 hq (by omega) he
            · rw [if_neg hl] at h; cases h
          · rw [if_neg h34] at h
            by_cases hl : (out.length + 1) * 56 ≤ 140737488355328
            · rw [if_pos hl] at h
              by_cases hn : nextC s p = 45 ∨ (48 ≤ nextC s p ∧ nextC s p ≤ 57)
              · rw [if_pos hn] at h
                obtain ⟨⟨n, er, q⟩, hN⟩ : ∃ y, numberS s (skipP s p) = y := ⟨_, rfl⟩
                rw [hN] at h
                simp only at h
                by_cases he : er = 0
                · rw [if_pos he] at h
                  subst he
                  cases h
                  rcases hn with hn | hn
                  · exact value_num_a w0 W g s p v out x hR hO hB hg hp hs hj hl n q hn hN
                  · exact value_num_b w0 W g s p v out x hR hO hB hg hp hs hj hl n q hn hN
                · rw [if_neg he] at h
                  cases h
                  rcases hn with hn | hn
                  · exact value_num_err_a w0 W g s p v _ x hR hO hB hg hp hs hj n er q hn hN he
                  · exact value_num_err_b w0 W g s p v _ x hR hO hB hg hp hs hj n er q hn hN he
              · rw [if_neg hn] at h
                cases h
                by_cases h48 : nextC s p < 48
                · exact value_word1 w0 W g s p v out x hR hO hB hg hp hs hj hl h91 h123 h34 (by omega) h48
                · exact value_word2 w0 W g s p v out x hR hO hB hg hp hs hj hl h91 h123 h34 (by omega) (by omega)
            · rw [if_neg hl] at h; cases h
def z0 : S59 := ⟨0, 0, ⟨#[]⟩, ⟨#[]⟩, 0⟩
def json_Parse.f (k : Nat) (s : ByteArray) : Option (List S59 × Int) := if s.size ≤ 4611686018427387904 then (valueF k s 0 [] z0).bind fun r => if r.2.1 ≤ s.size then (if r.1 = 0 then (if skipP s r.2.1 < s.size then some ([], 80) else some (r.2.2, 0)) else some ([], r.1)) else none else none
set_option maxHeartbeats 8000000 in
set_option maxRecDepth 100000 in
theorem parse_err (k : Nat) (s : ByteArray) (er : Int) (q : Nat) (out : List S59) (w : World) (ht : JTabs w) (hs : s.size ≤ 4611686018427387904) (h : valueF k s 0 [] z0 = some (er, q, out)) (he : er ≠ 0) :
    Calls Tryd.prog 46 #[.string s] w fun e w' => ∃ v0_ : Value, e = .returned (.tuple #[v0_, .int .i64 er]) ∧ Kd.R k59 59 w' w.heap.size (fun _ => True) v0_ [] ∧ Below w.heap.size w w' := by
  have JT := Aside0.mk ht
  have HS := Aside0.mk hs
  have FV := Aside0.mk h
  have hmf : ∀ (fn : Fn) (first cap : Array Value) (w : World), (Instr.makeFunc fn first cap).run Tryd.prog w = .ok (.func fn first cap) w := fun _ _ _ _ => rfl
  have n1 : (er == 0) = false := beq_eq_false_iff_ne.mpr he
  have n2 : (er != 0) = true := bne_iff_ne.mpr he
  clear he h hs ht
  go_enter Tryd.func46, Tryd.ntmps46
  go_wp2_with fail
  have HR : Aside0 (Rd (w.alloc (.cells #[.string s, .int .i64 0, .slice none 0 0] 94)) w.heap.size s 0 (.slice none 0 0)) := ⟨heap_alloc_new _ _⟩
  have HB : Aside0 (Below w.heap.size w (w.alloc (.cells #[.string s, .int .i64 0, .slice none 0 0] 94))) := ⟨below_alloc (Below.refl _ _) _⟩
  obtain ⟨g, hg⟩ : ∃ g, w.heap.size = g := ⟨_, rfl⟩
  have HG : Aside0 (w.heap.size ≤ g) := ⟨by omega⟩
  generalize w.alloc (.cells #[.string s, .int .i64 0, .slice none 0 0] 94) = w1 at HR HB ⊢
  have HR : Aside0 (Rd w1 g s 0 (.slice none 0 0)) := ⟨by rw [← hg]; exact HR.out⟩
  rw [show (({ block := w.heap.size, off := 0 } : Addr)) = { block := g, off := 0 } by rw [hg]]
  clear hg
  go_wp2_with (first
    | (go_at_call 69; refine (value_calls w g s HG.out HS.out JT.out k w1 0 (.slice none 0 0) [] z0 _ FV.out HR.out (Kd.R_nil _ _ _ _ _) HB.out (Nat.zero_le _)).mono ?_; rintro e w2 ⟨rfl, ⟨v2, hR2, hO2, hA2⟩, hB2, hK2⟩; obtain ⟨A2, c2, rfl⟩ := Kd.R_slice hO2; have HR2 := Aside0.mk hR2; have HO2 := Aside0.mk hO2; have HB2 := Aside0.mk hB2; clear hR2 hO2 hA2 hB2 hK2))
  go_ret2
  exact ⟨_, rfl, Kd.R_nil _ _ _ _ _, HB2.out⟩
set_option maxHeartbeats 8000000 in
set_option maxRecDepth 100000 in
theorem parse_more (k : Nat) (s : ByteArray) (er : Int) (q : Nat) (out : List S59) (w : World) (ht : JTabs w) (hs : s.size ≤ 4611686018427387904) (h : valueF k s 0 [] z0 = some (er, q, out)) (hq : q ≤ s.size) (he : er = 0) (hm : skipP s q < s.size) :
    Calls Tryd.prog 46 #[.string s] w fun e w' => ∃ v0_ : Value, e = .returned (.tuple #[v0_, .int .i64 80]) ∧ Kd.R k59 59 w' w.heap.size (fun _ => True) v0_ [] ∧ Below w.heap.size w w' := by
  have JT := Aside0.mk ht
  have HS := Aside0.mk hs
  have FV := Aside0.mk h
  have hmf : ∀ (fn : Fn) (first cap : Array Value) (w : World), (Instr.makeFunc fn first cap).run Tryd.prog w = .ok (.func fn first cap) w := fun _ _ _ _ => rfl
  subst he
  have HQ := Aside0.mk hq
  have n1 : decide ((skipP s q : Int) < (s.size : Int)) = true := decide_eq_true (by omega)
  have n2 : (skipP s q < s.size) = True := eq_true hm
  clear h hs ht hq hm
  go_enter Tryd.func46, Tryd.ntmps46
  go_wp2_with fail
  have HR : Aside0 (Rd (w.alloc (.cells #[.string s, .int .i64 0, .slice none 0 0] 94)) w.heap.size s 0 (.slice none 0 0)) := ⟨heap_alloc_new _ _⟩
  have HB : Aside0 (Below w.heap.size w (w.alloc (.cells #[.string s, .int .i64 0, .slice none 0 0] 94))) := ⟨below_alloc (Below.refl _ _) _⟩
  obtain ⟨g, hg⟩ : ∃ g, w.heap.size = g := ⟨_, rfl⟩
  have HG : Aside0 (w.heap.size ≤ g) := ⟨by omega⟩
  generalize w.alloc (.cells #[.string s, .int .i64 0, .slice none 0 0] 94) = w1 at HR HB ⊢
  have HR : Aside0 (Rd w1 g s 0 (.slice none 0 0)) := ⟨by rw [← hg]; exact HR.out⟩
  rw [show (({ block := w.heap.size, off := 0 } : Addr)) = { block := g, off := 0 } by rw [hg]]
  clear hg
  go_wp2_with (first
    | (go_at_call 69; refine (value_calls w g s HG.out HS.out JT.out k w1 0 (.slice none 0 0) [] z0 _ FV.out HR.out (Kd.R_nil _ _ _ _ _) HB.out (Nat.zero_le _)).mono ?_; rintro e w2 ⟨rfl, ⟨v2, hR2, hO2, hA2⟩, hB2, hK2⟩; obtain ⟨A2, c2, rfl⟩ := Kd.R_slice hO2; have HR2 := Aside0.mk hR2; have HO2 := Aside0.mk hO2; have HB2 := Aside0.mk hB2; clear hR2 hO2 hA2 hB2 hK2)
    | (go_at_call 70; refine (next_calls w w2 g s q _ HR2.out HB2.out HG.out HQ.out HS.out).mono ?_; rintro e w3 ⟨rfl, hR3, hB3, hK3⟩; have HR3 := Aside0.mk hR3; have HB3 := Aside0.mk hB3; have HO3 := Aside0.mk (Kd.R_keep HO2.out hK3 (fun _ h => h)); have hd1 := rd_cell1 hR3; have hd2 := rd_cell2 hR3; clear hR3 hB3 hK3))
  go_ret2
  exact ⟨_, rfl, Kd.R_nil _ _ _ _ _, HB3.out⟩
set_option maxHeartbeats 8000000 in
set_option maxRecDepth 100000 in
theorem parse_ok (k : Nat) (s : ByteArray) (er : Int) (q : Nat) (out : List S59) (w : World) (ht : JTabs w) (hs : s.size ≤ 4611686018427387904) (h : valueF k s 0 [] z0 = some (er, q, out)) (hq : q ≤ s.size) (he : er = 0) (hm : ¬ skipP s q < s.size) :
    Calls Tryd.prog 46 #[.string s] w fun e w' => ∃ v0_ : Value, e = .returned (.tuple #[v0_, .int .i64 0]) ∧ Kd.R k59 59 w' w.heap.size (fun _ => True) v0_ out ∧ Below w.heap.size w w' := by
  have JT := Aside0.mk ht
  have HS := Aside0.mk hs
  have FV := Aside0.mk h
  have hmf : ∀ (fn : Fn) (first cap : Array Value) (w : World), (Instr.makeFunc fn first cap).run Tryd.prog w = .ok (.func fn first cap) w := fun _ _ _ _ => rfl
  subst he
  have HQ := Aside0.mk hq
  have n1 : decide ((skipP s q : Int) < (s.size : Int)) = false := decide_eq_false (by omega)
  have n2 : (skipP s q < s.size) = False := eq_false hm
  clear h hs ht hq hm
  go_enter Tryd.func46, Tryd.ntmps46
  go_wp2_with fail
  have HR : Aside0 (Rd (w.alloc (.cells #[.string s, .int .i64 0, .slice none 0 0] 94)) w.heap.size s 0 (.slice none 0 0)) := ⟨heap_alloc_new _ _⟩
  have HB : Aside0 (Below w.heap.size w (w.alloc (.cells #[.string s, .int .i64 0, .slice none 0 0] 94))) := ⟨below_alloc (Below.refl _ _) _⟩
  obtain ⟨g, hg⟩ : ∃ g, w.heap.size = g := ⟨_, rfl⟩
  have HG : Aside0 (w.heap.size ≤ g) := ⟨by omega⟩
  generalize w.alloc (.cells #[.string s, .int .i64 0, .slice none 0 0] 94) = w1 at HR HB ⊢
  have HR : Aside0 (Rd w1 g s 0 (.slice none 0 0)) := ⟨by rw [← hg]; exact HR.out⟩
  rw [show (({ block := w.heap.size, off := 0 } : Addr)) = { block := g, off := 0 } by rw [hg]]
  clear hg
  go_wp2_with (first
    | (go_at_call 69; refine (value_calls w g s HG.out HS.out JT.out k w1 0 (.slice none 0 0) [] z0 _ FV.out HR.out (Kd.R_nil _ _ _ _ _) HB.out (Nat.zero_le _)).mono ?_; rintro e w2 ⟨rfl, ⟨v2, hR2, hO2, hA2⟩, hB2, hK2⟩; obtain ⟨A2, c2, rfl⟩ := Kd.R_slice hO2; have HR2 := Aside0.mk hR2; have HO2 := Aside0.mk hO2; have HB2 := Aside0.mk hB2; clear hR2 hO2 hA2 hB2 hK2)
    | (go_at_call 70; refine (next_calls w w2 g s q _ HR2.out HB2.out HG.out HQ.out HS.out).mono ?_; rintro e w3 ⟨rfl, hR3, hB3, hK3⟩; have HR3 := Aside0.mk hR3; have HB3 := Aside0.mk hB3; have HO3 := Aside0.mk (Kd.R_keep HO2.out hK3 (fun _ h => h)); have hd1 := rd_cell1 hR3; have hd2 := rd_cell2 hR3; clear hR3 hB3 hK3))
  go_ret2
  exact ⟨_, rfl, Kd.R_mono HO3.out (fun _ _ => trivial), HB3.out⟩
theorem json_Parse.calls (k : Nat) (a0 : ByteArray) (r1 : List S59) (r2 : Int) (w : World) (h : json_Parse.f k a0 = some (r1, r2)) (ht : JTabs w := by first | assumption | (refine JTabs.step (by assumption) ?_; repeat (first | exact Aside0.out (by assumption) | apply below_alloc | apply pw_below_drewN | apply below_drew1 | exact Below.refl _ _))) :
    Calls Tryd.prog 46 #[.string a0] w fun e w' => ∃ v0_ : Value, e = .returned (.tuple #[v0_, .int .i64 r2]) ∧ Kd.R k59 59 w' w.heap.size (fun _ => True) v0_ r1 ∧ Below w.heap.size w w' := by
  unfold json_Parse.f at h
  by_cases hs : a0.size ≤ 4611686018427387904
  · rw [if_pos hs] at h
    obtain ⟨⟨er, q, out⟩, hv, h⟩ := Option.bind_eq_some_iff.1 h
    simp only at h
    by_cases hq : q ≤ a0.size
    · rw [if_pos hq] at h
      by_cases he : er = 0
      · rw [if_pos he] at h
        by_cases hm : skipP a0 q < a0.size
        · rw [if_pos hm] at h; cases h
          exact parse_more k a0 er q out w ht hs hv hq he hm
        · rw [if_neg hm] at h; cases h
          exact parse_ok k a0 er q _ w ht hs hv hq he hm
      · rw [if_neg he] at h; cases h
        exact parse_err k a0 _ q out w ht hs hv he
    · rw [if_neg hq] at h; cases h
  · rw [if_neg hs] at h; cases h
end Go.Proofs.YthhmmaihbjhhgaaDoor.Giv
namespace Go.Proofs.YthhmmaihbjhhgaaDoor.Giv
open Go.RowKit Go.Proofs.YthhmmaihbjhhgaaDoorW.PrintWords Go.Proofs.YthhmmaihbjhhgaaDoorW.PrintLast Go.Proofs.YthhmmaihbjhhgaaDoorW.PrintMore
open Go.Proofs.YthhmmaihbjhhgaaDoor.U1 Go.Proofs.YthhmmaihbjhhgaaDoor.Q1 Go.Proofs.YthhmmaihbjhhgaaDoor.J0 Go.Proofs.YthhmmaihbjhhgaaDoor.J1
def strings_Repeat.f (s : ByteArray) (n : Int) : Option ByteArray := if 0 ≤ n ∧ n ≤ 1073741824 ∧ s.size ≤ 65536 then some ⟨(Lib.repeatL s.data.toList n.toNat).toArray⟩ else none
theorem strings_Repeat.calls (a0 : ByteArray) (a1 : Int) (r : ByteArray) (w : World) (h : strings_Repeat.f a0 a1 = some r) :
    Calls Tryd.prog 49 #[.string a0, .int .i64 a1] w fun e w' => e = .returned (.string r) ∧ Below w.heap.size w w' := by
  unfold strings_Repeat.f at h
  by_cases hc : 0 ≤ a1 ∧ a1 ≤ 1073741824 ∧ a0.size ≤ 65536
  · rw [if_pos hc] at h
    obtain ⟨n, rfl⟩ : ∃ n : Nat, a1 = n := ⟨a1.toNat, by omega⟩
    cases h
    exact Tryd.strings_Repeat a0 n w (by omega) (by have := Nat.mul_le_mul (show a0.size ≤ 65536 by omega) (show n ≤ 1073741824 by omega); omega)
  · rw [if_neg hc] at h; cases h
end Go.Proofs.YthhmmaihbjhhgaaDoor.Giv
namespace Go.Proofs.YthhmmaihbjhhgaaDoor.Giv
open Go.RowKit Go.Proofs.YthhmmaihbjhhgaaDoorW.PrintWords Go.Proofs.YthhmmaihbjhhgaaDoorW.PrintLast Go.Proofs.YthhmmaihbjhhgaaDoorW.PrintMore
open Go.Proofs.YthhmmaihbjhhgaaDoor.U1 Go.Proofs.YthhmmaihbjhhgaaDoor.Q1 Go.Proofs.YthhmmaihbjhhgaaDoor.J0 Go.Proofs.YthhmmaihbjhhgaaDoor.J1
set_option linter.unusedSimpArgs false
set_option linter.unusedVariables false
abbrev al1 : ByteArray := ⟨#[32, 123, 34, 97, 34, 32, 58, 32, 91, 49, 44, 32, 34, 98, 34, 93, 125, 32]⟩
abbrev al2 : ByteArray := ⟨#[91, 49, 46, 53, 93]⟩
abbrev al3 : ByteArray := ⟨#[123, 34, 97, 34, 58, 49, 44, 34, 97, 34, 58, 50, 125]⟩
def l4 : List S59 := [⟨0, 7, ⟨#[]⟩, ⟨#[]⟩, 0⟩, ⟨1, 6, ⟨#[97]⟩, ⟨#[]⟩, 0⟩, ⟨2, 4, ⟨#[]⟩, ⟨#[]⟩, 1⟩, ⟨2, 5, ⟨#[]⟩, ⟨#[98]⟩, 0⟩]
set_option maxRecDepth 100000 in
theorem al_p1 : json_Parse.f 60 al1 = some (l4, 0) := by kernel_rfl
set_option maxRecDepth 100000 in
theorem al_p2 : json_Parse.f 60 al2 = some ([], 83) := by kernel_rfl
set_option maxRecDepth 100000 in
theorem al_p3 : json_Parse.f 60 al3 = some ([], 82) := by kernel_rfl
set_option maxRecDepth 100000 in
theorem al_p4 : json_Parse.f 60 ⟨#[]⟩ = some ([], 80) := by kernel_rfl
set_option maxRecDepth 100000 in
theorem al_r1 : json_Right.f l4 = some true := by kernel_rfl
set_option maxRecDepth 100000 in
theorem al_r2 : json_Right.f (l4.drop 1) = some false := by kernel_rfl
abbrev al5 : ByteArray := ⟨#[123, 34, 97, 34, 58, 91, 49, 44, 34, 98, 34, 93, 125]⟩
set_option maxRecDepth 100000 in
theorem al_w : json_Print.f l4 = some al5 := by kernel_rfl
set_option maxHeartbeats 8000000 in
set_option maxRecDepth 100000 in
theorem alive08_walk (w : World) (ht : JTabs w) : Calls Tryd.prog 40 #[] w fun e w' => e = .returned (.bool true) ∧ Below w.heap.size w w' := by
  have HT := Aside0.mk ht
  have hu59 := Tryd.underlying59
  clear ht
  go_enter Tryd.func40, Tryd.ntmps40
  go_upto_region 5 with (first
    | (go_at_call 46; (with_reducible refine (json_Parse.calls 60 al1 l4 0 _ al_p1 HT.out).mono ?_); rintro e w1 ⟨v1, rfl, ho1, hb1⟩; have HO1 := Aside0.mk ho1; have HB1 := Aside0.mk hb1; clear ho1 hb1)
    | (go_at_call 46; (with_reducible refine (json_Parse.calls 60 al2 [] 83 _ al_p2 (HT.out.step HB1.out)).mono ?_); rintro e w2 ⟨v2, rfl, ho2, hb2⟩; have HO2 := Aside0.mk ho2; have HB2 := Aside0.mk (below_step HB1.out hb2); have HO1 := Aside0.mk (Kd.R_below HO1.out hb2); clear ho2 hb2)
    | (go_at_call 46; (with_reducible refine (json_Parse.calls 60 al3 [] 82 _ al_p3 (HT.out.step HB2.out)).mono ?_); rintro e w3 ⟨v3, rfl, ho3, hb3⟩; have HO3 := Aside0.mk ho3; have HB3 := Aside0.mk (below_step HB2.out hb3); have HO1 := Aside0.mk (Kd.R_below HO1.out hb3); clear ho3 hb3)
    | (go_at_call 46; (with_reducible refine (json_Parse.calls 60 ⟨#[]⟩ [] 80 _ al_p4 (HT.out.step HB3.out)).mono ?_); rintro e w4 ⟨v4, rfl, ho4, hb4⟩; have HO4 := Aside0.mk ho4; have HB4 := Aside0.mk (below_step HB3.out hb4); have HO1 := Aside0.mk (Kd.R_below HO1.out hb4); clear ho4 hb4))
  obtain ⟨G, cc, rfl, _, _, _⟩ := Kd.R_form HO1.out (by decide)
  have hC := (Kd.R_reads' HO1.out).2.2
  have hcc : 4 ≤ cc := (Kd.R_reads' HO1.out).2.1
  have hc1 : ¬ cc = 1 := by omega
  have hc0 : 1 ≤ cc := by omega
  obtain ⟨ad, hA, a0, a1, a2, a3, a4⟩ := at_T59 hC 1 (by decide) (by decide)
  injection hA with hA
  subst hA
  obtain ⟨ad, hA, b0, b1, b2, b3, b4⟩ := at_T59 hC 3 (by decide) (by decide)
  injection hA with hA
  subst hA
  have a0 : w4.cell? ⟨G, 5, none⟩ = some (.int .i64 1) := a0
  have a1 : w4.cell? ⟨G, 6, none⟩ = some (.int .i64 6) := a1
  have a2 : w4.cell? ⟨G, 7, none⟩ = some (.string ⟨#[97]⟩) := a2
  have a3 : w4.cell? ⟨G, 8, none⟩ = some (.string ⟨#[]⟩) := a3
  have a4 : w4.cell? ⟨G, 9, none⟩ = some (.int .i64 0) := a4
  have b0 : w4.cell? ⟨G, 15, none⟩ = some (.int .i64 2) := b0
  have b1 : w4.cell? ⟨G, 16, none⟩ = some (.int .i64 5) := b1
  have b2 : w4.cell? ⟨G, 17, none⟩ = some (.string ⟨#[]⟩) := b2
  have b3 : w4.cell? ⟨G, 18, none⟩ = some (.string ⟨#[98]⟩) := b3
  have b4 : w4.cell? ⟨G, 19, none⟩ = some (.int .i64 0) := b4
  have HD : Aside0 (Kd.C k59 w4 (some ⟨G, 5, none⟩) 3 (l4.drop 1)) := ⟨by have := Kd.C_drop (m := 1) (c := cc) hC (by decide) hcc; rw [if_neg hc1] at this; exact this⟩
  have HC := Aside0.mk hC
  have CR1 : Aside0 (∀ W, Below w4.heap.size w4 W → JTabs W → Calls Tryd.prog 42 #[.slice (some ⟨G, 0, none⟩) 4 cc] W fun e w' => e = .returned (.bool true) ∧ Below W.heap.size W w') := ⟨fun W hb hj => json_Right.calls (some ⟨G, 0, none⟩) cc l4 true W (Kd.C_below HC.out hb) hcc al_r1 hj.tabs⟩
  have CR2 : Aside0 (∀ W, Below w4.heap.size w4 W → JTabs W → Calls Tryd.prog 42 #[.slice (some ⟨G, 5, none⟩) 3 (cc - 1)] W fun e w' => e = .returned (.bool false) ∧ Below W.heap.size W w') := ⟨fun W hb hj => json_Right.calls (some ⟨G, 5, none⟩) (cc - 1) (l4.drop 1) false W (Kd.C_below HD.out hb) (by show 3 ≤ cc - 1; omega) al_r2 hj.tabs⟩
  have CW : Aside0 (∀ W, Below w4.heap.size w4 W → JTabs W → Calls Tryd.prog 47 #[.slice (some ⟨G, 0, none⟩) 4 cc] W fun e w' => e = .returned (.string al5) ∧ Below W.heap.size W w') := ⟨fun W hb hj => json_Print.calls (some ⟨G, 0, none⟩) cc l4 al5 W (Kd.C_below HC.out hb) hcc al_w hj⟩
  have hl4 : l4.length = 4 := rfl
  clear hC hcc
  go_wp2_with (first
    | (go_at_call 42; (with_reducible refine (CR1.out w4 (Below.refl _ _) (HT.out.step HB4.out)).mono ?_); rintro e w5 ⟨rfl, hb5⟩; have HB5 := Aside0.mk hb5; clear hb5)
    | (go_at_call 42; (with_reducible refine (CR2.out w5 HB5.out (HT.out.step (below_step HB4.out HB5.out))).mono ?_); rintro e w6 ⟨rfl, hb6⟩; have HB6 := Aside0.mk (below_step HB5.out hb6); clear hb6)
    | (go_at_call 47; (with_reducible refine (CW.out w6 HB6.out (HT.out.step (below_step HB4.out HB6.out))).mono ?_); rintro e w7 ⟨rfl, hb7⟩; have HB7 := Aside0.mk (below_step HB6.out hb7); clear hb7))
  go_ret
  exact ⟨rfl, below_step HB4.out HB7.out⟩
def cracknellaw08_alive.f : Option Bool := some true
theorem cracknellaw08_alive.calls (r : Bool) (w : World) (h : cracknellaw08_alive.f = some r) (ht : JTabs w := by first | assumption | (refine JTabs.step (by assumption) ?_; repeat (first | exact Aside0.out (by assumption) | apply below_alloc | apply pw_below_drewN | apply below_drew1 | exact Below.refl _ _))) : Calls Tryd.prog 40 #[] w fun e w' => e = .returned (.bool r) ∧ Below w.heap.size w w' := by
  cases h
  exact alive08_walk w ht
end Go.Proofs.YthhmmaihbjhhgaaDoor.Giv
namespace Go.Proofs.YthhmmaihbjhhgaaDoor.Q2
open Go.Proofs.YthhmmaihbjhhgaaDoor.Giv Go.Proofs.YthhmmaihbjhhgaaDoor.U1 Go.Proofs.YthhmmaihbjhhgaaDoor.Q1 Go.RowKit Go.Proofs.YthhmmaihbjhhgaaDoorW.PrintWords Go.Proofs.YthhmmaihbjhhgaaDoorW.PrintLast Go.Proofs.YthhmmaihbjhhgaaDoorW.PrintMore
attribute [local go_sem] max2_int min2_int max_two min_two max_three min_three max_four min_four   -- for this text's walks alone
set_option linter.unusedVariables false
set_option linter.unusedSimpArgs false
def errW : Option Int → Value
  | none => .nilIface
  | some c => .iface 0 (.int .i64 c)
theorem errW_none : errW none = .nilIface := rfl
theorem errW_some (c : Int) : errW (some c) = .iface 0 (.int .i64 c) := rfl
end Go.Proofs.YthhmmaihbjhhgaaDoor.Q2
