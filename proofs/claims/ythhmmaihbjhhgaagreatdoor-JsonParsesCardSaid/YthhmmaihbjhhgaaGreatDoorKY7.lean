/- What the proof of chapter 8's laws, part 7, stands on: cut and merged by a program out of this session's texts. -/
import Derived.Test.YthhmmaihbjhhgaaGreatDoorKY6
import Derived.KernelRfl
import Derived.Test.YthhmmaihbjhhgaaGreatDoorProg
import Derived.Below
import Derived.Deep.Draws
import Derived.Deep.AppendLies
import Derived.Maps.AppendAt
import Derived.OwnWalk
import Derived.Laws.BytesArg
import Derived.Laws.MakeOwn
import Derived.Laws.OwnMore
import Derived.Deep.OwnRows
import Derived.Tactics
import Derived.Lib.ConvBytes
import Derived.Laws.Slices
import Derived.WalkKit
import Derived.RowKit3
import Derived.Deep.LoopGhost
import Derived.Deep.QuietTactic
import Derived.BigQuiet
import Derived.WideLaws
import Derived.Deep.DeepCutAuto
import Derived.Deep.CutBlock
import Derived.Deep.RegionHeld3
import Derived.Laws.Rows
import Derived.Lib.AppendStr
import Derived.ArgAppend
import Derived.Laws.IdiomCopy
import Derived.OrdersHeld
import Derived.Laws.BitsLemmas
import Derived.RowKit
import Derived.Laws.StructEq
set_option linter.unusedVariables false
set_option linter.unusedSimpArgs false
set_option linter.unusedSectionVars false
set_option maxHeartbeats 8000000
set_option maxRecDepth 100000
namespace Go.Ev
open Go Go.RowKit
variable [Inv]
theorem xaG (ks : List Tmp) : ∀ (l : List AV) (k : Nat), xF ks (xF ks l k) k = xF ks l k
 | [], _ => rfl
 | x :: r, k => by
  simp only [xF, xaG ks r]
  congr 1
  split <;> simp_all
theorem tidy_tmps (nb ng : Nat) (st : St) : (tidy nb ng st).tmps = st.tmps := by
 unfold tidy Y1
 split <;> rfl
theorem head_idem (nb ng : Nat) (keep : Nat → Option (List Tmp)) (c : Code) (st : St) : St.head nb ng keep c (St.head nb ng keep c st) = St.head nb ng keep c st := by
 have h : St.kill keep c (tidy nb ng (St.kill keep c st)) = tidy nb ng (St.kill keep c st) := by
  have ht := tidy_tmps nb ng (St.kill keep c st)
  revert ht
  generalize tidy nb ng (St.kill keep c st) = z
  intro ht
  obtain ⟨zt, zm⟩ := z
  simp only at ht
  subst ht
  unfold St.kill
  cases (Zy c).bind keep with
  | none => rfl
  | some ks => simp only [xaG]
 unfold St.head
 rw [h, tidy_idem]
def XD (kx : List Tmp) : List (List AV) → Nat → List (List AV)
 | [], _ => []
 | b :: r, i => (if kx.contains (100000 + i) then b.map (fun _ => .any) else b) :: XD kx r (i + 1)
theorem yae (kx : List Tmp) : ∀ (l : List (List AV)) (i : Nat), (XD kx l i).length = l.length
 | [], _ => rfl
 | b :: r, i => by simp [XD, yae kx r]
theorem zax (kx : List Tmp) : ∀ (l : List (List AV)) (i j : Nat) (x : List AV), (XD kx l i)[j]? = some x → ∃ y, l[j]? = some y ∧ (x = y ∨ x = y.map fun _ => .any)
 | [], _, j, x, h => by simp [XD] at h
 | b :: r, i, 0, x, h => by
  simp only [XD, zbm, Option.some.injEq] at h
  refine ⟨b, rfl, ?_⟩
  split at h
  ·exact .inr h.symm
  ·exact .inl h.symm
 | b :: r, i, j + 1, x, h => by
  simp only [XD, xbr] at h
  obtain ⟨y, h1, h2⟩ := zax kx r (i + 1) j x h
  exact ⟨y, by simpa using h1, h2⟩
theorem XaY {g : Gh} {m : Mem} {w : World} : ∀ (l : List AV) (vs : List Value), RepL g m w l vs → RepL g m w (l.map fun _ => .any) vs
 | [], vs, h => h
 | x :: r, vs, h => by
  simp only [RepL, Xbf] at h ⊢
  obtain ⟨u, us, e, _, h2⟩ := h
  exact ⟨u, us, e, by simp [Rep], XaY r us h2⟩
theorem forget_ok {g : Gh} {st : St} {w : World} {a : Act} (hs : SRel g st w a) (kx : List Tmp) : SRel g ⟨st.tmps, ⟨XD kx st.mem.boxes 0, st.mem.gros⟩⟩ w a := by
 obtain ⟨tm, ⟨boxes, gros⟩⟩ := st
 have hr := hs.rel
 have L : Leaf g ⟨boxes, gros⟩ w g ⟨XD kx boxes 0, gros⟩ w := ⟨fun _ _ _ h => h, fun _ _ _ _ => rfl, fun _ _ h => h, fun i sz L h => ⟨[], by simpa using h, fun _ => rfl⟩⟩
 refine ⟨⟨by rw [yae]; exact hr.nb, hr.ng, hr.base, fun i b cs h1 h2 => ?_, hr.gro, hr.boxInj, hr.groInj, hr.apart, hr.inv⟩, hs.defers, fun t x hx => ?_⟩
 ·obtain ⟨y, k1, k2⟩ := zax kx boxes 0 i cs h2
  obtain ⟨j1, vs, rest, ty, fr, j2, j3, j4⟩ := hr.box i b y h1 k1
  have j5 : RepL g ⟨XD kx boxes 0, gros⟩ w y vs := RepL.keep L _ _ j3
  refine ⟨j1, vs, rest, ty, fr, j2, ?_, j4⟩
  rcases k2 with e | e
  ·rw [e]; exact j5
  ·rw [e]; exact XaY _ _ j5
 ·obtain ⟨v, k1, k2⟩ := hs.tmps t x hx
  exact ⟨v, k1, Rep.keep L _ _ k2⟩
def zat (C : Ctx) (c : Code) (kx : List Tmp) : Out → St → St
 | .norm, s => St.head C.nb C.ng C.keep c s
 | _, s => tidy C.nb C.ng ⟨xF kx s.tmps 0, ⟨XD kx s.mem.boxes 0, s.mem.gros⟩⟩
theorem zba {f : St → (Out → St → Option Ans) → Option Ans} {kl : St → St} (hk : ∀ s, kl (kl s) = kl s) (n : Nat) (s : St) (K : Out → St → Option Ans) : zR f kl n (kl s) K = zR f kl n s K := by
 cases n with
 | zero => rfl
 | succ n => simp only [zR, hk]
def rounds (C : Ctx) (c : Code) (kx : List Tmp) (n : Nat) (st : St) (K : Out → St → Option Ans) : Option Ans :=
 zR (evK C c) (St.head C.nb C.ng C.keep c) n st fun o s => K o (zat C c kx o s)
def XJ (C : Ctx) (c : Code) (kx : List Tmp) (st : St) (K : Out → St → Option Ans) : Option Ans :=
 evK C c (St.head C.nb C.ng C.keep c st) fun o s => K o (zat C c kx o s)
def onward (C : Ctx) (c : Code) (kx : List Tmp) (n : Nat) (K : Out → St → Option Ans) : Out → St → Option Ans
 | .norm, s => rounds C c kx n s K
 | o, s => K o s
theorem yax (C : Ctx) (c : Code) (kx : List Tmp) (n : Nat) (st : St) (K : Out → St → Option Ans) : rounds C c kx (n + 1) st K = XJ C c kx st (onward C c kx n K) := by
 unfold rounds XJ
 simp only [zR]
 congr 1
 funext o s
 cases o with
 | norm =>
  show zR _ _ n s _ = zR _ _ n (St.head C.nb C.ng C.keep c s) _
  rw [zba (fun s => head_idem C.nb C.ng C.keep c s)]
 | exit id => rfl
 | ret => rfl
theorem clean_ok {g : Gh} {st : St} {w : World} {a : Act} (hs : SRel g st w a) (C : Ctx) (c : Code) (kx : List Tmp) (o : Out) : ∃ g', SRel g' (zat C c kx o st) w a ∧ ∀ A : Anc C.nb C.ng, A.ext g st.mem w → A.ext g' (zat C c kx o st).mem w := by
 have key : ∀ ks : List Tmp, SRel g ⟨xF ks st.tmps 0, st.mem⟩ w a := fun ks => ⟨hs.rel, hs.defers, fun t x hx => by
  have hx : (xF ks st.tmps 0)[t]? = some x := hx
  rcases xan hx with rfl | h
  ·have ht : t < st.tmps.length := by
    have := (xbe.1 hx).1; rwa [Z6] at this
   obtain ⟨v, k1, _⟩ := hs.tmps t _ (zbf ht)
   exact ⟨v, k1, by simp [Rep]⟩
  ·exact hs.tmps t x h⟩
 have key2 : ∃ g', SRel g' (tidy C.nb C.ng ⟨xF kx st.tmps 0, ⟨XD kx st.mem.boxes 0, st.mem.gros⟩⟩) w a ∧ ∀ A : Anc C.nb C.ng, A.ext g st.mem w → A.ext g' (tidy C.nb C.ng ⟨xF kx st.tmps 0, ⟨XD kx st.mem.boxes 0, st.mem.gros⟩⟩).mem w := by
  obtain ⟨g', h1, h2⟩ := cut_ok (forget_ok (key kx) kx) C.nb C.ng _ _ (Zas _ _ _ _).2 (Yas _ _ _ _).2
  exact ⟨g', h1, fun A he => h2 A ⟨⟨he.st, he.cell, he.box, he.gro⟩, he.gbase, he.gS, he.below⟩⟩
 cases o with
 | norm => exact Xas hs C.nb C.ng C.keep c
 | exit id => exact key2
 | ret => exact key2
theorem zak (C : Ctx) {L : List Code} (ok : CtxOk C L) {c : Code} (hc : ∀ d ∈ Zl c, d ∈ L) {kx : List Tmp} {st : St} {out : Out} {st' : St} (n : Nat) (h : ∀ K : Out → St → Option Ans, rounds C c kx n st K = K out st') : Runs C.P C.nb C.ng (.loop c) st out st' := by
 have h1 := h fun o s => some (.tup (outAV o :: s.tmps), s.mem)
 obtain ⟨o1, s1, h2, h3⟩ := xaA (P := C.P) (nb := C.nb) (ng := C.ng) (c := c) (fun st g w a hs => Xas hs C.nb C.ng C.keep c) (fun st K h => evK_ok ok c hc st K h) n st _ h1
 simp only [Option.some.injEq, Prod.mk.injEq, AV.tup.injEq, List.cons.injEq] at h3
 obtain ⟨⟨e1, e2⟩, e3⟩ := h3
 have e1 := outAV_inj e1
 have e4 : zat C c kx o1 s1 = st' := by
  cases hq : zat C c kx o1 s1
  rw [hq] at e2 e3
  cases st'
  simp only at e2 e3
  rw [e2, e3]
 subst e1
 intro A g w a Q hs he hq
 refine h2.runs A g w a Q hs he fun g' w' a' k1 k2 => ?_
 obtain ⟨g2, j1, j2⟩ := clean_ok k1 C c kx o1
 have j3 := j2 A k2
 rw [e4] at j1 j3
 exact hq g2 w' a' j1 j3
def Yz (P : Program) (E : Env) (d : Nat) (f : FuncId) : Ctx := ⟨P, Zz P E d, YY P E.ora, E.loops f, E.keep f, E.fuel, 0, 0⟩
theorem pureB_ok {P : Program} {E : Env} (ok : EnvOk P E) : PureBOk P (YY P E.ora) := fun m f args t v hb hk hsel g w vs hr ha => by
 refine (zap ok.ora hk hsel rfl hr ha).mono ?_
 rintro e w' ⟨u, rfl, hB, hv⟩
 simp only [Rep] at hv; subst hv
 exact ⟨rfl, hB⟩
theorem zaZ {P : Program} {E : Env} (ok : EnvOk P E) (d : Nat) (f : FuncId) : CtxOk (Yz P E d f) (Zl (yC P f)) := ⟨ok.plain, ok.mixed, ZaA (P := P) E ok d, pureB_ok ok, ok.loops f⟩
def Xq (P : Program) (f : FuncId) (j : Nat) : Code := (Zl (yC P f)).getD j .skip
def Env.know (E : Env) (f : FuncId) (s : List AV → Option (Tr AV)) : Env := { E with ora := fun q args => if q = f then s args else E.ora q args }
def Env.knowLoop (E : Env) (f : FuncId) (k : Nat) (s : St → Option (Tr (Out × St))) : Env := { E with loops := fun q i st => if q = f ∧ i = k then s st else E.loops q i st }
theorem EnvOk.know {P : Program} {E : Env} (ok : EnvOk P E) {f : FuncId} {s : List AV → Option (Tr AV)} (h : ∀ args t r, s args = some t → t.sel = some r → Good P f args r) : EnvOk P (E.know f s) :=
 ⟨ok.plain, ok.mixed, fun q args t r hr hsel => by
  have hr2 : (if q = f then s args else E.ora q args) = some t := hr
  by_cases e : q = f
  ·rw [if_pos e] at hr2; rw [e]; exact h args t r hr2 hsel
  ·rw [if_neg e] at hr2; exact ok.ora q args t r hr2 hsel, ok.loops⟩
theorem EnvOk.knowLoop {P : Program} {E : Env} (ok : EnvOk P E) {f : FuncId} {k : Nat} {s : St → Option (Tr (Out × St))} (h : ∀ c ∈ Zl (yC P f), Zy c = some k → ∀ st t out st', s st = some t → t.sel = some (out, st') → Runs P 0 0 (.loop c) st out st') : EnvOk P (E.knowLoop f k s) :=
 ⟨ok.plain, ok.mixed, ok.ora, fun q c hc i st t out st' hi hl hsel => by
  have hl2 : (if q = f ∧ i = k then s st else E.loops q i st) = some t := hl
  by_cases e : q = f ∧ i = k
  ·rw [if_pos e] at hl2; rw [e.1] at hc; rw [e.2] at hi; exact h c hc hi st t out st' hl2 hsel
  ·rw [if_neg e] at hl2; exact ok.loops q c hc i st t out st' hi hl2 hsel⟩
def keepOf (l : List (Nat × Nat × List Tmp)) (f k : Nat) : Option (List Tmp) := match l with
 | [] => none
 | (a, b, ks) :: r => if a = f ∧ b = k then some ks else keepOf r f k
def env0 (l : List (Nat × Nat × List Tmp)) : Env := ⟨fun _ _ => none, fun _ _ _ => none, keepOf l, 1000⟩
theorem env0_ok {P : Program} (hp : Plain P) (hm : P.follows .mixedOrders = true) (l : List (Nat × Nat × List Tmp)) : EnvOk P (env0 l) :=
 ⟨hp, hm, fun f args t r h => (by cases h), fun f c hc i st t out st' hi hl => (by cases hl)⟩
theorem plain_of {P : Program} (h : (P.funcs.all fun fn => !(fn.body.isSome && fn.name == "runtime.NumGoroutine")) = true) : Plain P := fun f fn hf hb => by
 have := Ybn.1 h fn (Array.mem_of_getElem? hf)
 simpa [hb] using this
theorem wrap_i64 {x : Int} (h1 : -9223372036854775808 ≤ x) (h2 : x ≤ 9223372036854775807) : IntKind.wrap .i64 x = x := by
 simp only [IntKind.wrap]; simp [IntKind.bits, IntKind.signed]; omega
theorem EnvOk.knowRounds {P : Program} {E : Env} (ok : EnvOk P E) {f : FuncId} {k j : Nat} {kx : List Tmp} {s : St → Option (Tr (Out × St))} (hj : ∀ c ∈ Zl (yC P f), Zy c = some k → c = Xq P f j) (hin : Xq P f j ∈ Zl (yC P f)) (hsub : ∀ d ∈ Zl (Xq P f j), d ∈ Zl (yC P f))
  (h : ∀ st t out st', s st = some t → t.sel = some (out, st') → ∃ n, ∀ K, rounds (Yz P E 9 f) (Xq P f j) kx n st K = K out st') : EnvOk P (E.knowLoop f k s) :=
 ok.knowLoop fun c hc hi st t out st' hs ht => by
  rw [hj c hc hi]
  obtain ⟨n, hn⟩ := h st t out st' hs ht
  exact zak (Yz P E 9 f) (zaZ ok 9 f) hsub n hn
def xae (l : List Code) (k j : Nat) : Bool := match l with
 | [] => true
 | c :: r => match j with
  | 0 => Zy c == some k && r.all fun d => !(Zy d == some k)
  | j + 1 => !(Zy c == some k) && xae r k j
theorem yap {k : Nat} : ∀ {l : List Code} {j : Nat}, xae l k j = true → ∀ c ∈ l, Zy c = some k → c = l.getD j .skip
 | [], j, _, c, hc, _ => by cases hc
 | d :: r, 0, h, c, hc, hk => by
  simp only [xae, zbi] at h
  rcases zbr.1 hc with rfl | hc
  ·rfl
  ·have := ybs.1 h.2 c hc
   rw [hk] at this; simp at this
 | d :: r, j + 1, h, c, hc, hk => by
  simp only [xae, zbi] at h
  rcases zbr.1 hc with rfl | hc
  ·rw [hk] at h; simp at h
  ·simpa using yap h.2 c hc hk
theorem ZaG {P : Program} {f : FuncId} {j n : Nat} (h : (Zl (yC P f)).length = n) (hj : j < n) : Xq P f j ∈ Zl (yC P f) := by
 unfold Xq
 rw [zbe, zbf (by omega)]
 exact List.getElem_mem _
theorem xax : ∀ (c d : Code), d ∈ Zl c → ∀ e ∈ Zl d, e ∈ Zl c := by
 intro c
 induction c with
 | seq x y ihx ihy =>
  intro d hd e he
  simp only [Zl, Xbp] at hd ⊢
  rcases hd with hd | hd
  ·exact .inl (ihx d hd e he)
  ·exact .inr (ihy d hd e he)
 | cond _ x y ihx ihy =>
  intro d hd e he
  simp only [Zl, Xbp] at hd ⊢
  rcases hd with hd | hd
  ·exact .inl (ihx d hd e he)
  ·exact .inr (ihy d hd e he)
 | block _ c ih => intro d hd e he; exact ih d hd e he
 | scope c ih => intro d hd e he; exact ih d hd e he
 | loop c ih =>
  intro d hd e he
  simp only [Zl, zbr] at hd ⊢
  rcases hd with rfl | hd
  ·exact .inr he
  ·exact .inr (ih d hd e he)
 | _ => intro d hd; simp [Zl] at hd
theorem Xe {P : Program} {E : Env} (ok : EnvOk P E) {d : Nat} {f : FuncId} {args : List AV} {t : Tr AV} (hb : zv P f = true) (h : ∀ K : AV → Mem → Option Ans, Zz P E d f args ⟨[], []⟩ K = t.run fun r => K r ⟨[], []⟩) {r : AV} (hr : t.sel = some r) (hu : r.under 0 0 = true) : Good P f args r := by
 refine YaY E ok (d := d) hb (m' := ⟨[], []⟩) ?_ hu
 rw [h, Tr.run_of_sel hr]
def Zp (n : Nat) (l : List (Nat × AV)) : List AV := l.foldl (fun t x => t.set x.1 x.2) (anys n)
noncomputable def gd (p : Prop) : Bool := @decide p (Classical.propDecidable p)
theorem gd_true {p : Prop} (h : p) : gd p = true := @decide_eq_true p (Classical.propDecidable p) h
theorem gd_iff {p : Prop} : gd p = true ↔ p := ⟨fun h => @of_decide_eq_true p (Classical.propDecidable p) h, gd_true⟩
def AV.int : AV → Int
 | .lit (.int _ x) => x
 | _ => 0
def AV.str : AV → ByteArray
 | .lit (.string x) => x
 | _ => ⟨#[]⟩
def AV.sn : AV → Nat
 | .sl _ _ n _ => n
 | .gr _ n => n
 | _ => 0
def AV.sf : AV → Nat → List Value
 | .sl _ _ _ f => f
 | _ => fun _ => []
def St.at (st : St) (i : Nat) : AV := st.tmps.getD i .any
def St.cell (st : St) (b o : Nat) : AV := (st.mem.boxes.getD b []).getD o .any
def St.grow (st : St) (q : Nat) : List (List Value) := (st.mem.gros.getD q (0, [])).2
theorem ZD {C : Ctx} {c : Code} {kx : List Tmp} {st st1 : St} {t : Tr (Out × St)} {m : Nat} {o : Out} {s : St} (h : ∀ K : Out → St → Option Ans, XJ C c kx st K = t.run fun x => K x.1 x.2) (hs : t.sel = some (.norm, st1)) (h2 : ∀ K, rounds C c kx m st1 K = K o s) (K : Out → St → Option Ans) : rounds C c kx (m + 1) st K = K o s := by
 rw [yax, h, Tr.run_of_sel hs]; exact h2 K
theorem Yn {C : Ctx} {c : Code} {kx : List Tmp} {st st1 : St} {t : Tr (Out × St)} {o : Out} (h : ∀ K : Out → St → Option Ans, XJ C c kx st K = t.run fun x => K x.1 x.2) (hs : t.sel = some (o, st1)) (ho : (match o with | .norm => false | _ => true) = true) (K : Out → St → Option Ans) : rounds C c kx 1 st K = K o st1 := by
 rw [yax, h, Tr.run_of_sel hs]
 cases o with
 | norm => cases ho
 | exit i => rfl
 | ret => rfl
def under {α : Type} (c : Bool) (x : α) : Tr α := .two c (.one x) .no
theorem YD {α : Type} {p : Prop} {x y : α} (h : (under (gd p) x).sel = some y) : p ∧ y = x := by
 unfold under Tr.sel at h
 cases hc : gd p with
 | false => rw [hc] at h; cases h
 | true => rw [hc] at h; cases h; exact ⟨gd_iff.1 hc, rfl⟩
theorem zA {α : Type} {p : Prop} {t : Tr α} {y : α} (h : (Tr.two (gd p) t .no).sel = some y) : p ∧ t.sel = some y := by
 unfold Tr.sel at h
 cases hc : gd p with
 | false => rw [hc] at h; cases h
 | true => rw [hc] at h; exact ⟨gd_iff.1 hc, h⟩
theorem EnvOk.knowSt {P : Program} {E : Env} (ok : EnvOk P E) {f : FuncId} {k j : Nat} {kx : List Tmp} {s : St → Option (Tr (Out × St))} (hl : ((Zl (yC P f)).length > j && xae (Zl (yC P f)) k j) = true)
  (h : ∀ st t out st', s st = some t → t.sel = some (out, st') → ∃ n, ∀ K, rounds (Yz P E 9 f) (Xq P f j) kx n st K = K out st') : EnvOk P (E.knowLoop f k s) := by
 simp only [zbi, Zbd] at hl
 have hin : Xq P f j ∈ Zl (yC P f) := ZaG rfl hl.1
 exact ok.knowRounds (fun c hc hk => yap hl.2 c hc hk) hin (fun d hd => xax _ _ hin d hd) h
def Weak (s1 s2 : St) : Prop := s2.mem.gros = s1.mem.gros ∧ ∀ g w a, SRel g s1 w a → SRel g s2 w a
theorem Weak.refl (s : St) : Weak s s := ⟨rfl, fun _ _ _ h => h⟩
theorem Runs.weak {P : Program} {nb ng : Nat} {c : Code} {st s1 s2 : St} {out : Out} (h : Runs P nb ng c st out s1) (hw : Weak s1 s2) : Runs P nb ng c st out s2 := fun A g w a Q hs he hq =>
 h A g w a Q hs he fun g' w' a' k1 k2 => hq g' w' a' (hw.2 _ _ _ k1) (by
  obtain ⟨t1, ⟨b1, g1⟩⟩ := s1
  obtain ⟨t2, ⟨b2, g2⟩⟩ := s2
  obtain ⟨e, _⟩ := hw
  simp only at e
  subst e
  exact ⟨⟨k2.st, k2.cell, k2.box, k2.gro⟩, k2.gbase, k2.gS, k2.below⟩)
theorem weak_box {tm : List AV} {bs : List (List AV)} {l l' : List AV} {gs : List (Nat × List (List Value))} (h : ∀ g m w vs, RepL g m w l vs → RepL g m w l' vs) : Weak ⟨tm, ⟨bs ++ [l], gs⟩⟩ ⟨tm, ⟨bs ++ [l'], gs⟩⟩ := by
 refine ⟨rfl, fun g w a hs => ?_⟩
 have hr := hs.rel
 have L : Leaf g ⟨bs ++ [l], gs⟩ w g ⟨bs ++ [l'], gs⟩ w := ⟨fun _ _ _ h => h, fun _ _ _ _ => rfl, fun _ _ h => h, fun i sz L h => ⟨[], by simpa using h, fun _ => rfl⟩⟩
 refine ⟨⟨by have := hr.nb; simpa using this, hr.ng, hr.base, fun i b cs h1 h2 => ?_, hr.gro, hr.boxInj, hr.groInj, hr.apart, hr.inv⟩, hs.defers, fun t x hx => ?_⟩
 ·have h2 : (bs ++ [l'])[i]? = some cs := h2
  rcases ybn i bs.length with hi | hi
  ·rw [Ybj hi] at h2
   obtain ⟨j1, vs, rest, ty, fr, j2, j3, j4⟩ := hr.box i b cs h1 (by show (bs ++ [l])[i]? = _; rw [Ybj hi]; exact h2)
   exact ⟨j1, vs, rest, ty, fr, j2, RepL.keep L _ _ j3, j4⟩
  ·rw [Zbp hi] at h2
   have hi0 : i - bs.length = 0 := by
    have := (xbe.1 h2).1; simpa using this
   rw [hi0] at h2
   simp only [zbm, Option.some.injEq] at h2
   subst h2
   obtain ⟨j1, vs, rest, ty, fr, j2, j3, j4⟩ := hr.box i b l h1 (by show (bs ++ [l])[i]? = _; rw [Zbp hi, hi0]; rfl)
   exact ⟨j1, vs, rest, ty, fr, j2, h _ _ _ _ (RepL.keep L _ _ j3), j4⟩
 ·obtain ⟨v, k1, k2⟩ := hs.tmps t x hx
  exact ⟨v, k1, Rep.keep L _ _ k2⟩
theorem EnvOk.knowWeak {P : Program} {E : Env} (ok : EnvOk P E) {f : FuncId} {k j : Nat} {kx : List Tmp} {s : St → Option (Tr (Out × St))} (hl : ((Zl (yC P f)).length > j && xae (Zl (yC P f)) k j) = true)
  (h : ∀ st t out st', s st = some t → t.sel = some (out, st') → ∃ n s1, (∀ K, rounds (Yz P E 9 f) (Xq P f j) kx n st K = K out s1) ∧ Weak s1 st') : EnvOk P (E.knowLoop f k s) := by
 simp only [zbi, Zbd] at hl
 have hin : Xq P f j ∈ Zl (yC P f) := ZaG rfl hl.1
 refine ok.knowLoop fun c hc hk st t out st' h1 h2 => ?_
 rw [yap hl.2 c hc hk]
 obtain ⟨n, s1, hn, hw⟩ := h st t out st' h1 h2
 have := zak (Yz P E 9 f) (zaZ ok 9 f) (fun d hd => xax _ _ hin d hd) n hn
 exact this.weak hw
theorem Good.weak {P : Program} {f : FuncId} {args : List AV} {r r' : AV} (h : Good P f args r) (hw : ∀ g m w v, Rep g m w r v → Rep g m w r' v) : Good P f args r' := fun S w vs hI ha => (h S w vs hI ha).mono fun e w' ⟨v, h1, h2, h3⟩ => ⟨v, h1, h2, hw _ _ _ _ h3⟩
theorem YW {g : Gh} {m : Mem} {w : World} {x : AV} {v : Value} (ho : x.one = true) (h : Rep g m w x v) : Rep g m w .cell v := by
 simp only [Rep]; exact rep_one h ho
theorem X3 {g : Gh} {m : Mem} {w : World} {x y z e : AV} {v : Value} (h : Rep g m w (.agg [x, y, z, e]) v) (ho : (x.one && y.one && z.one) = true := by rfl) : Rep g m w (.agg [.cell, .cell, .cell, e]) v := by
 simp only [zbi] at ho
 simp only [Rep] at h ⊢
 obtain ⟨vs, h1, h2⟩ := h
 refine ⟨vs, h1, ?_⟩
 simp only [RepL] at h2 ⊢
 obtain ⟨a, as_, rfl, p1, b, bs, rfl, p2, c, cs, rfl, p3, d, ds, rfl, h3, rfl⟩ := h2
 exact ⟨a, _, rfl, YW ho.1.1 p1, b, _, rfl, YW ho.1.2 p2, c, _, rfl, YW ho.2 p3, d, _, rfl, h3, rfl⟩
theorem Yc {α : Type} (c : Bool) (a b : Tr α) : (Tr.two c a b).sel = if c = true then a.sel else b.sel := by cases c <;> rfl
theorem sel_one {α : Type} (x : α) : (Tr.one x).sel = some x := rfl
theorem Za2 {n : Nat} {f g : Nat → List Value} (h : ∀ i, i < n → f i = g i) : Zf n f = Zf n g := by
 apply Zbr
 intro k
 rcases ybn k n with hk | hk
 ·rw [xT hk, xT hk, h k hk]
 ·rw [Zbk (by rw [elems_length]; exact hk), Zbk (by rw [elems_length]; exact hk)]
theorem Good.args {P : Program} {q : FuncId} {a b : List AV} {r : AV} (h : Good P q b r) (hw : ∀ g m w vs, RepL g m w a vs → RepL g m w b vs) : Good P q a r := fun S w vs hI ha => h S w vs hI (hw _ _ _ _ ha)
def strD : List Value → ByteArray
 | [.string x] => x
 | _ => ⟨#[]⟩
def strF (l : List ByteArray) (i : Nat) : List Value := [.string (l.getD i ⟨#[]⟩)]
def strE (n : Nat) (f : Nat → List Value) : Prop := ∀ i, i < n → f i = [.string (strD (f i))]
def strL (n : Nat) (f : Nat → List Value) : List ByteArray := (List.range n).map fun i => strD (f i)
theorem yab (n : Nat) (f : Nat → List Value) : (strL n f).length = n := by simp [strL]
theorem yba {n : Nat} {f : Nat → List Value} (h : strE n f) : Zf n f = Zf (strL n f).length (strF (strL n f)) := by
 rw [yab]
 refine Za2 fun i hi => ?_
 rw [h i hi, strF, strL, zbe, Xbn, List.getElem?_range hi]
 simp only [xbo, ybt, strD]
theorem strL_F (l : List ByteArray) : strL l.length (strF l) = l := by
 apply Zbr
 intro k
 rcases ybn k l.length with hk | hk
 ·rw [strL, Xbn, List.getElem?_range hk]
  simp only [xbo, strF, strD, zbe, zbf hk, ybt]
 ·rw [Zbk (by rw [yab]; exact hk), Zbk hk]
theorem rep_sl {g : Gh} {m : Mem} {w : World} {b : Bool} {sz n n' : Nat} {f f' : Nat → List Value} {v : Value} (h : Rep g m w (.sl b sz n f) v) (he : Zf n f = Zf n' f') : Rep g m w (.sl b sz n' f') v := by
 simp only [Rep] at h ⊢; rw [← he]; exact h
theorem RepL.cons {g : Gh} {m : Mem} {w : World} {x y : AV} {xs ys : List AV} (h1 : ∀ v, Rep g m w x v → Rep g m w y v) (h2 : ∀ vs, RepL g m w xs vs → RepL g m w ys vs) (vs : List Value) (h : RepL g m w (x :: xs) vs) : RepL g m w (y :: ys) vs := by
 simp only [RepL] at h ⊢
 obtain ⟨u, us, e, a, b⟩ := h
 exact ⟨u, us, e, h1 _ a, h2 _ b⟩
theorem rep_tup {g : Gh} {m : Mem} {w : World} {xs ys : List AV} {v : Value} (h2 : ∀ vs, RepL g m w xs vs → RepL g m w ys vs) (h : Rep g m w (.tup xs) v) : Rep g m w (.tup ys) v := by
 simp only [Rep] at h ⊢
 obtain ⟨vs, e, a⟩ := h
 exact ⟨vs, e, h2 _ a⟩
theorem rep_agg {g : Gh} {m : Mem} {w : World} {xs ys : List AV} {v : Value} (h2 : ∀ vs, RepL g m w xs vs → RepL g m w ys vs) (h : Rep g m w (.agg xs) v) : Rep g m w (.agg ys) v := by
 simp only [Rep] at h ⊢
 obtain ⟨vs, e, a⟩ := h
 exact ⟨vs, e, h2 _ a⟩
theorem rep_any {g : Gh} {m : Mem} {w : World} {x : AV} (v : Value) (_ : Rep g m w x v) : Rep g m w .any v := by simp [Rep]
end Go.Ev
namespace Go.Proofs.NGiv
open Go Go.Ev Go.RowKit Go.Proofs.Wa Go.Proofs.Wb Go.Proofs.Wc Go.Proofs.NU1 Go.Proofs.NQ1
noncomputable abbrev P0 : Program := Tryz.prog
instance jinv : Inv := ⟨JTabs, fun h hb => h.step hb⟩
def keepL : List (Nat × Nat × List Tmp) := [(28, 1, [1, 2]), (48, 9, [2, 3, 4, 5, 6]), (50, 2, [2, 3, 4, 5]), (51, 3, [2, 3, 4, 5, 6]), (78, 2, [0, 1, 5])]
def E0 : Env := env0 keepL
theorem P0_plain : Plain P0 := plain_of (by kernel_rfl)
theorem E0ok : EnvOk P0 E0 := env0_ok P0_plain (by kernel_rfl) keepL
def lf (s : ByteArray) (p : Int) : B := s.data.toList.drop p.toNat
def atI (s : ByteArray) (l : B) : Int := (s.size : Int) - (l.length : Int)
def vg (s : ByteArray) (p : Int) : Prop := 0 ≤ p ∧ p ≤ (s.size : Int) ∧ s.size ≤ 1073741824
def hdB (l : B) (c : Int) : Bool := decide (l ≠ [] ∧ ((l.getD 0 0).toNat : Int) = c)
theorem YB (s : ByteArray) (l : B) (h : l <:+ s.data.toList) : lf s (atI s l) = l := by
 obtain ⟨t, ht⟩ := h
 unfold lf atI
 have h1 : s.size = t.length + l.length := by rw [← data_length, ← ht, Xbb]
 rw [show ((s.size : Int) - (l.length : Int)).toNat = t.length by omega, ← ht, List.drop_left]
theorem yat (s : ByteArray) (p : Int) (h : vg s p) : atI s (lf s p) = p := by
 obtain ⟨h1, h2, h3⟩ := h
 unfold lf atI
 rw [Zbb, data_length]; omega
theorem XY (s : ByteArray) (p : Int) : lf s p <:+ s.data.toList := Xbl _ _
theorem YA (s : ByteArray) (l : B) (h : l <:+ s.data.toList) (hs : s.size ≤ 1073741824) : vg s (atI s l) := by
 have := h.length_le
 rw [data_length] at this
 unfold vg atI; omega
theorem xat (s : ByteArray) (p : Int) (c : UInt8) (l : B) (h : lf s p = c :: l) (hp : vg s p) : p < (s.size : Int) ∧ 0 ≤ p ∧ p.toNat < s.size ∧ s.data.toList.getD p.toNat 0 = c ∧ IntKind.wrap .i64 (p + 1) = p + 1 ∧ vg s (p + 1) ∧ lf s (p + 1) = l := by
 obtain ⟨h1, h2, h3⟩ := hp
 unfold lf at h
 have h4 := congrArg List.length h
 rw [Zbb, data_length, Xbd] at h4
 have h5 : p.toNat < s.size := by omega
 refine ⟨by omega, h1, h5, ?_, wrap_i64 (by omega) (by omega), ⟨by omega, by omega, h3⟩, ?_⟩
 ·have := congrArg (fun q => q.getD 0 0) h
  simp only [xbn] at this
  rw [← this, zbe, zbe, zbn]; simp
 ·unfold lf
  rw [show (p + 1).toNat = p.toNat + 1 by omega, ← Ybk, h]; rfl
theorem YaG (s : ByteArray) (p : Int) (h : lf s p = []) (hp : vg s p) : p = (s.size : Int) := by
 obtain ⟨h1, h2, h3⟩ := hp
 have h4 := congrArg List.length h
 unfold lf at h4
 rw [Zbb, data_length, Xbg] at h4
 omega
theorem yaP (n : Nat) : zJ n = true ↔ (n = 9 ∨ n = 10 ∨ n = 13 ∨ n = 32) := by
 unfold zJ
 simp
 omega
def YC (s : ByteArray) (p : Int) (n : Nat) (f : Nat → List Value) (e : Int) : St := ⟨Zp 46 [(1, .ptr 0 0), (2, .ptr 1 0)], ⟨[[.lit (.string s), .lit (.int .i64 p), .sl false 5 n f, .lit (.int .i64 e)], [.lit (.string ⟨#[]⟩), .lit (.int .i64 0), .lit (.slice none 0 0), .lit (.int .i64 0)]], []⟩⟩
theorem XaK (s : ByteArray) (p : Int) (n : Nat) (f : Nat → List Value) (e : Int) (K : Ev.Out → St → Option Ans) : XJ (Yz P0 E0 9 28) (Xq P0 28 0) [1, 2] (YC s p n f e) K = (.two (decide (p < (s.size : Int))) (.two (decide (0 ≤ p ∧ p.toNat < s.size)) (.two (((s.data.toList.getD p.toNat 0).toNat : Int) == 9) (.one (.norm, YC s (IntKind.wrap .i64 (p + 1)) n f e)) (.two (decide (0 ≤ p ∧ p.toNat < s.size)) (.two (((s.data.toList.getD p.toNat 0).toNat : Int) == 10) (.one (.norm, YC s (IntKind.wrap .i64 (p + 1)) n f e)) (.two (decide (0 ≤ p ∧ p.toNat < s.size)) (.two (((s.data.toList.getD p.toNat 0).toNat : Int) == 13) (.one (.norm, YC s (IntKind.wrap .i64 (p + 1)) n f e)) (.two (decide (0 ≤ p ∧ p.toNat < s.size)) (.two (((s.data.toList.getD p.toNat 0).toNat : Int) == 32) (.one (.norm, YC s (IntKind.wrap .i64 (p + 1)) n f e)) (.one ((.exit 0), YC s p n f e))) .no)) .no)) .no)) .no) (.one ((.exit 0), YC s p n f e)) : Tr (Ev.Out × St)).run fun x => K x.1 x.2 := by kernel_rfl
theorem sk_nil : sk ([] : B) = [] := rfl
theorem yaZ (c : UInt8) (l : B) (h : zJ c.toNat = true) : sk (c :: l) = sk l := by unfold sk; rw [skips, if_pos h]; rfl
theorem sk_not (c : UInt8) (l : B) (h : zJ c.toNat = false) : sk (c :: l) = c :: l := by unfold sk; rw [skips, if_neg (by rw [h]; simp)]; rfl
theorem zay (s : ByteArray) (n : Nat) (f : Nat → List Value) (e : Int) : ∀ (l : B) (p : Int), vg s p → lf s p = l → ∃ m, ∀ K, rounds (Yz P0 E0 9 28) (Xq P0 28 0) [1, 2] m (YC s p n f e) K = K (.exit 0) (YC s (atI s (sk l)) n f e)
 | [], p, hp, h => by
  have h1 := YaG s p h hp
  refine ⟨1, Yn (XaK s p n f e) (st1 := YC s (atI s (sk [])) n f e) ?_ rfl⟩
  rw [sk_nil, ← h, yat s p hp]
  simp [Tr.sel, h1]
 | c :: l, p, hp, h => by
  obtain ⟨h1, h2, h3, h4, h5, h6, h7⟩ := xat s p c l h hp
  by_cases hb : zJ c.toNat = true
  ·obtain ⟨m, hm⟩ := zay s n f e l (p + 1) h6 h7
   refine ⟨m + 1, ZD (XaK s p n f e) (st1 := YC s (p + 1) n f e) ?_ (by rw [yaZ c l hb]; exact hm)⟩
   have := (yaP _).1 hb
   simp only [Tr.sel, h1, h2, h3, h4, h5, decide_true, cond_true, and_self]
   by_cases e1 : (c.toNat : Int) = 9
   ·simp [e1]
   ·by_cases e2 : (c.toNat : Int) = 10
    ·simp [e2]
    ·by_cases e3 : (c.toNat : Int) = 13
     ·simp [e3]
     ·have e4 : (c.toNat : Int) = 32 := by omega
      simp [e4]
  ·have hb : zJ c.toNat = false := by simpa using hb
   refine ⟨1, Yn (XaK s p n f e) (st1 := YC s (atI s (sk (c :: l))) n f e) ?_ rfl⟩
   rw [sk_not c l hb, ← h, yat s p hp]
   have : ¬ _ := fun x => by rw [(yaP c.toNat).2 x] at hb; cases hb
   have e1 : ((c.toNat : Int) == 9) = false := by rw [Ybb]; omega
   have e2 : ((c.toNat : Int) == 10) = false := by rw [Ybb]; omega
   have e3 : ((c.toNat : Int) == 13) = false := by rw [Ybb]; omega
   have e4 : ((c.toNat : Int) == 32) = false := by rw [Ybb]; omega
   simp only [Tr.sel, h1, h2, h3, h4, h5, decide_true, cond_true, cond_false, and_self, e1, e2, e3, e4]
noncomputable def zaL (st : St) : Option (Tr (Ev.Out × St)) :=
 let s := (st.cell 0 0).str; let p := (st.cell 0 1).int; let n := (st.cell 0 2).sn; let f := (st.cell 0 2).sf; let e := (st.cell 0 3).int
 some (under (gd (st = YC s p n f e ∧ vg s p)) (.exit 0, YC s (atI s (sk (lf s p))) n f e))
theorem okSkipL : EnvOk P0 (E0.knowLoop 28 1 zaL) := E0ok.knowSt (j := 0) (by kernel_rfl) fun st t out st' h1 h2 => by
 unfold zaL at h1
 cases h1
 obtain ⟨⟨h3, h4⟩, h5⟩ := YD h2
 cases h5
 obtain ⟨m, hm⟩ := zay _ _ _ _ _ _ h4 rfl
 exact ⟨m, fun K => by
  conv => lhs; rw [h3]
  exact hm K⟩
theorem tr_skip (s : ByteArray) (p : Int) (n : Nat) (f : Nat → List Value) (e : Int) (K : AV → Mem → Option Ans) : Zz P0 (E0.knowLoop 28 1 zaL) 9 28 [.agg [.lit (.string s), .lit (.int .i64 p), .sl false 5 n f, .lit (.int .i64 e)]] ⟨[], []⟩ K = (.two (gd (YC s p n f e = YC s p n f e ∧ vg s p)) (.one (.agg [.lit (.string s), .lit (.int .i64 (atI s (sk (lf s p)))), .sl false 5 n f, .lit (.int .i64 e)])) .no : Tr AV).run fun r => K r ⟨[], []⟩ := by kernel_rfl
noncomputable def spSkip : List AV → Option (Tr AV)
 | [.agg [.lit (.string s), .lit (.int .i64 p), .sl false 5 n f, .lit (.int .i64 e)]] => some (under (gd (vg s p)) (.agg [.lit (.string s), .lit (.int .i64 (atI s (sk (lf s p)))), .sl false 5 n f, .lit (.int .i64 e)]))
 | _ => none
theorem okSkip : EnvOk P0 (E0.know 28 spSkip) := E0ok.know fun args t r h1 h2 => by
 unfold spSkip at h1
 split at h1
 ·rename_i s p n f e
  cases h1
  obtain ⟨h3, rfl⟩ := YD h2
  exact Xe okSkipL (by kernel_rfl) (tr_skip s p n f e) (by simp [Tr.sel, gd_true h3, gd_true]) rfl
 ·cases h1
end Go.Proofs.NGiv
namespace Go.Proofs.NGiv
open Go Go.Ev Go.RowKit Go.Proofs.Wa Go.Proofs.Wb Go.Proofs.Wc Go.Proofs.NU1 Go.Proofs.NQ1 Go.Proofs.NJ1
noncomputable def E1 : Env := E0.know 28 spSkip
theorem E1ok : EnvOk P0 E1 := okSkip
theorem tr_is (s : ByteArray) (p : Int) (n : Nat) (f : Nat → List Value) (e c : Int) (K : AV → Mem → Option Ans) : Zz P0 E1 9 46 [.agg [.lit (.string s), .lit (.int .i64 p), .sl false 5 n f, .lit (.int .i64 e)], .lit (.int .u8 c)] ⟨[], []⟩ K = (.two (decide (p < (s.size : Int))) (.two (decide (0 ≤ p ∧ p.toNat < s.size)) (.one (.lit (.bool (((s.data.toList.getD p.toNat 0).toNat : Int) == c)))) .no) (.one (.lit (.bool false))) : Tr AV).run fun r => K r ⟨[], []⟩ := by kernel_rfl
noncomputable def spIs : List AV → Option (Tr AV)
 | [.agg [.lit (.string s), .lit (.int .i64 p), .sl false 5 n f, .lit (.int .i64 e)], .lit (.int .u8 c)] => some (under (gd (vg s p)) (.lit (.bool (hdB (lf s p) c))))
 | _ => none
theorem okIs : EnvOk P0 (E1.know 46 spIs) := E1ok.know fun args t r h1 h2 => by
 unfold spIs at h1
 split at h1
 ·rename_i s p n f e c
  cases h1
  obtain ⟨hv, rfl⟩ := YD h2
  refine Xe E1ok (by kernel_rfl) (tr_is s p n f e c) ?_ rfl
  cases hl : lf s p with
  | nil =>
   have := YaG s p hl hv
   simp only [↓Yc, sel_one, Zbd, this, Int.lt_irrefl, ↓reduceIte]
   simp [hdB]
  | cons a l =>
   obtain ⟨a1, a2, a3, a4, _⟩ := xat s p a l hl hv
   simp only [↓Yc, sel_one, Zbd, a1, a2, a3, a4, and_self, ↓reduceIte, hdB]
   simp
   exact Bool.eq_iff_iff.2 (by simp)
 ·cases h1
noncomputable def E2 : Env := E1.know 46 spIs
theorem E2ok : EnvOk P0 E2 := okIs
def r7 (x : ByteArray) : ByteArray × Int × Int := (xaq (x.size + 1) x).getD (⟨#[]⟩, 0, 0)
theorem good_r7 (x : ByteArray) (h : x.size ≤ 1073741824) : Ev.Good P0 68 [.lit (.string x)] (.tup [.lit (.string (r7 x).1), .lit (.int .i64 (r7 x).2.1), .lit (.int .i64 (r7 x).2.2)]) := by
 intro S w vs hI ha
 simp only [RepL, Rep] at ha
 obtain ⟨u, us, rfl, rfl, rfl⟩ := ha
 obtain ⟨r, h1, h2⟩ := xaz (x.size + 21) x (by omega) (by omega)
 have h3 := refRead_S (x.size + 1) (2 * x.size + 60) x r h1 (by omega) (by omega) h
 have h4 : r7 x = r := by unfold r7; rw [h1]; rfl
 rw [h4]
 refine (Zc.calls _ x r.1 r.2.1 r.2.2 w h3).mono ?_
 rintro e w' ⟨rfl, hb⟩
 exact ⟨_, rfl, hb, by simp only [Rep, RepL]; exact ⟨[_, _, _], rfl, _, _, rfl, rfl, _, _, rfl, rfl, _, _, rfl, rfl, rfl⟩⟩
noncomputable def spR7 : List AV → Option (Tr AV)
 | [.lit (.string x)] => some (under (gd (x.size ≤ 1073741824)) (.tup [.lit (.string (r7 x).1), .lit (.int .i64 (r7 x).2.1), .lit (.int .i64 (r7 x).2.2)]))
 | _ => none
noncomputable def E3 : Env := E2.know 68 spR7
theorem E3ok : EnvOk P0 E3 := E2ok.know fun args t r h1 h2 => by
 unfold spR7 at h1
 split at h1
 ·cases h1
  obtain ⟨hv, rfl⟩ := YD h2
  exact good_r7 _ hv
 ·cases h1
def stAm (l : List ByteArray) (s : ByteArray) (i : Nat) : St := ⟨Zp 18 [(0, .sl false 1 l.length (strF l)), (1, .lit (.string s)), (5, .lit (.int .i64 (i : Int)))], ⟨[], []⟩⟩
theorem YaA (l : List ByteArray) (s : ByteArray) (i : Nat) (K : Ev.Out → St → Option Ans) : XJ (Yz P0 E3 9 78) (Xq P0 78 0) [4] (stAm l s i) K = (.two (decide ((i : Int) < (l.length : Int))) (.two (decide (0 ≤ (i : Int) ∧ i < l.length)) (.two (decide ((l.getD i ⟨#[]⟩) = s)) (.one (.ret, ⟨Zp 18 [(4, .lit (.bool true))], ⟨[], []⟩⟩)) (.one (.norm, ⟨Zp 18 [(0, .sl false 1 l.length (strF l)), (1, .lit (.string s)), (5, .lit (.int .i64 (IntKind.wrap .i64 ((i : Int) + 1))))], ⟨[], []⟩⟩))) .no) (.one ((.exit 0), ⟨Zp 18 [], ⟨[], []⟩⟩)) : Tr (Ev.Out × St)).run fun x => K x.1 x.2 := by kernel_rfl
theorem xap (s : ByteArray) : ∀ (r l : List ByteArray) (i : Nat), l.drop i = r → l.length ≤ 1073741824 → ∃ m o st', (∀ K, rounds (Yz P0 E3 9 78) (Xq P0 78 0) [4] m (stAm l s i) K = K o st') ∧ (hasB s r = true → o = .ret ∧ st' = ⟨Zp 18 [(4, .lit (.bool true))], ⟨[], []⟩⟩) ∧ (hasB s r = false → o = .exit 0 ∧ st' = ⟨Zp 18 [], ⟨[], []⟩⟩)
 | [], l, i, h, hl => by
  have h1 : l.length ≤ i := List.drop_eq_nil_iff.1 h
  refine ⟨1, .exit 0, _, Yn (YaA l s i) (st1 := ⟨Zp 18 [], ⟨[], []⟩⟩) ?_ rfl, (fun x => by cases x), fun _ => ⟨rfl, rfl⟩⟩
  simp only [↓Yc, sel_one, Zbd, show ¬ ((i : Int) < (l.length : Int)) by omega, ↓reduceIte]
 | a :: r, l, i, h, hl => by
  have h1 : i < l.length := by
   rcases ybn i l.length with h' | h'
   ·exact h'
   ·rw [xbp h'] at h; cases h
  have h2 : l.getD i ⟨#[]⟩ = a := by
   have := congrArg (fun q => q.getD 0 ⟨#[]⟩) h
   simp only [xbn, zbe, zbn, Nat.add_zero] at this
   rw [zbe]; exact this
  have h3 : l.drop (i + 1) = r := by rw [← Ybk, h]; rfl
  by_cases c : s = a
  ·have hh : hasB s (a :: r) = true := by rw [hasB, if_pos c]
   refine ⟨1, .ret, _, Yn (YaA l s i) (st1 := ⟨Zp 18 [(4, .lit (.bool true))], ⟨[], []⟩⟩) ?_ rfl, fun _ => ⟨rfl, rfl⟩, (fun x => by rw [hh] at x; cases x)⟩
   simp only [↓Yc, sel_one, Zbd, show ((i : Int) < (l.length : Int)) by omega, show 0 ≤ (i : Int) by omega, h1, h2, show a = s from c.symm, and_self, ↓reduceIte]
  ·have hh : hasB s (a :: r) = hasB s r := by rw [hasB, if_neg c]
   obtain ⟨m, o, st', k1, k2⟩ := xap s r l (i + 1) h3 hl
   rw [hh]
   refine ⟨m + 1, o, st', ZD (YaA l s i) (st1 := stAm l s (i + 1)) ?_ k1, k2⟩
   simp only [↓Yc, sel_one, Zbd, show ((i : Int) < (l.length : Int)) by omega, show 0 ≤ (i : Int) by omega, h1, h2, show ¬ (a = s) from fun x => c x.symm, and_self, ↓reduceIte]
   rw [wrap_i64 (by omega) (by omega)]
   rfl
noncomputable def spAmL (st : St) : Option (Tr (Ev.Out × St)) :=
 let l := strL (st.at 0).sn (st.at 0).sf; let s := (st.at 1).str; let i := (st.at 5).int.toNat
 some (.two (gd (st = stAm l s i ∧ l.length ≤ 1073741824)) (.two (hasB s (l.drop i)) (.one (.ret, ⟨Zp 18 [(4, .lit (.bool true))], ⟨[], []⟩⟩)) (.one (.exit 0, ⟨Zp 18 [], ⟨[], []⟩⟩))) .no)
theorem okAmL : EnvOk P0 (E3.knowLoop 78 2 spAmL) := E3ok.knowSt (j := 0) (by kernel_rfl) fun st t out st' h1 h2 => by
 unfold spAmL at h1
 cases h1
 obtain ⟨⟨h3, h4⟩, h5⟩ := zA h2
 obtain ⟨m, o, s2, k1, k2, k3⟩ := xap (st.at 1).str _ (strL (st.at 0).sn (st.at 0).sf) (st.at 5).int.toNat rfl h4
 refine ⟨m, fun K => ?_⟩
 conv => lhs; rw [h3]
 rw [k1]
 cases c : hasB (st.at 1).str ((strL (st.at 0).sn (st.at 0).sf).drop (st.at 5).int.toNat) with
 | true =>
  obtain ⟨rfl, rfl⟩ := k2 c
  rw [c] at h5; cases h5; rfl
 | false =>
  obtain ⟨rfl, rfl⟩ := k3 c
  rw [c] at h5; cases h5; rfl
theorem tr_among (l : List ByteArray) (s : ByteArray) (K : AV → Mem → Option Ans) : Zz P0 (E3.knowLoop 78 2 spAmL) 9 78 [.sl false 1 l.length (strF l), .lit (.string s)] ⟨[], []⟩ K = (.two (gd (stAm l s 0 = stAm (strL l.length (strF l)) s 0 ∧ (strL l.length (strF l)).length ≤ 1073741824)) (.two (hasB s ((strL l.length (strF l)).drop 0)) (.one (.lit (.bool true))) (.one (.lit (.bool false)))) .no : Tr AV).run fun r => K r ⟨[], []⟩ := by kernel_rfl
noncomputable def spAmong : List AV → Option (Tr AV)
 | [.sl false 1 n f, .lit (.string s)] => some (under (gd (strE n f ∧ n ≤ 1073741824)) (.lit (.bool (hasB s (strL n f)))))
 | _ => none
noncomputable def E5 : Env := E3.know 78 spAmong
theorem E5ok : EnvOk P0 E5 := E3ok.know fun args t r h1 h2 => by
 unfold spAmong at h1
 split at h1
 ·rename_i n f s
  cases h1
  obtain ⟨⟨hv, hn⟩, rfl⟩ := YD h2
  have hL := yab n f
  refine (Xe okAmL (by kernel_rfl) (tr_among (strL n f) s) (r := .lit (.bool (hasB s (strL n f)))) ?_ rfl).args fun g m w vs => RepL.cons (fun v h => rep_sl h (yba hv)) (fun _ h => h) vs
  have G : (strL n f).length ≤ 1073741824 := by omega
  simp only [strL_F, gd_iff, true_and, G, ↓Yc, ↓reduceIte, sel_one, xbt]
  cases hasB s (strL n f) <;> rfl
 ·cases h1
theorem zF (l : B) : sk l <:+ l := Xbl _ _
theorem zG (s : ByteArray) (l : B) (k : Nat) (h : l <:+ s.data.toList) (hs : s.size ≤ 1073741824) (hk : k ≤ l.length) : IntKind.wrap .i64 (atI s l + (k : Int)) = atI s (l.drop k) := by
 have h1 := h.length_le
 rw [data_length] at h1
 unfold atI
 rw [Zbb, wrap_i64 (by omega) (by omega)]
 omega
theorem YP (l : B) (c : Nat) : hdB (sk l) (c : Int) = true ↔ hd l = c ∧ sk l ≠ [] := by
 unfold hdB hd
 rw [Zbd]
 constructor
 ·rintro ⟨h1, h2⟩; exact ⟨by omega, h1⟩
 ·rintro ⟨h1, h2⟩; exact ⟨h2, by omega⟩
theorem dec_cut {s : ByteArray} {x : Int} (h : vg s x) : decide ((0 : Int) ≤ x ∧ x ≤ (s.size : Int) ∧ (s.size : Int) ≤ (s.size : Int)) = true := decide_eq_true ⟨h.1, h.2.1, Int.le_refl _⟩
theorem XaG {s : ByteArray} {i j : Nat} (h : s.size ≤ 1073741824) : gd ((s.extract i j).size ≤ 1073741824) = true := gd_true (by rw [ByteArray.size_extract]; omega)
theorem r7_rq (s : ByteArray) (l : B) (h : l <:+ s.data.toList) (hs : s.size ≤ 1073741824) (h34 : (l.getD 0 0).toNat = 34) : (r7 (s.extract (atI s l).toNat s.size)).2.2 = (rq l).2.2 ∧
  ((rq l).2.2 = 0 → (r7 (s.extract (atI s l).toNat s.size)).1 = ⟨(rq l).1.toArray⟩ ∧ IntKind.wrap .i64 (atI s l + (r7 (s.extract (atI s l).toNat s.size)).2.1) = atI s (rq l).2.1 ∧ (rq l).2.1 <:+ s.data.toList) := by
 have hv := YA s l h hs
 have hz : (s.extract (atI s l).toNat s.size).size ≤ 1073741824 := gd_iff.1 (XaG hs)
 have h1 : s.data.toList.drop (atI s l).toNat = l := YB s l h
 obtain ⟨r, k1, k2⟩ := xaz (s.size + 21) (s.extract (atI s l).toNat s.size) (by rw [ByteArray.size_extract]; omega) (by omega)
 obtain ⟨r', j1, j2, j3, j4, j5⟩ := rq_sim s (atI s l).toNat l h1 (by have := hv.2.1; omega) (by omega) h34 (s.size + 21) (by omega)
 rw [k2] at j1; cases j1
 have h4 : r7 (s.extract (atI s l).toNat s.size) = r := by unfold r7; rw [k1]; rfl
 rw [h4]
 refine ⟨j2, fun c => ?_⟩
 obtain ⟨i1, i2⟩ := j5 (by rw [j2]; exact c)
 have h5 : (rq l).2.1 = l.drop r.2.1.toNat := by rw [← i2, ← Ybk, h1]
 refine ⟨i1, ?_, by rw [h5]; exact (Xbl _ _).trans h⟩
 have h6 : r.2.1.toNat ≤ l.length := by
  have := hv.1; have := hv.2.1
  have e : atI s l = (s.size : Int) - l.length := rfl
  omega
 have := zG s l r.2.1.toNat h hs h6
 rw [h5, ← this, show ((r.2.1.toNat : Nat) : Int) = r.2.1 by omega]
theorem Yai {g : Gh} {m : Mem} {w : World} {x y z e k : AV} {v : Value} (h : Rep g m w (.tup [.agg [x, y, z, e], k]) v) (ho : (x.one && y.one && z.one) = true := by rfl) : Rep g m w (.tup [.agg [.cell, .cell, .cell, e], .any]) v :=
 rep_tup (fun vs => RepL.cons (fun v h => X3 h ho) (RepL.cons rep_any fun _ h => h) vs) h
theorem tr_key (s : ByteArray) (p : Int) (n : Nat) (f : Nat → List Value) (e : Int) (m : Nat) (g : Nat → List Value) (K : AV → Mem → Option Ans) : Zz P0 E5 9 67 [.agg [.lit (.string s), .lit (.int .i64 p), .sl false 5 n f, .lit (.int .i64 e)], .sl false 1 m g] ⟨[], []⟩ K = (.two (gd (vg s p)) (.two (gd (vg s (atI s (sk (lf s p))))) (.two (!(hdB (lf s (atI s (sk (lf s p)))) 34)) (.one (.tup [.agg [.lit (.string s), .lit (.int .i64 (atI s (sk (lf s p)))), .sl false 5 n f, .lit (.int .i64 80)], .lit (.string ⟨#[]⟩)])) (.two (decide ((0 : Int) ≤ (atI s (sk (lf s p))) ∧ (atI s (sk (lf s p))) ≤ (s.size : Int) ∧ (s.size : Int) ≤ (s.size : Int))) (.two (gd ((s.extract (atI s (sk (lf s p))).toNat s.size).size ≤ 1073741824)) (.two ((r7 (s.extract (atI s (sk (lf s p))).toNat s.size)).2.2 != 0) (.one (.tup [.agg [.lit (.string s), .lit (.int .i64 (IntKind.wrap .i64 ((atI s (sk (lf s p))) + (r7 (s.extract (atI s (sk (lf s p))).toNat s.size)).2.1))), .sl false 5 n f, .lit (.int .i64 ((r7 (s.extract (atI s (sk (lf s p))).toNat s.size)).2.2))], .lit (.string ⟨#[]⟩)])) (.two (gd (strE m g ∧ m ≤ 1073741824)) (.two (hasB ((r7 (s.extract (atI s (sk (lf s p))).toNat s.size)).1) (strL m g)) (.one (.tup [.agg [.lit (.string s), .lit (.int .i64 (IntKind.wrap .i64 ((atI s (sk (lf s p))) + (r7 (s.extract (atI s (sk (lf s p))).toNat s.size)).2.1))), .sl false 5 n f, .lit (.int .i64 82)], .lit (.string ⟨#[]⟩)])) (.two (gd (vg s (IntKind.wrap .i64 ((atI s (sk (lf s p))) + (r7 (s.extract (atI s (sk (lf s p))).toNat s.size)).2.1)))) (.two (gd (vg s (atI s (sk (lf s (IntKind.wrap .i64 ((atI s (sk (lf s p))) + (r7 (s.extract (atI s (sk (lf s p))).toNat s.size)).2.1))))))) (.two (!(hdB (lf s (atI s (sk (lf s (IntKind.wrap .i64 ((atI s (sk (lf s p))) + (r7 (s.extract (atI s (sk (lf s p))).toNat s.size)).2.1)))))) 58)) (.one (.tup [.agg [.lit (.string s), .lit (.int .i64 (atI s (sk (lf s (IntKind.wrap .i64 ((atI s (sk (lf s p))) + (r7 (s.extract (atI s (sk (lf s p))).toNat s.size)).2.1)))))), .sl false 5 n f, .lit (.int .i64 80)], .lit (.string ⟨#[]⟩)])) (.one (.tup [.agg [.lit (.string s), .lit (.int .i64 (IntKind.wrap .i64 ((atI s (sk (lf s (IntKind.wrap .i64 ((atI s (sk (lf s p))) + (r7 (s.extract (atI s (sk (lf s p))).toNat s.size)).2.1))))) + 1))), .sl false 5 n f, .lit (.int .i64 ((r7 (s.extract (atI s (sk (lf s p))).toNat s.size)).2.2))], .lit (.string ((r7 (s.extract (atI s (sk (lf s p))).toNat s.size)).1))]))) .no) .no)) .no)) .no) .no)) .no) .no : Tr AV).run fun r => K r ⟨[], []⟩ := by kernel_rfl
noncomputable def keyA (s : ByteArray) (n : Nat) (f : Nat → List Value) (r : ByteArray × B × Int) : Tr AV := .two (r.2.2 == 0) (.one (.tup [.agg [.lit (.string s), .lit (.int .i64 (atI s r.2.1)), .sl false 5 n f, .lit (.int .i64 0)], .lit (.string r.1)])) (.one (.tup [.agg [.cell, .cell, .cell, .lit (.int .i64 r.2.2)], .any]))
noncomputable def spKey : List AV → Option (Tr AV)
 | [.agg [.lit (.string s), .lit (.int .i64 p), .sl false 5 n f, .lit (.int .i64 e)], .sl false 1 m g] => some (.two (gd (vg s p ∧ strE m g ∧ m ≤ 1073741824)) (keyA s n f (pk (lf s p) (strL m g))) .no)
 | _ => none
theorem Xai {s : ByteArray} {n : Nat} {f : Nat → List Value} {r : ByteArray × B × Int} {e : Int} {x : AV} (hr : r.2.2 = e) (he : e ≠ 0) (h : (keyA s n f r).sel = some x) : x = .tup [.agg [.cell, .cell, .cell, .lit (.int .i64 e)], .any] := by
 unfold keyA at h
 rw [Yc, if_neg (by rw [Ybf, hr]; exact he), sel_one, hr] at h
 exact (Option.some.inj h).symm
theorem good_key (s : ByteArray) (p : Int) (n : Nat) (f : Nat → List Value) (e : Int) (m : Nat) (g : Nat → List Value) (hv : vg s p) (hg : strE m g) (hm : m ≤ 1073741824) (r : AV) (h3 : (keyA s n f (pk (lf s p) (strL m g))).sel = some r) : Ev.Good P0 67 [.agg [.lit (.string s), .lit (.int .i64 p), .sl false 5 n f, .lit (.int .i64 e)], .sl false 1 m g] r := by
 have hb : zv P0 67 = true := by kernel_rfl
 have T := tr_key s p n f e m g
 have F1 := gd_true hv
 obtain ⟨L, hL⟩ : ∃ L, lf s p = L := ⟨_, rfl⟩
 have hLs : L <:+ s.data.toList := hL ▸ XY s p
 have hs := hv.2.2
 have s1 : sk L <:+ s.data.toList := (zF L).trans hLs
 have e1 := YB s _ s1
 have v1 := YA s _ s1 hs
 have F2 := gd_true v1
 have D1 := dec_cut v1
 have X1 := XaG (i := (atI s (sk L)).toNat) (j := s.size) hs
 have F3 := gd_true (And.intro hg hm)
 rw [hL] at h3
 cases c1 : hdB (sk L) 34 with
 | false =>
  have hne : ¬ hd L = 34 := fun x => by
   have : hdB (sk L) ((34 : Nat) : Int) = true := (YP L 34).2 ⟨x, fun y => by unfold hd at x; rw [y] at x; simp at x⟩
   rw [show ((34 : Nat) : Int) = 34 from rfl, c1] at this; cases this
  rw [Xai (e := 80) (by unfold pk; rw [if_neg hne]) (by decide) h3]
  refine (Xe E5ok hb T (r := .tup [.agg [.lit (.string s), .lit (.int .i64 (atI s (sk L))), .sl false 5 n f, .lit (.int .i64 80)], .lit (.string ⟨#[]⟩)]) ?_ rfl).weak fun _ _ _ _ h => Yai h
  simp only [hL, ↓Yc, sel_one, F1, F2, e1, c1, Zbq, ↓reduceIte]
 | true =>
  have c1' := (YP L 34).1 c1
  obtain ⟨q1, q2⟩ := r7_rq s (sk L) s1 hs c1'.1
  by_cases c2 : (rq (sk L)).2.2 = 0
  case neg =>
   rw [Xai (e := (rq (sk L)).2.2) (by unfold pk; rw [if_pos c1'.1, if_neg c2]) c2 h3]
   refine (Xe E5ok hb T (r := .tup [.agg [.lit (.string s), .lit (.int .i64 (IntKind.wrap .i64 (atI s (sk L) + (r7 (s.extract (atI s (sk L)).toNat s.size)).2.1))), .sl false 5 n f, .lit (.int .i64 ((rq (sk L)).2.2))], .lit (.string ⟨#[]⟩)]) ?_ rfl).weak fun _ _ _ _ h => Yai h
   simp only [hL, ↓Yc, sel_one, F1, F2, e1, c1, D1, X1, q1, Zbh, ne_eq, c2, not_false_eq_true, Xbq, Zbg, ↓reduceIte]
  case pos =>
   obtain ⟨q3, q4, q5⟩ := q2 c2
   cases c3 : hasB ⟨(rq (sk L)).1.toArray⟩ (strL m g) with
   | true =>
    rw [Xai (e := 82) (by unfold pk; rw [if_pos c1'.1, if_pos c2, if_pos c3]) (by decide) h3]
    refine (Xe E5ok hb T (r := .tup [.agg [.lit (.string s), .lit (.int .i64 (atI s (rq (sk L)).2.1)), .sl false 5 n f, .lit (.int .i64 82)], .lit (.string ⟨#[]⟩)]) ?_ rfl).weak fun _ _ _ _ h => Yai h
    simp only [hL, ↓Yc, sel_one, F1, F2, F3, e1, c1, D1, X1, q1, q3, q4, c3, Zbh, ne_eq, c2, not_true_eq_false, Xbq, Zbg, ↓reduceIte]
   | false =>
    have s3 : sk (rq (sk L)).2.1 <:+ s.data.toList := (zF _).trans q5
    have e2 := YB s _ q5
    have e3 := YB s _ s3
    have F4 := gd_true (YA s _ q5 hs)
    have F5 := gd_true (YA s _ s3 hs)
    cases c4 : hdB (sk (rq (sk L)).2.1) 58 with
    | false =>
     have hne : ¬ (tk1 (rq (sk L)).2.1 58).1 = true := fun x => by
      unfold tk1 at x
      split at x
      ·rename_i y
       have := (YP (rq (sk L)).2.1 58).2 y
       rw [show ((58 : Nat) : Int) = 58 from rfl, c4] at this; cases this
      ·cases x
     rw [Xai (e := 80) (by unfold pk; rw [if_pos c1'.1, if_pos c2, if_neg (by rw [c3]; simp), if_neg hne]) (by decide) h3]
     refine (Xe E5ok hb T (r := .tup [.agg [.lit (.string s), .lit (.int .i64 (atI s (sk (rq (sk L)).2.1))), .sl false 5 n f, .lit (.int .i64 80)], .lit (.string ⟨#[]⟩)]) ?_ rfl).weak fun _ _ _ _ h => Yai h
     simp only [hL, ↓Yc, sel_one, F1, F2, F3, F4, F5, e1, e2, e3, c1, D1, X1, q1, q3, q4, c3, c4, Zbh, ne_eq, c2, not_true_eq_false, Xbq, Zbq, Zbg, ↓reduceIte]
    | true =>
     have c4' := (YP (rq (sk L)).2.1 58).1 c4
     have ht : tk1 (rq (sk L)).2.1 58 = (true, (sk (rq (sk L)).2.1).drop 1) := by unfold tk1; rw [if_pos c4']
     have hk : pk L (strL m g) = (⟨(rq (sk L)).1.toArray⟩, (sk (rq (sk L)).2.1).drop 1, 0) := by unfold pk; rw [if_pos c1'.1, if_pos c2, if_neg (by rw [c3]; simp), if_pos (by rw [ht]), ht]
     rw [hk] at h3
     have h3 := Option.some.inj (show some _ = some r from h3)
     rw [← h3]
     have N1 := zG s (sk (rq (sk L)).2.1) 1 s3 hs (by have := Ybr.2 c4'.2; omega)
     refine Xe E5ok hb T ?_ rfl
     simp only [hL, ↓Yc, sel_one, F1, F2, F3, F4, F5, e1, e2, e3, c1, D1, X1, q1, q3, q4, c3, c4, Zbh, ne_eq, c2, not_true_eq_false, Xbq, Zbq, Zbg, ↓reduceIte]
     simp only [show (1 : Int) = ((1 : Nat) : Int) from rfl, N1]
noncomputable def E6 : Env := E5.know 67 spKey
theorem E6ok : EnvOk P0 E6 := E5ok.know fun args t r h1 h2 => by
 unfold spKey at h1
 split at h1
 ·rename_i s p n f e m g
  cases h1
  obtain ⟨⟨hv, hg, hm⟩, h3⟩ := zA h2
  exact good_key s p n f e m g hv hg hm r h3
 ·cases h1
end Go.Proofs.NGiv
namespace Go.Proofs.NGiv
open Go.RowKit Go.Proofs.Wa Go.Proofs.Wb Go.Proofs.Wc
open Go.Proofs.NU1 Go.Proofs.NQ1 Go.Proofs.NJ0 Go.Proofs.NJ1
def XZ.f (k : Nat) (a0 : Int) (a1 : Int) (a2 : ByteArray) (a3 : ByteArray) (a4 : Int) : Option Bool :=
 if a1 < 1 ∨ 7 < a1 ∨ (a1 ≠ 4 ∧ a4 ≠ 0) ∨ (a1 ≠ 5 ∧ a3.toList ≠ []) then some false
 else if 64 < a0 ∨ (a0 = 64 ∧ 6 ≤ a1) then some false
 else (XK.f k a2).bind fun b => if b = true then XK.f k a3 else some false
abbrev al1 : ByteArray := ⟨#[32, 123, 34, 97, 34, 32, 58, 32, 91, 49, 44, 32, 34, 98, 34, 93, 125, 32]⟩
abbrev al2 : ByteArray := ⟨#[91, 49, 46, 53, 93]⟩
abbrev al3 : ByteArray := ⟨#[123, 34, 97, 34, 58, 49, 44, 34, 97, 34, 58, 50, 125]⟩
def l4 : List S40 := [⟨0, 7, ⟨#[]⟩, ⟨#[]⟩, 0⟩, ⟨1, 6, ⟨#[97]⟩, ⟨#[]⟩, 0⟩, ⟨2, 4, ⟨#[]⟩, ⟨#[]⟩, 1⟩, ⟨2, 5, ⟨#[]⟩, ⟨#[98]⟩, 0⟩]
theorem al_p1 : Xs.f 60 al1 = some (l4, 0) := by kernel_rfl
theorem al_p2 : Xs.f 60 al2 = some ([], 83) := by kernel_rfl
theorem al_p3 : Xs.f 60 al3 = some ([], 82) := by kernel_rfl
theorem al_p4 : Xs.f 60 ⟨#[]⟩ = some ([], 80) := by kernel_rfl
theorem al_r1 : Zo.f l4 = some true := by kernel_rfl
theorem al_r2 : Zo.f (l4.drop 1) = some false := by kernel_rfl
abbrev al5 : ByteArray := ⟨#[123, 34, 97, 34, 58, 91, 49, 44, 34, 98, 34, 93, 125]⟩
theorem al_w : zV.f l4 = some al5 := by kernel_rfl
theorem xaZ (w : World) (ht : JTabs w) : Calls Tryz.prog 6 #[] w fun e w' => e = .returned (.bool true) ∧ Below w.heap.size w w' := by
 have HT := Aside0.mk ht
 have hu40 := Tryz.underlying40
 clear ht
 go_enter Tryz.func6, Tryz.ntmps6
 go_upto_region 5 with (first
  | (go_at_call 10; (with_reducible refine (Xs.calls 60 al1 l4 0 _ al_p1 HT.out).mono ?_); rintro e w1 ⟨v1, rfl, ho1, hb1⟩; have HO1 := Aside0.mk ho1; have HB1 := Aside0.mk hb1; clear ho1 hb1)
  | (go_at_call 10; (with_reducible refine (Xs.calls 60 al2 [] 83 _ al_p2 (HT.out.step HB1.out)).mono ?_); rintro e w2 ⟨v2, rfl, ho2, hb2⟩; have HO2 := Aside0.mk ho2; have HB2 := Aside0.mk (Ze HB1.out hb2); have HO1 := Aside0.mk (Kd.R_below HO1.out hb2); clear ho2 hb2)
  | (go_at_call 10; (with_reducible refine (Xs.calls 60 al3 [] 82 _ al_p3 (HT.out.step HB2.out)).mono ?_); rintro e w3 ⟨v3, rfl, ho3, hb3⟩; have HO3 := Aside0.mk ho3; have HB3 := Aside0.mk (Ze HB2.out hb3); have HO1 := Aside0.mk (Kd.R_below HO1.out hb3); clear ho3 hb3)
  | (go_at_call 10; (with_reducible refine (Xs.calls 60 ⟨#[]⟩ [] 80 _ al_p4 (HT.out.step HB3.out)).mono ?_); rintro e w4 ⟨v4, rfl, ho4, hb4⟩; have HO4 := Aside0.mk ho4; have HB4 := Aside0.mk (Ze HB3.out hb4); have HO1 := Aside0.mk (Kd.R_below HO1.out hb4); clear ho4 hb4))
 obtain ⟨G, cc, rfl, _, _, _⟩ := Kd.R_form HO1.out (by decide)
 have hC := (Kd.R_reads' HO1.out).2.2
 have hcc : 4 ≤ cc := (Kd.R_reads' HO1.out).2.1
 have hc1 : ¬ cc = 1 := by omega
 have hc0 : 1 ≤ cc := by omega
 obtain ⟨ad, hA, a0, a1, a2, a3, a4⟩ := Xab hC 1 (by decide) (by decide)
 injection hA with hA
 subst hA
 obtain ⟨ad, hA, b0, b1, b2, b3, b4⟩ := Xab hC 3 (by decide) (by decide)
 injection hA with hA
 subst hA
 have a0 : w4.cell? ⟨G, 5, none⟩ = some (.int .i64 1) := a0
 have a1 : w4.cell? ⟨G, 6, none⟩ = some (.int .i64 6) := a1
 have a2 : w4.cell? ⟨G, 7, none⟩ = some (.string ⟨#[97]⟩) := a2
 have a3 : w4.cell? ⟨G, 8, none⟩ = some (.string ⟨#[]⟩) := a3
 have a4 : w4.cell? ⟨G, 9, none⟩ = some (.int .i64 0) := a4
 have b0 : w4.cell? ⟨G, 15, none⟩ = some (.int .i64 2) := b0
 have b1 : w4.cell? ⟨G, 16, none⟩ = some (.int .i64 5) := b1
 have b2 : w4.cell? ⟨G, 17, none⟩ = some (.string ⟨#[]⟩) := b2
 have b3 : w4.cell? ⟨G, 18, none⟩ = some (.string ⟨#[98]⟩) := b3
 have b4 : w4.cell? ⟨G, 19, none⟩ = some (.int .i64 0) := b4
 have HD : Aside0 (Kd.C k40 w4 (some ⟨G, 5, none⟩) 3 (l4.drop 1)) := ⟨by have := Kd.C_drop (m := 1) (c := cc) hC (by decide) hcc; rw [if_neg hc1] at this; exact this⟩
 have HC := Aside0.mk hC
 have CR1 : Aside0 (∀ W, Below w4.heap.size w4 W → JTabs W → Calls Tryz.prog 15 #[.slice (some ⟨G, 0, none⟩) 4 cc] W fun e w' => e = .returned (.bool true) ∧ Below W.heap.size W w') := ⟨fun W hb hj => Zo.calls (some ⟨G, 0, none⟩) cc l4 true W (Kd.C_below HC.out hb) hcc al_r1 hj.tabs⟩
 have CR2 : Aside0 (∀ W, Below w4.heap.size w4 W → JTabs W → Calls Tryz.prog 15 #[.slice (some ⟨G, 5, none⟩) 3 (cc - 1)] W fun e w' => e = .returned (.bool false) ∧ Below W.heap.size W w') := ⟨fun W hb hj => Zo.calls (some ⟨G, 5, none⟩) (cc - 1) (l4.drop 1) false W (Kd.C_below HD.out hb) (by show 3 ≤ cc - 1; omega) al_r2 hj.tabs⟩
 have CW : Aside0 (∀ W, Below w4.heap.size w4 W → JTabs W → Calls Tryz.prog 7 #[.slice (some ⟨G, 0, none⟩) 4 cc] W fun e w' => e = .returned (.string al5) ∧ Below W.heap.size W w') := ⟨fun W hb hj => zV.calls (some ⟨G, 0, none⟩) cc l4 al5 W (Kd.C_below HC.out hb) hcc al_w hj⟩
 have hl4 : l4.length = 4 := rfl
 clear hC hcc
 go_wp2_with (first
  | (go_at_call 15; (with_reducible refine (CR1.out w4 (ybd _ _) (HT.out.step HB4.out)).mono ?_); rintro e w5 ⟨rfl, hb5⟩; have HB5 := Aside0.mk hb5; clear hb5)
  | (go_at_call 15; (with_reducible refine (CR2.out w5 HB5.out (HT.out.step (Ze HB4.out HB5.out))).mono ?_); rintro e w6 ⟨rfl, hb6⟩; have HB6 := Aside0.mk (Ze HB5.out hb6); clear hb6)
  | (go_at_call 7; (with_reducible refine (CW.out w6 HB6.out (HT.out.step (Ze HB4.out HB6.out))).mono ?_); rintro e w7 ⟨rfl, hb7⟩; have HB7 := Aside0.mk (Ze HB6.out hb7); clear hb7))
 go_ret
 exact ⟨rfl, Ze HB4.out HB7.out⟩
def zL.f : Option Bool := some true
theorem zL.calls (r : Bool) (w : World) (h : zL.f = some r) (ht : JTabs w := by first | assumption | (refine JTabs.step (by assumption) ?_; repeat (first | exact Aside0.out (by assumption) | apply Za | apply Ya | apply Xa | exact ybd _ _))) : Calls Tryz.prog 6 #[] w fun e w' => e = .returned (.bool r) ∧ Below w.heap.size w w' := by
 cases h
 exact xaZ w ht
def toN (x : S39) : S40 := ⟨x.f0, x.f1, x.f2, x.f3, x.f4⟩
def toO (x : S40) : S39 := ⟨x.f0, x.f1, x.f2, x.f3, x.f4⟩
theorem drop_T39 (l : List S39) (j : Nat) (h : j < l.length) : l.drop j = Zg l (j : Int) :: l.drop (j + 1) := by
 rw [Xbo h]
 congr 1
 simp [Zg, List.getD, h]
theorem take_T40 (l : List S40) (j : Nat) (h : j < l.length) : l.take (j + 1) = l.take j ++ [zE l (j : Int)] := by
 rw [List.take_add_one]
 congr 1
 simp [zE, List.getD, h]
def ybb.f (l : List S39) : Option (List S40) := if l.length * 56 ≤ 140737488355328 then some (l.map toN) else none
def xC.f (l : List S40) : Option (List S39) := if l.length * 56 ≤ 140737488355328 then some (l.map toO) else none
theorem xC.calls (A0 : Option Addr) (c0 : Nat) (l0 : List S40) (r : List S39) (w : World) (hr0 : Kd.C k40 w A0 l0.length l0) (hc0 : l0.length ≤ c0) (h : xC.f l0 = some r) :
  Calls Tryz.prog 13 #[.slice A0 l0.length c0] w fun e w' => ∃ v0_ : Value, e = .returned v0_ ∧ Kd.R k39 39 w' w.heap.size (fun _ => True) v0_ r ∧ Below w.heap.size w w' := by
 unfold xC.f at h
 by_cases hl : l0.length * 56 ≤ 140737488355328
 ·rw [if_pos hl] at h
  cases h
  have HC := Aside0.mk hr0
  have HL := Aside0.mk hl
  have HN0 : Aside0 (Kd.R k39 39 w w.heap.size (fun _ => True) (.slice none 0 0) ((l0.take 0).map toO)) := ⟨Kd.R_nil _ _ _ _ _⟩
  clear hr0 hc0 hl
  go_enter Tryz.func13, Tryz.ntmps13
  go_wp2_with fail
  go_loopg [3, 8] l0.length (fun kq v3 v8 wr => ∃ j : Nat, kq = l0.length - j ∧ j ≤ l0.length ∧ v8 = .int .i64 (j : Int) ∧ Aside0 (Kd.R k39 39 wr w.heap.size (fun _ => True) v3 ((l0.take j).map toO)) ∧ Aside0 (Below w.heap.size w wr))
  case atStart => exact ⟨0, rfl, Ybm _, rfl, HN0, ⟨ybd _ _⟩⟩
  case round =>
   clear HN0
   obtain ⟨j, hkq, hjl, rfl, HR, HB⟩ := hrel
   have hgl : j < 9223372036854775807 := by have := HL.out; omega
   by_cases hlt : j < l0.length
   ·obtain ⟨ad, hA, a0, a1, a2, a3, a4⟩ := Xab (Kd.C_below HC.out HB.out) (j : Int) (by omega) (by omega)
    subst hA
    have HX := Aside0.mk (take_T40 l0 j hlt)
    obtain ⟨⟨f0, f1, f2, f3, f4⟩, hx⟩ : ∃ x, zE l0 (j : Int) = x := ⟨_, rfl⟩
    rw [hx] at a0 a1 a2 a3 a4 HX
    simp only [Ybd] at a0 a1 a2 a3 a4
    clear hx
    have HW1 : Aside0 (Below wr.heap.size wr (wr.alloc (.cells #[.int .i64 f0, .int .i64 f1, .string f2, .string f3, .int .i64 f4] 40))) := ⟨Za (ybd _ _) _⟩
    have HR1 := Aside0.mk (Kd.R_below HR.out HW1.out)
    have HB1 := Aside0.mk (Ze HB.out HW1.out)
    have HLn : Aside0 ((((l0.take j).map toO).length + 1) * 56 ≤ 140737488355328) := ⟨by rw [xbk, ybc]; have := HL.out; omega⟩
    obtain ⟨A3, c3, rfl⟩ := Kd.R_slice HR.out
    go_wp2_with ((at_builtin; refine Kd.R_append k39 (w0 := w) (W := wr.alloc (.cells #[.int .i64 f0, .int .i64 f1, .string f2, .string f3, .int .i64 f4] 40)) w.heap.size rfl (.tmp 12) (.tmp 14) 22 39 (.agg #[.int .i64 0, .int .i64 0, .string ⟨#[]⟩, .string ⟨#[]⟩, .int .i64 0]) 56 rfl Tryz.underlying22 info39 rfl (by decide) (by decide) _ ((l0.take j).map toO) ⟨f0, f1, f2, f3, f4⟩ [.int .i64 f0, .int .i64 f1, .string f2, .string f3, .int .i64 f4] (fun _ => True) (fun _ => False) rfl (congrArg (fun q => Value.slice (some ⟨q, 0, none⟩) 1 1) (Yaf wr _).symm) (k39_mkM _ _ _ ⟨f0, f1, f2, f3, f4⟩) (fun _ h => h.elim) (fun _ _ => trivial) HR1.out HB1.out HB1.out.size HLn.out ?_; intro v9 w9 hO9 hB9 hg9 hA9; have HO9 := Aside0.mk hO9; have HB9 := Aside0.mk hB9; clear hO9 hB9 hg9 hA9))
    go_roundg (l0.length - (j + 1))
    case measure => omega
    case rel => exact ⟨j + 1, rfl, hlt, by go_num, ⟨by rw [HX.out, xbq]; exact HO9.out⟩, HB9⟩
   ·obtain rfl : j = l0.length := by omega
    have HR2 := Aside0.mk HR.out
    have hjl3 : ¬ (l0.length : Int) < (l0.length : Int) := by omega
    go_wp2_with fail
    go_ret
    exact ⟨_, rfl, by have := HR.out; rw [List.take_length] at this; exact this, HB.out⟩
 ·rw [if_neg hl] at h; cases h
end Go.Proofs.NGiv
namespace Go.Proofs.NJ2
open Go.Proofs.NGiv Go.Proofs.NU1 Go.Proofs.NQ1 Go.Proofs.NJ0 Go.Proofs.NJ1 Go.RowKit Go.Proofs.Wa Go.Proofs.Wb Go.Proofs.Wc
attribute [local go_sem] YL XL YR XR yI xI zM yM
def errW : Option Int → Value
 | none => .nilIface
 | some c => .iface 0 (.int .i64 c)
theorem errW_none : errW none = .nilIface := rfl
theorem Yd (c : Int) : errW (some c) = .iface 0 (.int .i64 c) := rfl
theorem eqA39 (d : Nat) (w : World) (x0 y0 : Int) (x1 y1 : Int) (x2 y2 : ByteArray) (x3 y3 : ByteArray) (x4 y4 : Int) :
  (Op.equalIn (d + 2) 39 (.agg #[.int .i64 x0, .int .i64 x1, .string x2, .string x3, .int .i64 x4]) (.agg #[.int .i64 y0, .int .i64 y1, .string y2, .string y3, .int .i64 y4])).run Tryz.prog w = .ok (x0 == y0 && (x1 == y1 && (x2.toList == y2.toList && (x3.toList == y3.toList && (x4 == y4))))) w := by
 refine eqA_of Tryz.underlying39 (by kernel_rfl) ?_
 refine xM (by rfl) (by go_simp; rfl) (by go_simp; rfl) (by go_simp) ?_
 refine xM (by rfl) (by go_simp; rfl) (by go_simp; rfl) (by go_simp) ?_
 refine xM (by rfl) (by go_simp; rfl) (by go_simp; rfl) (by go_simp) ?_
 refine xM (by rfl) (by go_simp; rfl) (by go_simp; rfl) (by go_simp) ?_
 exact zaS (by rfl) (by go_simp; rfl) (by go_simp; rfl) (by go_simp)
def yL.l0 : Nat → List (S39) → Int → List (S39) → Int → Int → Option (Bool)
 | 0, _, _, _, _, _ => none
 | k + 1, x0, x3, x6, x7, x8 => if x8 < x7 then (if 0 ≤ x8 then (if x8 < (x6.length : Int) then (if (wrap64 (x3 + ((mn (((Zg x6 x8).f2).size : Int) 3000) + (mn (((Zg x6 x8).f3).size : Int) 3000)))) > 1000 then (some false) else (if (x0.length : Int) > 100 then (some false) else (yL.l0 k x0 (wrap64 (x3 + ((mn (((Zg x6 x8).f2).size : Int) 3000) + (mn (((Zg x6 x8).f3).size : Int) 3000)))) x6 x7 (wrap64 (x8 + 1))))) else (none)) else (none)) else (some true)
def yL.f (k : Nat) (l0 : List (S39)) : Option (Bool) := yL.l0 k l0 0 l0 (l0.length : Int) 0
def zD.l0 : Nat → List (S39) → Int → Int → Option (Int)
 | 0, _, _, _ => none
 | k + 1, x0, x1, x5 => if x5 ≥ 0 then (if 0 ≤ x5 then (if x5 < (x0.length : Int) then (if 0 ≤ x1 then (if x1 < (x0.length : Int) then (if ((Zg x0 x5).f0) = (wrap64 (((Zg x0 x1).f0) - 1)) then (some x5) else (zD.l0 k x0 x1 (wrap64 (x5 - 1)))) else (none)) else (none)) else (none)) else (none)) else (some (-1))
def zD.f (k : Nat) (l0 : List (S39)) (a1 : Int) : Option (Int) := zD.l0 k l0 a1 (wrap64 (a1 - 1))
def yB.l0 : Nat → List (S39) → Int → Int → Option (Bool)
 | 0, _, _, _ => none
 | k + 1, x0, x1, x7 => if x7 < x1 then (if 0 ≤ x7 then (if x7 < (x0.length : Int) then (if 0 ≤ x1 then (if x1 < (x0.length : Int) then (if ((Zg x0 x7).f0) = ((Zg x0 x1).f0) then (if ((Zg x0 x7).f2).toList = ((Zg x0 x1).f2).toList then (some false) else (yB.l0 k x0 x1 (wrap64 (x7 + 1)))) else (yB.l0 k x0 x1 (wrap64 (x7 + 1)))) else (none)) else (none)) else (none)) else (none)) else (some true)
def yB.f (k : Nat) (l0 : List (S39)) (a1 : Int) (a2 : Int) : Option (Bool) := yB.l0 k l0 a1 (wrap64 (a2 + 1))
mutual
def Zi.j0 : Nat → List (S39) → Bool → Option (Bool)
 | 0, _, _ => none
 | k + 1, x0, x29 => if x29 = true then (some false) else (Zi.l0 k x0 1)
def Zi.l0 : Nat → List (S39) → Int → Option (Bool)
 | 0, _, _ => none
 | k + 1, x0, x3 => if x3 < (x0.length : Int) then (if 0 ≤ (wrap64 (x3 - 1)) then (if (wrap64 (x3 - 1)) < (x0.length : Int) then (if ((Zg x0 (wrap64 (x3 - 1))).f1) ≥ 6 then (Zi.j2 k x0 x3 (wrap64 (((Zg x0 (wrap64 (x3 - 1))).f0) + 1))) else (Zi.j2 k x0 x3 ((Zg x0 (wrap64 (x3 - 1))).f0))) else (none)) else (none)) else (some true)
def Zi.j2 : Nat → List (S39) → Int → Int → Option (Bool)
 | 0, _, _, _ => none
 | k + 1, x0, x3, x4 => if 0 ≤ x3 then (if x3 < (x0.length : Int) then ((XZ.f k ((Zg x0 x3).f0) ((Zg x0 x3).f1) ((Zg x0 x3).f2) ((Zg x0 x3).f3) ((Zg x0 x3).f4)).bind fun t116 => (if t116 = true then (if ((Zg x0 x3).f0) < 1 then (Zi.j3 k x0 x3 true) else (Zi.j3 k x0 x3 (decide (((Zg x0 x3).f0) > x4)))) else (Zi.j3 k x0 x3 true))) else (none)) else (none)
def Zi.j3 : Nat → List (S39) → Int → Bool → Option (Bool)
 | 0, _, _, _ => none
 | k + 1, x0, x3, x73 => if x73 = true then (some false) else ((zD.f k x0 x3).bind fun t119 => (if 0 ≤ t119 then (if t119 < (x0.length : Int) then (if ((Zg x0 t119).f1) = 6 then (if 0 ≤ x3 then (if x3 < (x0.length : Int) then (Zi.j4 k x0 x3 t119 (((Zg x0 x3).f2).toList != ([] : List UInt8))) else (none)) else (none)) else (Zi.j4 k x0 x3 t119 false)) else (none)) else (none)))
def Zi.j4 : Nat → List (S39) → Int → Int → Bool → Option (Bool)
 | 0, _, _, _, _ => none
 | k + 1, x0, x3, x5, x90 => if x90 = true then (some false) else (if 0 ≤ x5 then (if x5 < (x0.length : Int) then (if ((Zg x0 x5).f1) = 7 then ((yB.f k x0 x3 x5).bind fun t123 => (if t123 = true then (Zi.l0 k x0 (wrap64 (x3 + 1))) else (some false))) else (Zi.l0 k x0 (wrap64 (x3 + 1)))) else (none)) else (none))
end
def Zi.f (k : Nat) (l0 : List (S39)) : Option (Bool) := if (l0.length : Int) = 0 then (Zi.j0 k l0 true) else (if 0 < (l0.length : Int) then (if ((Zg l0 0).f0) = 0 then (if ((Zg l0 0).f2).toList = ([] : List UInt8) then ((XZ.f k ((Zg l0 0).f0) ((Zg l0 0).f1) ((Zg l0 0).f2) ((Zg l0 0).f3) ((Zg l0 0).f4)).bind fun t112 => (Zi.j0 k l0 (!t112))) else (Zi.j0 k l0 true)) else (Zi.j0 k l0 true)) else (none))
end Go.Proofs.NJ2
namespace Go.Proofs.NJ2
open Go.Proofs.NGiv Go.Proofs.NU1 Go.Proofs.NQ1 Go.Proofs.NJ0 Go.Proofs.NJ1 Go.RowKit Go.Proofs.Wa Go.Proofs.Wb Go.Proofs.Wc
attribute [local go_sem] YL XL YR XR yI xI zM yM
attribute [local go_sem high] eqA39
def Yk.l0 : Nat → List (S39) → List (S39) → Int → Option (Bool)
 | 0, _, _, _ => none
 | k + 1, x0, x1, x5 => if x5 < (x0.length : Int) then (if 0 ≤ x5 then (if x5 < (x1.length : Int) then (if (!(((Zg x0 x5).f0) == ((Zg x1 x5).f0)) || (!(((Zg x0 x5).f1) == ((Zg x1 x5).f1)) || (!((((Zg x0 x5).f2).toList) == (((Zg x1 x5).f2).toList)) || (!((((Zg x0 x5).f3).toList) == (((Zg x1 x5).f3).toList)) || (!(((Zg x0 x5).f4) == ((Zg x1 x5).f4))))))) = true then (some false) else (Yk.l0 k x0 x1 (wrap64 (x5 + 1)))) else (none)) else (none)) else (some true)
def Yk.f (k : Nat) (l0 : List (S39)) (l1 : List (S39)) : Option (Bool) := if (l0.length : Int) = (l1.length : Int) then (Yk.l0 k l0 l1 0) else (some false)
theorem Yk.calls (k : Nat) (A0 : Option Addr) (c0 : Nat) (l0 : List (S39)) (A1 : Option Addr) (c1 : Nat) (l1 : List (S39)) (r : Bool) (w : World) (hr0 : Kd.C k39 w A0 l0.length l0) (hc0 : l0.length ≤ c0) (hr1 : Kd.C k39 w A1 l1.length l1) (hc1 : l1.length ≤ c1) (h : Yk.f k l0 l1 = some r) :
  Calls Tryz.prog 12 #[.slice A0 l0.length c0, .slice A1 l1.length c1] w fun e w' => e = .returned (.bool r) ∧ Drawn0 w w' := by
 have hu39 := Tryz.underlying39
 have HR0 := Aside0.mk hr0
 have HC0 := Aside0.mk hc0
 clear hr0 hc0
 have HR1 := Aside0.mk hr1
 have HC1 := Aside0.mk hc1
 clear hr1 hc1
 have H : (if (l0.length : Int) = (l1.length : Int) then (Yk.l0 k l0 l1 0) else (some false)) = some r := h
 clear h
 by_cases c3 : (l0.length : Int) = (l1.length : Int)
 ·rw [if_pos c3] at H
  have c3b0 : ((l0.length : Int) == (l1.length : Int)) = true := Ybf.mpr c3
  have c3b1 : ((l0.length : Int) != (l1.length : Int)) = false := Ybh.mpr c3
  have c3b2 : (l0.length == l1.length) = true := by first | simpa using c3 | (simp at c3 ⊢; omega)
  clear c3
  have H' := Aside0.mk H
  clear H
  go_enter Tryz.func12, Tryz.ntmps12
  go_wp2
  repeat (go_quiet (fail); try go_wp2)
  go_loopg [5] k (fun kq v5 w' => ∃ (x5_1 : Int), v5 = .int .i64 x5_1 ∧ Aside0 (Yk.l0 kq l0 l1 x5_1 = some r) ∧ Aside0 (kq ≤ k) ∧ Drawn0 w w')
  case atStart => exact ⟨(0), (by first | rfl | (simp; done) | (simp [*]; done)), H', ⟨Xbc _⟩, by repeat (first | exact Drawn0.refl _ | apply Drawn0.step)⟩
  case round =>
   clear H'
   try clear c1
   try clear p2
   try clear c3
   try clear c3b0
   try clear c3b1
   try clear c3b2
   obtain ⟨x5_1, rfl, HA, HK1, ⟨m1, rfl⟩⟩ := hrel
   cases gk with
   | zero => exact absurd HA.out (by simp [Yk.l0])
   | succ k1 =>
    have H := HA.out
    clear HA
    simp only [Yk.l0] at H
    by_cases c4 : x5_1 < (l0.length : Int)
    ·rw [if_pos c4] at H
     have c4b0 : decide (x5_1 < (l0.length : Int)) = true := decide_eq_true c4
     clear c4
     by_cases c5 : 0 ≤ x5_1
     ·rw [if_pos c5] at H
      have c5b0 : decide (0 ≤ x5_1) = true := decide_eq_true c5
      clear c5
      by_cases c6 : x5_1 < (l1.length : Int)
      ·rw [if_pos c6] at H
       have c6b0 : decide (x5_1 < (l1.length : Int)) = true := decide_eq_true c6
       clear c6
       by_cases c7 : (!(((Zg l0 x5_1).f0) == ((Zg l1 x5_1).f0)) || (!(((Zg l0 x5_1).f1) == ((Zg l1 x5_1).f1)) || (!((((Zg l0 x5_1).f2).toList) == (((Zg l1 x5_1).f2).toList)) || (!((((Zg l0 x5_1).f3).toList) == (((Zg l1 x5_1).f3).toList)) || (!(((Zg l0 x5_1).f4) == ((Zg l1 x5_1).f4))))))) = true
       ·rw [if_pos c7] at H
        have c7b0 : (!(((Zg l0 x5_1).f0) == ((Zg l1 x5_1).f0)) || (!(((Zg l0 x5_1).f1) == ((Zg l1 x5_1).f1)) || (!((((Zg l0 x5_1).f2).toList) == (((Zg l1 x5_1).f2).toList)) || (!((((Zg l0 x5_1).f3).toList) == (((Zg l1 x5_1).f3).toList)) || (!(((Zg l0 x5_1).f4) == ((Zg l1 x5_1).f4))))))) = true := c7
        clear c7
        obtain rfl := Option.some.inj H
        have p124 : 0 ≤ (x5_1 : Int) := xbc (by first | (with_reducible assumption) | assumption)
        have q124 : x5_1 < (l0.length : Int) := xbc (by first | (with_reducible assumption) | assumption)
        obtain ⟨ad124, e124, hx124_0, hx124_1, hx124_2, hx124_3, hx124_4⟩ := ZaB HR0.out x5_1 p124 q124
        cases e124
        replace p124 := eq_true p124
        replace q124 := eq_true q124
        have p125 : 0 ≤ (x5_1 : Int) := xbc (by first | (with_reducible assumption) | assumption)
        have q125 : x5_1 < (l1.length : Int) := xbc (by first | (with_reducible assumption) | assumption)
        obtain ⟨ad125, e125, hx125_0, hx125_1, hx125_2, hx125_3, hx125_4⟩ := ZaB HR1.out x5_1 p125 q125
        cases e125
        replace p125 := eq_true p125
        replace q125 := eq_true q125
        go_wp2
        repeat (go_quiet (fail); try go_wp2)
        go_ret
        exact ⟨by first | rfl | (simp; done) | (simp [*]; done), by repeat (first | exact Drawn0.refl _ | apply Drawn0.step)⟩
       ·rw [if_neg c7] at H
        have c7b0 : (!(((Zg l0 x5_1).f0) == ((Zg l1 x5_1).f0)) || (!(((Zg l0 x5_1).f1) == ((Zg l1 x5_1).f1)) || (!((((Zg l0 x5_1).f2).toList) == (((Zg l1 x5_1).f2).toList)) || (!((((Zg l0 x5_1).f3).toList) == (((Zg l1 x5_1).f3).toList)) || (!(((Zg l0 x5_1).f4) == ((Zg l1 x5_1).f4))))))) = false := by simpa using c7
        clear c7
        have H' := Aside0.mk H
        clear H
        have p124 : 0 ≤ (x5_1 : Int) := xbc (by first | (with_reducible assumption) | assumption)
        have q124 : x5_1 < (l0.length : Int) := xbc (by first | (with_reducible assumption) | assumption)
        obtain ⟨ad124, e124, hx124_0, hx124_1, hx124_2, hx124_3, hx124_4⟩ := ZaB HR0.out x5_1 p124 q124
        cases e124
        replace p124 := eq_true p124
        replace q124 := eq_true q124
        have p125 : 0 ≤ (x5_1 : Int) := xbc (by first | (with_reducible assumption) | assumption)
        have q125 : x5_1 < (l1.length : Int) := xbc (by first | (with_reducible assumption) | assumption)
        obtain ⟨ad125, e125, hx125_0, hx125_1, hx125_2, hx125_3, hx125_4⟩ := ZaB HR1.out x5_1 p125 q125
        cases e125
        replace p125 := eq_true p125
        replace q125 := eq_true q125
        go_wp2
        repeat (go_quiet (fail); try go_wp2)
        go_roundg k1
        case measure => have := HK1.out; omega
        case rel => exact ⟨(wrap64 (x5_1 + 1)), (by first | rfl | (simp; done) | (simp [*]; done)), H', ⟨by have := HK1.out; omega⟩, by repeat (first | exact Drawn0.refl _ | apply Drawn0.step)⟩
      ·rw [if_neg c6] at H
       exact absurd H (by simp)
     ·rw [if_neg c5] at H
      exact absurd H (by simp)
    ·rw [if_neg c4] at H
     have c4b0 : decide (x5_1 < (l0.length : Int)) = false := zbd c4
     clear c4
     obtain rfl := Option.some.inj H
     go_wp2
     repeat (go_quiet (fail); try go_wp2)
     go_ret
     exact ⟨by first | rfl | (simp; done) | (simp [*]; done), by repeat (first | exact Drawn0.refl _ | apply Drawn0.step)⟩
 ·rw [if_neg c3] at H
  have c3b0 : ((l0.length : Int) == (l1.length : Int)) = false := Ybb.mpr c3
  have c3b1 : ((l0.length : Int) != (l1.length : Int)) = true := Zbh.mpr c3
  have c3b2 : (l0.length == l1.length) = false := by first | simpa using c3 | (simp at c3 ⊢; omega)
  obtain rfl := Option.some.inj H
  go_enter Tryz.func12, Tryz.ntmps12
  go_wp2
  repeat (go_quiet (fail); try go_wp2)
  go_ret
  exact ⟨by first | rfl | (simp; done) | (simp [*]; done), by repeat (first | exact Drawn0.refl _ | apply Drawn0.step)⟩
end Go.Proofs.NJ2
namespace Go.Proofs.NGiv
open Go.RowKit Go.Proofs.Wa Go.Proofs.Wb Go.Proofs.Wc
open Go.Proofs.NU1 Go.Proofs.NQ1 Go.Proofs.NJ0 Go.Proofs.NJ1 Go.Proofs.NJ2
def at8 (l : List S39) (i : Nat) : S39 := l.getD i z39
theorem rd_at8 (l : List S39) (i : Nat) : Zg l (i : Int) = at8 l i := by unfold Zg at8; rw [Ybd]
def mostN (l : List S39) (k : Nat) : Int := (at8 l (k - 1)).f0 + (if 6 ≤ (at8 l (k - 1)).f1 then 1 else 0)
structure Inv (l : List S39) (k : Nat) (st : List LvS) : Prop where
 len : (st.length : Int) = mostN l k + 1
 le65 : st.length ≤ 65
 lvl0 : st.getD 0 (0, []) = (6, [])
 pos : 1 ≤ st.length
 keys : ∀ d, ((st.getD d (0, [])).2).length ≤ k
 hold : ∀ d, 1 ≤ d → d < st.length → ∃ h, h < k ∧ (at8 l h).f0 = (d : Int) - 1 ∧ (∀ j, h < j → j < k → (at8 l j).f0 ≠ (d : Int) - 1) ∧ (st.getD d (0, [])).1 = (at8 l h).f1 ∧ ((at8 l h).f1 = 6 ∨ (at8 l h).f1 = 7) ∧
  ((at8 l h).f1 = 7 → ∀ key, key ∈ (st.getD d (0, [])).2 ↔ ∃ j, h < j ∧ j < k ∧ (at8 l j).f0 = d ∧ (at8 l j).f2 = key)
theorem ba_ext {a b : ByteArray} (h : a.toList = b.toList) : a = b := by
 rw [Lib.toList_data, Lib.toList_data] at h
 cases a; cases b
 exact congrArg ByteArray.mk (Array.toList_inj.1 h)
theorem drop8 (l : List S39) (i : Nat) (h : i < l.length) : l.drop i = at8 l i :: l.drop (i + 1) := by rw [drop_T39 l i h, rd_at8]
theorem sm_l0 (a b : List S39) (hl : a.length ≤ 1099511627776) (he : a.length = b.length) : ∀ (n k i : Nat), a.length - i = n → i ≤ a.length → n < k → ∃ r, Yk.l0 k a b (i : Int) = some r ∧ (r = true ↔ a.drop i = b.drop i)
 | 0, k, i, h1, h2, h3 => by
  obtain ⟨k, rfl⟩ : ∃ m, k = m + 1 := ⟨k - 1, by omega⟩
  rw [Yk.l0, if_neg (by omega)]
  refine ⟨true, rfl, fun _ => ?_, fun _ => rfl⟩
  rw [xbp (by omega), xbp (by omega)]
 | n + 1, k, i, h1, h2, h3 => by
  obtain ⟨k, rfl⟩ : ∃ m, k = m + 1 := ⟨k - 1, by omega⟩
  obtain ⟨r, hr, hx⟩ := sm_l0 a b hl he n k (i + 1) (by omega) (by omega) (by omega)
  rw [Yk.l0, if_pos (by omega), if_pos (by omega), if_pos (by omega), w64 (x := (i : Int) + 1) (by omega) (by omega), show (i : Int) + 1 = ((i + 1 : Nat) : Int) by omega, hr, rd_at8, rd_at8]
  rw [drop8 a i (by omega), drop8 b i (by omega)]
  obtain ⟨a0, a1, a2, a3, a4⟩ := at8 a i
  obtain ⟨b0, b1, b2, b3, b4⟩ := at8 b i
  by_cases c : (⟨a0, a1, a2, a3, a4⟩ : S39) = ⟨b0, b1, b2, b3, b4⟩
  ·cases c
   rw [if_neg (by simp)]
   exact ⟨r, rfl, fun e => by rw [hx.1 e], fun e => hx.2 (List.cons.inj e).2⟩
  ·rw [if_pos ?_]
   ·exact ⟨false, rfl, fun e => by (cases e), fun e => absurd (List.cons.inj e).1 c⟩
   ·by_cases d0 : a0 = b0
    ·by_cases d1 : a1 = b1
     ·by_cases d2 : a2.toList = b2.toList
      ·by_cases d3 : a3.toList = b3.toList
       ·by_cases d4 : a4 = b4
        ·exact absurd (by rw [d0, d1, ba_ext d2, ba_ext d3, d4]) c
        ·simp [d4]
       ·simp [d3]
      ·simp [d2]
     ·simp [d1]
    ·simp [d0]
theorem sm_f (a b : List S39) (hl : a.length ≤ 1099511627776) (k : Nat) (hk : a.length < k) : ∃ r, Yk.f k a b = some r ∧ (r = true ↔ a = b) := by
 unfold Yk.f
 by_cases c : (a.length : Int) = (b.length : Int)
 ·rw [if_pos c]
  obtain ⟨r, h1, h2⟩ := sm_l0 a b hl (by omega) a.length k 0 rfl (Ybm _) hk
  exact ⟨r, h1, by simpa using h2⟩
 ·rw [if_neg c]
  exact ⟨false, rfl, fun e => by (cases e), fun e => absurd (by rw [e]) c⟩
end Go.Proofs.NGiv
namespace Go.Proofs.NGiv
open Go Go.Ev Go.RowKit Go.Proofs.Wa Go.Proofs.Wb Go.Proofs.Wc Go.Proofs.NU1 Go.Proofs.NQ1 Go.Proofs.NJ1
theorem size_mk (l : B) : (⟨l.toArray⟩ : ByteArray).size = l.length := by show l.toArray.size = _; rw [Ybo]
theorem app_mk (a b : B) : (⟨a.toArray⟩ : ByteArray) ++ ⟨b.toArray⟩ = ⟨(a ++ b).toArray⟩ := by
 apply xA
 simp [Ybq]
theorem u64w {x : Int} (h0 : 0 ≤ x) (h1 : x < 18446744073709551616) : IntKind.u64.wrap x = x := by
 exact IntWalk.u64_in x ⟨h0, by omega⟩
theorem yaL : ∀ (n u : Nat), u < 10 ^ (n + 1) → (Lib.decDigits u).length ≤ n + 1
 | 0, u, h => by rw [Lib.decDigits, dif_pos (by simpa using h)]; exact Xbc _
 | n + 1, u, h => by
  rw [Lib.decDigits]
  split
  ·exact Nat.succ_le_succ (Ybm _)
  ·have := yaL n (u / 10) (by rw [Nat.pow_succ] at h; omega)
   rw [Xbb, Xbh]; omega
def vl : B → Int → Int × Bool
 | [], n => (n, true)
 | c :: l, n => if (c.toNat : Int) < 48 then (0, false) else if (c.toNat : Int) > 57 then (0, false) else vl l (IntKind.u64.wrap ((IntKind.u64.wrap ((IntKind.u64.wrap (10 * n)) + (IntKind.u64.wrap (c.toNat : Int)))) - 48))
theorem vl_app : ∀ (a b : B) (n : Int), vl (a ++ b) n = if (vl a n).2 = true then vl b (vl a n).1 else (0, false)
 | [], b, n => by simp [vl]
 | c :: a, b, n => by
  simp only [Zbl, vl]
  split
  ·simp
  ·split
   ·simp
   ·exact vl_app a b _
theorem vl_one (u a : Nat) (hu : u < 10) (h : 10 * a + u < 10000000000000000000) : vl [UInt8.ofNat (48 + u)] (a : Int) = (((10 * a + u : Nat) : Int), true) := by
 have e : (UInt8.ofNat (48 + u)).toNat = 48 + u := by simp [UInt8.toNat_ofNat']; omega
 simp only [vl, e]
 rw [if_neg (by omega), if_neg (by omega), u64w (x := 10 * (a : Int)) (by omega) (by omega), u64w (x := ((48 + u : Nat) : Int)) (by omega) (by omega), u64w (x := 10 * (a : Int) + ((48 + u : Nat) : Int)) (by omega) (by omega), u64w (by omega) (by omega)]
 congr 1
 omega
theorem vl_dec (u : Nat) (h : u < 10000000000000000000) : vl (Lib.decDigits u) 0 = ((u : Int), true) := by
 induction u using Nat.strongRecOn with
 | ind u ih =>
  rw [Lib.decDigits]
  split
  ·rename_i hu
   have := vl_one u 0 hu (by omega)
   simpa using this
  ·rename_i hu
   rw [vl_app, ih (u / 10) (by omega) (by omega)]
   simp only [if_true]
   rw [vl_one (u % 10) (u / 10) (by omega) (by omega)]
   congr 2
   omega
theorem readN_no (s : ByteArray) (h : ∀ v, -9223372036854775808 ≤ v → v ≤ 9223372036854775807 → Yy v ≠ s) : Yu s = (0, false) := by
 cases e : (Yu s).2 with
 | true =>
  obtain ⟨h1, h2, h3⟩ := ZaM s e
  exact absurd h1 (h _ h2 h3)
 | false =>
  unfold Yu at e ⊢
  split
  ·rfl
  ·rename_i c
   rw [if_neg c] at e
   split
   ·rename_i v hv
    rw [hv] at e
    simp only at e
    split
    ·rename_i c2; rw [if_pos c2] at e; cases e
    ·rfl
   ·rfl
theorem no_read (s : ByteArray) (H : ¬ ∃ v, I64 v ∧ Yy v = s) : Yu s = (0, false) := readN_no s fun v h1 h2 e => H ⟨v, ⟨h1, h2⟩, e⟩
def keepR : List (Nat × Nat × List Tmp) := [(57, 2, [0, 3]), (80, 5, [0, 6, 7])]
def R0 : Env := env0 keepR
theorem R0ok : EnvOk P0 R0 := env0_ok P0_plain (by kernel_rfl) keepR
def dgE (u : Nat) (o : ByteArray) : Nat × ByteArray := if u < 10 then (u, o) else dgE (u / 10) (⟨#[UInt8.ofNat (48 + u % 10)]⟩ ++ o)
def dS (u : Nat) : ByteArray := ⟨(Lib.decDigits u).toArray⟩
theorem dgE_ok (u : Nat) (o : ByteArray) : (dgE u o).1 < 10 ∧ (⟨#[UInt8.ofNat (48 + (dgE u o).1)]⟩ : ByteArray) ++ (dgE u o).2 = dS u ++ o := by
 induction u using Nat.strongRecOn generalizing o with
 | ind u ih =>
  rw [dgE]
  by_cases c : u < 10
  ·rw [if_pos c]
   refine ⟨c, ?_⟩
   unfold dS
   rw [Lib.decDigits, dif_pos c]
  ·rw [if_neg c]
   obtain ⟨h1, h2⟩ := ih (u / 10) (by omega) (⟨#[UInt8.ofNat (48 + u % 10)]⟩ ++ o)
   refine ⟨h1, h2.trans ?_⟩
   have e : dS u = dS (u / 10) ++ ⟨#[UInt8.ofNat (48 + u % 10)]⟩ := by
    unfold dS
    conv => lhs; rw [Lib.decDigits, dif_neg c]
    exact (app_mk _ [_]).symm
   rw [e, ByteArray.append_assoc]
theorem dgW (d : Nat) (h : d < 10) : YJ [IntKind.wrap .u8 (IntKind.wrap .u64 (48 + (d : Int)))] = ⟨#[UInt8.ofNat (48 + d)]⟩ := by
 have e : IntKind.wrap .u8 (IntKind.wrap .u64 (48 + (d : Int))) = ((48 + d : Nat) : Int) := by
  rw [u64w (by omega) (by omega)]
  show (48 + (d : Int)) % 256 = _
  omega
 rw [e]
 rfl
theorem dgM (u : Nat) : Int.tmod (u : Int) 10 = ((u % 10 : Nat) : Int) := by rw [zbs (by omega)]; omega
theorem dgD (u : Nat) (h : u < 18446744073709551616) : IntKind.wrap .u64 (Int.tdiv (u : Int) 10) = ((u / 10 : Nat) : Int) := by
 have ed : Int.tdiv (u : Int) 10 = ((u / 10 : Nat) : Int) := by rw [Int.tdiv_eq_ediv_of_nonneg (by omega)]; omega
 rw [ed, u64w (by omega) (by omega)]
def stDg (u : Nat) (o : ByteArray) : St := ⟨Zp 23 [(0, .lit (.int .u64 (u : Int))), (3, .lit (.string o))], ⟨[], []⟩⟩
theorem xaL (u : Nat) (o : ByteArray) (K : Ev.Out → St → Option Ans) : XJ (Yz P0 R0 9 57) (Xq P0 57 0) [0, 2, 3] (stDg u o) K = (.two (decide ((u : Int) ≥ 10)) (.two (decide ((YJ [(IntKind.wrap .u8 (IntKind.wrap .u64 (48 + (Int.tmod (u : Int) 10))))]).size + o.size ≤ 4611686018427387904)) (.one (.norm, ⟨Zp 23 [(0, .lit (.int .u64 (IntKind.wrap .u64 (Int.tdiv (u : Int) 10)))), (3, .lit (.string ((YJ [(IntKind.wrap .u8 (IntKind.wrap .u64 (48 + (Int.tmod (u : Int) 10))))]) ++ o)))], ⟨[], []⟩⟩)) .no) (.one ((.exit 0), (stDg u o))) : Tr (Ev.Out × St)).run fun x => K x.1 x.2 := by kernel_rfl
theorem dg_rounds : ∀ (n u : Nat) (o : ByteArray), u < 10 ^ (n + 1) → u < 18446744073709551616 → o.size + n ≤ 1000 → ∃ m, ∀ K, rounds (Yz P0 R0 9 57) (Xq P0 57 0) [0, 2, 3] m (stDg u o) K = K (.exit 0) (stDg (dgE u o).1 (dgE u o).2) := by
 intro n
 induction n with
 | zero =>
  intro u o h h2 hs
  have c : u < 10 := by simpa using h
  rw [dgE, if_pos c]
  refine ⟨1, Yn (xaL u o) ?_ rfl⟩
  simp only [↓Yc, sel_one, Zbd, show ¬ (u : Int) ≥ 10 by omega, ↓reduceIte]
 | succ n ih =>
  intro u o h h2 hs
  by_cases c : u < 10
  ·rw [dgE, if_pos c]
   refine ⟨1, Yn (xaL u o) ?_ rfl⟩
   simp only [↓Yc, sel_one, Zbd, show ¬ (u : Int) ≥ 10 by omega, ↓reduceIte]
  ·have z : (⟨#[UInt8.ofNat (48 + u % 10)]⟩ : ByteArray).size = 1 := rfl
   obtain ⟨m, hm⟩ := ih (u / 10) (⟨#[UInt8.ofNat (48 + u % 10)]⟩ ++ o) (by rw [Nat.pow_succ] at h; omega) (by omega) (by rw [Xbt, z]; omega)
   rw [dgE, if_neg c]
   refine ⟨m + 1, ZD (xaL u o) ?_ hm⟩
   simp only [↓Yc, sel_one, Zbd, show (u : Int) ≥ 10 by omega, dgM, dgW _ (show u % 10 < 10 by omega), dgD u h2, z, show 1 + o.size ≤ 4611686018427387904 by omega, ↓reduceIte]
   rfl
noncomputable def spDgL (st : St) : Option (Tr (Ev.Out × St)) :=
 let u := (st.at 0).int.toNat; let o := (st.at 3).str
 some (.two (gd (st = stDg u o ∧ u < 18446744073709551616 ∧ o.size ≤ 900)) (.one (.exit 0, stDg (dgE u o).1 (dgE u o).2)) .no)
theorem okDgL : EnvOk P0 (R0.knowLoop 57 2 spDgL) := R0ok.knowSt (j := 0) (by kernel_rfl) fun st t out st' h1 h2 => by
 unfold spDgL at h1
 cases h1
 obtain ⟨⟨h3, h4, h5⟩, h6⟩ := zA h2
 cases h6
 obtain ⟨m, hm⟩ := dg_rounds 20 (st.at 0).int.toNat (st.at 3).str (by omega) h4 (by omega)
 refine ⟨m, fun K => ?_⟩
 conv => lhs; rw [h3]
 exact hm K
theorem tr_dig (u : Nat) (K : AV → Mem → Option Ans) : Zz P0 (R0.knowLoop 57 2 spDgL) 9 57 [.lit (.int .u64 (u : Int))] ⟨[], []⟩ K = (.two (gd (stDg u ⟨#[]⟩ = stDg u ⟨#[]⟩ ∧ u < 18446744073709551616 ∧ (⟨#[]⟩ : ByteArray).size ≤ 900)) (.two (decide ((YJ [(IntKind.wrap .u8 (IntKind.wrap .u64 (48 + ((dgE u ⟨#[]⟩).1 : Int))))]).size + ((dgE u ⟨#[]⟩).2).size ≤ 4611686018427387904)) (.one (.lit (.string ((YJ [(IntKind.wrap .u8 (IntKind.wrap .u64 (48 + ((dgE u ⟨#[]⟩).1 : Int))))]) ++ (dgE u ⟨#[]⟩).2)))) .no) .no : Tr AV).run fun r => K r ⟨[], []⟩ := by kernel_rfl
noncomputable def spDig : List AV → Option (Tr AV)
 | [.lit (.int .u64 n)] => some (under (gd (0 ≤ n ∧ n < 18446744073709551616)) (.lit (.string (dS n.toNat))))
 | _ => none
noncomputable def R1 : Env := R0.know 57 spDig
theorem dS_len (u : Nat) (h : u < 18446744073709551616) : (dS u).size ≤ 20 := by
 have := yaL 19 u (by omega)
 unfold dS
 rw [size_mk]; exact this
theorem dgE_size (u : Nat) (h : u < 18446744073709551616) : (dgE u ⟨#[]⟩).2.size ≤ 20 := by
 have h1 := congrArg ByteArray.size (dgE_ok u ⟨#[]⟩).2
 rw [Xbt, Xbt] at h1
 have h2 := dS_len u h
 have z : (⟨#[]⟩ : ByteArray).size = 0 := rfl
 omega
theorem R1ok : EnvOk P0 R1 := R0ok.know fun args t r h1 h2 => by
 unfold spDig at h1
 split at h1
 ·rename_i n
  cases h1
  obtain ⟨⟨h0, h3⟩, rfl⟩ := YD h2
  obtain ⟨u, rfl⟩ := Zbo h0
  refine Xe okDgL (by kernel_rfl) (tr_dig u) ?_ rfl
  obtain ⟨e1, e2⟩ := dgE_ok u ⟨#[]⟩
  have e3 := dgE_size u (by omega)
  have F1 : gd (True ∧ u < 18446744073709551616 ∧ (⟨#[]⟩ : ByteArray).size ≤ 900) = true := gd_true ⟨trivial, by omega, by decide⟩
  have z : (⟨#[UInt8.ofNat (48 + (dgE u ⟨#[]⟩).1)]⟩ : ByteArray).size = 1 := rfl
  simp only [↓Yc, sel_one, F1, Zbd, dgW _ e1, z, show 1 + (dgE u ⟨#[]⟩).2.size ≤ 4611686018427387904 by omega, ↓reduceIte, e2]
  rw [show dS u ++ ⟨#[]⟩ = dS u from ByteArray.append_empty, Ybd]
 ·cases h1
theorem tr_prn (n : Int) (K : AV → Mem → Option Ans) : Zz P0 R1 9 37 [.lit (.int .i64 n)] ⟨[], []⟩ K = (.two (decide (n < 0)) (.two (gd (0 ≤ (IntKind.wrap .u64 ((IntKind.wrap .u64 (IntKind.wrap .i64 (0 - (IntKind.wrap .i64 (n + 1))))) + 1)) ∧ (IntKind.wrap .u64 ((IntKind.wrap .u64 (IntKind.wrap .i64 (0 - (IntKind.wrap .i64 (n + 1))))) + 1)) < 18446744073709551616)) (.two (decide (1 + (dS (IntKind.wrap .u64 ((IntKind.wrap .u64 (IntKind.wrap .i64 (0 - (IntKind.wrap .i64 (n + 1))))) + 1)).toNat).size ≤ 4611686018427387904)) (.one (.lit (.string ((⟨#[45]⟩ : ByteArray) ++ (dS (IntKind.wrap .u64 ((IntKind.wrap .u64 (IntKind.wrap .i64 (0 - (IntKind.wrap .i64 (n + 1))))) + 1)).toNat))))) .no) .no) (.two (gd (0 ≤ (IntKind.wrap .u64 n) ∧ (IntKind.wrap .u64 n) < 18446744073709551616)) (.one (.lit (.string (dS (IntKind.wrap .u64 n).toNat)))) .no) : Tr AV).run fun r => K r ⟨[], []⟩ := by kernel_rfl
noncomputable def spPrn : List AV → Option (Tr AV)
 | [.lit (.int .i64 n)] => some (under (gd (I64 n)) (.lit (.string (Yy n))))
 | _ => none
noncomputable def R2 : Env := R1.know 37 spPrn
theorem R2ok : EnvOk P0 R2 := R1ok.know fun args t r h1 h2 => by
 unfold spPrn at h1
 split at h1
 ·rename_i n
  cases h1
  obtain ⟨⟨h0, h1⟩, rfl⟩ := YD h2
  refine Xe R1ok (by kernel_rfl) (tr_prn n) ?_ rfl
  by_cases c : n < 0
  ·obtain ⟨u, rfl⟩ : ∃ u : Nat, n = -(u : Int) := ⟨n.natAbs, by omega⟩
   have e : IntKind.wrap .u64 (IntKind.wrap .u64 (IntKind.wrap .i64 (0 - IntKind.wrap .i64 (-(u : Int) + 1))) + 1) = (u : Int) := by
    rw [wrap_i64 (x := -(u : Int) + 1) (by omega) (by omega), wrap_i64 (x := 0 - (-(u : Int) + 1)) (by omega) (by omega), u64w (x := 0 - (-(u : Int) + 1)) (by omega) (by omega), u64w (by omega) (by omega)]; omega
   have e2 := dS_len u (by omega)
   simp only [↓Yc, sel_one, Zbd, c, e, gd_true (show 0 ≤ (u : Int) ∧ (u : Int) < 18446744073709551616 by omega), ↓reduceIte, Ybd, show 1 + (dS u).size ≤ 4611686018427387904 by omega]
   unfold Yy Lib.itoa dS
   rw [if_pos c, Int.natAbs_neg, Int.natAbs_natCast]
   exact congrArg (fun x => some (AV.lit (.string x))) (app_mk [45] _)
  ·obtain ⟨u, rfl⟩ := Zbo (show 0 ≤ n by omega)
   have e : IntKind.wrap .u64 (u : Int) = (u : Int) := u64w (by omega) (by omega)
   simp only [↓Yc, sel_one, Zbd, c, e, gd_true (show 0 ≤ (u : Int) ∧ (u : Int) < 18446744073709551616 by omega), ↓reduceIte, Ybd]
   unfold Yy Lib.itoa dS
   rw [if_neg c]
   rfl
 ·cases h1
def stVa (s : ByteArray) (n : Int) (i : Nat) : St := ⟨Zp 42 [(0, .lit (.string s)), (6, .lit (.int .u64 n)), (7, .lit (.int .i64 (i : Int)))], ⟨[], []⟩⟩
theorem Zat (s : ByteArray) (n : Int) (i : Nat) (K : Ev.Out → St → Option Ans) : XJ (Yz P0 R2 9 80) (Xq P0 80 0) [4, 5, 6] (stVa s n i) K = (.two (decide ((i : Int) < (s.size : Int))) (.two (decide ((0 : Int) ≤ (i : Int) ∧ i < s.size)) (.two (decide (((s.data.toList.getD i 0).toNat : Int) < 48)) (.one (.ret, ⟨Zp 42 [(4, .lit (.int .u64 0)), (5, .lit (.bool false)), (6, .lit (.int .u64 n))], ⟨[], []⟩⟩)) (.two (decide ((0 : Int) ≤ (i : Int) ∧ i < s.size)) (.two (decide (((s.data.toList.getD i 0).toNat : Int) > 57)) (.one (.ret, ⟨Zp 42 [(4, .lit (.int .u64 0)), (5, .lit (.bool false)), (6, .lit (.int .u64 n))], ⟨[], []⟩⟩)) (.two (decide ((0 : Int) ≤ (i : Int) ∧ i < s.size)) (.one (.norm, ⟨Zp 42 [(0, .lit (.string s)), (6, .lit (.int .u64 (IntKind.wrap .u64 ((IntKind.wrap .u64 ((IntKind.wrap .u64 (10 * n)) + (IntKind.wrap .u64 ((s.data.toList.getD i 0).toNat : Int)))) - 48)))), (7, .lit (.int .i64 (IntKind.wrap .i64 ((i : Int) + 1))))], ⟨[], []⟩⟩)) .no)) .no)) .no) (.one ((.exit 0), ⟨Zp 42 [(6, .lit (.int .u64 n))], ⟨[], []⟩⟩)) : Tr (Ev.Out × St)).run fun x => K x.1 x.2 := by kernel_rfl
def vlN : B → Int → Int
 | [], n => n
 | c :: l, n => if (c.toNat : Int) < 48 then n else if (c.toNat : Int) > 57 then n else vlN l (IntKind.u64.wrap ((IntKind.u64.wrap ((IntKind.u64.wrap (10 * n)) + (IntKind.u64.wrap (c.toNat : Int)))) - 48))
theorem vlN_eq : ∀ (l : B) (n : Int), (vl l n).2 = true → vlN l n = (vl l n).1
 | [], n, _ => rfl
 | c :: l, n, h => by
  unfold vlN; unfold vl at h ⊢
  split
  ·rename_i c1; rw [if_pos c1] at h; cases h
  ·rename_i c1
   rw [if_neg c1] at h
   split
   ·rename_i c2; rw [if_pos c2] at h; cases h
   ·rename_i c2; rw [if_neg c2] at h; exact vlN_eq l _ h
theorem vl_no : ∀ (l : B) (n : Int), (vl l n).2 = false → vl l n = (0, false)
 | [], n, h => by cases h
 | c :: l, n, h => by
  unfold vl at h ⊢
  split
  ·rfl
  ·rename_i c1
   rw [if_neg c1] at h
   split
   ·rfl
   ·rename_i c2; rw [if_neg c2] at h; exact vl_no l _ h
def vaO (b : Bool) (n : Int) : Ev.Out × St := bif b then (.exit 0, ⟨Zp 42 [(6, .lit (.int .u64 n))], ⟨[], []⟩⟩) else (.ret, ⟨Zp 42 [(4, .lit (.int .u64 0)), (5, .lit (.bool false)), (6, .lit (.int .u64 n))], ⟨[], []⟩⟩)
theorem xaP (s : ByteArray) (hs : s.size ≤ 1073741824) : ∀ (l : B) (i : Nat) (n : Int), s.data.toList.drop i = l → ∃ m, ∀ K, rounds (Yz P0 R2 9 80) (Xq P0 80 0) [4, 5, 6] m (stVa s n i) K = K (vaO (vl l n).2 (vlN l n)).1 (vaO (vl l n).2 (vlN l n)).2
 | [], i, n, h => by
  have h1 : s.size ≤ i := by rw [← data_length]; exact List.drop_eq_nil_iff.1 h
  refine ⟨1, Yn (Zat s n i) ?_ rfl⟩
  simp only [↓Yc, sel_one, Zbd, show ¬ (i : Int) < (s.size : Int) by omega, ↓reduceIte]
  rfl
 | c :: l, i, n, h => by
  have h0 := congrArg List.length h
  rw [Zbb, data_length, Xbd] at h0
  have hb : s.data.toList.getD i 0 = c := by
   have := congrArg (fun q => q.getD 0 0) h
   simp only [xbn] at this
   rw [getD_drops, Nat.add_zero] at this
   exact this
  have z1 : (i : Int) < (s.size : Int) := by omega
  have z2 : 0 ≤ (i : Int) ∧ i < s.size := by omega
  by_cases c1 : (c.toNat : Int) < 48
  ·rw [vl, if_pos c1, vlN, if_pos c1]
   refine ⟨1, Yn (Zat s n i) ?_ rfl⟩
   simp only [↓Yc, sel_one, Zbd, z1, z2, hb, c1, ↓reduceIte, and_self]
   rfl
  ·by_cases c2 : (c.toNat : Int) > 57
   ·rw [vl, if_neg c1, if_pos c2, vlN, if_neg c1, if_pos c2]
    refine ⟨1, Yn (Zat s n i) ?_ rfl⟩
    simp only [↓Yc, sel_one, Zbd, z1, z2, hb, c1, c2, ↓reduceIte, and_self]
    rfl
   ·rw [vl, if_neg c1, if_neg c2, vlN, if_neg c1, if_neg c2]
    obtain ⟨m, hm⟩ := xaP s hs l (i + 1) (IntKind.u64.wrap ((IntKind.u64.wrap ((IntKind.u64.wrap (10 * n)) + (IntKind.u64.wrap (c.toNat : Int)))) - 48)) (by rw [← Ybk, h]; rfl)
    refine ⟨m + 1, ZD (Zat s n i) ?_ hm⟩
    simp only [↓Yc, sel_one, Zbd, z1, z2, hb, c1, c2, ↓reduceIte, and_self]
    rw [wrap_i64 (by omega) (by omega)]
    rfl
noncomputable def spVaL (st : St) : Option (Tr (Ev.Out × St)) :=
 let s := (st.at 0).str; let n := (st.at 6).int; let i := (st.at 7).int.toNat
 some (.two (gd (st = stVa s n i ∧ s.size ≤ 1073741824)) (.two (vl (s.data.toList.drop i) n).2 (.one (vaO true (vlN (s.data.toList.drop i) n))) (.one (vaO false (vlN (s.data.toList.drop i) n)))) .no)
theorem okVaL : EnvOk P0 (R2.knowLoop 80 5 spVaL) := R2ok.knowSt (j := 0) (by kernel_rfl) fun st t out st' h1 h2 => by
 unfold spVaL at h1
 cases h1
 obtain ⟨⟨h3, h4⟩, h6⟩ := zA h2
 obtain ⟨m, hm⟩ := xaP (st.at 0).str h4 _ (st.at 7).int.toNat (st.at 6).int rfl
 refine ⟨m, fun K => ?_⟩
 conv => lhs; rw [h3]
 rw [hm]
 cases c : (vl ((st.at 0).str.data.toList.drop (st.at 7).int.toNat) (st.at 6).int).2 with
 | true => rw [c] at h6; simp only [Yc, ↓reduceIte, sel_one] at h6; cases h6; rfl
 | false => rw [c] at h6; simp only [Yc, Zbg, ↓reduceIte, sel_one] at h6; cases h6; rfl
def vR (s : ByteArray) : Int × Bool := if s.size < 1 ∨ 19 < s.size then (0, false) else vl s.data.toList 0
theorem tr_val2 (s : ByteArray) (K : AV → Mem → Option Ans) : Zz P0 (R2.knowLoop 80 5 spVaL) 9 80 [.lit (.string s), .lit (.int .i64 19)] ⟨[], []⟩ K = (.two (decide ((s.size : Int) < 1)) (.one (.tup [.lit (.int .u64 0), .lit (.bool false)])) (.two (decide ((s.size : Int) > 19)) (.one (.tup [.lit (.int .u64 0), .lit (.bool false)])) (.two (gd (stVa s 0 0 = stVa s 0 0 ∧ s.size ≤ 1073741824)) (.two ((vl (s.data.toList.drop 0) 0).2) (.one (.tup [.lit (.int .u64 (vlN (s.data.toList.drop 0) 0)), .lit (.bool true)])) (.one (.tup [.lit (.int .u64 0), .lit (.bool false)]))) .no)) : Tr AV).run fun r => K r ⟨[], []⟩ := by kernel_rfl
noncomputable def spVal : List AV → Option (Tr AV)
 | [.lit (.string s), .lit (.int .i64 n)] => some (under (gd (s.size ≤ 1073741824 ∧ n = 19)) (.tup [.lit (.int .u64 (vR s).1), .lit (.bool (vR s).2)]))
 | _ => none
noncomputable def R3 : Env := R2.know 80 spVal
theorem R3ok : EnvOk P0 R3 := R2ok.know fun args t r h1 h2 => by
 unfold spVal at h1
 split at h1
 ·rename_i s n
  cases h1
  obtain ⟨⟨h0, rfl⟩, rfl⟩ := YD h2
  refine Xe okVaL (by kernel_rfl) (tr_val2 s) ?_ rfl
  have F1 : gd (True ∧ s.size ≤ 1073741824) = true := gd_true ⟨trivial, h0⟩
  unfold vR
  by_cases c1 : s.size < 1
  ·rw [if_pos (.inl c1)]
   simp only [↓Yc, sel_one, Zbd, show (s.size : Int) < 1 by omega, ↓reduceIte]
  ·by_cases c2 : 19 < s.size
   ·rw [if_pos (.inr c2)]
    simp only [↓Yc, sel_one, Zbd, show ¬ (s.size : Int) < 1 by omega, show (s.size : Int) > 19 by omega, ↓reduceIte]
   ·rw [if_neg (by omega)]
    simp only [↓Yc, sel_one, Zbd, show ¬ (s.size : Int) < 1 by omega, show ¬ (s.size : Int) > 19 by omega, F1, xbt, ↓reduceIte]
    cases c : (vl s.data.toList 0).2 with
    | true => simp only [↓reduceIte, vlN_eq _ _ c]
    | false => simp only [Zbg, ↓reduceIte, vl_no _ _ c]
 ·cases h1
noncomputable def Zap (s : ByteArray) : Tr AV := .two (gd (s.size ≤ 1073741824 ∧ (19 : Int) = 19)) (.two (!((vR s).2)) (.one (.tup [.lit (.int .i64 0), .lit (.bool false)])) (.two (decide ((vR s).1 > 9223372036854775807)) (.one (.tup [.lit (.int .i64 0), .lit (.bool false)])) (.two (gd (I64 (IntKind.wrap .i64 ((vR s).1)))) (.two (!(decide ((Yy (IntKind.wrap .i64 ((vR s).1))) = s))) (.one (.tup [.lit (.int .i64 0), .lit (.bool false)])) (.one (.tup [.lit (.int .i64 (IntKind.wrap .i64 ((vR s).1))), .lit (.bool true)]))) .no))) .no
theorem tr_rd (s : ByteArray) (K : AV → Mem → Option Ans) : Zz P0 R3 9 69 [.lit (.string s)] ⟨[], []⟩ K = (.two (decide ((s.size : Int) > 0)) (.two (decide ((0 : Int) ≤ 0 ∧ 0 < s.size)) (.two (((s.data.toList.getD 0 0).toNat : Int) == 45) (.two (decide ((0 : Int) ≤ 1 ∧ 1 ≤ (s.size : Int) ∧ (s.size : Int) ≤ (s.size : Int))) (.two (gd ((s.extract 1 s.size).size ≤ 1073741824 ∧ (19 : Int) = 19)) (.two (!((vR (s.extract 1 s.size)).2)) (.one (.tup [.lit (.int .i64 0), .lit (.bool false)])) (.two ((vR (s.extract 1 s.size)).1 == 0) (.one (.tup [.lit (.int .i64 0), .lit (.bool false)])) (.two (decide ((vR (s.extract 1 s.size)).1 > 9223372036854775808)) (.one (.tup [.lit (.int .i64 0), .lit (.bool false)])) (.two (gd (I64 (IntKind.wrap .i64 ((IntKind.wrap .i64 (0 - (IntKind.wrap .i64 (IntKind.wrap .u64 ((vR (s.extract 1 s.size)).1 - 1))))) - 1)))) (.two (!(decide ((Yy (IntKind.wrap .i64 ((IntKind.wrap .i64 (0 - (IntKind.wrap .i64 (IntKind.wrap .u64 ((vR (s.extract 1 s.size)).1 - 1))))) - 1))) = s))) (.one (.tup [.lit (.int .i64 0), .lit (.bool false)])) (.one (.tup [.lit (.int .i64 (IntKind.wrap .i64 ((IntKind.wrap .i64 (0 - (IntKind.wrap .i64 (IntKind.wrap .u64 ((vR (s.extract 1 s.size)).1 - 1))))) - 1))), .lit (.bool true)]))) .no)))) .no) .no) (Zap s)) .no) (Zap s) : Tr AV).run fun r => K r ⟨[], []⟩ := by kernel_rfl
theorem dig_first (u : Nat) (r : B) : ∃ c l, Lib.decDigits u ++ r = c :: l ∧ c.toNat ≠ 45 := by
 cases h : Lib.decDigits u with
 | nil => exact absurd h (zT u)
 | cons c l => exact ⟨c, l ++ r, rfl, fun e => by have := yaf u c (by rw [h]; exact ybm); omega⟩
theorem vR_dec (s : ByteArray) (u : Nat) (h : s.data.toList = Lib.decDigits u) (hu : u < 10000000000000000000) : vR s = ((u : Int), true) := by
 have h1 := yaL 18 u (by omega)
 have h2 := data_length s
 have h4 := Ybr.2 (zT u)
 rw [h] at h2
 unfold vR
 rw [if_neg (by omega), h, vl_dec u hu]
theorem good_r2 (s : ByteArray) (hs : s.size ≤ 1073741824) : Ev.Good P0 69 [.lit (.string s)] (.tup [.lit (.int .i64 (Yu s).1), .lit (.bool (Yu s).2)]) := by
 refine Xe R3ok (by kernel_rfl) (tr_rd s) ?_ rfl
 have gx : (s.extract 1 s.size).size ≤ 1073741824 := by rw [ByteArray.size_extract]; omega
 have G1 := gd_true gx
 have G2 := gd_true hs
 have hz := data_length s
 by_cases H : ∃ v, I64 v ∧ Yy v = s
 ·obtain ⟨v, ⟨h0, h1⟩, he⟩ := H
  have hr : Yu s = (v, true) := by rw [← he]; exact Za5 v ⟨h0, h1⟩
  have hd : s.data.toList = Lib.itoa v := by rw [← he]; rfl
  have GI := gd_true (show I64 v from ⟨h0, h1⟩)
  rw [hr]
  by_cases c : v < 0
  ·obtain ⟨u, rfl⟩ : ∃ u : Nat, v = -(u : Int) := ⟨v.natAbs, by omega⟩
   have hl : s.data.toList = 45 :: Lib.decDigits u := by rw [hd, Lib.itoa, if_pos c, Int.natAbs_neg, Int.natAbs_natCast]
   have z1 : 1 ≤ s.size := by rw [← hz, hl, Xbd]; omega
   have hx := vR_dec _ u (by rw [XaU, hl]; rfl : (s.extract 1 s.size).data.toList = Lib.decDigits u) (by omega)
   have e1 : IntKind.wrap .i64 (IntKind.wrap .i64 (0 - IntKind.wrap .i64 (IntKind.wrap .u64 ((u : Int) - 1))) - 1) = -(u : Int) := by
    rw [u64w (by omega) (by omega), wrap_i64 (x := (u : Int) - 1) (by omega) (by omega), wrap_i64 (x := 0 - ((u : Int) - 1)) (by omega) (by omega), wrap_i64 (by omega) (by omega)]; omega
   simp only [Zap, and_true, ↓Yc, sel_one, Zbd, show (s.size : Int) > 0 by omega, Int.le_refl, show (0 : Int) ≤ 1 by decide, show (1 : Int) ≤ (s.size : Int) by omega, show 0 < s.size by omega, show (0 : Int) ≤ 0 ∧ 0 < s.size by omega, show (0 : Int) ≤ 1 ∧ 1 ≤ (s.size : Int) ∧ (s.size : Int) ≤ (s.size : Int) by omega, G1, hx, e1, GI, he, Ybf, hl, xbn, show ((45 : UInt8).toNat : Int) = 45 from rfl, Xbq, Zbg, show ¬ (u : Int) = 0 by omega, show ¬ (u : Int) > 9223372036854775808 by omega, decide_true, ↓reduceIte]
  ·obtain ⟨u, rfl⟩ := Zbo (show 0 ≤ v by omega)
   have hl : s.data.toList = Lib.decDigits u := by rw [hd, Lib.itoa, if_neg c]; rfl
   have z1 : 1 ≤ s.size := by rw [← hz, hl]; exact Ybr.2 (zT u)
   have b0 : ¬ ((s.data.toList.getD 0 0).toNat : Int) = 45 := by
    obtain ⟨x, l, hx, hne⟩ := dig_first u []
    rw [ybk] at hx
    rw [hl, hx]
    exact fun e => hne (by have e : ((x.toNat : Nat) : Int) = 45 := e; omega)
   have hx := vR_dec s u hl (by omega)
   have e1 : IntKind.wrap .i64 (u : Int) = (u : Int) := wrap_i64 (by omega) (by omega)
   simp only [Zap, and_true, ↓Yc, sel_one, Zbd, show (s.size : Int) > 0 by omega, Int.le_refl, show (0 : Int) ≤ 1 by decide, show (1 : Int) ≤ (s.size : Int) by omega, show 0 < s.size by omega, show (0 : Int) ≤ 0 ∧ 0 < s.size by omega, G2, hx, e1, GI, he, Ybf, b0, Xbq, Zbg, show ¬ (u : Int) > 9223372036854775807 by omega, decide_true, ↓reduceIte]
 ·have no : ∀ n : Int, I64 n → ¬ Yy n = s := fun n h e => H ⟨n, h, e⟩
  have w64 : ∀ x : Int, I64 (IntKind.wrap .i64 x) := fun x => by unfold I64; simp only [IntKind.wrap]; simp only [IntKind.bits, IntKind.signed]; simp; omega
  have GW : ∀ x : Int, gd (I64 (IntKind.wrap .i64 x)) = true := fun x => gd_true (w64 x)
  have NW : ∀ x : Int, ¬ Yy (IntKind.wrap .i64 x) = s := fun x => no _ (w64 x)
  rw [no_read s H]
  simp only [Zap, and_true, ↓Yc, sel_one, Zbd, G2, GW, NW, decide_false, Zbq, ↓reduceIte, ite_self]
  by_cases c0 : (s.size : Int) > 0
  ·simp only [c0, show (0 : Int) ≤ 0 ∧ 0 < s.size by omega, show (0 : Int) ≤ 1 ∧ 1 ≤ (s.size : Int) ∧ (s.size : Int) ≤ (s.size : Int) by omega, G1, and_self, ↓reduceIte, ite_self]
  ·simp only [c0, ↓reduceIte]
noncomputable def spR2 : List AV → Option (Tr AV)
 | [.lit (.string x)] => some (under (gd (x.size ≤ 1073741824)) (.tup [.lit (.int .i64 (Yu x).1), .lit (.bool (Yu x).2)]))
 | _ => none
noncomputable def E7 : Env := E6.know 69 spR2
theorem E7ok : EnvOk P0 E7 := E6ok.know fun args t r h1 h2 => by
 unfold spR2 at h1
 split at h1
 ·cases h1
  obtain ⟨hv, rfl⟩ := YD h2
  exact good_r2 _ hv
 ·cases h1
def Zae : AV → Option (Int × Int × ByteArray × ByteArray × Int)
 | .lit (.agg cs) => match cs.toList with
  | [.int .i64 d, .int .i64 ki, .string key, .string t, .int .i64 v] => some (d, ki, key, t, v)
  | _ => none
 | _ => none
def itA (d ki : Int) (key t : ByteArray) (v : Int) : AV := .lit (.agg #[.int .i64 d, .int .i64 ki, .string key, .string t, .int .i64 v])
theorem xaa {a : AV} {d ki : Int} {key t : ByteArray} {v : Int} (h : Zae a = some (d, ki, key, t, v)) : a = itA d ki key t v := by
 unfold Zae at h
 split at h
 ·rename_i cs
  split at h
  ·rename_i e
   cases h
   obtain ⟨l⟩ := cs
   simp only at e
   subst e; rfl
  ·cases h
 ·cases h
def Yr (x : S40) : List Value := [.int .i64 x.f0, .int .i64 x.f1, .string x.f2, .string x.f3, .int .i64 x.f4]
def apL (n : Nat) (f : Nat → List Value) (rows : List S40) : AV := .sl false 5 (n + rows.length) (fun k => (Zf n f ++ rows.map Yr).getD k [])
noncomputable def resA (s : ByteArray) (n : Nat) (f : Nat → List Value) (e : Int) (r : Int × B × List S40) : Tr AV := .two (r.1 == 0) (.one (.agg [.lit (.string s), .lit (.int .i64 (atI s r.2.1)), apL n f r.2.2, .lit (.int .i64 e)])) (.one (.agg [.cell, .cell, .cell, .lit (.int .i64 r.1)]))
theorem Xz {s : ByteArray} {n : Nat} {f : Nat → List Value} {e e' : Int} {r : Int × B × List S40} {x : AV} (hr : r.1 = e') (he : e' ≠ 0) (h : (resA s n f e r).sel = some x) : x = .agg [.cell, .cell, .cell, .lit (.int .i64 e')] := by
 unfold resA at h
 rw [Yc, if_neg (by rw [Ybf, hr]; exact he), sel_one, hr] at h
 exact (Option.some.inj h).symm
theorem yA {s : ByteArray} {n : Nat} {f : Nat → List Value} {e : Int} {l : B} {rows : List S40} {x : AV} (h : (resA s n f e (0, l, rows)).sel = some x) : x = .agg [.lit (.string s), .lit (.int .i64 (atI s l)), apL n f rows, .lit (.int .i64 e)] := (Option.some.inj (show some _ = some x from h)).symm
def ZF (s : ByteArray) (p : Int) (n : Nat) (f : Nat → List Value) (e d ki : Int) (key t : ByteArray) (v k : Int) : St := ⟨Zp 94 [(2, .ptr 0 0), (3, .ptr 1 0), (4, .ptr 2 0), (5, .lit (.int .i64 k))], ⟨[[.lit (.string s), .lit (.int .i64 p), .sl false 5 n f, .lit (.int .i64 e)], [.lit (.int .i64 d), .lit (.int .i64 ki), .lit (.string key), .lit (.string t), .lit (.int .i64 v)], [.lit (.string ⟨#[]⟩), .lit (.int .i64 0), .lit (.slice none 0 0), .lit (.int .i64 0)]], []⟩⟩
noncomputable def yJ (s : ByteArray) (p : Int) (n : Nat) (f : Nat → List Value) (e d ki : Int) (key t : ByteArray) (v k : Int) : Tr (Ev.Out × St) := .two (decide (0 ≤ k ∧ k.toNat < s.size)) (.two (((s.data.toList.getD k.toNat 0).toNat : Int) == 43) (.one (.norm, ZF s p n f e d ki key t v (IntKind.wrap .i64 (k + 1)))) (.two (decide (0 ≤ k ∧ k.toNat < s.size)) (.two (((s.data.toList.getD k.toNat 0).toNat : Int) == 45) (.one (.norm, ZF s p n f e d ki key t v (IntKind.wrap .i64 (k + 1)))) (.two (decide (0 ≤ k ∧ k.toNat < s.size)) (.two (((s.data.toList.getD k.toNat 0).toNat : Int) == 46) (.one (.norm, ZF s p n f e d ki key t v (IntKind.wrap .i64 (k + 1)))) (.two (decide (0 ≤ k ∧ k.toNat < s.size)) (.two (((s.data.toList.getD k.toNat 0).toNat : Int) == 69) (.one (.norm, ZF s p n f e d ki key t v (IntKind.wrap .i64 (k + 1)))) (.two (decide (0 ≤ k ∧ k.toNat < s.size)) (.two (((s.data.toList.getD k.toNat 0).toNat : Int) == 101) (.one (.norm, ZF s p n f e d ki key t v (IntKind.wrap .i64 (k + 1)))) (.one ((.exit 0), ZF s p n f e d ki key t v k))) .no)) .no)) .no)) .no)) .no
theorem rd_num (s : ByteArray) (p : Int) (n : Nat) (f : Nat → List Value) (e d ki : Int) (key t : ByteArray) (v k : Int) (K : Ev.Out → St → Option Ans) : XJ (Yz P0 E7 9 50) (Xq P0 50 0) [2, 3, 4, 5] (ZF s p n f e d ki key t v k) K = (.two (decide (k < (s.size : Int))) (.two (decide (0 ≤ k ∧ k.toNat < s.size)) (.two (decide (((s.data.toList.getD k.toNat 0).toNat : Int) ≥ 48)) (.two (decide (0 ≤ k ∧ k.toNat < s.size)) (.two (decide (((s.data.toList.getD k.toNat 0).toNat : Int) ≤ 57)) (.one (.norm, ZF s p n f e d ki key t v (IntKind.wrap .i64 (k + 1)))) (yJ s p n f e d ki key t v k)) .no) (yJ s p n f e d ki key t v k)) .no) (.one ((.exit 0), ZF s p n f e d ki key t v k)) : Tr (Ev.Out × St)).run fun x => K x.1 x.2 := by kernel_rfl
theorem ZaZ (n : Nat) : numB n = true ↔ (n = 43 ∨ n = 45 ∨ n = 46 ∨ n = 69 ∨ n = 101 ∨ (48 ≤ n ∧ n ≤ 57)) := by
 unfold numB
 simp
 omega
theorem zaH (s : ByteArray) (p : Int) (n : Nat) (f : Nat → List Value) (e d ki : Int) (key t : ByteArray) (v : Int) : ∀ (l : B) (k : Int), vg s k → lf s k = l → ∃ m, ∀ K, rounds (Yz P0 E7 9 50) (Xq P0 50 0) [2, 3, 4, 5] m (ZF s p n f e d ki key t v k) K = K (.exit 0) (ZF s p n f e d ki key t v (atI s (l.drop (numsL l))))
 | [], k, hk, h => by
  have h1 := YaG s k h hk
  refine ⟨1, Yn (rd_num s p n f e d ki key t v k) (st1 := ZF s p n f e d ki key t v (atI s [])) ?_ rfl⟩
  rw [← h, yat s k hk]
  simp only [↓Yc, sel_one, ↓yJ, Zbd, h1, Int.lt_irrefl, ↓reduceIte]
 | c :: l, k, hk, h => by
  obtain ⟨h1, h2, h3, h4, h5, h6, h7⟩ := xat s k c l h hk
  by_cases hb : numB c.toNat = true
  ·obtain ⟨m, hm⟩ := zaH s p n f e d ki key t v l (k + 1) h6 h7
   refine ⟨m + 1, ZD (rd_num s p n f e d ki key t v k) (st1 := ZF s p n f e d ki key t v (k + 1)) ?_ (by rw [numsL, if_pos hb]; exact hm)⟩
   simp only [↓Yc, sel_one, ↓yJ, Zbd, h1, h2, h3, h4, h5, and_self, ↓reduceIte]
   rcases (ZaZ _).1 hb with x | x | x | x | x | ⟨x, y⟩
   iterate 5 (have x : (c.toNat : Int) = _ := congrArg Nat.cast x; simp [↓Yc, sel_one, ↓yJ, x, h1, h2, h3, h4, h5])
   simp only [show (c.toNat : Int) ≥ 48 by omega, show (c.toNat : Int) ≤ 57 by omega, ↓reduceIte]
  ·rw [show numsL (c :: l) = 0 by rw [numsL, if_neg hb], xbt]
   have hb' : ¬ _ := fun x => hb ((ZaZ c.toNat).2 x)
   refine ⟨1, Yn (rd_num s p n f e d ki key t v k) (st1 := ZF s p n f e d ki key t v (atI s (c :: l))) ?_ rfl⟩
   rw [← h, yat s k hk]
   have i1 : ¬ (c.toNat : Int) = 43 := by omega
   have i2 : ¬ (c.toNat : Int) = 45 := by omega
   have i3 : ¬ (c.toNat : Int) = 46 := by omega
   have i4 : ¬ (c.toNat : Int) = 69 := by omega
   have i5 : ¬ (c.toNat : Int) = 101 := by omega
   by_cases i6 : (c.toNat : Int) ≥ 48
   ·have i7 : ¬ (c.toNat : Int) ≤ 57 := by omega
    simp only [↓Yc, sel_one, ↓yJ, Zbd, Ybf, h1, h2, h3, h4, h5, i1, i2, i3, i4, i5, i6, i7, and_self, ↓reduceIte]
   ·simp only [↓Yc, sel_one, ↓yJ, Zbd, Ybf, h1, h2, h3, h4, h5, i1, i2, i3, i4, i5, i6, and_self, ↓reduceIte]
noncomputable def spNumL (st : St) : Option (Tr (Ev.Out × St)) :=
 let s := (st.cell 0 0).str; let p := (st.cell 0 1).int; let n := (st.cell 0 2).sn; let f := (st.cell 0 2).sf; let e := (st.cell 0 3).int
 let d := (st.cell 1 0).int; let ki := (st.cell 1 1).int; let key := (st.cell 1 2).str; let t := (st.cell 1 3).str; let v := (st.cell 1 4).int; let k := (st.at 5).int
 some (under (gd (st = ZF s p n f e d ki key t v k ∧ vg s k)) (.exit 0, ZF s p n f e d ki key t v (atI s ((lf s k).drop (numsL (lf s k))))))
theorem okNumL : EnvOk P0 (E7.knowLoop 50 2 spNumL) := E7ok.knowSt (j := 0) (by kernel_rfl) fun st t out st' h1 h2 => by
 unfold spNumL at h1
 cases h1
 obtain ⟨⟨h3, h4⟩, h5⟩ := YD h2
 cases h5
 obtain ⟨m, hm⟩ := zaH _ _ _ _ _ _ _ _ _ _ _ _ h4 rfl
 exact ⟨m, fun K => by
  conv => lhs; rw [h3]
  exact hm K⟩
theorem tr_num (s : ByteArray) (p : Int) (n : Nat) (f : Nat → List Value) (e d ki : Int) (key t : ByteArray) (v : Int) (K : AV → Mem → Option Ans) : Zz P0 (E7.knowLoop 50 2 spNumL) 9 50 [.agg [.lit (.string s), .lit (.int .i64 p), .sl false 5 n f, .lit (.int .i64 e)], .lit (.agg #[.int .i64 d, .int .i64 ki, .string key, .string t, .int .i64 v])] ⟨[], []⟩ K = (.two (gd (ZF s p n f e d ki key t v p = ZF s p n f e d ki key t v p ∧ vg s p)) (.two (decide ((0 : Int) ≤ p ∧ p ≤ (atI s ((lf s p).drop (numsL (lf s p)))) ∧ (atI s ((lf s p).drop (numsL (lf s p)))) ≤ (s.size : Int))) (.two (gd ((s.extract p.toNat (atI s ((lf s p).drop (numsL (lf s p)))).toNat).size ≤ 1073741824)) (.two (!((Yu (s.extract p.toNat (atI s ((lf s p).drop (numsL (lf s p)))).toNat)).2)) (.one (.agg [.lit (.string s), .lit (.int .i64 p), .sl false 5 n f, .lit (.int .i64 83)])) (.two (decide (0 + (Zf n f).length ≤ lim)) (.two (decide (0 + (Zf n f).length = (([] : List (List Value)) ++ (Zf n f)).length ∧ 0 + (Zf n f).length + 1 ≤ lim)) (.one (.agg [.lit (.string s), .lit (.int .i64 (atI s ((lf s p).drop (numsL (lf s p))))), .sl false 5 (0 + (Zf n f).length + 1) (fun k => ((([] : List (List Value)) ++ (Zf n f)) ++ ([[.int .i64 d, .int .i64 4, .string key, .string t, .int .i64 ((Yu (s.extract p.toNat (atI s ((lf s p).drop (numsL (lf s p)))).toNat)).1)]] : List (List Value))).getD k []), .lit (.int .i64 e)])) .no) .no)) .no) .no) .no : Tr AV).run fun r => K r ⟨[], []⟩ := by kernel_rfl
theorem zaj (s : ByteArray) (p : Int) (w : Nat) (hp : vg s p) : s.extract p.toNat (p + (w : Int)).toNat = ⟨((lf s p).take w).toArray⟩ := by
 refine xA ?_
 rw [zbo, zbp]
 show (s.data.toList.drop p.toNat).take ((p + (w : Int)).toNat - p.toNat) = _
 rw [show (p + (w : Int)).toNat - p.toNat = w by have := hp.1; omega]
 rfl
theorem ap_one (n : Nat) (f : Nat → List Value) (D : Nat) (ki : Int) (key t : ByteArray) (v : Int) : apL n f [row D ki key t v] = .sl false 5 (n + 1) (fun k => (Zf n f ++ ([[.int .i64 (D : Int), .int .i64 ki, .string key, .string t, .int .i64 v]] : List (List Value))).getD k []) := rfl
def nmV (L : B) (D : Nat) (key : ByteArray) : Int × B × List S40 := if (rn (L.take (numsL L))).2 = true then (0, L.drop (numsL L), [row D 4 key e0 (rn (L.take (numsL L))).1]) else (83, [], [])
def okI (s : ByteArray) (p : Int) (n : Nat) (d : Int) (t : ByteArray) (v : Int) : Prop := vg s p ∧ n < 1073741824 ∧ 0 ≤ d ∧ t = e0 ∧ v = 0
noncomputable def spNum : List AV → Option (Tr AV)
 | [.agg [.lit (.string s), .lit (.int .i64 p), .sl false 5 n f, .lit (.int .i64 e)], a] => match Zae a with
  | some (d, ki, key, t, v) => some (.two (gd (okI s p n d t v)) (resA s n f e (nmV (lf s p) d.toNat key)) .no)
  | none => none
 | _ => none
theorem YaZ : ∀ l : B, numsL l ≤ l.length
 | [] => Xbc _
 | c :: l => by
  have := YaZ l
  rw [numsL]
  split <;> simp <;> omega
noncomputable def E8 : Env := E7.know 50 spNum
theorem E8ok : EnvOk P0 E8 := E7ok.know fun args t r h1 h2 => by
 unfold spNum at h1
 split at h1
 ·rename_i s p n f e a
  split at h1
  ·rename_i d ki key t v hi
   cases h1
   obtain ⟨⟨hv, hn, hd, rfl, rfl⟩, h3⟩ := zA h2
   rw [xaa hi]
   obtain ⟨D, rfl⟩ := Zbo hd
   have hb : zv P0 50 = true := by kernel_rfl
   have T := tr_num s p n f e D ki key e0 0
   obtain ⟨L, hL⟩ : ∃ L, lf s p = L := ⟨_, rfl⟩
   have hs := hv.2.2
   have hLs : L <:+ s.data.toList := hL ▸ XY s p
   have hD : L.drop (numsL L) <:+ s.data.toList := (Xbl _ _).trans hLs
   have pe : atI s L = p := hL ▸ yat s p hv
   have hw := YaZ L
   have v1 := YA s _ hD hs
   have ae : atI s (L.drop (numsL L)) = p + (numsL L : Nat) := by rw [← pe]; unfold atI; rw [Zbb]; omega
   have D1 : decide ((0 : Int) ≤ p ∧ p ≤ atI s (L.drop (numsL L)) ∧ atI s (L.drop (numsL L)) ≤ (s.size : Int)) = true := decide_eq_true ⟨hv.1, by omega, v1.2.1⟩
   have X1 := XaG (i := p.toNat) (j := (atI s (L.drop (numsL L))).toNat) hs
   have X2 : Yu (s.extract p.toNat (atI s (L.drop (numsL L))).toNat) = rn (L.take (numsL L)) := by rw [ae, zaj s p _ hv, hL]; rfl
   have l1 : n ≤ lim := by show n ≤ 1073741824; omega
   have l2 : n + 1 ≤ lim := by show n + 1 ≤ 1073741824; omega
   rw [hL] at h3
   cases c : (rn (L.take (numsL L))).2 with
   | false =>
    have hN : nmV L D key = (83, [], []) := by unfold nmV; rw [if_neg (by rw [c]; simp)]
    rw [show (D : Int).toNat = D from rfl, hN] at h3
    rw [Xz (e' := 83) rfl (by decide) h3]
    refine (Xe okNumL hb T (r := .agg [.lit (.string s), .lit (.int .i64 p), .sl false 5 n f, .lit (.int .i64 83)]) ?_ rfl).weak fun _ _ _ _ h => X3 h
    simp only [↓Yc, sel_one, gd_iff, true_and, hv, hL, D1, X1, X2, c, Zbq, ↓reduceIte]
   | true =>
    have hN : nmV L D key = (0, L.drop (numsL L), [row D 4 key e0 (rn (L.take (numsL L))).1]) := by unfold nmV; rw [if_pos c]
    rw [show (D : Int).toNat = D from rfl, hN] at h3
    rw [yA h3, ap_one]
    refine Xe okNumL hb T ?_ rfl
    simp only [↓Yc, sel_one, gd_iff, true_and, hv, hL, D1, X1, X2, c, Xbq, Zbg, ↓reduceIte, Zbd, elems_length, xbl, Xbi, l1, l2]
  ·cases h1
 ·cases h1
theorem ZaL (w L : B) : (⟨(L.take w.length).toArray⟩ : ByteArray) = ⟨w.toArray⟩ ↔ w <+: L := by
 rw [List.prefix_iff_eq_take]
 constructor
 ·intro h
  have := congrArg (fun q : ByteArray => q.data.toList) h
  exact this.symm
 ·intro h; rw [← h]
noncomputable def spWord : List AV → Option (Tr AV)
 | [.agg [.lit (.string s), .lit (.int .i64 p), .sl false 5 n f, .lit (.int .i64 e)], a] => match Zae a with
  | some (d, ki, key, t, v) => some (.two (gd (okI s p n d t v)) (resA s n f e (wd (lf s p) d.toNat key)) .no)
  | none => none
 | _ => none
noncomputable def xJ (s : ByteArray) (p : Int) (n : Nat) (f : Nat → List Value) (e d ki : Int) (key t : ByteArray) (v : Int) : Tr AV := .two (decide ((IntKind.wrap .i64 ((s.size : Int) - p)) ≥ 4)) (.two (decide ((0 : Int) ≤ p ∧ p ≤ (IntKind.wrap .i64 (p + 4)) ∧ (IntKind.wrap .i64 (p + 4)) ≤ (s.size : Int))) (.two (decide ((s.extract p.toNat (IntKind.wrap .i64 (p + 4)).toNat) = ⟨#[116, 114, 117, 101]⟩)) (.two (decide (0 + (Zf n f).length ≤ lim)) (.two (decide (0 + (Zf n f).length = (([] : List (List Value)) ++ (Zf n f)).length ∧ 0 + (Zf n f).length + 1 ≤ lim)) (.one (.agg [.lit (.string s), .lit (.int .i64 (IntKind.wrap .i64 (p + 4))), .sl false 5 (0 + (Zf n f).length + 1) (fun k => ((([] : List (List Value)) ++ (Zf n f)) ++ ([[.int .i64 d, .int .i64 3, .string key, .string t, .int .i64 v]] : List (List Value))).getD k []), .lit (.int .i64 e)])) .no) .no) (.one (.agg [.lit (.string s), .lit (.int .i64 p), .sl false 5 n f, .lit (.int .i64 80)]))) .no) (.one (.agg [.lit (.string s), .lit (.int .i64 p), .sl false 5 n f, .lit (.int .i64 80)]))
noncomputable def ZJ (s : ByteArray) (p : Int) (n : Nat) (f : Nat → List Value) (e d ki : Int) (key t : ByteArray) (v : Int) : Tr AV := .two (decide ((IntKind.wrap .i64 ((s.size : Int) - p)) ≥ 5)) (.two (decide ((0 : Int) ≤ p ∧ p ≤ (IntKind.wrap .i64 (p + 5)) ∧ (IntKind.wrap .i64 (p + 5)) ≤ (s.size : Int))) (.two (decide ((s.extract p.toNat (IntKind.wrap .i64 (p + 5)).toNat) = ⟨#[102, 97, 108, 115, 101]⟩)) (.two (decide (0 + (Zf n f).length ≤ lim)) (.two (decide (0 + (Zf n f).length = (([] : List (List Value)) ++ (Zf n f)).length ∧ 0 + (Zf n f).length + 1 ≤ lim)) (.one (.agg [.lit (.string s), .lit (.int .i64 (IntKind.wrap .i64 (p + 5))), .sl false 5 (0 + (Zf n f).length + 1) (fun k => ((([] : List (List Value)) ++ (Zf n f)) ++ ([[.int .i64 d, .int .i64 2, .string key, .string t, .int .i64 v]] : List (List Value))).getD k []), .lit (.int .i64 e)])) .no) .no) (xJ s p n f e d ki key t v)) .no) (xJ s p n f e d ki key t v)
theorem tr_word (s : ByteArray) (p : Int) (n : Nat) (f : Nat → List Value) (e d ki : Int) (key t : ByteArray) (v : Int) (K : AV → Mem → Option Ans) : Zz P0 E8 9 51 [.agg [.lit (.string s), .lit (.int .i64 p), .sl false 5 n f, .lit (.int .i64 e)], .lit (.agg #[.int .i64 d, .int .i64 ki, .string key, .string t, .int .i64 v])] ⟨[], []⟩ K = (.two (decide ((IntKind.wrap .i64 ((s.size : Int) - p)) ≥ 4)) (.two (decide ((0 : Int) ≤ p ∧ p ≤ (IntKind.wrap .i64 (p + 4)) ∧ (IntKind.wrap .i64 (p + 4)) ≤ (s.size : Int))) (.two (decide ((s.extract p.toNat (IntKind.wrap .i64 (p + 4)).toNat) = ⟨#[110, 117, 108, 108]⟩)) (.two (decide (0 + (Zf n f).length ≤ lim)) (.two (decide (0 + (Zf n f).length = (([] : List (List Value)) ++ (Zf n f)).length ∧ 0 + (Zf n f).length + 1 ≤ lim)) (.one (.agg [.lit (.string s), .lit (.int .i64 (IntKind.wrap .i64 (p + 4))), .sl false 5 (0 + (Zf n f).length + 1) (fun k => ((([] : List (List Value)) ++ (Zf n f)) ++ ([[.int .i64 d, .int .i64 1, .string key, .string t, .int .i64 v]] : List (List Value))).getD k []), .lit (.int .i64 e)])) .no) .no) (ZJ s p n f e d ki key t v)) .no) (ZJ s p n f e d ki key t v) : Tr AV).run fun r => K r ⟨[], []⟩ := by kernel_rfl
noncomputable def E9 : Env := E8.know 51 spWord
theorem E9ok : EnvOk P0 E9 := E8ok.know fun args t r h1 h2 => by
 unfold spWord at h1
 split at h1
 ·rename_i s p n f e a
  split at h1
  ·rename_i d ki key t v hi
   cases h1
   obtain ⟨⟨hv, hn, hd, rfl, rfl⟩, h3⟩ := zA h2
   rw [xaa hi]
   obtain ⟨D, rfl⟩ := Zbo hd
   have hb : zv P0 51 = true := by kernel_rfl
   have T := tr_word s p n f e D ki key e0 0
   obtain ⟨L, hL⟩ : ∃ L, lf s p = L := ⟨_, rfl⟩
   have hs := hv.2.2
   have hLs : L <:+ s.data.toList := hL ▸ XY s p
   have pe : atI s L = p := hL ▸ yat s p hv
   have hz := hLs.length_le
   rw [data_length] at hz
   have pz : p = (s.size : Int) - (L.length : Int) := pe.symm
   have W0 : IntKind.wrap .i64 ((s.size : Int) - p) = (L.length : Int) := by rw [wrap_i64 (by omega) (by omega)]; omega
   have N4 : IntKind.wrap .i64 (p + 4) = p + 4 := wrap_i64 (by omega) (by omega)
   have N5 : IntKind.wrap .i64 (p + 5) = p + 5 := wrap_i64 (by omega) (by omega)
   have B1 : (s.extract p.toNat (p + 4).toNat = ⟨#[110, 117, 108, 108]⟩) ↔ [110, 117, 108, 108] <+: L := by
    have := zaj s p 4 hv
    rw [show (p + 4).toNat = (p + ((4 : Nat) : Int)).toNat from rfl, this, hL]; exact ZaL [110, 117, 108, 108] L
   have B2 : (s.extract p.toNat (p + 5).toNat = ⟨#[102, 97, 108, 115, 101]⟩) ↔ [102, 97, 108, 115, 101] <+: L := by
    have := zaj s p 5 hv
    rw [show (p + 5).toNat = (p + ((5 : Nat) : Int)).toNat from rfl, this, hL]; exact ZaL [102, 97, 108, 115, 101] L
   have B3 : (s.extract p.toNat (p + 4).toNat = ⟨#[116, 114, 117, 101]⟩) ↔ [116, 114, 117, 101] <+: L := by
    have := zaj s p 4 hv
    rw [show (p + 4).toNat = (p + ((4 : Nat) : Int)).toNat from rfl, this, hL]; exact ZaL [116, 114, 117, 101] L
   have i4 : p ≤ p + 4 := by omega
   have i5 : p ≤ p + 5 := by omega
   have l1 : n ≤ lim := by show n ≤ 1073741824; omega
   have l2 : n + 1 ≤ lim := by show n + 1 ≤ 1073741824; omega
   rw [hL, show (D : Int).toNat = D from rfl] at h3
   by_cases P1 : [110, 117, 108, 108] <+: L
   ·have g4 := P1.length_le
    simp only [Xbd, Xbg, xbl] at g4
    rw [show wd L D key = (0, L.drop 4, [row D 1 key e0 0]) by unfold wd; rw [if_pos P1]] at h3
    rw [yA h3, ap_one, show atI s (L.drop 4) = p + 4 by rw [← pe]; unfold atI; rw [Zbb]; omega]
    refine Xe E8ok hb T ?_ rfl
    simp only [↓Yc, sel_one, ↓xJ, ↓ZJ, Zbd, W0, N4, N5, B1, B2, B3, P1, show (L.length : Int) ≥ 4 by omega, show p + 4 ≤ (s.size : Int) by omega, hv.1, i4, i5, true_and, and_self, ↓reduceIte, elems_length, xbl, Xbi, l1, l2]
   ·by_cases P2 : [102, 97, 108, 115, 101] <+: L
    ·have g5 := P2.length_le
     simp only [Xbd, Xbg, xbl] at g5
     rw [show wd L D key = (0, L.drop 5, [row D 2 key e0 0]) by unfold wd; rw [if_neg P1, if_pos P2]] at h3
     rw [yA h3, ap_one, show atI s (L.drop 5) = p + 5 by rw [← pe]; unfold atI; rw [Zbb]; omega]
     refine Xe E8ok hb T ?_ rfl
     simp only [↓Yc, sel_one, ↓xJ, ↓ZJ, Zbd, W0, N4, N5, B1, B2, B3, P1, P2, show (L.length : Int) ≥ 4 by omega, show p + 4 ≤ (s.size : Int) by omega, show (L.length : Int) ≥ 5 by omega, show p + 5 ≤ (s.size : Int) by omega, hv.1, i4, i5, true_and, and_self, ↓reduceIte, elems_length, xbl, Xbi, l1, l2]
    ·by_cases P3 : [116, 114, 117, 101] <+: L
     ·have g4 := P3.length_le
      simp only [Xbd, Xbg, xbl] at g4
      rw [show wd L D key = (0, L.drop 4, [row D 3 key e0 0]) by unfold wd; rw [if_neg P1, if_neg P2, if_pos P3]] at h3
      rw [yA h3, ap_one, show atI s (L.drop 4) = p + 4 by rw [← pe]; unfold atI; rw [Zbb]; omega]
      refine Xe E8ok hb T ?_ rfl
      by_cases g5 : 5 ≤ L.length
      ·simp only [↓Yc, sel_one, ↓xJ, ↓ZJ, Zbd, W0, N4, N5, B1, B2, B3, P1, P2, P3, show (L.length : Int) ≥ 4 by omega, show p + 4 ≤ (s.size : Int) by omega, show (L.length : Int) ≥ 5 by omega, show p + 5 ≤ (s.size : Int) by omega, hv.1, i4, i5, true_and, and_self, ↓reduceIte, elems_length, xbl, Xbi, l1, l2]
      ·simp only [↓Yc, sel_one, ↓xJ, ↓ZJ, Zbd, W0, N4, N5, B1, B2, B3, P1, P2, P3, show (L.length : Int) ≥ 4 by omega, show p + 4 ≤ (s.size : Int) by omega, show ¬ (L.length : Int) ≥ 5 by omega, hv.1, i4, i5, true_and, and_self, ↓reduceIte, elems_length, xbl, Xbi, l1, l2]
     ·rw [show wd L D key = (80, [], []) by unfold wd; rw [if_neg P1, if_neg P2, if_neg P3]] at h3
      rw [Xz (e' := 80) rfl (by decide) h3]
      refine (Xe E8ok hb T (r := .agg [.lit (.string s), .lit (.int .i64 p), .sl false 5 n f, .lit (.int .i64 80)]) ?_ rfl).weak fun _ _ _ _ h => X3 h
      by_cases g4 : 4 ≤ L.length
      ·by_cases g5 : 5 ≤ L.length
       ·simp only [↓Yc, sel_one, ↓xJ, ↓ZJ, Zbd, W0, N4, N5, B1, B2, B3, P1, P2, P3, show (L.length : Int) ≥ 4 by omega, show p + 4 ≤ (s.size : Int) by omega, show (L.length : Int) ≥ 5 by omega, show p + 5 ≤ (s.size : Int) by omega, hv.1, i4, i5, true_and, and_self, ↓reduceIte, elems_length, xbl, Xbi, l1, l2]
       ·simp only [↓Yc, sel_one, ↓xJ, ↓ZJ, Zbd, W0, N4, N5, B1, B2, B3, P1, P2, P3, show (L.length : Int) ≥ 4 by omega, show p + 4 ≤ (s.size : Int) by omega, show ¬ (L.length : Int) ≥ 5 by omega, hv.1, i4, i5, true_and, and_self, ↓reduceIte, elems_length, xbl, Xbi, l1, l2]
      ·simp only [↓Yc, sel_one, ↓xJ, ↓ZJ, Zbd, W0, N4, N5, B1, B2, B3, P1, P2, P3, show ¬ (L.length : Int) ≥ 4 by omega, show ¬ (L.length : Int) ≥ 5 by omega, hv.1, i4, i5, true_and, and_self, ↓reduceIte, elems_length, xbl, Xbi, l1, l2]
  ·cases h1
 ·cases h1
end Go.Proofs.NGiv
namespace Go.Proofs.NGiv
open Go.RowKit Go.Proofs.NU1 Go.Proofs.NQ1 Go.Proofs.NJ0 Go.Proofs.NJ1
theorem xba (L M : B → Int × B × List S40) (l : B) (ob : Bool) (h : ∀ x, x.length < l.length → L x = M x) : cont L l ob = cont M l ob := by
 unfold cont
 have h1 := Yv l (en ob)
 have h2 := Yv (tk1 l (en ob)).2 44
 split
 ·rfl
 ·split
  ·rename_i c; have := h2.2 c; exact h _ (by omega)
  ·rfl
theorem Zaa (L M : B → Int × B × List S40) (V : Int × B × List S40) (ob : Bool) (m : Nat) (hm : V.1 = 0 → V.2.1.length ≤ m) (h : ∀ x, x.length < m → L x = M x) : pma L V ob = pma M V ob := by
 unfold pma
 split
 ·rename_i c
  have := hm c
  rw [xba L M V.2.1 ob (fun x hx => h x (by omega))]
 ·rfl
theorem yaH : ∀ n : Nat, (∀ l d key m, 3 * l.length + 1 ≤ n → 3 * l.length + 1 ≤ m → pv n l d key = pv m l d key) ∧ (∀ l d ob m, 3 * l.length + 3 ≤ n → 3 * l.length + 3 ≤ m → pms n l d ob = pms m l d ob) ∧ (∀ l d ob keys m, 3 * l.length + 2 ≤ n → 3 * l.length + 2 ≤ m → pml n l d ob keys = pml m l d ob keys)
 | 0 => ⟨fun l d key m h => by omega, fun l d ob m h => by omega, fun l d ob keys m h => by omega⟩
 | n + 1 => by
  obtain ⟨iv, im, il⟩ := yaH n
  refine ⟨fun l d key m h hm => ?_, fun l d ob m h hm => ?_, fun l d ob keys m h hm => ?_⟩
  ·obtain ⟨m, rfl⟩ : ∃ q, m = q + 1 := ⟨m - 1, by omega⟩
   have h0 := YU l
   rw [pv, pv]
   by_cases c1 : hd l = 91
   ·have hne : (sk l).length ≠ 0 := fun e => XC (l := l) (by omega) (xbg e)
    rw [if_pos c1, if_pos c1, im _ _ _ m (by rw [Zbb]; omega) (by rw [Zbb]; omega)]
   ·rw [if_neg c1, if_neg c1]
    by_cases c2 : hd l = 123
    ·have hne : (sk l).length ≠ 0 := fun e => XC (l := l) (by omega) (xbg e)
     rw [if_pos c2, if_pos c2, im _ _ _ m (by rw [Zbb]; omega) (by rw [Zbb]; omega)]
    ·rw [if_neg c2, if_neg c2]
  ·obtain ⟨m, rfl⟩ : ∃ q, m = q + 1 := ⟨m - 1, by omega⟩
   have h1 := Yv l (en ob)
   rw [pms, pms, il _ _ _ _ m (by omega) (by omega)]
  ·obtain ⟨m, rfl⟩ : ∃ q, m = q + 1 := ⟨m - 1, by omega⟩
   rw [pml, pml]
   split
   ·split
    ·rename_i c
     have h1 := Z5 l keys c
     rw [iv _ _ _ m (by omega) (by omega)]
     exact Zaa _ _ _ _ (pk l keys).2.1.length (fun e => by have := (ZQ m).1 _ _ _ e; omega) (fun x hx => il _ _ _ _ m (by omega) (by omega))
    ·rfl
   ·rw [iv _ _ _ m (by omega) (by omega)]
    exact Zaa _ _ _ _ l.length (fun e => by have := (ZQ m).1 _ _ _ e; omega) (fun x hx => il _ _ _ _ m (by omega) (by omega))
def pvC (l : B) (d : Nat) (key : ByteArray) : Int × B × List S40 := pv (3 * l.length + 1) l d key
def pmsC (l : B) (d : Nat) (ob : Bool) : Int × B × List S40 := pms (3 * l.length + 3) l d ob
def pmlC (l : B) (d : Nat) (ob : Bool) (keys : List ByteArray) : Int × B × List S40 := pml (3 * l.length + 2) l d ob keys
theorem pv_C {n : Nat} {l : B} {d : Nat} {key : ByteArray} (h : 3 * l.length + 1 ≤ n) : pv n l d key = pvC l d key := (yaH n).1 l d key _ h (Xbc _)
theorem pms_C {n : Nat} {l : B} {d : Nat} {ob : Bool} (h : 3 * l.length + 3 ≤ n) : pms n l d ob = pmsC l d ob := (yaH n).2.1 l d ob _ h (Xbc _)
theorem pml_C {n : Nat} {l : B} {d : Nat} {ob : Bool} {keys : List ByteArray} (h : 3 * l.length + 2 ≤ n) : pml n l d ob keys = pmlC l d ob keys := (yaH n).2.2 l d ob keys _ h (Xbc _)
theorem pvC_eq (l : B) (d : Nat) (key : ByteArray) : pvC l d key =
  if hd l = 91 then (if 64 ≤ d then (81, [], []) else ((pmsC ((sk l).drop 1) d false).1, (pmsC ((sk l).drop 1) d false).2.1, row d 6 key e0 0 :: (pmsC ((sk l).drop 1) d false).2.2))
  else if hd l = 123 then (if 64 ≤ d then (81, [], []) else ((pmsC ((sk l).drop 1) d true).1, (pmsC ((sk l).drop 1) d true).2.1, row d 7 key e0 0 :: (pmsC ((sk l).drop 1) d true).2.2))
  else if hd l = 34 then (if (rq (sk l)).2.2 = 0 then (0, (rq (sk l)).2.1, [row d 5 key ⟨(rq (sk l)).1.toArray⟩ 0]) else ((rq (sk l)).2.2, [], []))
  else if hd l = 45 ∨ (48 ≤ hd l ∧ hd l ≤ 57) then (if (rn ((sk l).take (numsL (sk l)))).2 = true then (0, (sk l).drop (numsL (sk l)), [row d 4 key e0 (rn ((sk l).take (numsL (sk l)))).1]) else (83, [], []))
  else wd (sk l) d key := by
 have h0 := YU l
 unfold pvC
 rw [pv]
 by_cases c1 : hd l = 91
 ·have hne : (sk l).length ≠ 0 := fun e => XC (l := l) (by omega) (xbg e)
  rw [if_pos c1, if_pos c1, pms_C (by rw [Zbb]; omega)]
 ·rw [if_neg c1, if_neg c1]
  by_cases c2 : hd l = 123
  ·have hne : (sk l).length ≠ 0 := fun e => XC (l := l) (by omega) (xbg e)
   rw [if_pos c2, if_pos c2, pms_C (by rw [Zbb]; omega)]
  ·rw [if_neg c2, if_neg c2]
theorem pmsC_eq (l : B) (d : Nat) (ob : Bool) : pmsC l d ob = if (tk1 l (en ob)).1 = true then (0, (tk1 l (en ob)).2, []) else pmlC (tk1 l (en ob)).2 d ob [] := by
 have h1 := Yv l (en ob)
 unfold pmsC
 rw [pms, pml_C (by omega)]
theorem pmlC_eq (l : B) (d : Nat) (ob : Bool) (keys : List ByteArray) : pmlC l d ob keys =
  if ob = true then (if (pk l keys).2.2 = 0 then pma (fun x => pmlC x d ob (keys ++ [(pk l keys).1])) (pvC (pk l keys).2.1 (d + 1) (pk l keys).1) ob else ((pk l keys).2.2, [], []))
  else pma (fun x => pmlC x d ob keys) (pvC l (d + 1) e0) ob := by
 unfold pmlC
 rw [pml]
 split
 ·split
  ·rename_i c
   have h1 := Z5 l keys c
   rw [pv_C (by omega)]
   refine Zaa _ _ _ _ (pk l keys).2.1.length (fun e => ?_) (fun x hx => pml_C (by omega))
   have : (pvC (pk l keys).2.1 (d + 1) (pk l keys).1).2.1.length + (pvC (pk l keys).2.1 (d + 1) (pk l keys).1).2.2.length ≤ (pk l keys).2.1.length := (ZQ _).1 _ _ _ e
   omega
  ·rfl
 ·rw [pv_C (by omega)]
  refine Zaa _ _ _ _ l.length (fun e => ?_) (fun x hx => pml_C (by omega))
  have : (pvC l (d + 1) e0).2.1.length + (pvC l (d + 1) e0).2.2.length ≤ l.length := (ZQ _).1 _ _ _ e
  omega
theorem XT (l : B) : sk l <:+ l := Xbl _ _
theorem Z4 (l : B) (c : Nat) : (tk1 l c).2 <:+ l := by
 unfold tk1
 split
 ·exact (Xbl _ _).trans (XT l)
 ·exact XT l
theorem rq_suf (l : B) (h : (rq l).2.2 = 0) : (rq l).2.1 <:+ l := by
 unfold rq at h ⊢
 split
 ·rename_i q hq
  by_cases c : q.2.2 = 0
  ·rw [if_pos c]; exact Xbl _ _
  ·rw [hq] at h; simp only [if_neg c] at h; exact absurd h c
 ·rename_i hq
  rw [hq] at h; simp at h
theorem pk_suf (l : B) (keys : List ByteArray) (h : (pk l keys).2.2 = 0) : (pk l keys).2.1 <:+ l := by
 unfold pk at h ⊢
 split
 ·rename_i c1
  rw [if_pos c1] at h
  split
  ·rename_i c2
   rw [if_pos c2] at h
   split
   ·rename_i c3; rw [if_pos c3] at h; simp at h
   ·rename_i c3
    rw [if_neg c3] at h
    split
    ·exact (Z4 _ _).trans ((rq_suf _ c2).trans (XT l))
    ·rename_i c4; rw [if_neg c4] at h; simp at h
  ·rename_i c2; rw [if_neg c2] at h; exact absurd h c2
 ·rename_i c1; rw [if_neg c1] at h; simp at h
theorem wd_suf (l : B) (d : Nat) (key : ByteArray) (h : (wd l d key).1 = 0) : (wd l d key).2.1 <:+ l := by
 unfold wd at h ⊢
 repeat' split
 all_goals first | exact Xbl _ _ | simp_all
theorem cont_suf (L : B → Int × B × List S40) (l : B) (ob : Bool) (hL : ∀ x, (L x).1 = 0 → (L x).2.1 <:+ x) (h : (cont L l ob).1 = 0) : (cont L l ob).2.1 <:+ l := by
 unfold cont at h ⊢
 split
 ·exact Z4 _ _
 ·rename_i c1
  rw [if_neg c1] at h
  split
  ·rename_i c2
   rw [if_pos c2] at h
   exact (hL _ h).trans ((Z4 _ _).trans (Z4 _ _))
  ·rename_i c2; rw [if_neg c2] at h; simp at h
theorem pma_suf (L : B → Int × B × List S40) (V : Int × B × List S40) (ob : Bool) (hL : ∀ x, (L x).1 = 0 → (L x).2.1 <:+ x) (h : (pma L V ob).1 = 0) : V.1 = 0 ∧ (pma L V ob).2.1 <:+ V.2.1 := by
 unfold pma at h ⊢
 split
 ·rename_i c
  rw [if_pos c] at h
  exact ⟨c, cont_suf L _ ob hL h⟩
 ·rename_i c; rw [if_neg c] at h; exact absurd h c
theorem p_suf : ∀ n : Nat, (∀ l d key, (pv n l d key).1 = 0 → (pv n l d key).2.1 <:+ l) ∧ (∀ l d ob, (pms n l d ob).1 = 0 → (pms n l d ob).2.1 <:+ l) ∧ (∀ l d ob keys, (pml n l d ob keys).1 = 0 → (pml n l d ob keys).2.1 <:+ l)
 | 0 => ⟨fun l d key h => by simp [pv] at h, fun l d ob h => by simp [pms] at h, fun l d ob keys h => by simp [pml] at h⟩
 | n + 1 => by
  obtain ⟨iv, im, il⟩ := p_suf n
  refine ⟨fun l d key h => ?_, fun l d ob h => ?_, fun l d ob keys h => ?_⟩
  ·rw [pv] at h ⊢
   by_cases c1 : hd l = 91
   ·rw [if_pos c1] at h ⊢
    by_cases c2 : 64 ≤ d
    ·rw [if_pos c2] at h; simp at h
    ·rw [if_neg c2] at h ⊢
     exact (im _ _ _ h).trans ((Xbl _ _).trans (XT l))
   ·rw [if_neg c1] at h ⊢
    by_cases c2 : hd l = 123
    ·rw [if_pos c2] at h ⊢
     by_cases c3 : 64 ≤ d
     ·rw [if_pos c3] at h; simp at h
     ·rw [if_neg c3] at h ⊢
      exact (im _ _ _ h).trans ((Xbl _ _).trans (XT l))
    ·rw [if_neg c2] at h ⊢
     by_cases c3 : hd l = 34
     ·rw [if_pos c3] at h ⊢
      by_cases c4 : (rq (sk l)).2.2 = 0
      ·rw [if_pos c4] at h ⊢; exact (rq_suf _ c4).trans (XT l)
      ·rw [if_neg c4] at h; exact absurd h c4
     ·rw [if_neg c3] at h ⊢
      by_cases c4 : hd l = 45 ∨ (48 ≤ hd l ∧ hd l ≤ 57)
      ·rw [if_pos c4] at h ⊢
       by_cases c5 : (rn ((sk l).take (numsL (sk l)))).2 = true
       ·rw [if_pos c5] at h ⊢; exact (Xbl _ _).trans (XT l)
       ·rw [if_neg c5] at h; simp at h
      ·rw [if_neg c4] at h ⊢; exact (wd_suf _ _ _ h).trans (XT l)
  ·rw [pms] at h ⊢
   by_cases c1 : (tk1 l (en ob)).1 = true
   ·rw [if_pos c1] at h ⊢; exact Z4 _ _
   ·rw [if_neg c1] at h ⊢; exact (il _ _ _ _ h).trans (Z4 _ _)
  ·rw [pml] at h ⊢
   by_cases c1 : ob = true
   ·rw [if_pos c1] at h ⊢
    by_cases c2 : (pk l keys).2.2 = 0
    ·rw [if_pos c2] at h ⊢
     obtain ⟨h1, h2⟩ := pma_suf _ _ _ (fun x hx => il _ _ _ _ hx) h
     exact h2.trans ((iv _ _ _ h1).trans (pk_suf _ _ c2))
    ·rw [if_neg c2] at h; exact absurd h c2
   ·rw [if_neg c1] at h ⊢
    obtain ⟨h1, h2⟩ := pma_suf _ _ _ (fun x hx => il _ _ _ _ hx) h
    exact h2.trans (iv _ _ _ h1)
end Go.Proofs.NGiv
namespace Go.Proofs.NGiv
open Go Go.Ev Go.RowKit Go.Proofs.Wa Go.Proofs.Wb Go.Proofs.Wc Go.Proofs.NU1 Go.Proofs.NQ1 Go.Proofs.NJ1
def okV (X : Nat) (s : ByteArray) (p : Int) (n : Nat) (e d ki : Int) (t : ByteArray) (v : Int) : Prop := vg s p ∧ (lf s p).length < X ∧ n + (lf s p).length < 1073741824 ∧ e = 0 ∧ 0 ≤ d ∧ d ≤ 100 ∧ ki = 0 ∧ t = e0 ∧ v = 0
noncomputable def spV (X : Nat) : List AV → Option (Tr AV)
 | [.agg [.lit (.string s), .lit (.int .i64 p), .sl false 5 n f, .lit (.int .i64 e)], a] => match Zae a with
  | some (d, ki, key, t, v) => some (.two (gd (okV X s p n e d ki t v)) (resA s n f e (pvC (lf s p) d.toNat key)) .no)
  | none => none
 | _ => none
noncomputable def EV (X : Nat) : Env := E9.know 27 (spV X)
def YX (l : List AV) : St := ⟨Zp 72 [(4, .ptr 2 0)], ⟨[[.any, .any, .any, .any], [.any, .any, .any, .any, .any], l], []⟩⟩
def retC (s : ByteArray) (n : Nat) (f : Nat → List Value) (r : Int × B × List S40) : List AV := if r.1 = 0 then [.lit (.string s), .lit (.int .i64 (atI s r.2.1)), apL n f r.2.2, .lit (.int .i64 0)] else [.cell, .cell, .cell, .lit (.int .i64 r.1)]
theorem stRet_weak {s : ByteArray} {p e : Int} {n : Nat} {f : Nat → List Value} : Weak (YX [.lit (.string s), .lit (.int .i64 p), .sl false 5 n f, .lit (.int .i64 e)]) (YX [.cell, .cell, .cell, .lit (.int .i64 e)]) :=
 weak_box (bs := [[.any, .any, .any, .any], [.any, .any, .any, .any, .any]]) fun g m w vs => RepL.cons (fun v => YW rfl) (RepL.cons (fun v => YW rfl) (RepL.cons (fun v => YW rfl) fun vs h => h)) vs
theorem sk_sk (l : B) : sk (sk l) = sk l := by
 induction l with
 | nil => rfl
 | cons c l ih =>
  by_cases h : zJ c.toNat = true
  ·rw [yaZ c l h, ih]
  ·have h : zJ c.toNat = false := by simpa using h
   rw [sk_not c l h, sk_not c l h]
theorem Yae (n : Nat) (f : Nat → List Value) (a b : List S40) : apL (n + a.length) (fun k => (Zf n f ++ a.map Yr).getD k []) b = apL n f (a ++ b) := by
 unfold apL
 rw [yP (by simp [elems_length]), Zbj (by simp [elems_length])]
 simp only [Xbb, xbq, xbj, Zbi]
def stM6 (s : ByteArray) (p : Int) (n : Nat) (f : Nat → List Value) (d : Int) (k0 : ByteArray) : St := ⟨Zp 72 [(2, .ptr 0 0), (3, .ptr 1 0), (4, .ptr 2 0), (5, .lit (.int .u8 93)), (6, .lit (.slice none 0 0))], ⟨[[.lit (.string s), .lit (.int .i64 p), .sl false 5 n f, .lit (.int .i64 0)], [.lit (.int .i64 d), .lit (.int .i64 6), .lit (.string k0), .lit (.string ⟨#[]⟩), .lit (.int .i64 0)], [.lit (.string ⟨#[]⟩), .lit (.int .i64 0), .lit (.slice none 0 0), .lit (.int .i64 0)]], []⟩⟩
theorem rd_m6 (X : Nat) (s : ByteArray) (p : Int) (n : Nat) (f : Nat → List Value) (d : Int) (k0 : ByteArray) (K : Ev.Out → St → Option Ans) : XJ (Yz P0 (EV X) 9 48) (Xq P0 48 0) [4, 100000, 100001] (stM6 s p n f d k0) K = (.two (gd (okV X s p n 0 (IntKind.wrap .i64 (d + 1)) 0 ⟨#[]⟩ 0)) (.two ((pvC (lf s p) ((IntKind.wrap .i64 (d + 1))).toNat ⟨#[]⟩).1 == 0) (.two (gd (vg s (atI s (pvC (lf s p) ((IntKind.wrap .i64 (d + 1))).toNat ⟨#[]⟩).2.1))) (.two (gd (vg s (atI s (sk (lf s (atI s (pvC (lf s p) ((IntKind.wrap .i64 (d + 1))).toNat ⟨#[]⟩).2.1)))))) (.two (hdB (lf s (atI s (sk (lf s (atI s (pvC (lf s p) ((IntKind.wrap .i64 (d + 1))).toNat ⟨#[]⟩).2.1))))) 93) (.one (.ret, ⟨Zp 72 [(4, .ptr 2 0)], ⟨[[.any, .any, .any, .any], [.any, .any, .any, .any, .any], [.lit (.string s), .lit (.int .i64 (IntKind.wrap .i64 ((atI s (sk (lf s (atI s (pvC (lf s p) ((IntKind.wrap .i64 (d + 1))).toNat ⟨#[]⟩).2.1)))) + 1))), .sl false 5 (n + (pvC (lf s p) ((IntKind.wrap .i64 (d + 1))).toNat ⟨#[]⟩).2.2.length) (fun k => (Zf n f ++ (pvC (lf s p) ((IntKind.wrap .i64 (d + 1))).toNat ⟨#[]⟩).2.2.map Yr).getD k []), .lit (.int .i64 0)]], []⟩⟩)) (.two (gd (vg s (atI s (sk (lf s (atI s (pvC (lf s p) ((IntKind.wrap .i64 (d + 1))).toNat ⟨#[]⟩).2.1)))))) (.two (!(hdB (lf s (atI s (sk (lf s (atI s (pvC (lf s p) ((IntKind.wrap .i64 (d + 1))).toNat ⟨#[]⟩).2.1))))) 44)) (.one (.ret, ⟨Zp 72 [(4, .ptr 2 0)], ⟨[[.any, .any, .any, .any], [.any, .any, .any, .any, .any], [.lit (.string s), .lit (.int .i64 (atI s (sk (lf s (atI s (pvC (lf s p) ((IntKind.wrap .i64 (d + 1))).toNat ⟨#[]⟩).2.1))))), .sl false 5 (n + (pvC (lf s p) ((IntKind.wrap .i64 (d + 1))).toNat ⟨#[]⟩).2.2.length) (fun k => (Zf n f ++ (pvC (lf s p) ((IntKind.wrap .i64 (d + 1))).toNat ⟨#[]⟩).2.2.map Yr).getD k []), .lit (.int .i64 80)]], []⟩⟩)) (.one (.norm, stM6 s (IntKind.wrap .i64 ((atI s (sk (lf s (atI s (pvC (lf s p) ((IntKind.wrap .i64 (d + 1))).toNat ⟨#[]⟩).2.1)))) + 1)) (n + (pvC (lf s p) ((IntKind.wrap .i64 (d + 1))).toNat ⟨#[]⟩).2.2.length) (fun k => (Zf n f ++ (pvC (lf s p) ((IntKind.wrap .i64 (d + 1))).toNat ⟨#[]⟩).2.2.map Yr).getD k []) d k0))) .no)) .no) .no) (.two ((pvC (lf s p) ((IntKind.wrap .i64 (d + 1))).toNat ⟨#[]⟩).1 != 0) (.one (.ret, ⟨Zp 72 [(4, .ptr 2 0)], ⟨[[.any, .any, .any, .any], [.any, .any, .any, .any, .any], [.cell, .cell, .cell, .lit (.int .i64 ((pvC (lf s p) ((IntKind.wrap .i64 (d + 1))).toNat ⟨#[]⟩).1))]], []⟩⟩)) .no)) .no : Tr (Ev.Out × St)).run fun x => K x.1 x.2 := by kernel_rfl
theorem XP (l : B) (c : Nat) : (tk1 l c).1 = hdB (sk l) (c : Int) := by
 unfold tk1
 by_cases h : hd l = c ∧ sk l ≠ []
 ·rw [if_pos h, (YP l c).2 h]
 ·rw [if_neg h]
  cases e : hdB (sk l) (c : Int) with
  | false => rfl
  | true => exact absurd ((YP l c).1 e) h
theorem xO (l : B) (c : Nat) : (tk1 l c).2 = if hdB (sk l) (c : Int) = true then (sk l).drop 1 else sk l := by
 rw [← XP]
 unfold tk1
 by_cases h : hd l = c ∧ sk l ≠ []
 ·rw [if_pos h, if_pos rfl]
 ·rw [if_neg h, if_neg (by simp)]
theorem YH {l : B} {c : Int} (h : hdB l c = true) : 1 ≤ l.length := by
 unfold hdB at h
 have := (xbc h).1
 exact Ybr.2 this
theorem m6_rounds (X : Nat) (s : ByteArray) (D : Nat) (k0 : ByteArray) (hD : D < 64) : ∀ (N : Nat) (p : Int) (n : Nat) (f : Nat → List Value), (lf s p).length < N → vg s p → (lf s p).length < X → n + (lf s p).length < 1073741824 →
  ∃ m s1, (∀ K, rounds (Yz P0 (EV X) 9 48) (Xq P0 48 0) [4, 100000, 100001] m (stM6 s p n f D k0) K = K .ret s1) ∧ Weak s1 (YX (retC s n f (pmlC (lf s p) D false []))) := by
 intro N
 induction N with
 | zero => intro p n f hN; omega
 | succ N ih =>
  intro p n f hN hv hX hn
  have hW : IntKind.wrap .i64 ((D : Int) + 1) = ((D + 1 : Nat) : Int) := by rw [wrap_i64 (by omega) (by omega)]; rfl
  have F1 : gd (okV X s p n 0 ((D + 1 : Nat) : Int) 0 ⟨#[]⟩ 0) = true := gd_true ⟨hv, hX, hn, rfl, by omega, by omega, rfl, rfl, rfl⟩
  obtain ⟨L, hL⟩ : ∃ L, lf s p = L := ⟨_, rfl⟩
  have hLs : L <:+ s.data.toList := hL ▸ XY s p
  have hs := hv.2.2
  have hE := pmlC_eq L D false []
  rw [if_neg (by simp)] at hE
  obtain ⟨V, hV⟩ : ∃ V, pvC L (D + 1) e0 = V := ⟨_, rfl⟩
  have hV' : pvC L (D + 1) ⟨#[]⟩ = V := hV
  have hlen := (ZQ (3 * L.length + 1)).1 L (D + 1) e0
  rw [show pv (3 * L.length + 1) L (D + 1) e0 = V from hV] at hlen
  have hsuf := (p_suf (3 * L.length + 1)).1 L (D + 1) e0
  rw [show pv (3 * L.length + 1) L (D + 1) e0 = V from hV] at hsuf
  rw [hV] at hE
  rw [hL] at hN hX hn ⊢
  by_cases c1 : V.1 = 0
  case neg =>
   have hR : pma (fun x => pmlC x D false []) V false = (V.1, [], []) := by unfold pma; rw [if_neg c1]
   rw [hE, hR, show retC s n f (V.1, [], []) = [.cell, .cell, .cell, .lit (.int .i64 V.1)] from if_neg c1]
   refine ⟨1, _, Yn (rd_m6 X s p n f D k0) ?_ rfl, Weak.refl _⟩
   simp only [↓Yc, sel_one, hW, F1, hL, Ybd, hV', Ybf, Zbh, ne_eq, c1, not_false_eq_true, ↓reduceIte]
   rfl
  case pos =>
   have q1 := (hsuf c1).trans hLs
   have q2 : sk V.2.1 <:+ s.data.toList := (zF _).trans q1
   have e1 := YB s _ q1
   have e2 := YB s _ q2
   have F2 := gd_true (YA s _ q1 hs)
   have F3 := gd_true (YA s _ q2 hs)
   have hl := hlen c1
   have t93 : (tk1 V.2.1 93).1 = hdB (sk V.2.1) 93 := XP V.2.1 93
   have r93 := xO V.2.1 93
   cases c2 : hdB (sk V.2.1) 93 with
   | true =>
    have hp := YH c2
    have N1 : IntKind.wrap .i64 (atI s (sk V.2.1) + 1) = atI s ((sk V.2.1).drop 1) := zG s _ 1 q2 hs hp
    have hR : pma (fun x => pmlC x D false []) V false = (0, (sk V.2.1).drop 1, V.2.2) := by
     unfold pma cont
     rw [show en false = 93 from rfl, t93, r93, show hdB (sk V.2.1) ((93 : Nat) : Int) = true from c2, c2]
     simp [c1]
    rw [hE, hR]
    refine ⟨1, _, Yn (rd_m6 X s p n f D k0) ?_ rfl, Weak.refl _⟩
    simp only [↓Yc, sel_one, hW, F1, F2, F3, hL, e1, e2, Ybd, hV', c1, c2, N1, beq_self_eq_true, ↓reduceIte]
    rfl
   | false =>
    have r93' : (tk1 V.2.1 93).2 = sk V.2.1 := by rw [r93, show hdB (sk V.2.1) ((93 : Nat) : Int) = false from c2]; simp
    have t44 := XP (sk V.2.1) 44
    have r44 := xO (sk V.2.1) 44
    rw [sk_sk] at t44 r44
    cases c3 : hdB (sk V.2.1) 44 with
    | false =>
     have hR : pma (fun x => pmlC x D false []) V false = (80, [], V.2.2 ++ []) := by
      unfold pma cont
      rw [show en false = 93 from rfl, t93, c2, r93', t44, show hdB (sk V.2.1) ((44 : Nat) : Int) = false from c3]
      simp [c1]
     rw [hE, hR, show retC s n f (80, [], V.2.2 ++ []) = [.cell, .cell, .cell, .lit (.int .i64 80)] from if_neg (show ¬ (80 : Int) = 0 by decide)]
     refine ⟨1, YX [.lit (.string s), .lit (.int .i64 (atI s (sk V.2.1))), apL n f V.2.2, .lit (.int .i64 80)], Yn (rd_m6 X s p n f D k0) ?_ rfl, stRet_weak⟩
     simp only [↓Yc, sel_one, hW, F1, F2, F3, hL, e1, e2, Ybd, hV', c1, c2, c3, beq_self_eq_true, Zbq, Zbg, ↓reduceIte]
     rfl
    | true =>
     have hp := YH c3
     have N1 : IntKind.wrap .i64 (atI s (sk V.2.1) + 1) = atI s ((sk V.2.1).drop 1) := zG s _ 1 q2 hs hp
     have q3 : (sk V.2.1).drop 1 <:+ s.data.toList := (Xbl _ _).trans q2
     have e3 := YB s _ q3
     have z1 : ((sk V.2.1).drop 1).length + 1 ≤ V.2.1.length := by have := (zF V.2.1).length_le; rw [Zbb]; omega
     obtain ⟨m, s1, hm, hw⟩ := ih (atI s ((sk V.2.1).drop 1)) (n + V.2.2.length) (fun k => (Zf n f ++ V.2.2.map Yr).getD k []) (by rw [e3]; omega) (YA s _ q3 hs) (by rw [e3]; omega) (by rw [e3]; omega)
     rw [e3] at hw
     have hR : pma (fun x => pmlC x D false []) V false = ((pmlC ((sk V.2.1).drop 1) D false []).1, (pmlC ((sk V.2.1).drop 1) D false []).2.1, V.2.2 ++ (pmlC ((sk V.2.1).drop 1) D false []).2.2) := by
      unfold pma cont
      rw [show en false = 93 from rfl, t93, c2, r93', t44, r44, show hdB (sk V.2.1) ((44 : Nat) : Int) = true from c3]
      simp [c1]
     have hret : retC s n f (pma (fun x => pmlC x D false []) V false) = retC s (n + V.2.2.length) (fun k => (Zf n f ++ V.2.2.map Yr).getD k []) (pmlC ((sk V.2.1).drop 1) D false []) := by
      rw [hR]
      unfold retC
      rw [Yae]
     rw [hE, hret]
     refine ⟨m + 1, s1, ZD (rd_m6 X s p n f D k0) ?_ hm, hw⟩
     simp only [↓Yc, sel_one, hW, F1, F2, F3, hL, e1, e2, Ybd, hV', c1, c2, c3, N1, beq_self_eq_true, Zbq, Xbq, Zbg, ↓reduceIte]
def stM7 (s : ByteArray) (p : Int) (n : Nat) (f : Nat → List Value) (d : Int) (k0 : ByteArray) : St := ⟨Zp 72 [(2, .ptr 0 0), (3, .ptr 1 0), (4, .ptr 2 0), (5, .lit (.int .u8 125)), (6, .lit (.slice none 0 0))], ⟨[[.lit (.string s), .lit (.int .i64 p), .sl false 5 n f, .lit (.int .i64 0)], [.lit (.int .i64 d), .lit (.int .i64 7), .lit (.string k0), .lit (.string ⟨#[]⟩), .lit (.int .i64 0)], [.lit (.string ⟨#[]⟩), .lit (.int .i64 0), .lit (.slice none 0 0), .lit (.int .i64 0)]], []⟩⟩
def stM7G (s : ByteArray) (p : Int) (n : Nat) (f : Nat → List Value) (d : Int) (k0 : ByteArray) (m : Nat) (G : List (List Value)) : St := ⟨Zp 72 [(2, .ptr 0 0), (3, .ptr 1 0), (4, .ptr 2 0), (5, .lit (.int .u8 125)), (6, .gr 0 m)], ⟨[[.lit (.string s), .lit (.int .i64 p), .sl false 5 n f, .lit (.int .i64 0)], [.lit (.int .i64 d), .lit (.int .i64 7), .lit (.string k0), .lit (.string ⟨#[]⟩), .lit (.int .i64 0)], [.lit (.string ⟨#[]⟩), .lit (.int .i64 0), .lit (.slice none 0 0), .lit (.int .i64 0)]], [(1, G)]⟩⟩
theorem rd_m7 (X : Nat) (s : ByteArray) (p : Int) (n : Nat) (f : Nat → List Value) (d : Int) (k0 : ByteArray) (K : Ev.Out → St → Option Ans) : XJ (Yz P0 (EV X) 9 48) (Xq P0 48 0) [4, 100000, 100001] (stM7 s p n f d k0) K = (.two (gd (vg s p ∧ strE 0 (fun _ => []) ∧ 0 ≤ 1073741824)) (.two ((pk (lf s p) (strL 0 (fun _ => []))).2.2 == 0) (.two (gd (okV X s (atI s (pk (lf s p) (strL 0 (fun _ => []))).2.1) n 0 (IntKind.wrap .i64 (d + 1)) 0 ⟨#[]⟩ 0)) (.two ((pvC (lf s (atI s (pk (lf s p) (strL 0 (fun _ => []))).2.1)) ((IntKind.wrap .i64 (d + 1))).toNat ((pk (lf s p) (strL 0 (fun _ => []))).1)).1 == 0) (.two (gd (vg s (atI s (pvC (lf s (atI s (pk (lf s p) (strL 0 (fun _ => []))).2.1)) ((IntKind.wrap .i64 (d + 1))).toNat ((pk (lf s p) (strL 0 (fun _ => []))).1)).2.1))) (.two (gd (vg s (atI s (sk (lf s (atI s (pvC (lf s (atI s (pk (lf s p) (strL 0 (fun _ => []))).2.1)) ((IntKind.wrap .i64 (d + 1))).toNat ((pk (lf s p) (strL 0 (fun _ => []))).1)).2.1)))))) (.two (hdB (lf s (atI s (sk (lf s (atI s (pvC (lf s (atI s (pk (lf s p) (strL 0 (fun _ => []))).2.1)) ((IntKind.wrap .i64 (d + 1))).toNat ((pk (lf s p) (strL 0 (fun _ => []))).1)).2.1))))) 125) (.one (.ret, ⟨Zp 72 [(4, .ptr 2 0)], ⟨[[.any, .any, .any, .any], [.any, .any, .any, .any, .any], [.lit (.string s), .lit (.int .i64 (IntKind.wrap .i64 ((atI s (sk (lf s (atI s (pvC (lf s (atI s (pk (lf s p) (strL 0 (fun _ => []))).2.1)) ((IntKind.wrap .i64 (d + 1))).toNat ((pk (lf s p) (strL 0 (fun _ => []))).1)).2.1)))) + 1))), .sl false 5 (n + (pvC (lf s (atI s (pk (lf s p) (strL 0 (fun _ => []))).2.1)) ((IntKind.wrap .i64 (d + 1))).toNat ((pk (lf s p) (strL 0 (fun _ => []))).1)).2.2.length) (fun k => (Zf n f ++ (pvC (lf s (atI s (pk (lf s p) (strL 0 (fun _ => []))).2.1)) ((IntKind.wrap .i64 (d + 1))).toNat ((pk (lf s p) (strL 0 (fun _ => []))).1)).2.2.map Yr).getD k []), .lit (.int .i64 0)]], []⟩⟩)) (.two (gd (vg s (atI s (sk (lf s (atI s (pvC (lf s (atI s (pk (lf s p) (strL 0 (fun _ => []))).2.1)) ((IntKind.wrap .i64 (d + 1))).toNat ((pk (lf s p) (strL 0 (fun _ => []))).1)).2.1)))))) (.two (!(hdB (lf s (atI s (sk (lf s (atI s (pvC (lf s (atI s (pk (lf s p) (strL 0 (fun _ => []))).2.1)) ((IntKind.wrap .i64 (d + 1))).toNat ((pk (lf s p) (strL 0 (fun _ => []))).1)).2.1))))) 44)) (.one (.ret, ⟨Zp 72 [(4, .ptr 2 0)], ⟨[[.any, .any, .any, .any], [.any, .any, .any, .any, .any], [.lit (.string s), .lit (.int .i64 (atI s (sk (lf s (atI s (pvC (lf s (atI s (pk (lf s p) (strL 0 (fun _ => []))).2.1)) ((IntKind.wrap .i64 (d + 1))).toNat ((pk (lf s p) (strL 0 (fun _ => []))).1)).2.1))))), .sl false 5 (n + (pvC (lf s (atI s (pk (lf s p) (strL 0 (fun _ => []))).2.1)) ((IntKind.wrap .i64 (d + 1))).toNat ((pk (lf s p) (strL 0 (fun _ => []))).1)).2.2.length) (fun k => (Zf n f ++ (pvC (lf s (atI s (pk (lf s p) (strL 0 (fun _ => []))).2.1)) ((IntKind.wrap .i64 (d + 1))).toNat ((pk (lf s p) (strL 0 (fun _ => []))).1)).2.2.map Yr).getD k []), .lit (.int .i64 80)]], []⟩⟩)) (.one (.norm, stM7G s (IntKind.wrap .i64 ((atI s (sk (lf s (atI s (pvC (lf s (atI s (pk (lf s p) (strL 0 (fun _ => []))).2.1)) ((IntKind.wrap .i64 (d + 1))).toNat ((pk (lf s p) (strL 0 (fun _ => []))).1)).2.1)))) + 1)) (n + (pvC (lf s (atI s (pk (lf s p) (strL 0 (fun _ => []))).2.1)) ((IntKind.wrap .i64 (d + 1))).toNat ((pk (lf s p) (strL 0 (fun _ => []))).1)).2.2.length) (fun k => (Zf n f ++ (pvC (lf s (atI s (pk (lf s p) (strL 0 (fun _ => []))).2.1)) ((IntKind.wrap .i64 (d + 1))).toNat ((pk (lf s p) (strL 0 (fun _ => []))).1)).2.2.map Yr).getD k []) d k0 1 ([[.string ((pk (lf s p) (strL 0 (fun _ => []))).1)]] : List (List Value))))) .no)) .no) .no) (.two ((pvC (lf s (atI s (pk (lf s p) (strL 0 (fun _ => []))).2.1)) ((IntKind.wrap .i64 (d + 1))).toNat ((pk (lf s p) (strL 0 (fun _ => []))).1)).1 != 0) (.one (.ret, ⟨Zp 72 [(4, .ptr 2 0)], ⟨[[.any, .any, .any, .any], [.any, .any, .any, .any, .any], [.cell, .cell, .cell, .lit (.int .i64 ((pvC (lf s (atI s (pk (lf s p) (strL 0 (fun _ => []))).2.1)) ((IntKind.wrap .i64 (d + 1))).toNat ((pk (lf s p) (strL 0 (fun _ => []))).1)).1))]], []⟩⟩)) .no)) .no) (.two ((pk (lf s p) (strL 0 (fun _ => []))).2.2 != 0) (.one (.ret, ⟨Zp 72 [(4, .ptr 2 0)], ⟨[[.any, .any, .any, .any], [.any, .any, .any, .any, .any], [.cell, .cell, .cell, .lit (.int .i64 ((pk (lf s p) (strL 0 (fun _ => []))).2.2))]], []⟩⟩)) .no)) .no : Tr (Ev.Out × St)).run fun x => K x.1 x.2 := by kernel_rfl
theorem Yap (X : Nat) (s : ByteArray) (p : Int) (n : Nat) (f : Nat → List Value) (d : Int) (k0 : ByteArray) (m : Nat) (G : List (List Value)) (K : Ev.Out → St → Option Ans) : XJ (Yz P0 (EV X) 9 48) (Xq P0 48 0) [4, 100000, 100001] (stM7G s p n f d k0 m G) K = (.two (gd (vg s p ∧ strE m (fun k => (G).getD k []) ∧ m ≤ 1073741824)) (.two ((pk (lf s p) (strL m (fun k => (G).getD k []))).2.2 == 0) (.two (decide (m = G.length ∧ m + 1 ≤ lim)) (.two (gd (okV X s (atI s (pk (lf s p) (strL m (fun k => (G).getD k []))).2.1) n 0 (IntKind.wrap .i64 (d + 1)) 0 ⟨#[]⟩ 0)) (.two ((pvC (lf s (atI s (pk (lf s p) (strL m (fun k => (G).getD k []))).2.1)) ((IntKind.wrap .i64 (d + 1))).toNat ((pk (lf s p) (strL m (fun k => (G).getD k []))).1)).1 == 0) (.two (gd (vg s (atI s (pvC (lf s (atI s (pk (lf s p) (strL m (fun k => (G).getD k []))).2.1)) ((IntKind.wrap .i64 (d + 1))).toNat ((pk (lf s p) (strL m (fun k => (G).getD k []))).1)).2.1))) (.two (gd (vg s (atI s (sk (lf s (atI s (pvC (lf s (atI s (pk (lf s p) (strL m (fun k => (G).getD k []))).2.1)) ((IntKind.wrap .i64 (d + 1))).toNat ((pk (lf s p) (strL m (fun k => (G).getD k []))).1)).2.1)))))) (.two (hdB (lf s (atI s (sk (lf s (atI s (pvC (lf s (atI s (pk (lf s p) (strL m (fun k => (G).getD k []))).2.1)) ((IntKind.wrap .i64 (d + 1))).toNat ((pk (lf s p) (strL m (fun k => (G).getD k []))).1)).2.1))))) 125) (.one (.ret, ⟨Zp 72 [(4, .ptr 2 0)], ⟨[[.any, .any, .any, .any], [.any, .any, .any, .any, .any], [.lit (.string s), .lit (.int .i64 (IntKind.wrap .i64 ((atI s (sk (lf s (atI s (pvC (lf s (atI s (pk (lf s p) (strL m (fun k => (G).getD k []))).2.1)) ((IntKind.wrap .i64 (d + 1))).toNat ((pk (lf s p) (strL m (fun k => (G).getD k []))).1)).2.1)))) + 1))), .sl false 5 (n + (pvC (lf s (atI s (pk (lf s p) (strL m (fun k => (G).getD k []))).2.1)) ((IntKind.wrap .i64 (d + 1))).toNat ((pk (lf s p) (strL m (fun k => (G).getD k []))).1)).2.2.length) (fun k => (Zf n f ++ (pvC (lf s (atI s (pk (lf s p) (strL m (fun k => (G).getD k []))).2.1)) ((IntKind.wrap .i64 (d + 1))).toNat ((pk (lf s p) (strL m (fun k => (G).getD k []))).1)).2.2.map Yr).getD k []), .lit (.int .i64 0)]], []⟩⟩)) (.two (gd (vg s (atI s (sk (lf s (atI s (pvC (lf s (atI s (pk (lf s p) (strL m (fun k => (G).getD k []))).2.1)) ((IntKind.wrap .i64 (d + 1))).toNat ((pk (lf s p) (strL m (fun k => (G).getD k []))).1)).2.1)))))) (.two (!(hdB (lf s (atI s (sk (lf s (atI s (pvC (lf s (atI s (pk (lf s p) (strL m (fun k => (G).getD k []))).2.1)) ((IntKind.wrap .i64 (d + 1))).toNat ((pk (lf s p) (strL m (fun k => (G).getD k []))).1)).2.1))))) 44)) (.one (.ret, ⟨Zp 72 [(4, .ptr 2 0)], ⟨[[.any, .any, .any, .any], [.any, .any, .any, .any, .any], [.lit (.string s), .lit (.int .i64 (atI s (sk (lf s (atI s (pvC (lf s (atI s (pk (lf s p) (strL m (fun k => (G).getD k []))).2.1)) ((IntKind.wrap .i64 (d + 1))).toNat ((pk (lf s p) (strL m (fun k => (G).getD k []))).1)).2.1))))), .sl false 5 (n + (pvC (lf s (atI s (pk (lf s p) (strL m (fun k => (G).getD k []))).2.1)) ((IntKind.wrap .i64 (d + 1))).toNat ((pk (lf s p) (strL m (fun k => (G).getD k []))).1)).2.2.length) (fun k => (Zf n f ++ (pvC (lf s (atI s (pk (lf s p) (strL m (fun k => (G).getD k []))).2.1)) ((IntKind.wrap .i64 (d + 1))).toNat ((pk (lf s p) (strL m (fun k => (G).getD k []))).1)).2.2.map Yr).getD k []), .lit (.int .i64 80)]], []⟩⟩)) (.one (.norm, stM7G s (IntKind.wrap .i64 ((atI s (sk (lf s (atI s (pvC (lf s (atI s (pk (lf s p) (strL m (fun k => (G).getD k []))).2.1)) ((IntKind.wrap .i64 (d + 1))).toNat ((pk (lf s p) (strL m (fun k => (G).getD k []))).1)).2.1)))) + 1)) (n + (pvC (lf s (atI s (pk (lf s p) (strL m (fun k => (G).getD k []))).2.1)) ((IntKind.wrap .i64 (d + 1))).toNat ((pk (lf s p) (strL m (fun k => (G).getD k []))).1)).2.2.length) (fun k => (Zf n f ++ (pvC (lf s (atI s (pk (lf s p) (strL m (fun k => (G).getD k []))).2.1)) ((IntKind.wrap .i64 (d + 1))).toNat ((pk (lf s p) (strL m (fun k => (G).getD k []))).1)).2.2.map Yr).getD k []) d k0 (m + 1) (G ++ ([[.string ((pk (lf s p) (strL m (fun k => (G).getD k []))).1)]] : List (List Value)))))) .no)) .no) .no) (.two ((pvC (lf s (atI s (pk (lf s p) (strL m (fun k => (G).getD k []))).2.1)) ((IntKind.wrap .i64 (d + 1))).toNat ((pk (lf s p) (strL m (fun k => (G).getD k []))).1)).1 != 0) (.one (.ret, ⟨Zp 72 [(4, .ptr 2 0)], ⟨[[.any, .any, .any, .any], [.any, .any, .any, .any, .any], [.cell, .cell, .cell, .lit (.int .i64 ((pvC (lf s (atI s (pk (lf s p) (strL m (fun k => (G).getD k []))).2.1)) ((IntKind.wrap .i64 (d + 1))).toNat ((pk (lf s p) (strL m (fun k => (G).getD k []))).1)).1))]], []⟩⟩)) .no)) .no) .no) (.two ((pk (lf s p) (strL m (fun k => (G).getD k []))).2.2 != 0) (.one (.ret, ⟨Zp 72 [(4, .ptr 2 0)], ⟨[[.any, .any, .any, .any], [.any, .any, .any, .any, .any], [.cell, .cell, .cell, .lit (.int .i64 ((pk (lf s p) (strL m (fun k => (G).getD k []))).2.2))]], []⟩⟩)) .no)) .no : Tr (Ev.Out × St)).run fun x => K x.1 x.2 := by kernel_rfl
def keyR (K : List ByteArray) : List (List Value) := K.map fun k => [.string k]
def stK (s : ByteArray) (p : Int) (n : Nat) (f : Nat → List Value) (d : Int) (k0 : ByteArray) : List ByteArray → St
 | [] => stM7 s p n f d k0
 | k :: r => stM7G s p n f d k0 (k :: r).length (keyR (k :: r))
theorem XaZ (K : List ByteArray) (i : Nat) (h : i < K.length) : (keyR K).getD i [] = [.string (K.getD i ⟨#[]⟩)] := by
 simp only [keyR, zbe, Xbn, zbf h, xbo, ybt]
theorem keyR_E (K : List ByteArray) : strE K.length (fun k => (keyR K).getD k []) := fun i hi => by
 simp only [XaZ K i hi, strD]
theorem keyR_L (K : List ByteArray) : strL K.length (fun k => (keyR K).getD k []) = K := by
 have : strL K.length (fun k => (keyR K).getD k []) = strL K.length (strF K) := by
  unfold strL
  refine List.map_congr_left fun i hi => ?_
  show strD ((keyR K).getD i []) = _
  rw [XaZ K i (by simpa using hi)]; rfl
 rw [this, strL_F]
theorem strL0 (f : Nat → List Value) : strL 0 f = [] := rfl
theorem m7_rounds (X : Nat) (s : ByteArray) (D : Nat) (k0 : ByteArray) (hD : D < 64) : ∀ (N : Nat) (p : Int) (n : Nat) (f : Nat → List Value) (K : List ByteArray), (lf s p).length < N → vg s p → (lf s p).length < X → n + (lf s p).length < 1073741824 → K.length + (lf s p).length < 1073741824 →
  ∃ m s1, (∀ Q, rounds (Yz P0 (EV X) 9 48) (Xq P0 48 0) [4, 100000, 100001] m (stK s p n f D k0 K) Q = Q .ret s1) ∧ Weak s1 (YX (retC s n f (pmlC (lf s p) D true K))) := by
 intro N
 induction N with
 | zero => intro p n f K hN; omega
 | succ N ih =>
  intro p n f K hN hv hX hn hk
  have hW : IntKind.wrap .i64 ((D : Int) + 1) = ((D + 1 : Nat) : Int) := by rw [wrap_i64 (by omega) (by omega)]; rfl
  obtain ⟨L, hL⟩ : ∃ L, lf s p = L := ⟨_, rfl⟩
  have hLs : L <:+ s.data.toList := hL ▸ XY s p
  have hs := hv.2.2
  have hE := pmlC_eq L D true K
  rw [if_pos rfl] at hE
  rw [hL] at hN hX hn hk ⊢
  cases K with
  | nil =>
   have F1 : gd (vg s p ∧ strE 0 (fun _ => []) ∧ 0 ≤ 1073741824) = true := gd_true ⟨hv, fun i hi => by omega, by omega⟩
   show ∃ m s1, (∀ Q, rounds (Yz P0 (EV X) 9 48) (Xq P0 48 0) [4, 100000, 100001] m (stM7 s p n f D k0) Q = Q .ret s1) ∧ _
   by_cases c0 : (pk L []).2.2 = 0
   case neg =>
    rw [hE, if_neg c0, show retC s n f ((pk L []).2.2, [], []) = [.cell, .cell, .cell, .lit (.int .i64 (pk L []).2.2)] from if_neg c0]
    refine ⟨1, _, Yn (rd_m7 X s p n f D k0) ?_ rfl, Weak.refl _⟩
    simp only [↓Yc, sel_one, hW, F1, hL, Ybd, strL0, Ybf, Zbh, ne_eq, c0, not_false_eq_true, ↓reduceIte]
    rfl
   case pos =>
    obtain ⟨kk, hkk⟩ : ∃ kk, (pk L []).1 = kk := ⟨_, rfl⟩
    obtain ⟨L0, hL0⟩ : ∃ L0, (pk L []).2.1 = L0 := ⟨_, rfl⟩
    have k1 := Z5 L [] c0
    have k2 := (pk_suf L [] c0).trans hLs
    rw [hkk, hL0, if_pos c0] at hE
    rw [hL0] at k1 k2
    have e0' := YB s _ k2
    have v0 := YA s _ k2 hs
    have F1' : gd (okV X s (atI s L0) n 0 ((D + 1 : Nat) : Int) 0 ⟨#[]⟩ 0) = true := gd_true ⟨v0, by rw [e0']; omega, by rw [e0']; omega, rfl, by omega, by omega, rfl, rfl, rfl⟩
    obtain ⟨V, hV⟩ : ∃ V, pvC L0 (D + 1) kk = V := ⟨_, rfl⟩
    have hlen := (ZQ (3 * L0.length + 1)).1 L0 (D + 1) kk
    rw [show pv (3 * L0.length + 1) L0 (D + 1) kk = V from hV] at hlen
    have hsuf := (p_suf (3 * L0.length + 1)).1 L0 (D + 1) kk
    rw [show pv (3 * L0.length + 1) L0 (D + 1) kk = V from hV] at hsuf
    rw [hV] at hE
    by_cases c1 : V.1 = 0
    case neg =>
     have hR : pma (fun x => pmlC x D true ([] ++ [kk])) V true = (V.1, [], []) := by unfold pma; rw [if_neg c1]
     rw [hE, hR, show retC s n f (V.1, [], []) = [.cell, .cell, .cell, .lit (.int .i64 V.1)] from if_neg c1]
     refine ⟨1, _, Yn (rd_m7 X s p n f D k0) ?_ rfl, Weak.refl _⟩
     simp only [↓Yc, sel_one, hW, F1, hL, Ybd, strL0, F1', c0, hkk, hL0, e0', hV, Ybf, Zbh, ne_eq, c1, not_false_eq_true, ↓reduceIte]
     rfl
    case pos =>
     have q1 := (hsuf c1).trans k2
     have q2 : sk V.2.1 <:+ s.data.toList := (zF _).trans q1
     have e1 := YB s _ q1
     have e2 := YB s _ q2
     have F2 := gd_true (YA s _ q1 hs)
     have F3 := gd_true (YA s _ q2 hs)
     have hl := hlen c1
     have t93 : (tk1 V.2.1 125).1 = hdB (sk V.2.1) 125 := XP V.2.1 125
     have r93 := xO V.2.1 125
     cases c2 : hdB (sk V.2.1) 125 with
     | true =>
      have hp := YH c2
      have N1 : IntKind.wrap .i64 (atI s (sk V.2.1) + 1) = atI s ((sk V.2.1).drop 1) := zG s _ 1 q2 hs hp
      have hR : pma (fun x => pmlC x D true ([] ++ [kk])) V true = (0, (sk V.2.1).drop 1, V.2.2) := by
       unfold pma cont
       rw [show en true = 125 from rfl, t93, r93, show hdB (sk V.2.1) ((125 : Nat) : Int) = true from c2, c2]
       simp [c1]
      rw [hE, hR]
      refine ⟨1, _, Yn (rd_m7 X s p n f D k0) ?_ rfl, Weak.refl _⟩
      simp only [↓Yc, sel_one, hW, F1, hL, Ybd, strL0, F1', c0, hkk, hL0, e0', F2, F3, e1, e2, hV, c1, c2, N1, beq_self_eq_true, ↓reduceIte]
      rfl
     | false =>
      have r93' : (tk1 V.2.1 125).2 = sk V.2.1 := by rw [r93, show hdB (sk V.2.1) ((125 : Nat) : Int) = false from c2]; simp
      have t44 := XP (sk V.2.1) 44
      have r44 := xO (sk V.2.1) 44
      rw [sk_sk] at t44 r44
      cases c3 : hdB (sk V.2.1) 44 with
      | false =>
       have hR : pma (fun x => pmlC x D true ([] ++ [kk])) V true = (80, [], V.2.2 ++ []) := by
        unfold pma cont
        rw [show en true = 125 from rfl, t93, c2, r93', t44, show hdB (sk V.2.1) ((44 : Nat) : Int) = false from c3]
        simp [c1]
       rw [hE, hR, show retC s n f (80, [], V.2.2 ++ []) = [.cell, .cell, .cell, .lit (.int .i64 80)] from if_neg (show ¬ (80 : Int) = 0 by decide)]
       refine ⟨1, YX [.lit (.string s), .lit (.int .i64 (atI s (sk V.2.1))), apL n f V.2.2, .lit (.int .i64 80)], Yn (rd_m7 X s p n f D k0) ?_ rfl, stRet_weak⟩
       simp only [↓Yc, sel_one, hW, F1, hL, Ybd, strL0, F1', c0, hkk, hL0, e0', F2, F3, e1, e2, hV, c1, c2, c3, beq_self_eq_true, Zbq, Zbg, ↓reduceIte]
       rfl
      | true =>
       have hp := YH c3
       have N1 : IntKind.wrap .i64 (atI s (sk V.2.1) + 1) = atI s ((sk V.2.1).drop 1) := zG s _ 1 q2 hs hp
       have q3 : (sk V.2.1).drop 1 <:+ s.data.toList := (Xbl _ _).trans q2
       have e3 := YB s _ q3
       have z1 : ((sk V.2.1).drop 1).length + 1 ≤ V.2.1.length := by have := (zF V.2.1).length_le; rw [Zbb]; omega
       obtain ⟨m, s1, hm, hw⟩ := ih (atI s ((sk V.2.1).drop 1)) (n + V.2.2.length) (fun k => (Zf n f ++ V.2.2.map Yr).getD k []) ([] ++ [kk]) (by rw [e3]; omega) (YA s _ q3 hs) (by rw [e3]; omega) (by rw [e3]; omega) (by rw [e3]; simp only [Xbb, Xbd, Xbg] at hk ⊢; omega)
       rw [e3] at hw
       have hR : pma (fun x => pmlC x D true ([] ++ [kk])) V true = ((pmlC ((sk V.2.1).drop 1) D true ([] ++ [kk])).1, (pmlC ((sk V.2.1).drop 1) D true ([] ++ [kk])).2.1, V.2.2 ++ (pmlC ((sk V.2.1).drop 1) D true ([] ++ [kk])).2.2) := by
        unfold pma cont
        rw [show en true = 125 from rfl, t93, c2, r93', t44, r44, show hdB (sk V.2.1) ((44 : Nat) : Int) = true from c3]
        simp [c1]
       have hret : retC s n f (pma (fun x => pmlC x D true ([] ++ [kk])) V true) = retC s (n + V.2.2.length) (fun k => (Zf n f ++ V.2.2.map Yr).getD k []) (pmlC ((sk V.2.1).drop 1) D true ([] ++ [kk])) := by
        rw [hR]
        unfold retC
        rw [Yae]
       rw [hE, hret]
       refine ⟨m + 1, s1, ZD (rd_m7 X s p n f D k0) ?_ hm, hw⟩
       simp only [↓Yc, sel_one, hW, F1, hL, Ybd, strL0, F1', c0, hkk, hL0, e0', F2, F3, e1, e2, hV, c1, c2, c3, N1, beq_self_eq_true, Zbq, Xbq, Zbg, ↓reduceIte]
       rfl
  | cons a r =>
   have F1 : gd (vg s p ∧ strE (a :: r).length (fun k => (keyR (a :: r)).getD k []) ∧ (a :: r).length ≤ 1073741824) = true := gd_true ⟨hv, keyR_E _, by omega⟩
   have G1 : decide ((a :: r).length = (keyR (a :: r)).length ∧ (a :: r).length + 1 ≤ lim) = true := decide_eq_true ⟨by simp [keyR], by show _ ≤ 1073741824; omega⟩
   show ∃ m s1, (∀ Q, rounds (Yz P0 (EV X) 9 48) (Xq P0 48 0) [4, 100000, 100001] m (stM7G s p n f D k0 (a :: r).length (keyR (a :: r))) Q = Q .ret s1) ∧ _
   by_cases c0 : (pk L (a :: r)).2.2 = 0
   case neg =>
    rw [hE, if_neg c0, show retC s n f ((pk L (a :: r)).2.2, [], []) = [.cell, .cell, .cell, .lit (.int .i64 (pk L (a :: r)).2.2)] from if_neg c0]
    refine ⟨1, _, Yn (Yap X s p n f D k0 (a :: r).length (keyR (a :: r))) ?_ rfl, Weak.refl _⟩
    simp only [↓Yc, sel_one, hW, F1, hL, Ybd, keyR_L, G1, Ybf, Zbh, ne_eq, c0, not_false_eq_true, ↓reduceIte]
    rfl
   case pos =>
    obtain ⟨kk, hkk⟩ : ∃ kk, (pk L (a :: r)).1 = kk := ⟨_, rfl⟩
    obtain ⟨L0, hL0⟩ : ∃ L0, (pk L (a :: r)).2.1 = L0 := ⟨_, rfl⟩
    have k1 := Z5 L (a :: r) c0
    have k2 := (pk_suf L (a :: r) c0).trans hLs
    rw [hkk, hL0, if_pos c0] at hE
    rw [hL0] at k1 k2
    have e0' := YB s _ k2
    have v0 := YA s _ k2 hs
    have F1' : gd (okV X s (atI s L0) n 0 ((D + 1 : Nat) : Int) 0 ⟨#[]⟩ 0) = true := gd_true ⟨v0, by rw [e0']; omega, by rw [e0']; omega, rfl, by omega, by omega, rfl, rfl, rfl⟩
    obtain ⟨V, hV⟩ : ∃ V, pvC L0 (D + 1) kk = V := ⟨_, rfl⟩
    have hlen := (ZQ (3 * L0.length + 1)).1 L0 (D + 1) kk
    rw [show pv (3 * L0.length + 1) L0 (D + 1) kk = V from hV] at hlen
    have hsuf := (p_suf (3 * L0.length + 1)).1 L0 (D + 1) kk
    rw [show pv (3 * L0.length + 1) L0 (D + 1) kk = V from hV] at hsuf
    rw [hV] at hE
    by_cases c1 : V.1 = 0
    case neg =>
     have hR : pma (fun x => pmlC x D true ((a :: r) ++ [kk])) V true = (V.1, [], []) := by unfold pma; rw [if_neg c1]
     rw [hE, hR, show retC s n f (V.1, [], []) = [.cell, .cell, .cell, .lit (.int .i64 V.1)] from if_neg c1]
     refine ⟨1, _, Yn (Yap X s p n f D k0 (a :: r).length (keyR (a :: r))) ?_ rfl, Weak.refl _⟩
     simp only [↓Yc, sel_one, hW, F1, hL, Ybd, keyR_L, G1, F1', c0, hkk, hL0, e0', hV, Ybf, Zbh, ne_eq, c1, not_false_eq_true, ↓reduceIte]
     rfl
    case pos =>
     have q1 := (hsuf c1).trans k2
     have q2 : sk V.2.1 <:+ s.data.toList := (zF _).trans q1
     have e1 := YB s _ q1
     have e2 := YB s _ q2
     have F2 := gd_true (YA s _ q1 hs)
     have F3 := gd_true (YA s _ q2 hs)
     have hl := hlen c1
     have t93 : (tk1 V.2.1 125).1 = hdB (sk V.2.1) 125 := XP V.2.1 125
     have r93 := xO V.2.1 125
     cases c2 : hdB (sk V.2.1) 125 with
     | true =>
      have hp := YH c2
      have N1 : IntKind.wrap .i64 (atI s (sk V.2.1) + 1) = atI s ((sk V.2.1).drop 1) := zG s _ 1 q2 hs hp
      have hR : pma (fun x => pmlC x D true ((a :: r) ++ [kk])) V true = (0, (sk V.2.1).drop 1, V.2.2) := by
       unfold pma cont
       rw [show en true = 125 from rfl, t93, r93, show hdB (sk V.2.1) ((125 : Nat) : Int) = true from c2, c2]
       simp [c1]
      rw [hE, hR]
      refine ⟨1, _, Yn (Yap X s p n f D k0 (a :: r).length (keyR (a :: r))) ?_ rfl, Weak.refl _⟩
      simp only [↓Yc, sel_one, hW, F1, hL, Ybd, keyR_L, G1, F1', c0, hkk, hL0, e0', F2, F3, e1, e2, hV, c1, c2, N1, beq_self_eq_true, ↓reduceIte]
      rfl
     | false =>
      have r93' : (tk1 V.2.1 125).2 = sk V.2.1 := by rw [r93, show hdB (sk V.2.1) ((125 : Nat) : Int) = false from c2]; simp
      have t44 := XP (sk V.2.1) 44
      have r44 := xO (sk V.2.1) 44
      rw [sk_sk] at t44 r44
      cases c3 : hdB (sk V.2.1) 44 with
      | false =>
       have hR : pma (fun x => pmlC x D true ((a :: r) ++ [kk])) V true = (80, [], V.2.2 ++ []) := by
        unfold pma cont
        rw [show en true = 125 from rfl, t93, c2, r93', t44, show hdB (sk V.2.1) ((44 : Nat) : Int) = false from c3]
        simp [c1]
       rw [hE, hR, show retC s n f (80, [], V.2.2 ++ []) = [.cell, .cell, .cell, .lit (.int .i64 80)] from if_neg (show ¬ (80 : Int) = 0 by decide)]
       refine ⟨1, YX [.lit (.string s), .lit (.int .i64 (atI s (sk V.2.1))), apL n f V.2.2, .lit (.int .i64 80)], Yn (Yap X s p n f D k0 (a :: r).length (keyR (a :: r))) ?_ rfl, stRet_weak⟩
       simp only [↓Yc, sel_one, hW, F1, hL, Ybd, keyR_L, G1, F1', c0, hkk, hL0, e0', F2, F3, e1, e2, hV, c1, c2, c3, beq_self_eq_true, Zbq, Zbg, ↓reduceIte]
       rfl
      | true =>
       have hp := YH c3
       have N1 : IntKind.wrap .i64 (atI s (sk V.2.1) + 1) = atI s ((sk V.2.1).drop 1) := zG s _ 1 q2 hs hp
       have q3 : (sk V.2.1).drop 1 <:+ s.data.toList := (Xbl _ _).trans q2
       have e3 := YB s _ q3
       have z1 : ((sk V.2.1).drop 1).length + 1 ≤ V.2.1.length := by have := (zF V.2.1).length_le; rw [Zbb]; omega
       obtain ⟨m, s1, hm, hw⟩ := ih (atI s ((sk V.2.1).drop 1)) (n + V.2.2.length) (fun k => (Zf n f ++ V.2.2.map Yr).getD k []) ((a :: r) ++ [kk]) (by rw [e3]; omega) (YA s _ q3 hs) (by rw [e3]; omega) (by rw [e3]; omega) (by rw [e3]; simp only [Xbb, Xbd, Xbg] at hk ⊢; omega)
       rw [e3] at hw
       have hR : pma (fun x => pmlC x D true ((a :: r) ++ [kk])) V true = ((pmlC ((sk V.2.1).drop 1) D true ((a :: r) ++ [kk])).1, (pmlC ((sk V.2.1).drop 1) D true ((a :: r) ++ [kk])).2.1, V.2.2 ++ (pmlC ((sk V.2.1).drop 1) D true ((a :: r) ++ [kk])).2.2) := by
        unfold pma cont
        rw [show en true = 125 from rfl, t93, c2, r93', t44, r44, show hdB (sk V.2.1) ((44 : Nat) : Int) = true from c3]
        simp [c1]
       have hret : retC s n f (pma (fun x => pmlC x D true ((a :: r) ++ [kk])) V true) = retC s (n + V.2.2.length) (fun k => (Zf n f ++ V.2.2.map Yr).getD k []) (pmlC ((sk V.2.1).drop 1) D true ((a :: r) ++ [kk])) := by
        rw [hR]
        unfold retC
        rw [Yae]
       rw [hE, hret]
       refine ⟨m + 1, s1, ZD (Yap X s p n f D k0 (a :: r).length (keyR (a :: r))) ?_ hm, hw⟩
       simp only [↓Yc, sel_one, hW, F1, hL, Ybd, keyR_L, G1, F1', c0, hkk, hL0, e0', F2, F3, e1, e2, hV, c1, c2, c3, N1, beq_self_eq_true, Zbq, Xbq, Zbg, ↓reduceIte]
       simp only [Zbl, stK, keyR, xbq, Xbf, ybg, Xbd, Xbb, Xbg, xbl]
def okL (X : Nat) (s : ByteArray) (p : Int) (n : Nat) (d : Int) : Prop := vg s p ∧ (lf s p).length < X ∧ n + (lf s p).length < 1073741824 ∧ 0 ≤ d ∧ d < 64
noncomputable def lpA (s : ByteArray) (n : Nat) (f : Nat → List Value) (r : Int × B × List S40) : Tr (Ev.Out × St) := .two (r.1 == 0) (.one (.ret, YX [.lit (.string s), .lit (.int .i64 (atI s r.2.1)), apL n f r.2.2, .lit (.int .i64 0)])) (.one (.ret, YX [.cell, .cell, .cell, .lit (.int .i64 r.1)]))
theorem lpA_sel {s : ByteArray} {n : Nat} {f : Nat → List Value} {r : Int × B × List S40} {x : Ev.Out × St} (h : (lpA s n f r).sel = some x) : x = (.ret, YX (retC s n f r)) := by
 unfold lpA at h
 unfold retC
 rw [Yc] at h
 by_cases c : r.1 = 0
 ·rw [if_pos (Ybf.2 c), sel_one] at h
  rw [if_pos c]; exact (Option.some.inj h).symm
 ·rw [if_neg (fun y => c (Ybf.1 y)), sel_one] at h
  rw [if_neg c]; exact (Option.some.inj h).symm
noncomputable def spML (X : Nat) (st : St) : Option (Tr (Ev.Out × St)) :=
 let s := (st.cell 0 0).str; let p := (st.cell 0 1).int; let n := (st.cell 0 2).sn; let f := (st.cell 0 2).sf; let d := (st.cell 1 0).int; let k0 := (st.cell 1 2).str
 if (st.at 5).int == 93 then some (.two (gd (st = stM6 s p n f d k0 ∧ okL X s p n d)) (lpA s n f (pmlC (lf s p) d.toNat false [])) .no)
 else some (.two (gd (st = stM7 s p n f d k0 ∧ okL X s p n d)) (lpA s n f (pmlC (lf s p) d.toNat true [])) .no)
theorem okML {X : Nat} (ok : EnvOk P0 (EV X)) : EnvOk P0 ((EV X).knowLoop 48 9 (spML X)) := ok.knowWeak (j := 0) (kx := [4, 100000, 100001]) (by kernel_rfl) fun st t out st' h1 h2 => by
 unfold spML at h1
 simp only at h1
 split at h1
 ·cases h1
  obtain ⟨⟨h3, hv, hX, hn, hd, hd2⟩, h5⟩ := zA h2
  obtain ⟨D, hD⟩ := Zbo hd
  rw [hD] at h3 h5
  cases lpA_sel h5
  obtain ⟨m, s1, hm, hw⟩ := m6_rounds X _ D (st.cell 1 2).str (by omega) _ _ _ (st.cell 0 2).sf (Nat.lt_succ_self _) hv hX hn
  exact ⟨m, s1, fun K => by
   conv => lhs; rw [h3]
   exact hm K, hw⟩
 ·cases h1
  obtain ⟨⟨h3, hv, hX, hn, hd, hd2⟩, h5⟩ := zA h2
  obtain ⟨D, hD⟩ := Zbo hd
  rw [hD] at h3 h5
  cases lpA_sel h5
  obtain ⟨m, s1, hm, hw⟩ := m7_rounds X _ D (st.cell 1 2).str (by omega) _ _ _ (st.cell 0 2).sf [] (Nat.lt_succ_self _) hv hX hn (by simp only [Xbg]; omega)
  exact ⟨m, s1, fun K => by
   conv => lhs; rw [h3]
   exact hm K, hw⟩
theorem tr_mem6 (X : Nat) (s : ByteArray) (p : Int) (n : Nat) (f : Nat → List Value) (d : Int) (k0 : ByteArray) (K : AV → Mem → Option Ans) : Zz P0 ((EV X).knowLoop 48 9 (spML X)) 9 48 [.agg [.lit (.string s), .lit (.int .i64 p), .sl false 5 n f, .lit (.int .i64 0)], .lit (.agg #[.int .i64 d, .int .i64 6, .string k0, .string ⟨#[]⟩, .int .i64 0])] ⟨[], []⟩ K = (.two (gd (vg s p)) (.two (gd (vg s (atI s (sk (lf s p))))) (.two (hdB (lf s (atI s (sk (lf s p)))) 93) (.one (.agg [.lit (.string s), .lit (.int .i64 (IntKind.wrap .i64 ((atI s (sk (lf s p))) + 1))), .sl false 5 n f, .lit (.int .i64 0)])) (.two (gd (stM6 s (atI s (sk (lf s p))) n f d k0 = stM6 s (atI s (sk (lf s p))) n f d k0 ∧ okL X s (atI s (sk (lf s p))) n d)) (.two ((pmlC (lf s (atI s (sk (lf s p)))) (d).toNat false []).1 == 0) (.one (.agg [.lit (.string s), .lit (.int .i64 (atI s (pmlC (lf s (atI s (sk (lf s p)))) (d).toNat false []).2.1)), .sl false 5 (n + (pmlC (lf s (atI s (sk (lf s p)))) (d).toNat false []).2.2.length) (fun k => (Zf n f ++ (pmlC (lf s (atI s (sk (lf s p)))) (d).toNat false []).2.2.map Yr).getD k []), .lit (.int .i64 0)])) (.one (.agg [.cell, .cell, .cell, .lit (.int .i64 ((pmlC (lf s (atI s (sk (lf s p)))) (d).toNat false []).1))]))) .no)) .no) .no : Tr AV).run fun r => K r ⟨[], []⟩ := by kernel_rfl
theorem tr_mem7 (X : Nat) (s : ByteArray) (p : Int) (n : Nat) (f : Nat → List Value) (d : Int) (k0 : ByteArray) (K : AV → Mem → Option Ans) : Zz P0 ((EV X).knowLoop 48 9 (spML X)) 9 48 [.agg [.lit (.string s), .lit (.int .i64 p), .sl false 5 n f, .lit (.int .i64 0)], .lit (.agg #[.int .i64 d, .int .i64 7, .string k0, .string ⟨#[]⟩, .int .i64 0])] ⟨[], []⟩ K = (.two (gd (vg s p)) (.two (gd (vg s (atI s (sk (lf s p))))) (.two (hdB (lf s (atI s (sk (lf s p)))) 125) (.one (.agg [.lit (.string s), .lit (.int .i64 (IntKind.wrap .i64 ((atI s (sk (lf s p))) + 1))), .sl false 5 n f, .lit (.int .i64 0)])) (.two (gd (stM7 s (atI s (sk (lf s p))) n f d k0 = stM7 s (atI s (sk (lf s p))) n f d k0 ∧ okL X s (atI s (sk (lf s p))) n d)) (.two ((pmlC (lf s (atI s (sk (lf s p)))) (d).toNat true []).1 == 0) (.one (.agg [.lit (.string s), .lit (.int .i64 (atI s (pmlC (lf s (atI s (sk (lf s p)))) (d).toNat true []).2.1)), .sl false 5 (n + (pmlC (lf s (atI s (sk (lf s p)))) (d).toNat true []).2.2.length) (fun k => (Zf n f ++ (pmlC (lf s (atI s (sk (lf s p)))) (d).toNat true []).2.2.map Yr).getD k []), .lit (.int .i64 0)])) (.one (.agg [.cell, .cell, .cell, .lit (.int .i64 ((pmlC (lf s (atI s (sk (lf s p)))) (d).toNat true []).1))]))) .no)) .no) .no : Tr AV).run fun r => K r ⟨[], []⟩ := by kernel_rfl
theorem apL_nil {g : Gh} {m : Mem} {w : World} {n : Nat} {f : Nat → List Value} {v : Value} (h : Rep g m w (.sl false 5 n f) v) : Rep g m w (apL n f []) v :=
 rep_sl h (by rw [ybg, ybk, yP (by rw [elems_length]; exact Xbc _), Zbj (by rw [elems_length]; exact Xbc _)])
theorem rep_nil {g : Gh} {m : Mem} {w : World} {x y e : AV} {n : Nat} {f : Nat → List Value} {v : Value} (h : Rep g m w (.agg [x, y, .sl false 5 n f, e]) v) : Rep g m w (.agg [x, y, apL n f [], e]) v :=
 rep_agg (fun vs => RepL.cons (fun v h => h) (RepL.cons (fun v h => h) (RepL.cons (fun v => apL_nil) fun vs h => h)) vs) h
theorem good_mem6 {X : Nat} (ok : EnvOk P0 (EV X)) (s : ByteArray) (p : Int) (n : Nat) (f : Nat → List Value) (D : Nat) (k0 : ByteArray) (hv : vg s p) (hX : (lf s p).length < X) (hn : n + (lf s p).length < 1073741824) (hD : D < 64) (r : AV) (h3 : (resA s n f 0 (pmsC (lf s p) D false)).sel = some r) :
  Ev.Good P0 48 [.agg [.lit (.string s), .lit (.int .i64 p), .sl false 5 n f, .lit (.int .i64 0)], .lit (.agg #[.int .i64 (D : Int), .int .i64 6, .string k0, .string ⟨#[]⟩, .int .i64 0])] r := by
 have hb : zv P0 48 = true := by kernel_rfl
 have T := tr_mem6 X s p n f D k0
 obtain ⟨L, hL⟩ : ∃ L, lf s p = L := ⟨_, rfl⟩
 have hLs : L <:+ s.data.toList := hL ▸ XY s p
 have hs := hv.2.2
 have s1 : sk L <:+ s.data.toList := (zF L).trans hLs
 have e1 := YB s _ s1
 have v1 := YA s _ s1 hs
 have F1 := gd_true hv
 have F2 := gd_true v1
 have hsl := (zF L).length_le
 have hE := pmsC_eq L D false
 have t1 : (tk1 L 93).1 = hdB (sk L) 93 := XP L 93
 have r1 := xO L 93
 rw [show en false = 93 from rfl, t1] at hE
 rw [hL] at h3 hX hn
 cases c1 : hdB (sk L) 93 with
 | true =>
  have hp := YH c1
  have N1 : IntKind.wrap .i64 (atI s (sk L) + 1) = atI s ((sk L).drop 1) := zG s _ 1 s1 hs hp
  rw [show hdB (sk L) ((93 : Nat) : Int) = true from c1] at r1
  rw [hE, c1, if_pos rfl, r1, if_pos rfl] at h3
  rw [yA h3]
  refine (Xe (okML ok) hb T (r := .agg [.lit (.string s), .lit (.int .i64 (atI s ((sk L).drop 1))), .sl false 5 n f, .lit (.int .i64 0)]) ?_ rfl).weak fun _ _ _ _ h => rep_nil h
  simp only [↓Yc, sel_one, hL, F1, F2, e1, c1, N1, ↓reduceIte]
 | false =>
  rw [show hdB (sk L) ((93 : Nat) : Int) = false from c1] at r1
  rw [hE, c1, if_neg (by simp), r1, if_neg (by simp)] at h3
  have F4 : okL X s (atI s (sk L)) n (D : Int) := ⟨v1, by rw [e1]; omega, by rw [e1]; omega, by omega, by omega⟩
  by_cases c2 : (pmlC (sk L) D false []).1 = 0
  ·obtain ⟨V, hV⟩ : ∃ V, pmlC (sk L) D false [] = V := ⟨_, rfl⟩
   rw [hV] at h3 c2
   obtain ⟨ve, vl, vr⟩ := V
   simp only at c2
   subst c2
   rw [yA h3]
   refine Xe (okML ok) hb T ?_ rfl
   simp only [↓Yc, sel_one, hL, F1, F2, e1, c1, gd_iff, true_and, F4, Ybd, hV, beq_self_eq_true, Zbg, ↓reduceIte]
   rfl
  ·rw [Xz rfl c2 h3]
   refine Xe (okML ok) hb T ?_ rfl
   simp only [↓Yc, sel_one, hL, F1, F2, e1, c1, gd_iff, true_and, F4, Ybd, Ybf, c2, Zbg, ↓reduceIte]
theorem good_mem7 {X : Nat} (ok : EnvOk P0 (EV X)) (s : ByteArray) (p : Int) (n : Nat) (f : Nat → List Value) (D : Nat) (k0 : ByteArray) (hv : vg s p) (hX : (lf s p).length < X) (hn : n + (lf s p).length < 1073741824) (hD : D < 64) (r : AV) (h3 : (resA s n f 0 (pmsC (lf s p) D true)).sel = some r) :
  Ev.Good P0 48 [.agg [.lit (.string s), .lit (.int .i64 p), .sl false 5 n f, .lit (.int .i64 0)], .lit (.agg #[.int .i64 (D : Int), .int .i64 7, .string k0, .string ⟨#[]⟩, .int .i64 0])] r := by
 have hb : zv P0 48 = true := by kernel_rfl
 have T := tr_mem7 X s p n f D k0
 obtain ⟨L, hL⟩ : ∃ L, lf s p = L := ⟨_, rfl⟩
 have hLs : L <:+ s.data.toList := hL ▸ XY s p
 have hs := hv.2.2
 have s1 : sk L <:+ s.data.toList := (zF L).trans hLs
 have e1 := YB s _ s1
 have v1 := YA s _ s1 hs
 have F1 := gd_true hv
 have F2 := gd_true v1
 have hsl := (zF L).length_le
 have hE := pmsC_eq L D true
 have t1 : (tk1 L 125).1 = hdB (sk L) 125 := XP L 125
 have r1 := xO L 125
 rw [show en true = 125 from rfl, t1] at hE
 rw [hL] at h3 hX hn
 cases c1 : hdB (sk L) 125 with
 | true =>
  have hp := YH c1
  have N1 : IntKind.wrap .i64 (atI s (sk L) + 1) = atI s ((sk L).drop 1) := zG s _ 1 s1 hs hp
  rw [show hdB (sk L) ((125 : Nat) : Int) = true from c1] at r1
  rw [hE, c1, if_pos rfl, r1, if_pos rfl] at h3
  rw [yA h3]
  refine (Xe (okML ok) hb T (r := .agg [.lit (.string s), .lit (.int .i64 (atI s ((sk L).drop 1))), .sl false 5 n f, .lit (.int .i64 0)]) ?_ rfl).weak fun _ _ _ _ h => rep_nil h
  simp only [↓Yc, sel_one, hL, F1, F2, e1, c1, N1, ↓reduceIte]
 | false =>
  rw [show hdB (sk L) ((125 : Nat) : Int) = false from c1] at r1
  rw [hE, c1, if_neg (by simp), r1, if_neg (by simp)] at h3
  have F4 : okL X s (atI s (sk L)) n (D : Int) := ⟨v1, by rw [e1]; omega, by rw [e1]; omega, by omega, by omega⟩
  by_cases c2 : (pmlC (sk L) D true []).1 = 0
  ·obtain ⟨V, hV⟩ : ∃ V, pmlC (sk L) D true [] = V := ⟨_, rfl⟩
   rw [hV] at h3 c2
   obtain ⟨ve, vl, vr⟩ := V
   simp only at c2
   subst c2
   rw [yA h3]
   refine Xe (okML ok) hb T ?_ rfl
   simp only [↓Yc, sel_one, hL, F1, F2, e1, c1, gd_iff, true_and, F4, Ybd, hV, beq_self_eq_true, Zbg, ↓reduceIte]
   rfl
  ·rw [Xz rfl c2 h3]
   refine Xe (okML ok) hb T ?_ rfl
   simp only [↓Yc, sel_one, hL, F1, F2, e1, c1, gd_iff, true_and, F4, Ybd, Ybf, c2, Zbg, ↓reduceIte]
def kB (ki : Int) : Bool := decide (ki = 7)
def okM (X : Nat) (s : ByteArray) (p : Int) (n : Nat) (e d ki : Int) (t : ByteArray) (v : Int) : Prop := vg s p ∧ (lf s p).length < X ∧ n + (lf s p).length < 1073741824 ∧ e = 0 ∧ 0 ≤ d ∧ d < 64 ∧ t = e0 ∧ v = 0 ∧ (ki = 6 ∨ ki = 7)
noncomputable def spM (X : Nat) : List AV → Option (Tr AV)
 | [.agg [.lit (.string s), .lit (.int .i64 p), .sl false 5 n f, .lit (.int .i64 e)], a] => match Zae a with
  | some (d, ki, key, t, v) => some (.two (gd (okM X s p n e d ki t v)) (resA s n f e (pmsC (lf s p) d.toNat (kB ki))) .no)
  | none => none
 | _ => none
noncomputable def EM (X : Nat) : Env := E9.know 48 (spM X)
theorem EM_ok {X : Nat} (ok : EnvOk P0 (EV X)) : EnvOk P0 (EM X) := E9ok.know fun args t r h1 h2 => by
 unfold spM at h1
 split at h1
 ·rename_i s p n f e a
  split at h1
  ·rename_i d ki key t v hi
   cases h1
   obtain ⟨⟨hv, hX, hn, rfl, hd, hd2, rfl, rfl, hk⟩, h3⟩ := zA h2
   rw [xaa hi]
   obtain ⟨D, rfl⟩ := Zbo hd
   rcases hk with rfl | rfl
   ·exact good_mem6 ok s p n f D key hv hX hn (by omega) r h3
   ·exact good_mem7 ok s p n f D key hv hX hn (by omega) r h3
  ·cases h1
 ·cases h1
noncomputable def Xt (X : Nat) (s : ByteArray) (p : Int) (n : Nat) (f : Nat → List Value) (d : Int) (key : ByteArray) : Tr AV := .two (decide (d ≥ 64)) (.one (.agg [.lit (.string s), .lit (.int .i64 (atI s (sk (lf s p)))), .sl false 5 n f, .lit (.int .i64 81)])) (.two (gd (vg s (atI s (sk (lf s p))))) (.two (hdB (lf s (atI s (sk (lf s p)))) 123) (.two (decide (0 + (Zf n f).length ≤ lim)) (.two (decide (0 + (Zf n f).length = (([] : List (List Value)) ++ (Zf n f)).length ∧ 0 + (Zf n f).length + 1 ≤ lim)) (.two (gd (okM X s (IntKind.wrap .i64 ((atI s (sk (lf s p))) + 1)) (0 + (Zf n f).length + 1) 0 d 7 ⟨#[]⟩ 0)) (.two ((pmsC (lf s (IntKind.wrap .i64 ((atI s (sk (lf s p))) + 1))) (d).toNat (kB 7)).1 == 0) (.one (.agg [.lit (.string s), .lit (.int .i64 (atI s (pmsC (lf s (IntKind.wrap .i64 ((atI s (sk (lf s p))) + 1))) (d).toNat (kB 7)).2.1)), .sl false 5 ((0 + (Zf n f).length + 1) + (pmsC (lf s (IntKind.wrap .i64 ((atI s (sk (lf s p))) + 1))) (d).toNat (kB 7)).2.2.length) (fun k => (Zf (0 + (Zf n f).length + 1) (fun k => ((([] : List (List Value)) ++ (Zf n f)) ++ ([[.int .i64 d, .int .i64 7, .string key, .string ⟨#[]⟩, .int .i64 0]] : List (List Value))).getD k []) ++ (pmsC (lf s (IntKind.wrap .i64 ((atI s (sk (lf s p))) + 1))) (d).toNat (kB 7)).2.2.map Yr).getD k []), .lit (.int .i64 0)])) (.one (.agg [.cell, .cell, .cell, .lit (.int .i64 ((pmsC (lf s (IntKind.wrap .i64 ((atI s (sk (lf s p))) + 1))) (d).toNat (kB 7)).1))]))) .no) .no) .no) (.two (decide (0 + (Zf n f).length ≤ lim)) (.two (decide (0 + (Zf n f).length = (([] : List (List Value)) ++ (Zf n f)).length ∧ 0 + (Zf n f).length + 1 ≤ lim)) (.two (gd (okM X s (IntKind.wrap .i64 ((atI s (sk (lf s p))) + 1)) (0 + (Zf n f).length + 1) 0 d 6 ⟨#[]⟩ 0)) (.two ((pmsC (lf s (IntKind.wrap .i64 ((atI s (sk (lf s p))) + 1))) (d).toNat (kB 6)).1 == 0) (.one (.agg [.lit (.string s), .lit (.int .i64 (atI s (pmsC (lf s (IntKind.wrap .i64 ((atI s (sk (lf s p))) + 1))) (d).toNat (kB 6)).2.1)), .sl false 5 ((0 + (Zf n f).length + 1) + (pmsC (lf s (IntKind.wrap .i64 ((atI s (sk (lf s p))) + 1))) (d).toNat (kB 6)).2.2.length) (fun k => (Zf (0 + (Zf n f).length + 1) (fun k => ((([] : List (List Value)) ++ (Zf n f)) ++ ([[.int .i64 d, .int .i64 6, .string key, .string ⟨#[]⟩, .int .i64 0]] : List (List Value))).getD k []) ++ (pmsC (lf s (IntKind.wrap .i64 ((atI s (sk (lf s p))) + 1))) (d).toNat (kB 6)).2.2.map Yr).getD k []), .lit (.int .i64 0)])) (.one (.agg [.cell, .cell, .cell, .lit (.int .i64 ((pmsC (lf s (IntKind.wrap .i64 ((atI s (sk (lf s p))) + 1))) (d).toNat (kB 6)).1))]))) .no) .no) .no)) .no)
noncomputable def zu (X : Nat) (s : ByteArray) (p : Int) (n : Nat) (f : Nat → List Value) (d : Int) (key : ByteArray) : Tr AV := .two (gd (okI s (atI s (sk (lf s p))) n d ⟨#[]⟩ 0)) (.two ((nmV (lf s (atI s (sk (lf s p)))) (d).toNat key).1 == 0) (.one (.agg [.lit (.string s), .lit (.int .i64 (atI s (nmV (lf s (atI s (sk (lf s p)))) (d).toNat key).2.1)), .sl false 5 (n + (nmV (lf s (atI s (sk (lf s p)))) (d).toNat key).2.2.length) (fun k => (Zf n f ++ (nmV (lf s (atI s (sk (lf s p)))) (d).toNat key).2.2.map Yr).getD k []), .lit (.int .i64 0)])) (.one (.agg [.cell, .cell, .cell, .lit (.int .i64 ((nmV (lf s (atI s (sk (lf s p)))) (d).toNat key).1))]))) .no
noncomputable def Ys (X : Nat) (s : ByteArray) (p : Int) (n : Nat) (f : Nat → List Value) (d : Int) (key : ByteArray) : Tr AV := .two (gd (okI s (atI s (sk (lf s p))) n d ⟨#[]⟩ 0)) (.two ((wd (lf s (atI s (sk (lf s p)))) (d).toNat key).1 == 0) (.one (.agg [.lit (.string s), .lit (.int .i64 (atI s (wd (lf s (atI s (sk (lf s p)))) (d).toNat key).2.1)), .sl false 5 (n + (wd (lf s (atI s (sk (lf s p)))) (d).toNat key).2.2.length) (fun k => (Zf n f ++ (wd (lf s (atI s (sk (lf s p)))) (d).toNat key).2.2.map Yr).getD k []), .lit (.int .i64 0)])) (.one (.agg [.cell, .cell, .cell, .lit (.int .i64 ((wd (lf s (atI s (sk (lf s p)))) (d).toNat key).1))]))) .no
theorem tr_val (X : Nat) (s : ByteArray) (p : Int) (n : Nat) (f : Nat → List Value) (d : Int) (key : ByteArray) (K : AV → Mem → Option Ans) : Zz P0 (EM X) 9 27 [.agg [.lit (.string s), .lit (.int .i64 p), .sl false 5 n f, .lit (.int .i64 0)], .lit (.agg #[.int .i64 d, .int .i64 0, .string key, .string ⟨#[]⟩, .int .i64 0])] ⟨[], []⟩ K = (.two (gd (vg s p)) (.two (gd (vg s (atI s (sk (lf s p))))) (.two (hdB (lf s (atI s (sk (lf s p)))) 91) (Xt X s p n f d key) (.two (gd (vg s (atI s (sk (lf s p))))) (.two (hdB (lf s (atI s (sk (lf s p)))) 123) (Xt X s p n f d key) (.two (gd (vg s (atI s (sk (lf s p))))) (.two (hdB (lf s (atI s (sk (lf s p)))) 34) (.two (decide ((0 : Int) ≤ (atI s (sk (lf s p))) ∧ (atI s (sk (lf s p))) ≤ (s.size : Int) ∧ (s.size : Int) ≤ (s.size : Int))) (.two (gd ((s.extract (atI s (sk (lf s p))).toNat s.size).size ≤ 1073741824)) (.two ((r7 (s.extract (atI s (sk (lf s p))).toNat s.size)).2.2 != 0) (.one (.agg [.lit (.string s), .lit (.int .i64 (IntKind.wrap .i64 ((atI s (sk (lf s p))) + (r7 (s.extract (atI s (sk (lf s p))).toNat s.size)).2.1))), .sl false 5 n f, .lit (.int .i64 ((r7 (s.extract (atI s (sk (lf s p))).toNat s.size)).2.2))])) (.two (decide (0 + (Zf n f).length ≤ lim)) (.two (decide (0 + (Zf n f).length = (([] : List (List Value)) ++ (Zf n f)).length ∧ 0 + (Zf n f).length + 1 ≤ lim)) (.one (.agg [.lit (.string s), .lit (.int .i64 (IntKind.wrap .i64 ((atI s (sk (lf s p))) + (r7 (s.extract (atI s (sk (lf s p))).toNat s.size)).2.1))), .sl false 5 (0 + (Zf n f).length + 1) (fun k => ((([] : List (List Value)) ++ (Zf n f)) ++ ([[.int .i64 d, .int .i64 5, .string key, .string ((r7 (s.extract (atI s (sk (lf s p))).toNat s.size)).1), .int .i64 0]] : List (List Value))).getD k []), .lit (.int .i64 ((r7 (s.extract (atI s (sk (lf s p))).toNat s.size)).2.2))])) .no) .no)) .no) .no) (.two (decide ((atI s (sk (lf s p))) < (s.size : Int))) (.two (decide (0 ≤ (atI s (sk (lf s p))) ∧ (atI s (sk (lf s p))).toNat < s.size)) (.two (((s.data.toList.getD (atI s (sk (lf s p))).toNat 0).toNat : Int) == 45) (zu X s p n f d key) (.two (decide (0 ≤ (atI s (sk (lf s p))) ∧ (atI s (sk (lf s p))).toNat < s.size)) (.two (decide (((s.data.toList.getD (atI s (sk (lf s p))).toNat 0).toNat : Int) ≥ 48)) (.two (decide (0 ≤ (atI s (sk (lf s p))) ∧ (atI s (sk (lf s p))).toNat < s.size)) (.two (decide (((s.data.toList.getD (atI s (sk (lf s p))).toNat 0).toNat : Int) ≤ 57)) (zu X s p n f d key) (Ys X s p n f d key)) .no) (Ys X s p n f d key)) .no)) .no) (Ys X s p n f d key))) .no)) .no)) .no) .no : Tr AV).run fun r => K r ⟨[], []⟩ := by kernel_rfl
theorem good_val {X : Nat} (EMk : EnvOk P0 (EM X)) (s : ByteArray) (p : Int) (n : Nat) (f : Nat → List Value) (D : Nat) (key : ByteArray) (hv : vg s p) (hX : (lf s p).length < X + 1) (hn : n + (lf s p).length < 1073741824) (hD : D ≤ 100) (r : AV) (h3 : (resA s n f 0 (pvC (lf s p) D key)).sel = some r) :
  Ev.Good P0 27 [.agg [.lit (.string s), .lit (.int .i64 p), .sl false 5 n f, .lit (.int .i64 0)], .lit (.agg #[.int .i64 (D : Int), .int .i64 0, .string key, .string ⟨#[]⟩, .int .i64 0])] r := by
 have hb : zv P0 27 = true := by kernel_rfl
 have T := tr_val X s p n f D key
 obtain ⟨L, hL⟩ : ∃ L, lf s p = L := ⟨_, rfl⟩
 have hLs : L <:+ s.data.toList := hL ▸ XY s p
 have hs := hv.2.2
 have s1 : sk L <:+ s.data.toList := (zF L).trans hLs
 have e1 := YB s _ s1
 have v1 := YA s _ s1 hs
 have F1 := gd_true hv
 have F2 := gd_true v1
 have hsl := (zF L).length_le
 have hP := pvC_eq L D key
 rw [hL] at h3 hX hn
 have i91 := YP L 91
 have i123 := YP L 123
 have i34 := YP L 34
 cases c1 : hdB (sk L) 91 with
 | true =>
  have hh := (i91.1 c1).1
  have x123 : hdB (sk L) 123 = false := by
   cases e : hdB (sk L) 123 with
   | false => rfl
   | true => have := (i123.1 e).1; omega
  by_cases cD : 64 ≤ D
  ·rw [show pvC L D key = (81, [], []) by rw [hP]; simp only [hh, ↓reduceIte, cD, if_true]; try rfl] at h3
   rw [Xz (e' := 81) rfl (by decide) h3]
   refine (Xe EMk hb T (r := .agg [.lit (.string s), .lit (.int .i64 (atI s (sk L))), .sl false 5 n f, .lit (.int .i64 81)]) ?_ rfl).weak fun _ _ _ _ h => X3 h
   simp only [↓Yc, sel_one, ↓Xt, ↓zu, ↓Ys, hL, F1, F2, e1, c1, x123, Zbd, show (D : Int) ≥ 64 by omega, Zbg, ↓reduceIte]
  ·have hp := YH c1
   have N1 : IntKind.wrap .i64 (atI s (sk L) + 1) = atI s ((sk L).drop 1) := zG s _ 1 s1 hs hp
   have q3 : (sk L).drop 1 <:+ s.data.toList := (Xbl _ _).trans s1
   have e3 := YB s _ q3
   have z1 : ((sk L).drop 1).length + 1 = (sk L).length := by rw [Zbb]; omega
   have l1 : n ≤ lim := by show n ≤ 1073741824; omega
   have l2 : n + 1 ≤ lim := by show n + 1 ≤ 1073741824; omega
   have F3 : okM X s (atI s ((sk L).drop 1)) (n + 1) 0 (D : Int) 6 ⟨#[]⟩ 0 := ⟨YA s _ q3 hs, by rw [e3]; omega, by rw [e3]; omega, rfl, by omega, by omega, rfl, rfl, by omega⟩
   have hkB : kB 6 = false := rfl
   obtain ⟨W, hW⟩ : ∃ W, pmsC ((sk L).drop 1) D false = W := ⟨_, rfl⟩
   rw [show pvC L D key = (W.1, W.2.1, row D 6 key e0 0 :: W.2.2) by rw [hP]; rw [if_pos hh]; rw [if_neg cD, hW]] at h3
   by_cases c2 : W.1 = 0
   ·obtain ⟨ve, vl, vr⟩ := W
    simp only at c2
    subst c2
    rw [yA h3, show apL n f (row D 6 key e0 0 :: vr) = apL (n + 1) (fun k => (Zf n f ++ ([[.int .i64 (D : Int), .int .i64 6, .string key, .string ⟨#[]⟩, .int .i64 0]] : List (List Value))).getD k []) vr from (Yae n f [row D 6 key e0 0] vr).symm]
    refine Xe EMk hb T ?_ rfl
    simp only [↓Yc, sel_one, ↓Xt, ↓zu, ↓Ys, hL, F1, F2, e1, c1, x123, Zbd, show ¬ (D : Int) ≥ 64 by omega, elems_length, xbl, Xbi, l1, l2, true_and, gd_iff, N1, F3, e3, Ybd, hkB, hW, beq_self_eq_true, Zbg, ↓reduceIte]
    rfl
   ·rw [Xz (r := (W.1, W.2.1, row D 6 key e0 0 :: W.2.2)) rfl c2 h3]
    refine Xe EMk hb T ?_ rfl
    simp only [↓Yc, sel_one, ↓Xt, ↓zu, ↓Ys, hL, F1, F2, e1, c1, x123, Zbd, show ¬ (D : Int) ≥ 64 by omega, elems_length, xbl, Xbi, l1, l2, true_and, gd_iff, N1, F3, e3, Ybd, hkB, hW, Ybf, c2, Zbg, ↓reduceIte]
 | false =>
  have h91 : ¬ hd L = 91 := fun x => by
   have := i91.2 ⟨x, XC (by omega)⟩
   rw [show ((91 : Nat) : Int) = 91 from rfl, c1] at this; cases this
  cases c2 : hdB (sk L) 123 with
  | true =>
   have hh := (i123.1 c2).1
   by_cases cD : 64 ≤ D
   ·rw [show pvC L D key = (81, [], []) by rw [hP, if_neg h91, if_pos hh, if_pos cD]] at h3
    rw [Xz (e' := 81) rfl (by decide) h3]
    refine (Xe EMk hb T (r := .agg [.lit (.string s), .lit (.int .i64 (atI s (sk L))), .sl false 5 n f, .lit (.int .i64 81)]) ?_ rfl).weak fun _ _ _ _ h => X3 h
    simp only [↓Yc, sel_one, ↓Xt, ↓zu, ↓Ys, hL, F1, F2, e1, c1, c2, Zbd, show (D : Int) ≥ 64 by omega, Zbg, ↓reduceIte]
   ·have hp := YH c2
    have N1 : IntKind.wrap .i64 (atI s (sk L) + 1) = atI s ((sk L).drop 1) := zG s _ 1 s1 hs hp
    have q3 : (sk L).drop 1 <:+ s.data.toList := (Xbl _ _).trans s1
    have e3 := YB s _ q3
    have z1 : ((sk L).drop 1).length + 1 = (sk L).length := by rw [Zbb]; omega
    have l1 : n ≤ lim := by show n ≤ 1073741824; omega
    have l2 : n + 1 ≤ lim := by show n + 1 ≤ 1073741824; omega
    have F3 : okM X s (atI s ((sk L).drop 1)) (n + 1) 0 (D : Int) 7 ⟨#[]⟩ 0 := ⟨YA s _ q3 hs, by rw [e3]; omega, by rw [e3]; omega, rfl, by omega, by omega, rfl, rfl, by omega⟩
    have hkB : kB 7 = true := rfl
    obtain ⟨W, hW⟩ : ∃ W, pmsC ((sk L).drop 1) D true = W := ⟨_, rfl⟩
    rw [show pvC L D key = (W.1, W.2.1, row D 7 key e0 0 :: W.2.2) by rw [hP]; rw [if_neg h91, if_pos hh]; rw [if_neg cD, hW]] at h3
    by_cases c5 : W.1 = 0
    ·obtain ⟨ve, vl, vr⟩ := W
     simp only at c5
     subst c5
     rw [yA h3, show apL n f (row D 7 key e0 0 :: vr) = apL (n + 1) (fun k => (Zf n f ++ ([[.int .i64 (D : Int), .int .i64 7, .string key, .string ⟨#[]⟩, .int .i64 0]] : List (List Value))).getD k []) vr from (Yae n f [row D 7 key e0 0] vr).symm]
     refine Xe EMk hb T ?_ rfl
     simp only [↓Yc, sel_one, ↓Xt, ↓zu, ↓Ys, hL, F1, F2, e1, c1, c2, Zbd, show ¬ (D : Int) ≥ 64 by omega, elems_length, xbl, Xbi, l1, l2, true_and, gd_iff, N1, F3, e3, Ybd, hkB, hW, beq_self_eq_true, Zbg, ↓reduceIte]
     rfl
    ·rw [Xz (r := (W.1, W.2.1, row D 7 key e0 0 :: W.2.2)) rfl c5 h3]
     refine Xe EMk hb T ?_ rfl
     simp only [↓Yc, sel_one, ↓Xt, ↓zu, ↓Ys, hL, F1, F2, e1, c1, c2, Zbd, show ¬ (D : Int) ≥ 64 by omega, elems_length, xbl, Xbi, l1, l2, true_and, gd_iff, N1, F3, e3, Ybd, hkB, hW, Ybf, c5, Zbg, ↓reduceIte]
  | false =>
   have h123 : ¬ hd L = 123 := fun x => by
    have := i123.2 ⟨x, XC (by omega)⟩
    rw [show ((123 : Nat) : Int) = 123 from rfl, c2] at this; cases this
   have l1 : n ≤ lim := by show n ≤ 1073741824; omega
   cases c3 : hdB (sk L) 34 with
   | true =>
    have hh := (i34.1 c3).1
    have l2 : n + 1 ≤ lim := by
     have := YH c3
     show n + 1 ≤ 1073741824; omega
    obtain ⟨q1, q2⟩ := r7_rq s (sk L) s1 hs hh
    have D1 := dec_cut v1
    have X1 := XaG (i := (atI s (sk L)).toNat) (j := s.size) hs
    by_cases c4 : (rq (sk L)).2.2 = 0
    ·obtain ⟨q3, q4, q5⟩ := q2 c4
     rw [show pvC L D key = (0, (rq (sk L)).2.1, [row D 5 key ⟨(rq (sk L)).1.toArray⟩ 0]) by rw [hP, if_neg h91, if_neg h123, if_pos hh, if_pos c4]] at h3
     rw [yA h3, ap_one]
     refine Xe EMk hb T ?_ rfl
     simp only [↓Yc, sel_one, ↓Xt, ↓zu, ↓Ys, hL, F1, F2, e1, c1, c2, c3, D1, X1, q1, q3, q4, c4, Zbh, ne_eq, not_true_eq_false, Zbd, elems_length, xbl, Xbi, l1, l2, true_and, Zbg, ↓reduceIte]
    ·rw [show pvC L D key = ((rq (sk L)).2.2, [], []) by rw [hP, if_neg h91, if_neg h123, if_pos hh, if_neg c4]] at h3
     rw [Xz (r := ((rq (sk L)).2.2, [], [])) rfl c4 h3]
     refine (Xe EMk hb T (r := .agg [.lit (.string s), .lit (.int .i64 (IntKind.wrap .i64 (atI s (sk L) + (r7 (s.extract (atI s (sk L)).toNat s.size)).2.1))), .sl false 5 n f, .lit (.int .i64 (rq (sk L)).2.2)]) ?_ rfl).weak fun _ _ _ _ h => X3 h
     simp only [↓Yc, sel_one, ↓Xt, ↓zu, ↓Ys, hL, F1, F2, e1, c1, c2, c3, D1, X1, q1, Zbh, ne_eq, c4, not_false_eq_true, Zbg, ↓reduceIte]
   | false =>
    have h34 : ¬ hd L = 34 := fun x => by
     have := i34.2 ⟨x, XC (by omega)⟩
     rw [show ((34 : Nat) : Int) = 34 from rfl, c3] at this; cases this
    have F5 : okI s (atI s (sk L)) n (D : Int) ⟨#[]⟩ 0 := ⟨v1, by omega, by omega, rfl, rfl⟩
    cases hq : sk L with
    | nil =>
     have hnum : ¬ (hd L = 45 ∨ (48 ≤ hd L ∧ hd L ≤ 57)) := by unfold hd; rw [hq]; simp
     have z0 := YaG s (atI s (sk L)) (by rw [e1, hq]) v1
     have z1 : ¬ atI s (sk L) < (s.size : Int) := by omega
     obtain ⟨W, hW⟩ : ∃ W, wd (sk L) D key = W := ⟨_, rfl⟩
     rw [show pvC L D key = W by rw [← hW, hP, if_neg h91, if_neg h123, if_neg h34, if_neg hnum]; try rfl] at h3
     by_cases c6 : W.1 = 0
     ·obtain ⟨ve, vl, vr⟩ := W
      simp only at c6
      subst c6
      rw [yA h3]
      refine Xe EMk hb T ?_ rfl
      simp only [↓Yc, sel_one, ↓Xt, ↓zu, ↓Ys, hL, F1, F2, e1, c1, c2, c3, gd_iff, F5, Ybd, Zbd, Zbg, z1, hW, beq_self_eq_true, ↓reduceIte]
      rfl
     ·rw [Xz (r := W) rfl c6 h3]
      refine Xe EMk hb T ?_ rfl
      simp only [↓Yc, sel_one, ↓Xt, ↓zu, ↓Ys, hL, F1, F2, e1, c1, c2, c3, gd_iff, F5, Ybd, Zbd, Zbg, z1, hW, Ybf, c6, ↓reduceIte]
    | cons a l =>
     obtain ⟨a1, a2, a3, a4, _⟩ := xat s (atI s (sk L)) a l (by rw [e1, hq]) v1
     have hda : hd L = a.toNat := by unfold hd; rw [hq]; rfl
     by_cases b1 : (a.toNat : Int) = 45
     ·have hnum : hd L = 45 ∨ (48 ≤ hd L ∧ hd L ≤ 57) := by omega
      obtain ⟨W, hW⟩ : ∃ W, nmV (sk L) D key = W := ⟨_, rfl⟩
      rw [show pvC L D key = W by rw [← hW, hP, if_neg h91, if_neg h123, if_neg h34, if_pos hnum]; try rfl] at h3
      by_cases c6 : W.1 = 0
      ·obtain ⟨ve, vl, vr⟩ := W
       simp only at c6
       subst c6
       rw [yA h3]
       refine Xe EMk hb T ?_ rfl
       simp only [↓Yc, sel_one, ↓Xt, ↓zu, ↓Ys, hL, F1, F2, e1, c1, c2, c3, gd_iff, F5, Ybd, Zbd, Zbg, a1, a2, a3, a4, and_self, b1, beq_self_eq_true, hW, beq_self_eq_true, ↓reduceIte]
       rfl
      ·rw [Xz (r := W) rfl c6 h3]
       refine Xe EMk hb T ?_ rfl
       simp only [↓Yc, sel_one, ↓Xt, ↓zu, ↓Ys, hL, F1, F2, e1, c1, c2, c3, gd_iff, F5, Ybd, Zbd, Zbg, a1, a2, a3, a4, and_self, b1, beq_self_eq_true, hW, Ybf, c6, ↓reduceIte]
     ·by_cases b2 : (a.toNat : Int) ≥ 48
      ·by_cases b3 : (a.toNat : Int) ≤ 57
       ·have hnum : hd L = 45 ∨ (48 ≤ hd L ∧ hd L ≤ 57) := by omega
        obtain ⟨W, hW⟩ : ∃ W, nmV (sk L) D key = W := ⟨_, rfl⟩
        rw [show pvC L D key = W by rw [← hW, hP, if_neg h91, if_neg h123, if_neg h34, if_pos hnum]; try rfl] at h3
        by_cases c6 : W.1 = 0
        ·obtain ⟨ve, vl, vr⟩ := W
         simp only at c6
         subst c6
         rw [yA h3]
         refine Xe EMk hb T ?_ rfl
         simp only [↓Yc, sel_one, ↓Xt, ↓zu, ↓Ys, hL, F1, F2, e1, c1, c2, c3, gd_iff, F5, Ybd, Zbd, Zbg, a1, a2, a3, a4, and_self, Ybf, b1, b2, b3, hW, beq_self_eq_true, ↓reduceIte]
         rfl
        ·rw [Xz (r := W) rfl c6 h3]
         refine Xe EMk hb T ?_ rfl
         simp only [↓Yc, sel_one, ↓Xt, ↓zu, ↓Ys, hL, F1, F2, e1, c1, c2, c3, gd_iff, F5, Ybd, Zbd, Zbg, a1, a2, a3, a4, and_self, Ybf, b1, b2, b3, hW, Ybf, c6, ↓reduceIte]
       ·have hnum : ¬ (hd L = 45 ∨ (48 ≤ hd L ∧ hd L ≤ 57)) := by omega
        obtain ⟨W, hW⟩ : ∃ W, wd (sk L) D key = W := ⟨_, rfl⟩
        rw [show pvC L D key = W by rw [← hW, hP, if_neg h91, if_neg h123, if_neg h34, if_neg hnum]; try rfl] at h3
        by_cases c6 : W.1 = 0
        ·obtain ⟨ve, vl, vr⟩ := W
         simp only at c6
         subst c6
         rw [yA h3]
         refine Xe EMk hb T ?_ rfl
         simp only [↓Yc, sel_one, ↓Xt, ↓zu, ↓Ys, hL, F1, F2, e1, c1, c2, c3, gd_iff, F5, Ybd, Zbd, Zbg, a1, a2, a3, a4, and_self, Ybf, b1, b2, b3, hW, beq_self_eq_true, ↓reduceIte]
         rfl
        ·rw [Xz (r := W) rfl c6 h3]
         refine Xe EMk hb T ?_ rfl
         simp only [↓Yc, sel_one, ↓Xt, ↓zu, ↓Ys, hL, F1, F2, e1, c1, c2, c3, gd_iff, F5, Ybd, Zbd, Zbg, a1, a2, a3, a4, and_self, Ybf, b1, b2, b3, hW, Ybf, c6, ↓reduceIte]
      ·have hnum : ¬ (hd L = 45 ∨ (48 ≤ hd L ∧ hd L ≤ 57)) := by omega
       obtain ⟨W, hW⟩ : ∃ W, wd (sk L) D key = W := ⟨_, rfl⟩
       rw [show pvC L D key = W by rw [← hW, hP, if_neg h91, if_neg h123, if_neg h34, if_neg hnum]; try rfl] at h3
       by_cases c6 : W.1 = 0
       ·obtain ⟨ve, vl, vr⟩ := W
        simp only at c6
        subst c6
        rw [yA h3]
        refine Xe EMk hb T ?_ rfl
        simp only [↓Yc, sel_one, ↓Xt, ↓zu, ↓Ys, hL, F1, F2, e1, c1, c2, c3, gd_iff, F5, Ybd, Zbd, Zbg, a1, a2, a3, a4, and_self, Ybf, b1, b2, hW, beq_self_eq_true, ↓reduceIte]
        rfl
       ·rw [Xz (r := W) rfl c6 h3]
        refine Xe EMk hb T ?_ rfl
        simp only [↓Yc, sel_one, ↓Xt, ↓zu, ↓Ys, hL, F1, F2, e1, c1, c2, c3, gd_iff, F5, Ybd, Zbd, Zbg, a1, a2, a3, a4, and_self, Ybf, b1, b2, hW, Ybf, c6, ↓reduceIte]
theorem EV_ok : ∀ X : Nat, EnvOk P0 (EV X)
 | 0 => E9ok.know fun args t r h1 h2 => by
  unfold spV at h1
  split at h1
  ·split at h1
   ·cases h1
    obtain ⟨⟨_, hX, _⟩, _⟩ := zA h2
    omega
   ·cases h1
  ·cases h1
 | X + 1 => E9ok.know fun args t r h1 h2 => by
  have ok := EM_ok (EV_ok X)
  unfold spV at h1
  split at h1
  ·rename_i s p n f e a
   split at h1
   ·rename_i d ki key t v hi
    cases h1
    obtain ⟨⟨hv, hX, hn, rfl, hd, hd2, rfl, rfl, rfl⟩, h3⟩ := zA h2
    rw [xaa hi]
    obtain ⟨D, rfl⟩ := Zbo hd
    exact good_val ok s p n f D key hv hX hn (by omega) r h3
   ·cases h1
  ·cases h1
theorem tr_parse (X : Nat) (s : ByteArray) (K : AV → Mem → Option Ans) : Zz P0 (EV X) 9 14 [.lit (.string s)] ⟨[], []⟩ K = (.two (gd (okV X s 0 0 0 0 0 ⟨#[]⟩ 0)) (.two ((pvC (lf s 0) (0 : Int).toNat ⟨#[]⟩).1 == 0) (.two (gd (vg s (atI s (pvC (lf s 0) (0 : Int).toNat ⟨#[]⟩).2.1))) (.two (decide ((atI s (sk (lf s (atI s (pvC (lf s 0) (0 : Int).toNat ⟨#[]⟩).2.1)))) < (s.size : Int))) (.one (.tup [.sl false 5 0 (fun _ => []), .lit (.int .i64 80)])) (.one (.tup [.sl false 5 (0 + (pvC (lf s 0) (0 : Int).toNat ⟨#[]⟩).2.2.length) (fun k => (Zf 0 (fun _ => []) ++ (pvC (lf s 0) (0 : Int).toNat ⟨#[]⟩).2.2.map Yr).getD k []), .lit (.int .i64 0)]))) .no) (.two ((pvC (lf s 0) (0 : Int).toNat ⟨#[]⟩).1 != 0) (.one (.tup [.sl false 5 0 (fun _ => []), .lit (.int .i64 ((pvC (lf s 0) (0 : Int).toNat ⟨#[]⟩).1))])) .no)) .no : Tr AV).run fun r => K r ⟨[], []⟩ := by kernel_rfl
theorem Yba (s : ByteArray) (hs : s.size < 1073741824) : Ev.Good P0 14 [.lit (.string s)] (.tup [apL 0 (fun _ => []) (topS s.data.toList).1, .lit (.int .i64 (topS s.data.toList).2)]) := by
 have hb : zv P0 14 = true := by kernel_rfl
 have T := tr_parse (s.size + 1) s
 have hz := data_length s
 have hL : lf s 0 = s.data.toList := rfl
 have v0 : vg s 0 := ⟨by omega, by omega, by omega⟩
 have F1 : gd (okV (s.size + 1) s 0 0 0 0 0 ⟨#[]⟩ 0) = true := gd_true ⟨v0, by rw [hL, hz]; omega, by rw [hL, hz]; omega, rfl, by omega, by omega, rfl, rfl, rfl⟩
 obtain ⟨V, hV⟩ : ∃ V, pvC s.data.toList 0 e0 = V := ⟨_, rfl⟩
 have hV' : pvC s.data.toList (0 : Int).toNat ⟨#[]⟩ = V := hV
 have hsuf := (p_suf (3 * s.data.toList.length + 1)).1 s.data.toList 0 e0
 rw [show pv (3 * s.data.toList.length + 1) s.data.toList 0 e0 = V from hV] at hsuf
 have hT : topS s.data.toList = if V.1 = 0 then (if sk V.2.1 ≠ [] then ([], 80) else (V.2.2, 0)) else ([], V.1) := by rw [← hV]; rfl
 have nil (e : Int) : ∀ g m w v, Rep g m w (.tup [.sl false 5 0 (fun _ => []), .lit (.int .i64 e)]) v → Rep g m w (.tup [apL 0 (fun _ => []) [], .lit (.int .i64 e)]) v := fun g m w v h => rep_tup (fun vs => RepL.cons (fun v => apL_nil) (fun vs h => h) vs) h
 by_cases c1 : V.1 = 0
 ·have q1 := hsuf c1
  have q2 : sk V.2.1 <:+ s.data.toList := (zF _).trans q1
  have e1 := YB s _ q1
  have F2 := gd_true (YA s _ q1 (by omega))
  by_cases c2 : sk V.2.1 = []
  ·rw [hT, if_pos c1, if_neg (fun x => x c2)]
   have z1 : ¬ atI s (sk V.2.1) < (s.size : Int) := by unfold atI; rw [c2]; simp
   refine Xe (EV_ok _) hb T ?_ rfl
   simp only [↓Yc, sel_one, F1, F2, hL, hV', e1, c1, z1, beq_self_eq_true, Zbd, ↓reduceIte]
   rfl
  ·rw [hT, if_pos c1, if_pos c2]
   have z1 : atI s (sk V.2.1) < (s.size : Int) := by
    have := Ybr.2 c2
    unfold atI; omega
   refine (Xe (EV_ok _) hb T (r := .tup [.sl false 5 0 (fun _ => []), .lit (.int .i64 80)]) ?_ rfl).weak (nil 80)
   simp only [↓Yc, sel_one, F1, F2, hL, hV', e1, c1, z1, beq_self_eq_true, Zbd, ↓reduceIte]
 ·rw [hT, if_neg c1]
  refine (Xe (EV_ok _) hb T (r := .tup [.sl false 5 0 (fun _ => []), .lit (.int .i64 V.1)]) ?_ rfl).weak (nil V.1)
  simp only [↓Yc, sel_one, F1, hL, hV', Ybf, Zbh, ne_eq, c1, not_false_eq_true, ↓reduceIte]
end Go.Proofs.NGiv
namespace Go.Proofs.NGiv
open Go Go.Ev Go.RowKit Go.Proofs.Wa Go.Proofs.Wb Go.Proofs.Wc Go.Proofs.NU1 Go.Proofs.NQ1 Go.Proofs.NJ0 Go.Proofs.NJ1 Go.Proofs.NJ2
theorem YaL {sz : Nat} : ∀ {l : List (List Value)} (h : ∀ e ∈ l, e.length = sz) {j i : Nat} {c : List Value} {u : Value}, l[j]? = some c → c[i]? = some u → l.flatten[j * sz + i]? = some u
 | [], h, j, i, c, u, hj, hi => by simp at hj
 | x :: r, h, 0, i, c, u, hj, hi => by
  simp only [zbm, Option.some.injEq] at hj
  subst hj
  rw [List.flatten_cons, Nat.zero_mul, xbl, Ybj (xbe.1 hi).1]
  exact hi
 | x :: r, h, j + 1, i, c, u, hj, hi => by
  have hx := h x ybm
  rw [List.flatten_cons, Zbp (by rw [hx, Xbr]; omega), hx, show (j + 1) * sz + i - sz = j * sz + i by rw [Xbr]; omega]
  exact YaL (fun e he => h e (Zbs _ he)) (by simpa using hj) hi
theorem flat_get {sz : Nat} {l : List (List Value)} (h : ∀ e ∈ l, e.length = sz) (hs : 0 < sz) {J : Nat} {u : Value} (hJ : l.flatten[J]? = some u) : ∃ c, l[J / sz]? = some c ∧ c[J % sz]? = some u := by
 have h1 := (xbe.1 hJ).1
 rw [Yx h] at h1
 have h2 : J / sz < l.length := Nat.div_lt_of_lt_mul (by rw [Nat.mul_comm]; exact h1)
 have h3 := h _ (List.getElem_mem h2)
 have h4 : J % sz < (l[J / sz]).length := by rw [h3]; exact Nat.mod_lt _ hs
 refine ⟨_, zbf h2, ?_⟩
 have h5 := YaL h (zbf h2) (zbf h4)
 rw [Nat.div_add_mod', hJ] at h5
 rw [zbf h4, ← h5]
section
variable {α : Type} {k : Kd α} {cf : α → List Value}
def rowC (cf : α → List Value) (l : List α) (i : Nat) : List Value := (l.map cf).getD i []
theorem xaH (l : List α) : Zf l.length (rowC cf l) = l.map cf := by
 have := yP (l := l.map cf) (n := l.length) (by simp)
 rw [show rowC cf l = fun i => (l.map cf).getD i [] from rfl, this, Zbj (by simp)]
theorem za0 {e base : Nat} {w : World} {v : Value} {l : List α} (hK : ∀ {w x cs}, k.K w x cs → cs = cf x) (hl : ∀ x, (cf x).length = 5) (h1 : ∀ x, ∀ u ∈ cf x, u.oneCell' = true) (hsz : k.sz = 5) (h : Kd.R k e w base (fun _ => True) v l) (S : Nat → Nat → Prop) : Rep ⟨base, S, [], []⟩ ⟨[], []⟩ w (.sl false 5 l.length (rowC cf l)) v := by
 simp only [Rep, LSl]
 rw [xaH]
 obtain ⟨A, c, rfl, hc, hC⟩ := Kd.R_reads h
 have ev : ∀ e ∈ l.map cf, e.length = 5 := fun e he => by obtain ⟨x, _, rfl⟩ := List.mem_map.1 he; exact hl x
 refine ⟨A, c, by simp, by simpa using hc, fun h => (by cases h), ⟨ev, fun e he => by obtain ⟨x, _, rfl⟩ := List.mem_map.1 he; exact h1 x, ?_⟩⟩
 rcases Zbt l.length with h0 | h0
 ·left; rw [List.length_eq_zero_iff.1 h0]; rfl
 ·right
  obtain ⟨g, cap, hv, hg, _⟩ := Kd.R_form h h0
  injection hv with hA
  subst hA
  obtain ⟨_, _, hx⟩ := hC
  obtain ⟨ad, e1, hx⟩ := hx h0
  injection e1 with e1
  subst e1
  refine ⟨g, 0, rfl, fun J u hJ => ?_, fun j _ => .inr ⟨hg, fun i hi => by simp at hi, fun i b' c sz L k1 => by simp at k1⟩⟩
  obtain ⟨cs, h2, h3⟩ := flat_get ev (by decide) hJ
  rw [Xbn, xbh] at h2
  obtain ⟨p, h4, rfl⟩ := h2
  obtain ⟨c2, _, h5, h6⟩ := hx _ p h4
  obtain rfl := hK h5
  have h7 := h6 _ u h3
  rw [hsz, Nat.div_add_mod', Addr.add_mid] at h7
  exact h7
theorem C_of_rep {g : Gh} {m : Mem} {w : World} {full : Bool} {v : Value} {l : List α} (hK : ∀ w x, k.K w x (cf x)) (hsz : k.sz = 5) (h : Rep g m w (.sl full 5 l.length (rowC cf l)) v) (hm : l.length ≤ 9223372036854775807) : ∃ A c, v = .slice A l.length c ∧ l.length ≤ c ∧ Kd.C k w A l.length l := by
 simp only [Rep, LSl] at h
 rw [xaH] at h
 obtain ⟨A, c, rfl, hc, _, hR⟩ := h
 rw [xbk] at hc ⊢
 refine ⟨A, c, rfl, hc, rfl, hm, fun h0 => ?_⟩
 rcases hR.lies with h | ⟨b, off, rfl, hr, _⟩
 ·rw [List.map_eq_nil_iff.1 h] at h0; cases h0
 ·refine ⟨⟨b, off, none⟩, rfl, fun j p hj => ⟨cf p, ?_, hK w p, fun i u hi => ?_⟩⟩
  ·rw [hsz]; exact hR.even _ (List.mem_map.2 ⟨p, List.mem_of_getElem? hj, rfl⟩)
  ·rw [hsz]
   rw [Addr.add_mid]
   exact hr _ u (YaL hR.even (by rw [Xbn, hj]; rfl) hi)
end
def cells39 (x : S39) : List Value := [.int .i64 x.f0, .int .i64 x.f1, .string x.f2, .string x.f3, .int .i64 x.f4]
theorem ZaP {a b e : Int} {c d : ByteArray} : ∀ u ∈ [Value.int .i64 a, .int .i64 b, .string c, .string d, .int .i64 e], u.oneCell' = true := fun u hu => by
 simp only [zbr, List.not_mem_nil, or_false] at hu
 rcases hu with rfl | rfl | rfl | rfl | rfl <;> rfl
noncomputable def jL (s : ByteArray) : List S40 := (topS s.data.toList).1
noncomputable def jE (s : ByteArray) : Int := (topS s.data.toList).2
def rowF (l : List S40) : Nat → List Value := rowC Yr l
theorem rowF_O (l : List S40) : rowF l = rowC cells39 (l.map toO) := by
 unfold rowF rowC
 rw [List.map_map]
 rfl
theorem ZaH (s : ByteArray) (h : s.size ≤ 500) : (jL s).length ≤ 500 := by
 have hz := data_length s
 unfold jL topS
 split
 ·rename_i c
  split
  ·exact Ybm _
  ·have := (ZQ _).1 _ _ _ c
   show (pv _ _ _ _).2.2.length ≤ 500
   omega
 ·exact Ybm _
theorem right_j (s : ByteArray) (h : s.size ≤ 500) : Zo.f (jL s) = some (jE s == 0) := by
 have h0 := ZaH s h
 by_cases c : jE s = 0
 ·obtain ⟨t, jv, hl⟩ := top_sound s.data.toList c
  rw [show Zo.f (jL s) = some true from jv.right_f (by have := data_length s; omega), c]
  rfl
 ·have h1 : jL s = [] := top_err _ c
  rw [h1, show Zo.f [] = some false from rfl, Ybb.2 c]
def isJ (s : ByteArray) (n : Nat) (f : Nat → List Value) : Prop := s.size ≤ 500 ∧ n = (jL s).length ∧ f = rowF (jL s)
noncomputable def parsedT (x : ByteArray) : Tr AV := .two (gd (x.size ≤ 500)) (.one (.tup [.sl false 5 (jL x).length (rowF (jL x)), .lit (.int .i64 (jE x))])) .no
noncomputable def spAl : List AV → Option (Tr AV)
 | [] => some (.one (.lit (.bool true)))
 | _ => none
noncomputable def spPar : List AV → Option (Tr AV)
 | [.lit (.string x)] => some (parsedT x)
 | _ => none
noncomputable def spOld (s : ByteArray) : List AV → Option (Tr AV)
 | [.sl full 5 n f] => some (.two (gd (isJ s n f)) (.one (.sl false 5 n f)) .no)
 | _ => none
noncomputable def spSame (s : ByteArray) : List AV → Option (Tr AV)
 | [.sl full 5 n f, .sl full2 5 n2 f2] => some (.two (gd (isJ s n f ∧ isJ s n2 f2)) (.one (.lit (.bool true))) .no)
 | _ => none
noncomputable def spRig (s : ByteArray) : List AV → Option (Tr AV)
 | [.sl full 5 n f] => some (.two (gd (isJ s n f)) (.one (.lit (.bool (jE s == 0)))) .no)
 | _ => none
noncomputable def EW (s : ByteArray) : Env := (((((E0.know 6 spAl).know 10 spPar).know 14 spPar).know 13 (spOld s)).know 12 (spSame s)).know 15 (spRig s)
theorem Xba : Ev.Good P0 6 [] (.lit (.bool true)) := fun S w vs hI ha => by
 simp only [RepL] at ha
 subst ha
 refine (zL.calls true w rfl hI).mono ?_
 rintro e w' ⟨rfl, hb⟩
 exact ⟨_, rfl, hb, rfl⟩
theorem good_json (x : ByteArray) (h : x.size ≤ 500) : Ev.Good P0 10 [.lit (.string x)] (.tup [.sl false 5 (jL x).length (rowF (jL x)), .lit (.int .i64 (jE x))]) := fun S w vs hI ha => by
 simp only [RepL, Rep] at ha
 obtain ⟨u, us, rfl, rfl, rfl⟩ := ha
 refine (Xs.calls (4 * x.size + 60) x (jL x) (jE x) w (parse_top x (by omega) _ (Xbc _)) hI).mono ?_
 rintro e w' ⟨v0, rfl, hR, hb⟩
 refine ⟨_, rfl, hb, ?_⟩
 simp only [Rep, RepL]
 refine ⟨[_, _], rfl, _, _, rfl, ?_, _, _, rfl, rfl, rfl⟩
 exact za0 (k := k40) (cf := Yr) yaT (fun _ => rfl) (fun x => ZaP) rfl hR S
theorem good_ref (x : ByteArray) (h : x.size ≤ 500) : Ev.Good P0 14 [.lit (.string x)] (.tup [.sl false 5 (jL x).length (rowF (jL x)), .lit (.int .i64 (jE x))]) := by
 have := Yba x (by omega)
 have e : apL 0 (fun _ => []) (topS x.data.toList).1 = .sl false 5 (jL x).length (rowF (jL x)) := by
  unfold apL
  rw [xbl]
  rfl
 rw [e] at this
 exact this
theorem good_olds (s : ByteArray) (h : s.size ≤ 500) (full : Bool) : Ev.Good P0 13 [.sl full 5 (jL s).length (rowF (jL s))] (.sl false 5 (jL s).length (rowF (jL s))) := fun S w vs hI ha => by
 have hl := ZaH s h
 simp only [RepL] at ha
 obtain ⟨u, us, rfl, hu, rfl⟩ := ha
 obtain ⟨A, c, rfl, hc, hC⟩ := C_of_rep (k := k40) k40_mk rfl hu (by omega)
 refine (xC.calls A c (jL s) ((jL s).map toO) w hC hc (by unfold xC.f; rw [if_pos (by omega)])).mono ?_
 rintro e w' ⟨v0, rfl, hR, hb⟩
 refine ⟨_, rfl, hb, ?_⟩
 have := za0 (k := k39) (cf := cells39) zaT (fun _ => rfl) (fun x => ZaP) rfl hR S
 rw [xbk, ← rowF_O] at this
 exact this
theorem good_same (s : ByteArray) (h : s.size ≤ 500) (full full2 : Bool) : Ev.Good P0 12 [.sl full 5 (jL s).length (rowF (jL s)), .sl full2 5 (jL s).length (rowF (jL s))] (.lit (.bool true)) := fun S w vs hI ha => by
 have hl := ZaH s h
 simp only [RepL] at ha
 obtain ⟨u, us, rfl, hu, u2, us2, rfl, hu2, rfl⟩ := ha
 rw [rowF_O] at hu hu2
 have hn : (jL s).length = ((jL s).map toO).length := by rw [xbk]
 rw [hn] at hu hu2
 obtain ⟨A, c, rfl, hc, hC⟩ := C_of_rep (k := k39) k39_mk rfl hu (by rw [xbk]; omega)
 obtain ⟨A2, c2, rfl, hc2, hC2⟩ := C_of_rep (k := k39) k39_mk rfl hu2 (by rw [xbk]; omega)
 obtain ⟨r, h1, h2⟩ := sm_f ((jL s).map toO) ((jL s).map toO) (by rw [xbk]; omega) 1000 (by rw [xbk]; omega)
 refine (Yk.calls 1000 A c _ A2 c2 _ r w hC hc hC2 hc2 h1).mono ?_
 rintro e w' ⟨rfl, hd⟩
 rw [h2.2 rfl]
 exact ⟨_, rfl, hd.below, rfl⟩
theorem zbb (s : ByteArray) (h : s.size ≤ 500) (full : Bool) : Ev.Good P0 15 [.sl full 5 (jL s).length (rowF (jL s))] (.lit (.bool (jE s == 0))) := fun S w vs hI ha => by
 have hl := ZaH s h
 simp only [RepL] at ha
 obtain ⟨u, us, rfl, hu, rfl⟩ := ha
 obtain ⟨A, c, rfl, hc, hC⟩ := C_of_rep (k := k40) k40_mk rfl hu (by omega)
 refine (Zo.calls A c (jL s) (jE s == 0) w hC hc (right_j s h) (JTabs.tabs hI)).mono ?_
 rintro e w' ⟨rfl, hb⟩
 exact ⟨_, rfl, hb, rfl⟩
theorem EWok (s : ByteArray) : EnvOk P0 (EW s) := by
 refine EnvOk.know (EnvOk.know (EnvOk.know (EnvOk.know (EnvOk.know (EnvOk.know E0ok ?_) ?_) ?_) ?_) ?_) ?_
 all_goals intro args t r h1 h2
 ·unfold spAl at h1; split at h1
  ·cases h1; cases h2; exact Xba
  ·cases h1
 ·unfold spPar at h1; split at h1
  ·cases h1; obtain ⟨hx, h3⟩ := zA h2; cases h3; exact good_json _ hx
  ·cases h1
 ·unfold spPar at h1; split at h1
  ·cases h1; obtain ⟨hx, h3⟩ := zA h2; cases h3; exact good_ref _ hx
  ·cases h1
 ·unfold spOld at h1; split at h1
  ·cases h1; obtain ⟨⟨h, rfl, rfl⟩, h3⟩ := zA h2; cases h3; exact good_olds s h _
  ·cases h1
 ·unfold spSame at h1; split at h1
  ·cases h1; obtain ⟨⟨⟨h, rfl, rfl⟩, _, rfl, rfl⟩, h3⟩ := zA h2; cases h3; exact good_same s h _ _
  ·cases h1
 ·unfold spRig at h1; split at h1
  ·cases h1; obtain ⟨⟨h, rfl, rfl⟩, h3⟩ := zA h2; cases h3; exact zbb s h _
  ·cases h1
theorem tr_law (s : ByteArray) (K : AV → Mem → Option Ans) : Zz P0 (EW s) 9 4 [.lit (.string s)] ⟨[], []⟩ K = (.two (decide ((s.size : Int) > 500)) (.one (.lit (.bool true))) (.two (gd (s.size ≤ 500)) (.two (gd (s.size ≤ 500)) (.two true (.two (gd (isJ s ((jL s).length) (rowF (jL s)))) (.two (gd (isJ s ((jL s).length) (rowF (jL s)) ∧ isJ s ((jL s).length) (rowF (jL s)))) (.two true (.two ((jE s) == (jE s)) (.two (gd (isJ s ((jL s).length) (rowF (jL s)))) (.one (.lit (.bool ((jE s == 0) == ((jE s) == 0))))) .no) (.one (.lit (.bool false)))) (.one (.lit (.bool false)))) .no) .no) (.one (.lit (.bool false)))) .no) .no) : Tr AV).run fun r => K r ⟨[], []⟩ := by kernel_rfl
theorem law_good (s : ByteArray) : Ev.Good P0 4 [.lit (.string s)] (.lit (.bool true)) := by
 have hb : zv P0 4 = true := by kernel_rfl
 by_cases c : s.size ≤ 500
 ·have z1 : ¬ (s.size : Int) > 500 := by omega
  have F1 := gd_true c
  have F2 : gd (isJ s (jL s).length (rowF (jL s))) = true := gd_true ⟨c, rfl, rfl⟩
  have F3 : gd (isJ s (jL s).length (rowF (jL s)) ∧ isJ s (jL s).length (rowF (jL s))) = true := gd_true ⟨⟨c, rfl, rfl⟩, c, rfl, rfl⟩
  refine (Xe (EWok s) hb (tr_law s) (r := .lit (.bool ((jE s == 0) == (jE s == 0)))) ?_ rfl).weak ?_
  ·simp only [↓Yc, sel_one, F1, F2, F3, Zbd, z1, beq_self_eq_true, ↓reduceIte]
  ·intro g m w v h
   rw [beq_self_eq_true] at h
   exact h
 ·have z1 : (s.size : Int) > 500 := by omega
  refine Xe (EWok s) hb (tr_law s) (r := .lit (.bool true)) ?_ rfl
  simp only [↓Yc, sel_one, Zbd, z1, ↓reduceIte]
theorem jsonParses_walk (s : ByteArray) (w : World) (hz : s.size ≤ 140737488351232) (tj : JTabs w) (tb : Tabs w) : Calls Tryz.prog 4 #[.string s] w fun e w' => e = .returned (.bool true) ∧ Below w.heap.size w w' := by
 refine (law_good s (fun _ _ => True) w [.string s] tj (by simp [RepL, Rep])).mono ?_
 rintro e w' ⟨v, rfl, hb, hv⟩
 simp only [Rep] at hv
 subst hv
 exact ⟨rfl, hb⟩
end Go.Proofs.NGiv
