/- The law UtfJoins, walked by hand. -/
import Derived.Test.YthhmmaihbjhhgaaDoorUtfZ
import Derived.Test.YthhmmaihbjhhgaaDoorU2x1
import Derived.Deep.Upon
namespace Go.Proofs.YthhmmaihbjhhgaaDoor.Giv
open Go.RowKit Go.Proofs.YthhmmaihbjhhgaaDoorW.PrintWords Go.Proofs.YthhmmaihbjhhgaaDoorW.PrintLast Go.Proofs.YthhmmaihbjhhgaaDoorW.PrintMore
open Go.Proofs.YthhmmaihbjhhgaaDoor.U1 Go.Proofs.YthhmmaihbjhhgaaDoor.U2

/-- an append at a step of a plain region, whatever its guard -/
theorem wpList_append_at {P : Program} {ops : Array Oper} {rest : List Oper} {o : Oper} {a : Act} {Q : Exit → Act → World → Prop} (s x : Operand) (t : TypeId) (ho : o.op = .call { callee := .builtin .append, args := #[s, x], argTypes := #[t, t] })
    (hw : Region.wanted o (yielded ops a.tmps) = true) (v u v' : Value) (w w' : World) (hs : a.eval s = v) (hx : a.eval x = u) (hrun : (Builtin.append_ #[t, t] o.type #[v, u]).run P w = .ok v' w') (h : wpList P ops Q rest (a.put o.dst v') w') :
    wpList P ops Q (o :: rest) a w := by
  refine wpList_step fun K hK => ?_
  rw [if_pos hw]
  unfold Oper.wp
  simp [execOp, ho, resolve, invoke, builtin, hs, hx, hrun, Result.andThen]
  exact hK _ _ h
theorem C_cells {W : World} {ad : Addr} {n : Nat} {xs : List Int} (h : Kd.C (Kd.int .i64) W (some ad) n xs) : ∀ j v, (xs.map (Value.int .i64))[j]? = some v → W.cell? (ad.add j) = some v := by
  intro j v hj
  have hjl : j < xs.length := by
    have := (List.getElem?_eq_some_iff.1 hj).1
    rw [List.length_map] at this; exact this
  obtain ⟨h1, h2, h3⟩ := h
  obtain ⟨ad', e, hc⟩ := h3 (by omega)
  cases e
  obtain ⟨c, hl, hk, hcell⟩ := hc j _ (List.getElem?_eq_getElem hjl)
  have hk' : c = [Value.int .i64 xs[j]] := hk
  subst hk'
  have := hcell 0 _ rfl
  rw [List.getElem?_map, List.getElem?_eq_getElem hjl] at hj
  cases hj
  show W.cell? (ad.add j) = _
  have e2 : j * (Kd.int .i64).sz + 0 = j := by show j * 1 + 0 = j; omega
  rw [e2] at this
  exact this
theorem C_of_cells {W : World} {ad : Addr} {xs : List Int} (hn : xs.length ≤ 9223372036854775807) (h : ∀ j v, (xs.map (Value.int .i64))[j]? = some v → W.cell? (ad.add j) = some v) : Kd.C (Kd.int .i64) W (some ad) xs.length xs := by
  refine ⟨rfl, hn, fun _ => ⟨ad, rfl, fun j p hj => ⟨[Value.int .i64 p], rfl, rfl, fun i u hi => ?_⟩⟩⟩
  have hi0 : i = 0 := by
    have := (List.getElem?_eq_some_iff.1 hi).1
    simp at this; exact this
  subst hi0
  cases hi
  have e2 : j * (Kd.int .i64).sz + 0 = j := by show j * 1 + 0 = j; omega
  rw [e2]
  exact h j _ (by rw [List.getElem?_map, hj]; rfl)
/-- an append to a row that was cut to its own length -/
theorem append_cut (w : World) (A A1 : Option Addr) (c1 : Nat) (xs ys : List Int) (hC : Kd.C (Kd.int .i64) w A xs.length xs) (hC1 : Kd.C (Kd.int .i64) w A1 ys.length ys) (hb : (xs.length + ys.length) * 8 ≤ 140737488355328) :
    ∃ A' c' w', (Builtin.append_ #[29, 29] 29 #[.slice A xs.length xs.length, .slice A1 ys.length c1]).run Tryd.prog w = .ok (.slice A' (xs.length + ys.length) c') w' ∧ (xs ++ ys).length ≤ c' ∧ Kd.C (Kd.int .i64) w' A' (xs ++ ys).length (xs ++ ys) ∧ Below w.heap.size w w' := by
  obtain ⟨i, hi, hz, hs, hy⟩ : ∃ i : TypeInfo, Tryd.prog.info? 3 = some i ∧ i.zero = some (.int .i64 0) ∧ i.size = 1 ∧ i.bytes = 8 := by
    have := info3
    obtain ⟨i, h1, h2⟩ := Option.map_eq_some_iff.1 this
    simp only [Prod.mk.injEq] at h2
    exact ⟨i, h1, h2.1, h2.2.1, h2.2.2⟩
  have ht := Tryd.underlying29
  by_cases h0 : ys = []
  · subst h0
    refine ⟨A, xs.length, w, ?_, by simp, by rw [List.append_nil]; exact hC, Below.refl _ _⟩
    cases A1 with
    | none => exact run_append_nothing w 29 29 29 3 i ht hi A _ _ (Nat.le_refl _) _ (Src.ofNil w ht c1)
    | some ad => exact run_append_nothing w 29 29 29 3 i ht hi A _ _ (Nat.le_refl _) _ (Src.ofSlice w ht ad 0 c1 [] (by simp) (by simp) (by simp))
  · have hp : 0 < ys.length := List.length_pos_iff.2 h0
    obtain ⟨ad1, e1, _⟩ := hC1.2.2 hp
    subst e1
    have news := C_cells hC1
    have fin : ∀ (cap : Nat) (Z : Array Value), xs.length + ys.length ≤ cap → ∃ A' c' w', (Result.ok (Value.slice (some ⟨w.heap.size, 0, none⟩) (xs.length + ys.length) cap) (w.drew.alloc (.cells ((xs.map (Value.int .i64)).toArray ++ (ys.map (Value.int .i64)).toArray ++ Z) 3)) : Result Value) = .ok (.slice A' (xs.length + ys.length) c') w' ∧ (xs ++ ys).length ≤ c' ∧ Kd.C (Kd.int .i64) w' A' (xs ++ ys).length (xs ++ ys) ∧ Below w.heap.size w w' := by
      intro cap Z hcap
      refine ⟨_, _, _, rfl, by rw [List.length_append]; exact hcap, ?_, below_alloc (below_drew (Below.refl _ _)) _⟩
      refine C_of_cells (by rw [List.length_append]; omega) ?_
      intro j v hj
      have hjl := (List.getElem?_eq_some_iff.1 hj).1
      have ea : (⟨w.heap.size, 0, none⟩ : Addr).add j = ⟨w.drew.heap.size, j, none⟩ := by
        have ed : w.drew.heap.size = w.heap.size := rfl
        rw [ed]
        unfold Addr.add
        split
        · rename_i h; rw [h]
        · simp
      rw [ea, World.cell?_alloc_new]
      rw [List.map_append] at hj hjl
      rw [Array.getElem?_append_left (by rw [Array.size_append, List.size_toArray, List.size_toArray]; rw [List.length_append] at hjl; exact hjl), List.append_toArray, List.getElem?_toArray]
      exact hj
    cases A with
    | none =>
      have hx : xs = [] := by
        rcases Nat.eq_zero_or_pos xs.length with h | h
        · exact List.eq_nil_of_length_eq_zero h
        · obtain ⟨_, e, _⟩ := hC.2.2 h
          cases e
      subst hx
      have hr := run_append_nil (P := Tryd.prog) w 29 29 3 i _ ht hi hz ad1 ys.length c1 (ys.map (Value.int .i64)) (by rw [hs]; simp) news hp (by simp at hb; omega) (by rw [hy]; simp at hb; omega)
      obtain ⟨A', c', w', e, r⟩ := fin (grownCap w ys.length 0 3) (Builtin.zeroCells (Value.int .i64 0).cells (grownCap w ys.length 0 3 - ys.length)) (by have := grownCap_ge w ys.length 0 3; simp; exact this)
      refine ⟨A', c', w', ?_, r⟩
      rw [← e]
      simpa using hr
    | some ad =>
      have hr := run_append_grow (P := Tryd.prog) w 29 29 3 i _ ht hi hz ad xs.length xs.length (xs.map (Value.int .i64)) (by rw [hs]; simp) (C_cells hC) ad1 ys.length c1 (ys.map (Value.int .i64)) (by rw [hs]; simp) news (by omega) (by omega) (by rw [hy]; exact growslice_fits (by omega) hb)
      obtain ⟨A', c', w', e, r⟩ := fin (grownCap w (xs.length + ys.length) xs.length 3) (Builtin.zeroCells (Value.int .i64 0).cells (grownCap w (xs.length + ys.length) xs.length 3 - (xs.length + ys.length))) (grownCap_ge w _ _ 3)
      refine ⟨A', c', w', ?_, r⟩
      rw [← e]
      exact hr
set_option maxHeartbeats 4000000 in
set_option maxRecDepth 100000 in
theorem ujoins_both (k : Nat) (a b : ByteArray) (xs ys : List Int) (w : World) (ht : Tabs w) (h1 : a.size ≤ 500) (h2 : b.size ≤ 500) (hVa : utf_Valid.f a = some true) (hVb : utf_Valid.f b = some true) (hVj : utf_Valid.f (a ++ b) = some true)
    (hRa : utf_Runes.f a = some (xs, true)) (hRb : utf_Runes.f b = some (ys, true)) (hRj : utf_Runes.f (a ++ b) = some (xs ++ ys, true)) (hal : cracknellaw05_alive.f k = some true) (hS : cracknelref05_Same.f k (xs ++ ys) (xs ++ ys) = some true) (hlen : (xs.length + ys.length) * 8 ≤ 140737488355328) :
    Calls Tryd.prog 7 #[.string a, .string b] w fun e w' => e = .returned (.bool true) ∧ Below w.heap.size w w' := by
  have FA := Aside0.mk hVa
  have FB := Aside0.mk hVb
  have FJ := Aside0.mk hVj
  have GA := Aside0.mk hRa
  have GB := Aside0.mk hRb
  have GJ := Aside0.mk hRj
  have FL := Aside0.mk hal
  have FS := Aside0.mk hS
  have FE := Aside0.mk hlen
  have HB := Aside0.mk (Below.refl w.heap.size w)
  have c1 : decide (500 < (a.size : Int)) = false := decide_eq_false (by omega)
  have c2 : decide (500 < (b.size : Int)) = false := decide_eq_false (by omega)
  have q6 : (9223372036854775807 < a.size + b.size) = False := eq_false (by omega)
  clear hVa hVb hVj hRa hRb hRj hal hS hlen
  go_enter Tryd.func7, Tryd.ntmps7
  go_wp2_with (first
    | (go_at_call 30; with_reducible refine (utf_Valid.calls a _ _ FA.out).mono ?_; rintro e w1 ⟨rfl, hb⟩; have HB := Aside0.mk (below_step HB.out hb))
    | (go_at_call 28; with_reducible refine (utf_Runes.calls a _ _ _ GA.out).mono ?_; rintro e w2 ⟨vl, rfl, hr, hb⟩; have HB := Aside0.mk (below_step HB.out hb); obtain ⟨Al, cl, rfl, hlc, hCl⟩ := Kd.R_reads hr; have CA := Aside0.mk hCl; clear hr hCl)
    | (go_at_call 28; with_reducible refine (utf_Runes.calls b _ _ _ GB.out).mono ?_; rintro e w3 ⟨vl, rfl, hr, hb⟩; have HB := Aside0.mk (below_step HB.out hb); obtain ⟨Am, cm, rfl, hmc, hCm⟩ := Kd.R_reads hr; have CB := Aside0.mk hCm; have CA := Aside0.mk (Kd.C_below CA.out hb); clear hr hCm)
    | (go_at_call 28; with_reducible refine (utf_Runes.calls (a ++ b) _ _ _ GJ.out).mono ?_; rintro e w4 ⟨vl, rfl, hr, hb⟩; have HB := Aside0.mk (below_step HB.out hb); obtain ⟨An, cn, rfl, hnc, hCn⟩ := Kd.R_reads hr; have CN := Aside0.mk hCn; have CA := Aside0.mk (Kd.C_below CA.out hb); have CB := Aside0.mk (Kd.C_below CB.out hb); clear hr hCn)
    | (go_at_call 24; with_reducible refine (cracknellaw05_alive.calls k _ _ FL.out).mono ?_; rintro e w5 ⟨rfl, hb⟩; have HB := Aside0.mk (below_step HB.out hb); have CA := Aside0.mk (Kd.C_below CA.out hb); have CB := Aside0.mk (Kd.C_below CB.out hb); have CN := Aside0.mk (Kd.C_below CN.out hb))
    | (go_at_call 30; with_reducible refine (utf_Valid.calls b _ _ FB.out).mono ?_; rintro e w6 ⟨rfl, hb⟩; have HB := Aside0.mk (below_step HB.out hb); have CA := Aside0.mk (Kd.C_below CA.out hb); have CB := Aside0.mk (Kd.C_below CB.out hb); have CN := Aside0.mk (Kd.C_below CN.out hb))
    | (go_at_call 30; with_reducible refine (utf_Valid.calls (a ++ b) _ _ FJ.out).mono ?_; rintro e w7 ⟨rfl, hb⟩; have HB := Aside0.mk (below_step HB.out hb); have CA := Aside0.mk (Kd.C_below CA.out hb); have CB := Aside0.mk (Kd.C_below CB.out hb); have CN := Aside0.mk (Kd.C_below CN.out hb))
    | (at_builtin; obtain ⟨As, cs, w8, hrun, hsc, hCs, hb⟩ := append_cut w7 Al Am cm xs ys CA.out CB.out FE.out; refine wpList_append_at (.tmp 67) (.tmp 68) 29 rfl (by rfl) _ _ _ _ _ rfl rfl hrun ?_; have HB := Aside0.mk (below_step HB.out hb); have CN := Aside0.mk (Kd.C_below CN.out hb); have CS := Aside0.mk hCs; have HSC := Aside0.mk hsc; clear hrun hsc hCs)
    | (go_at_call 29; refine calls_of_args (args' := #[.slice An (xs ++ ys).length cn, .slice As (xs ++ ys).length cs]) (by rw [List.length_append]) ((cracknelref05_Same.calls k An cn _ As cs _ true _ CN.out hnc CS.out HSC.out FS.out).mono ?_); rintro e w9 ⟨rfl, ⟨nd, rfl⟩⟩; have HB := Aside0.mk (pw_below_drewN HB.out nd)))
  go_ret
  exact ⟨rfl, HB.out⟩
set_option maxHeartbeats 4000000 in
set_option maxRecDepth 100000 in
theorem ujoins_a (k : Nat) (a b : ByteArray) (w : World) (ht : Tabs w) (hal : cracknellaw05_alive.f k = some true) (h1 : 500 < a.size) :
    Calls Tryd.prog 7 #[.string a, .string b] w fun e w' => e = .returned (.bool true) ∧ Below w.heap.size w w' := by
  have FL := Aside0.mk hal
  have HB := Aside0.mk (Below.refl w.heap.size w)
  have c1 : decide (500 < (a.size : Int)) = true := decide_eq_true (by omega)
  clear hal
  go_enter Tryd.func7, Tryd.ntmps7
  go_wp2_with (first
    | (go_at_call 24; with_reducible refine (cracknellaw05_alive.calls k _ _ FL.out).mono ?_; rintro e w1 ⟨rfl, hb⟩; have HB := Aside0.mk (below_step HB.out hb)))
  go_ret
  exact ⟨rfl, HB.out⟩
set_option maxHeartbeats 4000000 in
set_option maxRecDepth 100000 in
theorem ujoins_b (k : Nat) (a b : ByteArray) (w : World) (ht : Tabs w) (hal : cracknellaw05_alive.f k = some true) (h1 : a.size ≤ 500) (h2 : 500 < b.size) :
    Calls Tryd.prog 7 #[.string a, .string b] w fun e w' => e = .returned (.bool true) ∧ Below w.heap.size w w' := by
  have FL := Aside0.mk hal
  have HB := Aside0.mk (Below.refl w.heap.size w)
  have c1 : decide (500 < (a.size : Int)) = false := decide_eq_false (by omega)
  have c2 : decide (500 < (b.size : Int)) = true := decide_eq_true (by omega)
  clear hal
  go_enter Tryd.func7, Tryd.ntmps7
  go_wp2_with (first
    | (go_at_call 24; with_reducible refine (cracknellaw05_alive.calls k _ _ FL.out).mono ?_; rintro e w1 ⟨rfl, hb⟩; have HB := Aside0.mk (below_step HB.out hb)))
  go_ret
  exact ⟨rfl, HB.out⟩
set_option maxHeartbeats 4000000 in
set_option maxRecDepth 100000 in
theorem ujoins_no (k : Nat) (a b : ByteArray) (w : World) (ht : Tabs w) (hal : cracknellaw05_alive.f k = some true) (h1 : a.size ≤ 500) (h2 : b.size ≤ 500) (hVa : utf_Valid.f a = some false) :
    Calls Tryd.prog 7 #[.string a, .string b] w fun e w' => e = .returned (.bool true) ∧ Below w.heap.size w w' := by
  have FL := Aside0.mk hal
  have HB := Aside0.mk (Below.refl w.heap.size w)
  have c1 : decide (500 < (a.size : Int)) = false := decide_eq_false (by omega)
  have c2 : decide (500 < (b.size : Int)) = false := decide_eq_false (by omega)
  have FA := Aside0.mk hVa
  clear hVa
  clear hal
  go_enter Tryd.func7, Tryd.ntmps7
  go_wp2_with (first
    | (go_at_call 30; with_reducible refine (utf_Valid.calls a _ _ FA.out).mono ?_; rintro e w1 ⟨rfl, hb⟩; have HB := Aside0.mk (below_step HB.out hb))
    | (go_at_call 24; with_reducible refine (cracknellaw05_alive.calls k _ _ FL.out).mono ?_; rintro e w1 ⟨rfl, hb⟩; have HB := Aside0.mk (below_step HB.out hb)))
  go_ret
  exact ⟨rfl, HB.out⟩
set_option maxHeartbeats 4000000 in
set_option maxRecDepth 100000 in
theorem ujoins_nob (k : Nat) (a b : ByteArray) (w : World) (ht : Tabs w) (hal : cracknellaw05_alive.f k = some true) (h1 : a.size ≤ 500) (h2 : b.size ≤ 500) (xs ys zs : List Int) (hVa : utf_Valid.f a = some true) (hVb : utf_Valid.f b = some false) (hVj : utf_Valid.f (a ++ b) = some false) (hRa : utf_Runes.f a = some (xs, true)) (hRb : utf_Runes.f b = some (ys, false)) (hRj : utf_Runes.f (a ++ b) = some (zs, false)) :
    Calls Tryd.prog 7 #[.string a, .string b] w fun e w' => e = .returned (.bool true) ∧ Below w.heap.size w w' := by
  have FL := Aside0.mk hal
  have HB := Aside0.mk (Below.refl w.heap.size w)
  have c1 : decide (500 < (a.size : Int)) = false := decide_eq_false (by omega)
  have c2 : decide (500 < (b.size : Int)) = false := decide_eq_false (by omega)
  have q6 : (9223372036854775807 < a.size + b.size) = False := eq_false (by omega)
  have FA := Aside0.mk hVa
  have FB := Aside0.mk hVb
  have FJ := Aside0.mk hVj
  have GA := Aside0.mk hRa
  have GB := Aside0.mk hRb
  have GJ := Aside0.mk hRj
  clear hVa hVb hVj hRa hRb hRj
  clear hal
  go_enter Tryd.func7, Tryd.ntmps7
  go_wp2_with (first
    | (go_at_call 30; with_reducible refine (utf_Valid.calls a _ _ FA.out).mono ?_; rintro e w1 ⟨rfl, hb⟩; have HB := Aside0.mk (below_step HB.out hb))
    | (go_at_call 30; with_reducible refine (utf_Valid.calls b _ _ FB.out).mono ?_; rintro e w1 ⟨rfl, hb⟩; have HB := Aside0.mk (below_step HB.out hb))
    | (go_at_call 30; with_reducible refine (utf_Valid.calls (a ++ b) _ _ FJ.out).mono ?_; rintro e w1 ⟨rfl, hb⟩; have HB := Aside0.mk (below_step HB.out hb))
    | (go_at_call 28; with_reducible refine (utf_Runes.calls a _ _ _ GA.out).mono ?_; rintro e w2 ⟨vl, rfl, hr, hb⟩; have HB := Aside0.mk (below_step HB.out hb); obtain ⟨Al, cl, rfl, hlc, hCl⟩ := Kd.R_reads hr; clear hr hCl hlc)
    | (go_at_call 28; with_reducible refine (utf_Runes.calls b _ _ _ GB.out).mono ?_; rintro e w2 ⟨vl, rfl, hr, hb⟩; have HB := Aside0.mk (below_step HB.out hb); obtain ⟨Al, cl, rfl, hlc, hCl⟩ := Kd.R_reads hr; clear hr hCl hlc)
    | (go_at_call 28; with_reducible refine (utf_Runes.calls (a ++ b) _ _ _ GJ.out).mono ?_; rintro e w2 ⟨vl, rfl, hr, hb⟩; have HB := Aside0.mk (below_step HB.out hb); obtain ⟨Al, cl, rfl, hlc, hCl⟩ := Kd.R_reads hr; clear hr hCl hlc)
    | (go_at_call 24; with_reducible refine (cracknellaw05_alive.calls k _ _ FL.out).mono ?_; rintro e w1 ⟨rfl, hb⟩; have HB := Aside0.mk (below_step HB.out hb)))
  go_ret
  exact ⟨rfl, HB.out⟩
set_option maxRecDepth 100000 in
theorem alive5 : cracknellaw05_alive.f 1 = some true := by decide +kernel
theorem valid_f (s : ByteArray) (h : s.size ≤ 1000000) : utf_Valid.f s = some (Lib.validD s.data.toList) := by
  unfold utf_Valid.f utf8_ValidString.f
  rw [if_pos (by omega)]; rfl
theorem runes_f (s : ByteArray) (h : s.size ≤ 1000000) : utf_Runes.f s = some (runesS s) := by
  unfold utf_Runes.f
  rw [if_pos (by omega)]
theorem lets_len (l : List UInt8) (xs : List Int) (h : lets l = some xs) : xs.length ≤ l.length := by
  obtain ⟨_, e⟩ := of_lets _ l xs (Nat.le_refl _) h
  have g : ∀ ys : List Int, ys.length ≤ (encs ys).length := by
    intro ys
    induction ys with
    | nil => exact Nat.le_refl _
    | cons r ys ih =>
      have := enc_len_pos r
      rw [encs, List.length_append, List.length_cons]; omega
  rw [← e]; exact g xs
theorem ujoins_walk (a b : ByteArray) (w : World) (_ : a.size ≤ 140737488351232) (_ : b.size ≤ 140737488351232) (ht : Tabs w) :
    Calls Tryd.prog 7 #[.string a, .string b] w fun e w' => e = .returned (.bool true) ∧ Below w.heap.size w w' := by
  have al : ∀ k, 1 ≤ k → cracknellaw05_alive.f k = some true := fun k hk => at_rounds cracknellaw05_alive.mono hk alive5
  by_cases hl : 500 < a.size
  · exact ujoins_a 1 a b w ht (al 1 (by decide)) hl
  · by_cases hm : 500 < b.size
    · exact ujoins_b 1 a b w ht (al 1 (by decide)) (by omega) hm
    · have hs : (a ++ b).size = a.size + b.size := ByteArray.size_append
      have va := valid_f a (by omega)
      have vb := valid_f b (by omega)
      have vj := valid_f (a ++ b) (by omega)
      have ra := runes_f a (by omega)
      have rb := runes_f b (by omega)
      have rj := runes_f (a ++ b) (by omega)
      rw [valid_lets _ _ (Nat.le_refl _)] at va vb vj
      rw [runes_lets] at ra rb rj
      have ej : (a ++ b).data.toList = a.data.toList ++ b.data.toList := by rw [ByteArray.data_append, Array.toList_append]
      cases hx : lets a.data.toList with
      | none =>
        rw [hx] at va
        exact ujoins_no 1 a b w ht (al 1 (by decide)) (by omega) (by omega) va
      | some xs =>
        obtain ⟨g1, g2⟩ := of_lets _ _ xs (Nat.le_refl _) hx
        have hj : lets (a ++ b).data.toList = (lets b.data.toList).map fun z => xs ++ z := by
          rw [ej, ← g2]
          exact lets_encs b.data.toList xs g1
        have lx := lets_len _ _ hx
        rw [data_length] at lx
        rw [hx] at va ra
        cases hy : lets b.data.toList with
        | none =>
          rw [hy] at hj vb rb
          rw [hj] at vj rj
          exact ujoins_nob 1 a b w ht (al 1 (by decide)) (by omega) (by omega) _ _ _ va vb vj ra rb rj
        | some ys =>
          have ly := lets_len _ _ hy
          rw [data_length] at ly
          rw [hy] at hj vb rb
          rw [hj] at vj rj
          exact ujoins_both 5000 a b xs ys w ht (by omega) (by omega) va vb vj ra rb rj (al 5000 (by decide)) (by rw [same_f 5000 _ _ (by rw [List.length_append]; omega) (by rw [List.length_append]; omega), decide_eq_true rfl]) (by omega)
end Go.Proofs.YthhmmaihbjhhgaaDoor.Giv
