/- What the proof of chapter 8's laws, part 4, stands on: cut and merged by a program out of this session's texts. -/
import Derived.Test.YthhmmaihbjhhgaaGreatDoorKY3
set_option linter.unusedVariables false
set_option linter.unusedSimpArgs false
set_option linter.unusedSectionVars false
set_option maxHeartbeats 8000000
set_option maxRecDepth 100000
namespace Go.Proofs.NGiv
open Go.RowKit Go.Proofs.Wa Go.Proofs.Wb Go.Proofs.Wc
open Go.Proofs.NU1 Go.Proofs.NQ1 Go.Proofs.NJ0 Go.Proofs.NJ1
def YO (s : ByteArray) (p : Nat) (out : List S40) (x : S40) : Int × Nat × List S40 :=
 if [110, 117, 108, 108] <+: s.data.toList.drop p then (0, p + 4, out ++ [⟨x.f0, 1, x.f2, x.f3, x.f4⟩])
 else if [102, 97, 108, 115, 101] <+: s.data.toList.drop p then (0, p + 5, out ++ [⟨x.f0, 2, x.f2, x.f3, x.f4⟩])
 else if [116, 114, 117, 101] <+: s.data.toList.drop p then (0, p + 4, out ++ [⟨x.f0, 3, x.f2, x.f3, x.f4⟩])
 else (80, p, out)
theorem YaB (w0 W : World) (g : Nat) (s : ByteArray) (p : Nat) (v : Value) (out : List S40) (x : S40) (hR : Rd W g s p v) (hO : Out w0 W g v out) (hB : Below w0.heap.size w0 W) (hg : w0.heap.size ≤ g) (hp : p ≤ s.size) (hs : s.size ≤ 4611686018427387904) (hl : (out.length + 1) * 56 ≤ 140737488355328) :
  Calls Tryz.prog 43 #[.pointer (some ⟨g, 0, none⟩), Yh x] W fun e W' => e = .returned (.int .i64 (YO s p out x).1) ∧ Left w0 W W' g s (YO s p out x).2.1 v (YO s p out x).2.2 := by
 have len : ∀ t : List UInt8, decide (t <+: s.data.toList.drop p) = true → p + t.length ≤ s.size := by
  intro t h
  have := List.IsPrefix.length_le (xbc h)
  rw [Zbb, data_length] at this
  omega
 have h := word_walk w0 W g s p v out x hR hO hB hg hp hs hl _ _ _ (Zay s p [110, 117, 108, 108]) (Zay s p [102, 97, 108, 115, 101]) (Zay s p [116, 114, 117, 101]) (len _) (len _) (len _)
 unfold YO
 by_cases a : [110, 117, 108, 108] <+: s.data.toList.drop p
 ·rw [decide_eq_true a] at h; rw [if_pos a]; exact h
 ·rw [zbd a] at h; rw [if_neg a]
  by_cases b : [102, 97, 108, 115, 101] <+: s.data.toList.drop p
  ·rw [decide_eq_true b] at h; rw [if_pos b]; exact h
  ·rw [zbd b] at h; rw [if_neg b]
   by_cases c : [116, 114, 117, 101] <+: s.data.toList.drop p
   ·rw [decide_eq_true c] at h; rw [if_pos c]; exact h
   ·rw [zbd c] at h; rw [if_neg c]; exact h
theorem Left.comp {w0 w1 wf W' : World} {g q : Nat} {s : ByteArray} {v v' : Value} {out : List S40} (hA : v'.ownBlock = v.ownBlock ∨ ∃ b, v'.ownBlock = some b ∧ w1.heap.size ≤ b) (hK : KeepBut w1 wf g v.ownBlock) (h : Left w0 wf W' g s q v' out) : Left w0 w1 W' g s q v out := by
 refine ⟨?_, h.below, hK.trans h.keep hA⟩
 obtain ⟨v2, a, b, c⟩ := h.left
 refine ⟨v2, a, b, ?_⟩
 rcases c with c | ⟨k, c1, c2⟩
 ·rw [c]; exact hA
 ·exact .inr ⟨k, c1, Ybg hK.1 c2⟩
theorem za1 (w0 W : World) (g : Nat) (s : ByteArray) (p : Nat) (v : Value) (out : List S40) (x : S40) (hR : Rd W g s p v) (hO : Out w0 W g v out) (hB : Below w0.heap.size w0 W) (hg : w0.heap.size ≤ g) (hp : p ≤ s.size) (hs : s.size ≤ 4611686018427387904) (hj : JTabs w0) (hl : (out.length + 1) * 56 ≤ 140737488355328) (_h91 : zd s p ≠ 91) (_h123 : zd s p ≠ 123) (h34 : zd s p ≠ 34) (h45 : zd s p ≠ 45) (h48 : zd s p < 48) :
  Calls Tryz.prog 22 #[.pointer (some ⟨g, 0, none⟩), Yh x] W fun e W' => e = .returned (.int .i64 (YO s (Zb s p) out x).1) ∧ Left w0 W W' g s (YO s (Zb s p) out x).2.1 v (YO s (Zb s p) out x).2.2 := by
 have HR := Aside0.mk hR
 have HO := Aside0.mk hO
 have HB := Aside0.mk hB
 have HG := Aside0.mk hg
 have HS := Aside0.mk hs
 have HP := Aside0.mk hp
 have JT := Aside0.mk hj
 have HP1 := Aside0.mk (Xu s p hp)
 have HL := Aside0.mk hl
 have c91 : ((zd s p : Int) == 91) = false := Ybb.mpr (by omega)
 have c123 : ((zd s p : Int) == 123) = false := Ybb.mpr (by omega)
 have c34 : ((zd s p : Int) == 34) = false := Ybb.mpr (by omega)
 have c45 : ((zd s p : Int) == 45) = false := Ybb.mpr (by omega)
 have d48 : decide (48 ≤ (zd s p : Int)) = false := zbd (by omega)
 clear hR hB hg hs hO hp hj hl h34 h45 h48
 unfold Yh
 go_enter Tryz.func22, Tryz.ntmps22
 go_wp2_with fail
 obtain ⟨b, hb⟩ : ∃ b, W.heap.size = b := ⟨_, rfl⟩
 have hgW := Yg HR.out
 have HA : Aside0 (Below W.heap.size W (W.alloc (.cells #[.int .i64 x.f0, .int .i64 x.f1, .string x.f2, .string x.f3, .int .i64 x.f4] 40))) := ⟨Za (ybd _ _) _⟩
 have HI : Aside0 (Itm (W.alloc (.cells #[.int .i64 x.f0, .int .i64 x.f1, .string x.f2, .string x.f3, .int .i64 x.f4] 40)) b x) := ⟨by rw [← hb]; exact ybi _ _⟩
 have HR := Aside0.mk (Zu HR.out HA.out)
 have HO : Aside0 (Kd.R k40 40 (W.alloc (.cells #[.int .i64 x.f0, .int .i64 x.f1, .string x.f2, .string x.f3, .int .i64 x.f4] 40)) w0.heap.size (fun j => j ≠ g ∧ j ≠ b) v out) := ⟨Kd.R_below (Kd.R_mono (Kd.R_bound HO.out) (fun k hk => ⟨hk.1, by have := hk.2.2.1; omega⟩)) HA.out⟩
 have HK := Aside0.mk (KeepBut.of_below HA.out g none)
 have HBo := HB
 have HB := Aside0.mk (Ze HB.out HA.out)
 have HB0 : Aside0 (w0.heap.size ≤ W.heap.size) := ⟨HBo.out.size⟩
 have HBG : Aside0 (W.heap.size ≤ b) := ⟨by omega⟩
 have hne1 : ¬ b = g := by omega
 have hne2 : ¬ g = b := by omega
 rw [hb]
 generalize W.alloc (.cells #[.int .i64 x.f0, .int .i64 x.f1, .string x.f2, .string x.f3, .int .i64 x.f4] 40) = W1 at HA HI HR HO HK HB ⊢
 clear HA hb
 go_wp2_with (first
  | (go_at_call 23; refine (Zn w0 W1 g s p v HR.out HB.out HG.out HP.out HS.out).mono ?_; rintro e w2 ⟨rfl, hR2, hB2, hK2⟩; have HI := Aside0.mk ((hK2.2 b (Yg HI.out) hne1 (by simp)).trans HI.out); have HR := Aside0.mk hR2; have HO := Aside0.mk (Kd.R_keep HO.out hK2 (fun _ h => h.1)) ; have HK := Aside0.mk (HK.out.trans hK2 (.inl rfl)); have HB := Aside0.mk hB2; clear hR2 hB2 hK2; have hm0 : w2.cell? ⟨b, 0, none⟩ = some (.int .i64 x.f0) := (zb HI.out 0).trans rfl; have hm1 : w2.cell? ⟨b, 1, none⟩ = some (.int .i64 x.f1) := (zb HI.out 1).trans rfl; have hm2 : w2.cell? ⟨b, 2, none⟩ = some (.string x.f2) := (zb HI.out 2).trans rfl; have hm3 : w2.cell? ⟨b, 3, none⟩ = some (.string x.f3) := (zb HI.out 3).trans rfl; have hm4 : w2.cell? ⟨b, 4, none⟩ = some (.int .i64 x.f4) := (zb HI.out 4).trans rfl)
  | (go_at_call 43; refine (YaB w0 w2 g s (Zb s p) v out x HR.out (Kd.R_mono HO.out (fun _ h => h.1)) HB.out HG.out HP1.out HS.out HL.out).mono ?_; rintro e w3 ⟨rfl, hL⟩; have HL3 := Aside0.mk hL; clear hL))
 go_ret
 exact ⟨rfl, Left.pre HK.out HL3.out⟩
theorem ya1 (w0 W : World) (g : Nat) (s : ByteArray) (p : Nat) (v : Value) (out : List S40) (x : S40) (hR : Rd W g s p v) (hO : Out w0 W g v out) (hB : Below w0.heap.size w0 W) (hg : w0.heap.size ≤ g) (hp : p ≤ s.size) (hs : s.size ≤ 4611686018427387904) (hj : JTabs w0) (hl : (out.length + 1) * 56 ≤ 140737488355328) (h91 : zd s p ≠ 91) (h123 : zd s p ≠ 123) (h34 : zd s p ≠ 34) (h45 : zd s p ≠ 45) (h48 : 57 < zd s p) :
  Calls Tryz.prog 22 #[.pointer (some ⟨g, 0, none⟩), Yh x] W fun e W' => e = .returned (.int .i64 (YO s (Zb s p) out x).1) ∧ Left w0 W W' g s (YO s (Zb s p) out x).2.1 v (YO s (Zb s p) out x).2.2 := by
 have HR := Aside0.mk hR
 have HO := Aside0.mk hO
 have HB := Aside0.mk hB
 have HG := Aside0.mk hg
 have HS := Aside0.mk hs
 have HP := Aside0.mk hp
 have JT := Aside0.mk hj
 have HP1 := Aside0.mk (Xu s p hp)
 have HL := Aside0.mk hl
 have c91 : ((zd s p : Int) == 91) = false := Ybb.mpr (by omega)
 have c123 : ((zd s p : Int) == 123) = false := Ybb.mpr (by omega)
 have c34 : ((zd s p : Int) == 34) = false := Ybb.mpr (by omega)
 have c45 : ((zd s p : Int) == 45) = false := Ybb.mpr (by omega)
 have d48 : decide (48 ≤ (zd s p : Int)) = true := decide_eq_true (by omega)
 have d57 : decide ((zd s p : Int) ≤ 57) = false := zbd (by omega)
 clear hR hB hg hs hO hp hj hl h91 h123 h34 h45 h48
 unfold Yh
 go_enter Tryz.func22, Tryz.ntmps22
 go_wp2_with fail
 obtain ⟨b, hb⟩ : ∃ b, W.heap.size = b := ⟨_, rfl⟩
 have hgW := Yg HR.out
 have HA : Aside0 (Below W.heap.size W (W.alloc (.cells #[.int .i64 x.f0, .int .i64 x.f1, .string x.f2, .string x.f3, .int .i64 x.f4] 40))) := ⟨Za (ybd _ _) _⟩
 have HI : Aside0 (Itm (W.alloc (.cells #[.int .i64 x.f0, .int .i64 x.f1, .string x.f2, .string x.f3, .int .i64 x.f4] 40)) b x) := ⟨by rw [← hb]; exact ybi _ _⟩
 have HR := Aside0.mk (Zu HR.out HA.out)
 have HO : Aside0 (Kd.R k40 40 (W.alloc (.cells #[.int .i64 x.f0, .int .i64 x.f1, .string x.f2, .string x.f3, .int .i64 x.f4] 40)) w0.heap.size (fun j => j ≠ g ∧ j ≠ b) v out) := ⟨Kd.R_below (Kd.R_mono (Kd.R_bound HO.out) (fun k hk => ⟨hk.1, by have := hk.2.2.1; omega⟩)) HA.out⟩
 have HK := Aside0.mk (KeepBut.of_below HA.out g none)
 have HBo := HB
 have HB := Aside0.mk (Ze HB.out HA.out)
 have HB0 : Aside0 (w0.heap.size ≤ W.heap.size) := ⟨HBo.out.size⟩
 have HBG : Aside0 (W.heap.size ≤ b) := ⟨by omega⟩
 have hne1 : ¬ b = g := by omega
 have hne2 : ¬ g = b := by omega
 rw [hb]
 generalize W.alloc (.cells #[.int .i64 x.f0, .int .i64 x.f1, .string x.f2, .string x.f3, .int .i64 x.f4] 40) = W1 at HA HI HR HO HK HB ⊢
 clear HA hb
 go_wp2_with (first
  | (go_at_call 23; refine (Zn w0 W1 g s p v HR.out HB.out HG.out HP.out HS.out).mono ?_; rintro e w2 ⟨rfl, hR2, hB2, hK2⟩; have HI := Aside0.mk ((hK2.2 b (Yg HI.out) hne1 (by simp)).trans HI.out); have HR := Aside0.mk hR2; have HO := Aside0.mk (Kd.R_keep HO.out hK2 (fun _ h => h.1)) ; have HK := Aside0.mk (HK.out.trans hK2 (.inl rfl)); have HB := Aside0.mk hB2; clear hR2 hB2 hK2; have hm0 : w2.cell? ⟨b, 0, none⟩ = some (.int .i64 x.f0) := (zb HI.out 0).trans rfl; have hm1 : w2.cell? ⟨b, 1, none⟩ = some (.int .i64 x.f1) := (zb HI.out 1).trans rfl; have hm2 : w2.cell? ⟨b, 2, none⟩ = some (.string x.f2) := (zb HI.out 2).trans rfl; have hm3 : w2.cell? ⟨b, 3, none⟩ = some (.string x.f3) := (zb HI.out 3).trans rfl; have hm4 : w2.cell? ⟨b, 4, none⟩ = some (.int .i64 x.f4) := (zb HI.out 4).trans rfl)
  | (go_at_call 43; refine (YaB w0 w2 g s (Zb s p) v out x HR.out (Kd.R_mono HO.out (fun _ h => h.1)) HB.out HG.out HP1.out HS.out HL.out).mono ?_; rintro e w3 ⟨rfl, hL⟩; have HL3 := Aside0.mk hL; clear hL))
 go_ret
 exact ⟨rfl, Left.pre HK.out HL3.out⟩
theorem zaJ (w0 W : World) (g : Nat) (s : ByteArray) (p : Nat) (v : Value) (out : List S40) (x : S40) (hR : Rd W g s p v) (hO : Out w0 W g v out) (hB : Below w0.heap.size w0 W) (hg : w0.heap.size ≤ g) (hp : p ≤ s.size) (hs : s.size ≤ 4611686018427387904) (hj : JTabs w0) (k : Nat) (t : ByteArray) (m : Nat) (er : Int) (h34 : zd s p = 34) (hr : Zj.f k (s.extract (Zb s p) s.size) = some (t, (m : Int), er)) (hm : Zb s p + m ≤ s.size) (he : er ≠ 0) :
  Calls Tryz.prog 22 #[.pointer (some ⟨g, 0, none⟩), Yh x] W fun e W' => e = .returned (.int .i64 er) ∧ Left w0 W W' g s (Zb s p + m) v out := by
 have HR := Aside0.mk hR
 have HO := Aside0.mk hO
 have HB := Aside0.mk hB
 have HG := Aside0.mk hg
 have HS := Aside0.mk hs
 have HP := Aside0.mk hp
 have JT := Aside0.mk hj
 have HP1 := Aside0.mk (Xu s p hp)
 have c91 : ((zd s p : Int) == 91) = false := Ybb.mpr (by omega)
 have c123 : ((zd s p : Int) == 123) = false := Ybb.mpr (by omega)
 have c34 : ((zd s p : Int) == 34) = true := Ybf.mpr (by omega)
 have c45 : ((zd s p : Int) == 45) = false := Ybb.mpr (by omega)
 have FR := Aside0.mk hr
 have HM := Aside0.mk hm
 have n1 : (er == 0) = false := Ybb.mpr he
 have n2 : (er != 0) = true := Zbh.mpr he
 clear hR hB hg hs hO hp hj h34 hr hm he
 unfold Yh
 go_enter Tryz.func22, Tryz.ntmps22
 go_wp2_with fail
 obtain ⟨b, hb⟩ : ∃ b, W.heap.size = b := ⟨_, rfl⟩
 have hgW := Yg HR.out
 have HA : Aside0 (Below W.heap.size W (W.alloc (.cells #[.int .i64 x.f0, .int .i64 x.f1, .string x.f2, .string x.f3, .int .i64 x.f4] 40))) := ⟨Za (ybd _ _) _⟩
 have HI : Aside0 (Itm (W.alloc (.cells #[.int .i64 x.f0, .int .i64 x.f1, .string x.f2, .string x.f3, .int .i64 x.f4] 40)) b x) := ⟨by rw [← hb]; exact ybi _ _⟩
 have HR := Aside0.mk (Zu HR.out HA.out)
 have HO : Aside0 (Kd.R k40 40 (W.alloc (.cells #[.int .i64 x.f0, .int .i64 x.f1, .string x.f2, .string x.f3, .int .i64 x.f4] 40)) w0.heap.size (fun j => j ≠ g ∧ j ≠ b) v out) := ⟨Kd.R_below (Kd.R_mono (Kd.R_bound HO.out) (fun k hk => ⟨hk.1, by have := hk.2.2.1; omega⟩)) HA.out⟩
 have HK := Aside0.mk (KeepBut.of_below HA.out g none)
 have HBo := HB
 have HB := Aside0.mk (Ze HB.out HA.out)
 have HB0 : Aside0 (w0.heap.size ≤ W.heap.size) := ⟨HBo.out.size⟩
 have HBG : Aside0 (W.heap.size ≤ b) := ⟨by omega⟩
 have hne1 : ¬ b = g := by omega
 have hne2 : ¬ g = b := by omega
 rw [hb]
 generalize W.alloc (.cells #[.int .i64 x.f0, .int .i64 x.f1, .string x.f2, .string x.f3, .int .i64 x.f4] 40) = W1 at HA HI HR HO HK HB ⊢
 clear HA hb
 go_wp2_with (first
  | (go_at_call 23; refine (Zn w0 W1 g s p v HR.out HB.out HG.out HP.out HS.out).mono ?_; rintro e w2 ⟨rfl, hR2, hB2, hK2⟩; have HI := Aside0.mk ((hK2.2 b (Yg HI.out) hne1 (by simp)).trans HI.out); have HR := Aside0.mk hR2; have HO := Aside0.mk (Kd.R_keep HO.out hK2 (fun _ h => h.1)) ; have HK := Aside0.mk (HK.out.trans hK2 (.inl rfl)); have HB := Aside0.mk hB2; clear hR2 hB2 hK2; have hm1 : w2.cell? ⟨b, 1, none⟩ = some (.int .i64 x.f1) := (zb HI.out 1).trans rfl; have hfm1 := zg HI.out 1)
  | (go_at_call 41; have hRx : Rd (w2.setCell ⟨b, 1, none⟩ (.int .i64 5)) g s (Zb s p) v := zp HR.out (p := ⟨b, 1, none⟩) hne2 _; have hIx : Itm (w2.setCell ⟨b, 1, none⟩ (.int .i64 5)) b (⟨x.f0, 5, x.f2, x.f3, x.f4⟩ : S40) := zq HI.out 1 _; have hBx := Yj (j := 1) (v := .int .i64 5) (g := b) HB.out (Ybg HB0.out HBG.out); have hOx := Kd.R_far HO.out (p := ⟨b, 1, none⟩) (fun _ h => h.2) (.int .i64 5); have hKx := Yp HK.out (p := ⟨b, 1, none⟩) HBG.out (.int .i64 5); refine (ZO k w0 _ g s (Zb s p) v t m _ hRx hBx HG.out HP1.out HS.out JT.out FR.out HM.out).mono ?_; rintro e w3 ⟨rfl, hR3, hB3, hK3⟩; have HI3 := Aside0.mk ((hK3.2 b (Yg hIx) hne1 (by simp)).trans hIx); have HR3 := Aside0.mk hR3; have HO3 := Aside0.mk (Kd.R_keep hOx hK3 (fun _ h => h.1)); have HK3 := Aside0.mk (hKx.trans hK3 (.inl rfl)); have HB3 := Aside0.mk hB3; clear hR3 hB3 hK3 hRx hIx hBx hOx hKx; have hfn := zg HI3.out 3; have hmn : w3.cell? ⟨b, 3, none⟩ = some (.string x.f3) := (zb HI3.out 3).trans rfl))
 go_ret
 exact ⟨rfl, ⟨v, zp HR3.out (p := ⟨b, 3, none⟩) hne2 _, Kd.R_mono (Kd.R_far HO3.out (p := ⟨b, 3, none⟩) (fun _ h => h.2) _) (fun _ h => h.1), .inl rfl⟩, Yj HB3.out (Ybg HB0.out HBG.out), zC (Yp HK3.out (p := ⟨b, 3, none⟩) HBG.out _)⟩
theorem Xa4 (w0 W : World) (g : Nat) (s : ByteArray) (p : Nat) (v : Value) (out : List S40) (x : S40) (hR : Rd W g s p v) (hO : Out w0 W g v out) (hB : Below w0.heap.size w0 W) (hg : w0.heap.size ≤ g) (hp : p ≤ s.size) (hs : s.size ≤ 4611686018427387904) (hj : JTabs w0) (hl : (out.length + 1) * 56 ≤ 140737488355328) (k : Nat) (t : ByteArray) (m : Nat)  (h34 : zd s p = 34) (hr : Zj.f k (s.extract (Zb s p) s.size) = some (t, (m : Int), 0)) (hm : Zb s p + m ≤ s.size) :
  Calls Tryz.prog 22 #[.pointer (some ⟨g, 0, none⟩), Yh x] W fun e W' => e = .returned (.int .i64 0) ∧ Left w0 W W' g s (Zb s p + m) v (out ++ [(⟨x.f0, 5, x.f2, t, x.f4⟩ : S40)]) := by
 have HR := Aside0.mk hR
 have HO := Aside0.mk hO
 have HB := Aside0.mk hB
 have HG := Aside0.mk hg
 have HS := Aside0.mk hs
 have HP := Aside0.mk hp
 have JT := Aside0.mk hj
 have HP1 := Aside0.mk (Xu s p hp)
 have HL := Aside0.mk hl
 have c91 : ((zd s p : Int) == 91) = false := Ybb.mpr (by omega)
 have c123 : ((zd s p : Int) == 123) = false := Ybb.mpr (by omega)
 have c34 : ((zd s p : Int) == 34) = true := Ybf.mpr (by omega)
 have c45 : ((zd s p : Int) == 45) = false := Ybb.mpr (by omega)
 have FR := Aside0.mk hr
 have HM := Aside0.mk hm
 clear hR hB hg hs hO hp hj hl h34 hr hm
 unfold Yh
 go_enter Tryz.func22, Tryz.ntmps22
 go_wp2_with fail
 obtain ⟨b, hb⟩ : ∃ b, W.heap.size = b := ⟨_, rfl⟩
 have hgW := Yg HR.out
 have HA : Aside0 (Below W.heap.size W (W.alloc (.cells #[.int .i64 x.f0, .int .i64 x.f1, .string x.f2, .string x.f3, .int .i64 x.f4] 40))) := ⟨Za (ybd _ _) _⟩
 have HI : Aside0 (Itm (W.alloc (.cells #[.int .i64 x.f0, .int .i64 x.f1, .string x.f2, .string x.f3, .int .i64 x.f4] 40)) b x) := ⟨by rw [← hb]; exact ybi _ _⟩
 have HR := Aside0.mk (Zu HR.out HA.out)
 have HO : Aside0 (Kd.R k40 40 (W.alloc (.cells #[.int .i64 x.f0, .int .i64 x.f1, .string x.f2, .string x.f3, .int .i64 x.f4] 40)) w0.heap.size (fun j => j ≠ g ∧ j ≠ b) v out) := ⟨Kd.R_below (Kd.R_mono (Kd.R_bound HO.out) (fun k hk => ⟨hk.1, by have := hk.2.2.1; omega⟩)) HA.out⟩
 have HK := Aside0.mk (KeepBut.of_below HA.out g none)
 have HBo := HB
 have HB := Aside0.mk (Ze HB.out HA.out)
 have HB0 : Aside0 (w0.heap.size ≤ W.heap.size) := ⟨HBo.out.size⟩
 have HBG : Aside0 (W.heap.size ≤ b) := ⟨by omega⟩
 have hne1 : ¬ b = g := by omega
 have hne2 : ¬ g = b := by omega
 rw [hb]
 generalize W.alloc (.cells #[.int .i64 x.f0, .int .i64 x.f1, .string x.f2, .string x.f3, .int .i64 x.f4] 40) = W1 at HA HI HR HO HK HB ⊢
 clear HA hb
 go_wp2_with (first
  | (go_at_call 23; refine (Zn w0 W1 g s p v HR.out HB.out HG.out HP.out HS.out).mono ?_; rintro e w2 ⟨rfl, hR2, hB2, hK2⟩; have HI := Aside0.mk ((hK2.2 b (Yg HI.out) hne1 (by simp)).trans HI.out); have HR := Aside0.mk hR2; have HO := Aside0.mk (Kd.R_keep HO.out hK2 (fun _ h => h.1)) ; have HK := Aside0.mk (HK.out.trans hK2 (.inl rfl)); have HB := Aside0.mk hB2; clear hR2 hB2 hK2; have hm1 : w2.cell? ⟨b, 1, none⟩ = some (.int .i64 x.f1) := (zb HI.out 1).trans rfl; have hfm1 := zg HI.out 1)
  | (go_at_call 41; have hRx : Rd (w2.setCell ⟨b, 1, none⟩ (.int .i64 5)) g s (Zb s p) v := zp HR.out (p := ⟨b, 1, none⟩) hne2 _; have hIx : Itm (w2.setCell ⟨b, 1, none⟩ (.int .i64 5)) b (⟨x.f0, 5, x.f2, x.f3, x.f4⟩ : S40) := zq HI.out 1 _; have hBx := Yj (j := 1) (v := .int .i64 5) (g := b) HB.out (Ybg HB0.out HBG.out); have hOx := Kd.R_far HO.out (p := ⟨b, 1, none⟩) (fun _ h => h.2) (.int .i64 5); have hKx := Yp HK.out (p := ⟨b, 1, none⟩) HBG.out (.int .i64 5); refine (ZO k w0 _ g s (Zb s p) v t m _ hRx hBx HG.out HP1.out HS.out JT.out FR.out HM.out).mono ?_; rintro e w3 ⟨rfl, hR3, hB3, hK3⟩; have HI3 := Aside0.mk ((hK3.2 b (Yg hIx) hne1 (by simp)).trans hIx); have HR3 := Aside0.mk hR3; have HO3 := Aside0.mk (Kd.R_keep hOx hK3 (fun _ h => h.1)); have HK3 := Aside0.mk (hKx.trans hK3 (.inl rfl)); have HB3 := Aside0.mk hB3; clear hR3 hB3 hK3 hRx hIx hBx hOx hKx; have hfn := zg HI3.out 3; have hmn : w3.cell? ⟨b, 3, none⟩ = some (.string x.f3) := (zb HI3.out 3).trans rfl))
 have HRa : Aside0 (Rd (w3.setCell ⟨b, 3, none⟩ (.string t)) g s (Zb s p + m) v) := ⟨zp HR3.out (p := ⟨b, 3, none⟩) hne2 _⟩
 have HIa : Aside0 (Itm (w3.setCell ⟨b, 3, none⟩ (.string t)) b (⟨x.f0, 5, x.f2, t, x.f4⟩ : S40)) := ⟨zq HI3.out 3 _⟩
 have HOa := Aside0.mk (Kd.R_far HO3.out (p := ⟨b, 3, none⟩) (fun _ h => h.2) (.string t))
 have HKa := Aside0.mk (Yp HK3.out (p := ⟨b, 3, none⟩) HBG.out (.string t))
 have HBa := Aside0.mk (Yj (j := 3) (v := .string t) (g := b) HB3.out (Ybg HB0.out HBG.out))
 clear hfn hmn
 generalize w3.setCell ⟨b, 3, none⟩ (.string t) = w1 at HRa HIa HOa HKa HBa ⊢
 refine ZG (n := 11) (S := fun w' => w'.cell? ⟨g, 2, none⟩ = some v ∧ w'.heap[b]? = some (.cells #[.int .i64 ((⟨x.f0, 5, x.f2, t, x.f4⟩ : S40)).f0, .int .i64 ((⟨x.f0, 5, x.f2, t, x.f4⟩ : S40)).f1, .string ((⟨x.f0, 5, x.f2, t, x.f4⟩ : S40)).f2, .string ((⟨x.f0, 5, x.f2, t, x.f4⟩ : S40)).f3, .int .i64 ((⟨x.f0, 5, x.f2, t, x.f4⟩ : S40)).f4] 40 (0, 0))) (ds := [7, 10]) #[false, false, false, false, false, false, false, false, false, false, false] (by kernel_rfl) rfl rfl ⟨Xr HRa.out, HIa.out⟩ (fun hHeld => ?_)
 refine pq 0 79 (v := ?_) (a' := ?_) #[true, false, false, false, false, false, false, false, false, false, false] rfl (by kernel_rfl) (.inl ⟨by rfl, ?_⟩) ?_ ?_
 rotate_left
 ·intro w'
  go_simp
  (try with_reducible rfl)
 rotate_left
 ·simp only [Act.put, qA, qB, qC]
  rfl
 refine pq 1 80 (v := ?_) (a' := ?_) #[true, true, false, false, false, false, false, false, false, false, false] rfl (by kernel_rfl) (.inl ⟨by rfl, ?_⟩) ?_ ?_
 rotate_left
 ·intro w'
  go_simp
  (try with_reducible rfl)
 rotate_left
 ·simp only [Act.put, qA, qB, qC]
  rfl
 refine pq 2 81 (v := ?_) (a' := ?_) #[true, true, true, false, false, false, false, false, false, false, false] rfl (by kernel_rfl) (.inl ⟨by rfl, ?_⟩) ?_ ?_
 rotate_left
 ·intro w'
  go_simp
  (try with_reducible rfl)
 rotate_left
 ·simp only [Act.put, qA, qB, qC]
  rfl
 refine pq 3 82 (v := ?_) (a' := ?_) #[true, true, true, true, false, false, false, false, false, false, false] rfl (by kernel_rfl) (.inl ⟨by rfl, ?_⟩) ?_ ?_
 rotate_left
 ·intro w'
  go_simp
  (try with_reducible rfl)
 rotate_left
 ·simp only [Act.put, qA, qB, qC]
  rfl
 refine tq 4 83 (v := ?_) (a' := ?_) #[true, true, true, true, true, false, false, false, false, false, false] rfl (by kernel_rfl) (.inl ⟨by rfl, ?_⟩) (by assumption) ?_ ?_
 rotate_left
 ·intro w hSw
  obtain ⟨hl0, hl1⟩ := hSw
  go_simp
  (try with_reducible rfl)
 rotate_left
 ·simp only [Act.put, qA, qB, qC]
  rfl
 refine tq 5 84 (v := ?_) (a' := ?_) #[true, true, true, true, true, true, false, false, false, false, false] rfl (by kernel_rfl) (.inl ⟨by rfl, ?_⟩) (by assumption) ?_ ?_
 rotate_left
 ·intro w hSw
  obtain ⟨hl0, hl1⟩ := hSw
  have hm0 : w.cell? ⟨b, 0, none⟩ = some (.int .i64 ((⟨x.f0, 5, x.f2, t, x.f4⟩ : S40)).f0) := (zb hl1 0).trans rfl
  have hm1 : w.cell? ⟨b, 1, none⟩ = some (.int .i64 ((⟨x.f0, 5, x.f2, t, x.f4⟩ : S40)).f1) := (zb hl1 1).trans rfl
  have hm2 : w.cell? ⟨b, 2, none⟩ = some (.string ((⟨x.f0, 5, x.f2, t, x.f4⟩ : S40)).f2) := (zb hl1 2).trans rfl
  have hm3 : w.cell? ⟨b, 3, none⟩ = some (.string ((⟨x.f0, 5, x.f2, t, x.f4⟩ : S40)).f3) := (zb hl1 3).trans rfl
  have hm4 : w.cell? ⟨b, 4, none⟩ = some (.int .i64 ((⟨x.f0, 5, x.f2, t, x.f4⟩ : S40)).f4) := (zb hl1 4).trans rfl
  clear hl1
  go_simp
  (try with_reducible rfl)
 rotate_left
 ·simp only [Act.put, qA, qB, qC]
  rfl
 refine one_ (i := 6) (N := some 85) #[true, true, true, true, true, true, true, false, false, false, false] rfl rfl (by kernel_rfl) (by decide) (fun K hK => ?_)
 refine ZB (W := w1.drew) (v := .slice (some ⟨w1.heap.size, 0, none⟩) 1 1) (w1 := w1.drew.alloc (.cells #[.int .i64 ((⟨x.f0, 5, x.f2, t, x.f4⟩ : S40)).f0, .int .i64 ((⟨x.f0, 5, x.f2, t, x.f4⟩ : S40)).f1, .string ((⟨x.f0, 5, x.f2, t, x.f4⟩ : S40)).f2, .string ((⟨x.f0, 5, x.f2, t, x.f4⟩ : S40)).f3, .int .i64 ((⟨x.f0, 5, x.f2, t, x.f4⟩ : S40)).f4] 40)) (by rfl) (by kernel_rfl) ?_
 refine hK.out _ _ ?_ (fun hHeld => ?_)
 ·exact ZI HRa.out HIa.out _
 clear hK K
 (try simp only [Act.put, qA, qB, qC])
 refine ZA (i := 7) (N := some 86) #[true, true, true, true, true, true, true, true, false, false, false] rfl rfl (by kernel_rfl) (by decide) (fun K hK => ?_)
 refine yD (.tmp 83) (.tmp 85) (by rfl) rfl rfl rfl HRa.out HIa.out HOa.out HBa.out HG.out HL.out ?_
 intro As N2 cc w2 hR2 hP2
 have hc2a := Xr hR2
 have hf2a := zg hR2 2
 have HPa := Aside0.mk hP2
 clear hR2 hP2
 refine hK.out _ _ ?_
 clear hK K
 (try simp only [Act.put, qA, qB, qC])
 refine pq 8 87 (v := ?_) (a' := ?_) #[true, true, true, true, true, true, true, true, true, false, false] rfl (by kernel_rfl) (.inl ⟨by rfl, ?_⟩) ?_ ?_
 rotate_left
 ·intro w'
  go_simp
  (try with_reducible rfl)
 rotate_left
 ·simp only [Act.put, qA, qB, qC]
  rfl
 refine pq 9 88 (v := ?_) (a' := ?_) #[true, true, true, true, true, true, true, true, true, true, false] rfl (by kernel_rfl) (.inl ⟨by rfl, ?_⟩) ?_ ?_
 rotate_left
 ·intro w'
  go_simp
  (try with_reducible rfl)
 rotate_left
 ·simp only [Act.put, qA, qB, qC]
  rfl
 refine ZA (i := 10) (N := none) #[true, true, true, true, true, true, true, true, true, true, true] rfl rfl (by kernel_rfl) (by decide) (fun K hK => ?_)
 go_simp
 refine hK.out _ _ ?_
 clear hK K
 (try simp only [Act.put, qA, qB, qC])
 refine xL (by kernel_rfl) ?_
 go_wp2_with fail
 go_ret
 exact ⟨rfl, Left.pre HKa.out HPa.out⟩
theorem XaB (w0 W : World) (g : Nat) (s : ByteArray) (p : Nat) (v : Value) (out : List S40) (x : S40) (hR : Rd W g s p v) (hO : Out w0 W g v out) (hB : Below w0.heap.size w0 W) (hg : w0.heap.size ≤ g) (hp : p ≤ s.size) (hs : s.size ≤ 4611686018427387904) (hj : JTabs w0) (n er : Int) (q : Nat) (hn : zd s p = 45) (hr : Yq s (Zb s p) = (n, er, q)) (he : er ≠ 0) :
  Calls Tryz.prog 22 #[.pointer (some ⟨g, 0, none⟩), Yh x] W fun e W' => e = .returned (.int .i64 er) ∧ Left w0 W W' g s q v out := by
 have HR := Aside0.mk hR
 have HO := Aside0.mk hO
 have HB := Aside0.mk hB
 have HG := Aside0.mk hg
 have HS := Aside0.mk hs
 have HP := Aside0.mk hp
 have JT := Aside0.mk hj
 have HP1 := Aside0.mk (Xu s p hp)
 have c91 : ((zd s p : Int) == 91) = false := Ybb.mpr (by omega)
 have c123 : ((zd s p : Int) == 123) = false := Ybb.mpr (by omega)
 have c34 : ((zd s p : Int) == 34) = false := Ybb.mpr (by omega)
 have c45 : ((zd s p : Int) == 45) = true := Ybf.mpr (by omega)
 have FR := Aside0.mk hr
 have n1 : (er == 0) = false := Ybb.mpr he
 have n2 : (er != 0) = true := Zbh.mpr he
 clear hR hB hg hs hO hp hj hr hn he
 unfold Yh
 go_enter Tryz.func22, Tryz.ntmps22
 go_wp2_with fail
 obtain ⟨b, hb⟩ : ∃ b, W.heap.size = b := ⟨_, rfl⟩
 have hgW := Yg HR.out
 have HA : Aside0 (Below W.heap.size W (W.alloc (.cells #[.int .i64 x.f0, .int .i64 x.f1, .string x.f2, .string x.f3, .int .i64 x.f4] 40))) := ⟨Za (ybd _ _) _⟩
 have HI : Aside0 (Itm (W.alloc (.cells #[.int .i64 x.f0, .int .i64 x.f1, .string x.f2, .string x.f3, .int .i64 x.f4] 40)) b x) := ⟨by rw [← hb]; exact ybi _ _⟩
 have HR := Aside0.mk (Zu HR.out HA.out)
 have HO : Aside0 (Kd.R k40 40 (W.alloc (.cells #[.int .i64 x.f0, .int .i64 x.f1, .string x.f2, .string x.f3, .int .i64 x.f4] 40)) w0.heap.size (fun j => j ≠ g ∧ j ≠ b) v out) := ⟨Kd.R_below (Kd.R_mono (Kd.R_bound HO.out) (fun k hk => ⟨hk.1, by have := hk.2.2.1; omega⟩)) HA.out⟩
 have HK := Aside0.mk (KeepBut.of_below HA.out g none)
 have HBo := HB
 have HB := Aside0.mk (Ze HB.out HA.out)
 have HB0 : Aside0 (w0.heap.size ≤ W.heap.size) := ⟨HBo.out.size⟩
 have HBG : Aside0 (W.heap.size ≤ b) := ⟨by omega⟩
 have hne1 : ¬ b = g := by omega
 have hne2 : ¬ g = b := by omega
 rw [hb]
 generalize W.alloc (.cells #[.int .i64 x.f0, .int .i64 x.f1, .string x.f2, .string x.f3, .int .i64 x.f4] 40) = W1 at HA HI HR HO HK HB ⊢
 clear HA hb
 go_wp2_with (first
  | (go_at_call 23; refine (Zn w0 W1 g s p v HR.out HB.out HG.out HP.out HS.out).mono ?_; rintro e w2 ⟨rfl, hR2, hB2, hK2⟩; have HI := Aside0.mk ((hK2.2 b (Yg HI.out) hne1 (by simp)).trans HI.out); have HR := Aside0.mk hR2; have HO := Aside0.mk (Kd.R_keep HO.out hK2 (fun _ h => h.1)) ; have HK := Aside0.mk (HK.out.trans hK2 (.inl rfl)); have HB := Aside0.mk hB2; clear hR2 hB2 hK2; have hm1 : w2.cell? ⟨b, 1, none⟩ = some (.int .i64 x.f1) := (zb HI.out 1).trans rfl; have hfm1 := zg HI.out 1)
  | (go_at_call 42; have hRx : Rd (w2.setCell ⟨b, 1, none⟩ (.int .i64 4)) g s (Zb s p) v := zp HR.out (p := ⟨b, 1, none⟩) hne2 _; have hIx : Itm (w2.setCell ⟨b, 1, none⟩ (.int .i64 4)) b (⟨x.f0, 4, x.f2, x.f3, x.f4⟩ : S40) := zq HI.out 1 _; have hBx := Yj (j := 1) (v := .int .i64 4) (g := b) HB.out (Ybg HB0.out HBG.out); have hOx := Kd.R_far HO.out (p := ⟨b, 1, none⟩) (fun _ h => h.2) (.int .i64 4); have hKx := Yp HK.out (p := ⟨b, 1, none⟩) HBG.out (.int .i64 4); refine (yU w0 _ g s (Zb s p) v hRx hBx HG.out HP1.out HS.out JT.out).mono ?_; rw [FR.out]; rintro e w3 ⟨rfl, hR3, hB3, hK3⟩; have HI3 := Aside0.mk ((hK3.2 b (Yg hIx) hne1 (by simp)).trans hIx); have HR3 := Aside0.mk hR3; have HO3 := Aside0.mk (Kd.R_keep hOx hK3 (fun _ h => h.1)); have HK3 := Aside0.mk (hKx.trans hK3 (.inl rfl)); have HB3 := Aside0.mk hB3; clear hR3 hB3 hK3 hRx hIx hBx hOx hKx; have hfn := zg HI3.out 4; have hmn : w3.cell? ⟨b, 4, none⟩ = some (.int .i64 x.f4) := (zb HI3.out 4).trans rfl))
 go_ret
 exact ⟨rfl, ⟨v, zp HR3.out (p := ⟨b, 4, none⟩) hne2 _, Kd.R_mono (Kd.R_far HO3.out (p := ⟨b, 4, none⟩) (fun _ h => h.2) _) (fun _ h => h.1), .inl rfl⟩, Yj HB3.out (Ybg HB0.out HBG.out), zC (Yp HK3.out (p := ⟨b, 4, none⟩) HBG.out _)⟩
theorem xa1 (w0 W : World) (g : Nat) (s : ByteArray) (p : Nat) (v : Value) (out : List S40) (x : S40) (hR : Rd W g s p v) (hO : Out w0 W g v out) (hB : Below w0.heap.size w0 W) (hg : w0.heap.size ≤ g) (hp : p ≤ s.size) (hs : s.size ≤ 4611686018427387904) (hj : JTabs w0) (hl : (out.length + 1) * 56 ≤ 140737488355328) (n : Int) (q : Nat) (hn : zd s p = 45) (hr : Yq s (Zb s p) = (n, 0, q)) :
  Calls Tryz.prog 22 #[.pointer (some ⟨g, 0, none⟩), Yh x] W fun e W' => e = .returned (.int .i64 0) ∧ Left w0 W W' g s q v (out ++ [(⟨x.f0, 4, x.f2, x.f3, n⟩ : S40)]) := by
 have HR := Aside0.mk hR
 have HO := Aside0.mk hO
 have HB := Aside0.mk hB
 have HG := Aside0.mk hg
 have HS := Aside0.mk hs
 have HP := Aside0.mk hp
 have JT := Aside0.mk hj
 have HP1 := Aside0.mk (Xu s p hp)
 have HL := Aside0.mk hl
 have c91 : ((zd s p : Int) == 91) = false := Ybb.mpr (by omega)
 have c123 : ((zd s p : Int) == 123) = false := Ybb.mpr (by omega)
 have c34 : ((zd s p : Int) == 34) = false := Ybb.mpr (by omega)
 have c45 : ((zd s p : Int) == 45) = true := Ybf.mpr (by omega)
 have FR := Aside0.mk hr
 clear hR hB hg hs hO hp hj hl hr hn
 unfold Yh
 go_enter Tryz.func22, Tryz.ntmps22
 go_wp2_with fail
 obtain ⟨b, hb⟩ : ∃ b, W.heap.size = b := ⟨_, rfl⟩
 have hgW := Yg HR.out
 have HA : Aside0 (Below W.heap.size W (W.alloc (.cells #[.int .i64 x.f0, .int .i64 x.f1, .string x.f2, .string x.f3, .int .i64 x.f4] 40))) := ⟨Za (ybd _ _) _⟩
 have HI : Aside0 (Itm (W.alloc (.cells #[.int .i64 x.f0, .int .i64 x.f1, .string x.f2, .string x.f3, .int .i64 x.f4] 40)) b x) := ⟨by rw [← hb]; exact ybi _ _⟩
 have HR := Aside0.mk (Zu HR.out HA.out)
 have HO : Aside0 (Kd.R k40 40 (W.alloc (.cells #[.int .i64 x.f0, .int .i64 x.f1, .string x.f2, .string x.f3, .int .i64 x.f4] 40)) w0.heap.size (fun j => j ≠ g ∧ j ≠ b) v out) := ⟨Kd.R_below (Kd.R_mono (Kd.R_bound HO.out) (fun k hk => ⟨hk.1, by have := hk.2.2.1; omega⟩)) HA.out⟩
 have HK := Aside0.mk (KeepBut.of_below HA.out g none)
 have HBo := HB
 have HB := Aside0.mk (Ze HB.out HA.out)
 have HB0 : Aside0 (w0.heap.size ≤ W.heap.size) := ⟨HBo.out.size⟩
 have HBG : Aside0 (W.heap.size ≤ b) := ⟨by omega⟩
 have hne1 : ¬ b = g := by omega
 have hne2 : ¬ g = b := by omega
 rw [hb]
 generalize W.alloc (.cells #[.int .i64 x.f0, .int .i64 x.f1, .string x.f2, .string x.f3, .int .i64 x.f4] 40) = W1 at HA HI HR HO HK HB ⊢
 clear HA hb
 go_wp2_with (first
  | (go_at_call 23; refine (Zn w0 W1 g s p v HR.out HB.out HG.out HP.out HS.out).mono ?_; rintro e w2 ⟨rfl, hR2, hB2, hK2⟩; have HI := Aside0.mk ((hK2.2 b (Yg HI.out) hne1 (by simp)).trans HI.out); have HR := Aside0.mk hR2; have HO := Aside0.mk (Kd.R_keep HO.out hK2 (fun _ h => h.1)) ; have HK := Aside0.mk (HK.out.trans hK2 (.inl rfl)); have HB := Aside0.mk hB2; clear hR2 hB2 hK2; have hm1 : w2.cell? ⟨b, 1, none⟩ = some (.int .i64 x.f1) := (zb HI.out 1).trans rfl; have hfm1 := zg HI.out 1)
  | (go_at_call 42; have hRx : Rd (w2.setCell ⟨b, 1, none⟩ (.int .i64 4)) g s (Zb s p) v := zp HR.out (p := ⟨b, 1, none⟩) hne2 _; have hIx : Itm (w2.setCell ⟨b, 1, none⟩ (.int .i64 4)) b (⟨x.f0, 4, x.f2, x.f3, x.f4⟩ : S40) := zq HI.out 1 _; have hBx := Yj (j := 1) (v := .int .i64 4) (g := b) HB.out (Ybg HB0.out HBG.out); have hOx := Kd.R_far HO.out (p := ⟨b, 1, none⟩) (fun _ h => h.2) (.int .i64 4); have hKx := Yp HK.out (p := ⟨b, 1, none⟩) HBG.out (.int .i64 4); refine (yU w0 _ g s (Zb s p) v hRx hBx HG.out HP1.out HS.out JT.out).mono ?_; rw [FR.out]; rintro e w3 ⟨rfl, hR3, hB3, hK3⟩; have HI3 := Aside0.mk ((hK3.2 b (Yg hIx) hne1 (by simp)).trans hIx); have HR3 := Aside0.mk hR3; have HO3 := Aside0.mk (Kd.R_keep hOx hK3 (fun _ h => h.1)); have HK3 := Aside0.mk (hKx.trans hK3 (.inl rfl)); have HB3 := Aside0.mk hB3; clear hR3 hB3 hK3 hRx hIx hBx hOx hKx; have hfn := zg HI3.out 4; have hmn : w3.cell? ⟨b, 4, none⟩ = some (.int .i64 x.f4) := (zb HI3.out 4).trans rfl))
 have HRa : Aside0 (Rd (w3.setCell ⟨b, 4, none⟩ (.int .i64 n)) g s q v) := ⟨zp HR3.out (p := ⟨b, 4, none⟩) hne2 _⟩
 have HIa : Aside0 (Itm (w3.setCell ⟨b, 4, none⟩ (.int .i64 n)) b (⟨x.f0, 4, x.f2, x.f3, n⟩ : S40)) := ⟨zq HI3.out 4 _⟩
 have HOa := Aside0.mk (Kd.R_far HO3.out (p := ⟨b, 4, none⟩) (fun _ h => h.2) (.int .i64 n))
 have HKa := Aside0.mk (Yp HK3.out (p := ⟨b, 4, none⟩) HBG.out (.int .i64 n))
 have HBa := Aside0.mk (Yj (j := 4) (v := .int .i64 n) (g := b) HB3.out (Ybg HB0.out HBG.out))
 clear hfn hmn
 generalize w3.setCell ⟨b, 4, none⟩ (.int .i64 n) = w1 at HRa HIa HOa HKa HBa ⊢
 refine ZG (n := 11) (S := fun w' => w'.cell? ⟨g, 2, none⟩ = some v ∧ w'.heap[b]? = some (.cells #[.int .i64 ((⟨x.f0, 4, x.f2, x.f3, n⟩ : S40)).f0, .int .i64 ((⟨x.f0, 4, x.f2, x.f3, n⟩ : S40)).f1, .string ((⟨x.f0, 4, x.f2, x.f3, n⟩ : S40)).f2, .string ((⟨x.f0, 4, x.f2, x.f3, n⟩ : S40)).f3, .int .i64 ((⟨x.f0, 4, x.f2, x.f3, n⟩ : S40)).f4] 40 (0, 0))) (ds := [7, 10]) #[false, false, false, false, false, false, false, false, false, false, false] (by kernel_rfl) rfl rfl ⟨Xr HRa.out, HIa.out⟩ (fun hHeld => ?_)
 refine pq 0 79 (v := ?_) (a' := ?_) #[true, false, false, false, false, false, false, false, false, false, false] rfl (by kernel_rfl) (.inl ⟨by rfl, ?_⟩) ?_ ?_
 rotate_left
 ·intro w'
  go_simp
  (try with_reducible rfl)
 rotate_left
 ·simp only [Act.put, qA, qB, qC]
  rfl
 refine pq 1 80 (v := ?_) (a' := ?_) #[true, true, false, false, false, false, false, false, false, false, false] rfl (by kernel_rfl) (.inl ⟨by rfl, ?_⟩) ?_ ?_
 rotate_left
 ·intro w'
  go_simp
  (try with_reducible rfl)
 rotate_left
 ·simp only [Act.put, qA, qB, qC]
  rfl
 refine pq 2 81 (v := ?_) (a' := ?_) #[true, true, true, false, false, false, false, false, false, false, false] rfl (by kernel_rfl) (.inl ⟨by rfl, ?_⟩) ?_ ?_
 rotate_left
 ·intro w'
  go_simp
  (try with_reducible rfl)
 rotate_left
 ·simp only [Act.put, qA, qB, qC]
  rfl
 refine pq 3 82 (v := ?_) (a' := ?_) #[true, true, true, true, false, false, false, false, false, false, false] rfl (by kernel_rfl) (.inl ⟨by rfl, ?_⟩) ?_ ?_
 rotate_left
 ·intro w'
  go_simp
  (try with_reducible rfl)
 rotate_left
 ·simp only [Act.put, qA, qB, qC]
  rfl
 refine tq 4 83 (v := ?_) (a' := ?_) #[true, true, true, true, true, false, false, false, false, false, false] rfl (by kernel_rfl) (.inl ⟨by rfl, ?_⟩) (by assumption) ?_ ?_
 rotate_left
 ·intro w hSw
  obtain ⟨hl0, hl1⟩ := hSw
  go_simp
  (try with_reducible rfl)
 rotate_left
 ·simp only [Act.put, qA, qB, qC]
  rfl
 refine tq 5 84 (v := ?_) (a' := ?_) #[true, true, true, true, true, true, false, false, false, false, false] rfl (by kernel_rfl) (.inl ⟨by rfl, ?_⟩) (by assumption) ?_ ?_
 rotate_left
 ·intro w hSw
  obtain ⟨hl0, hl1⟩ := hSw
  have hm0 : w.cell? ⟨b, 0, none⟩ = some (.int .i64 ((⟨x.f0, 4, x.f2, x.f3, n⟩ : S40)).f0) := (zb hl1 0).trans rfl
  have hm1 : w.cell? ⟨b, 1, none⟩ = some (.int .i64 ((⟨x.f0, 4, x.f2, x.f3, n⟩ : S40)).f1) := (zb hl1 1).trans rfl
  have hm2 : w.cell? ⟨b, 2, none⟩ = some (.string ((⟨x.f0, 4, x.f2, x.f3, n⟩ : S40)).f2) := (zb hl1 2).trans rfl
  have hm3 : w.cell? ⟨b, 3, none⟩ = some (.string ((⟨x.f0, 4, x.f2, x.f3, n⟩ : S40)).f3) := (zb hl1 3).trans rfl
  have hm4 : w.cell? ⟨b, 4, none⟩ = some (.int .i64 ((⟨x.f0, 4, x.f2, x.f3, n⟩ : S40)).f4) := (zb hl1 4).trans rfl
  clear hl1
  go_simp
  (try with_reducible rfl)
 rotate_left
 ·simp only [Act.put, qA, qB, qC]
  rfl
 refine one_ (i := 6) (N := some 85) #[true, true, true, true, true, true, true, false, false, false, false] rfl rfl (by kernel_rfl) (by decide) (fun K hK => ?_)
 refine ZB (W := w1.drew) (v := .slice (some ⟨w1.heap.size, 0, none⟩) 1 1) (w1 := w1.drew.alloc (.cells #[.int .i64 ((⟨x.f0, 4, x.f2, x.f3, n⟩ : S40)).f0, .int .i64 ((⟨x.f0, 4, x.f2, x.f3, n⟩ : S40)).f1, .string ((⟨x.f0, 4, x.f2, x.f3, n⟩ : S40)).f2, .string ((⟨x.f0, 4, x.f2, x.f3, n⟩ : S40)).f3, .int .i64 ((⟨x.f0, 4, x.f2, x.f3, n⟩ : S40)).f4] 40)) (by rfl) (by kernel_rfl) ?_
 refine hK.out _ _ ?_ (fun hHeld => ?_)
 ·exact ZI HRa.out HIa.out _
 clear hK K
 (try simp only [Act.put, qA, qB, qC])
 refine ZA (i := 7) (N := some 86) #[true, true, true, true, true, true, true, true, false, false, false] rfl rfl (by kernel_rfl) (by decide) (fun K hK => ?_)
 refine yD (.tmp 83) (.tmp 85) (by rfl) rfl rfl rfl HRa.out HIa.out HOa.out HBa.out HG.out HL.out ?_
 intro As N2 cc w2 hR2 hP2
 have hc2a := Xr hR2
 have hf2a := zg hR2 2
 have HPa := Aside0.mk hP2
 clear hR2 hP2
 refine hK.out _ _ ?_
 clear hK K
 (try simp only [Act.put, qA, qB, qC])
 refine pq 8 87 (v := ?_) (a' := ?_) #[true, true, true, true, true, true, true, true, true, false, false] rfl (by kernel_rfl) (.inl ⟨by rfl, ?_⟩) ?_ ?_
 rotate_left
 ·intro w'
  go_simp
  (try with_reducible rfl)
 rotate_left
 ·simp only [Act.put, qA, qB, qC]
  rfl
 refine pq 9 88 (v := ?_) (a' := ?_) #[true, true, true, true, true, true, true, true, true, true, false] rfl (by kernel_rfl) (.inl ⟨by rfl, ?_⟩) ?_ ?_
 rotate_left
 ·intro w'
  go_simp
  (try with_reducible rfl)
 rotate_left
 ·simp only [Act.put, qA, qB, qC]
  rfl
 refine ZA (i := 10) (N := none) #[true, true, true, true, true, true, true, true, true, true, true] rfl rfl (by kernel_rfl) (by decide) (fun K hK => ?_)
 go_simp
 refine hK.out _ _ ?_
 clear hK K
 (try simp only [Act.put, qA, qB, qC])
 refine xL (by kernel_rfl) ?_
 go_wp2_with fail
 go_ret
 exact ⟨rfl, Left.pre HKa.out HPa.out⟩
theorem zaC (w0 W : World) (g : Nat) (s : ByteArray) (p : Nat) (v : Value) (out : List S40) (x : S40) (hR : Rd W g s p v) (hO : Out w0 W g v out) (hB : Below w0.heap.size w0 W) (hg : w0.heap.size ≤ g) (hp : p ≤ s.size) (hs : s.size ≤ 4611686018427387904) (hj : JTabs w0) (n er : Int) (q : Nat) (hn : 48 ≤ zd s p ∧ zd s p ≤ 57) (hr : Yq s (Zb s p) = (n, er, q)) (he : er ≠ 0) :
  Calls Tryz.prog 22 #[.pointer (some ⟨g, 0, none⟩), Yh x] W fun e W' => e = .returned (.int .i64 er) ∧ Left w0 W W' g s q v out := by
 have HR := Aside0.mk hR
 have HO := Aside0.mk hO
 have HB := Aside0.mk hB
 have HG := Aside0.mk hg
 have HS := Aside0.mk hs
 have HP := Aside0.mk hp
 have JT := Aside0.mk hj
 have HP1 := Aside0.mk (Xu s p hp)
 have c91 : ((zd s p : Int) == 91) = false := Ybb.mpr (by omega)
 have c123 : ((zd s p : Int) == 123) = false := Ybb.mpr (by omega)
 have c34 : ((zd s p : Int) == 34) = false := Ybb.mpr (by omega)
 have c45 : ((zd s p : Int) == 45) = false := Ybb.mpr (by omega)
 have d48 : decide (48 ≤ (zd s p : Int)) = true := decide_eq_true (by omega)
 have d57 : decide ((zd s p : Int) ≤ 57) = true := decide_eq_true (by omega)
 have FR := Aside0.mk hr
 have n1 : (er == 0) = false := Ybb.mpr he
 have n2 : (er != 0) = true := Zbh.mpr he
 clear hR hB hg hs hO hp hj hr hn he
 unfold Yh
 go_enter Tryz.func22, Tryz.ntmps22
 go_wp2_with fail
 obtain ⟨b, hb⟩ : ∃ b, W.heap.size = b := ⟨_, rfl⟩
 have hgW := Yg HR.out
 have HA : Aside0 (Below W.heap.size W (W.alloc (.cells #[.int .i64 x.f0, .int .i64 x.f1, .string x.f2, .string x.f3, .int .i64 x.f4] 40))) := ⟨Za (ybd _ _) _⟩
 have HI : Aside0 (Itm (W.alloc (.cells #[.int .i64 x.f0, .int .i64 x.f1, .string x.f2, .string x.f3, .int .i64 x.f4] 40)) b x) := ⟨by rw [← hb]; exact ybi _ _⟩
 have HR := Aside0.mk (Zu HR.out HA.out)
 have HO : Aside0 (Kd.R k40 40 (W.alloc (.cells #[.int .i64 x.f0, .int .i64 x.f1, .string x.f2, .string x.f3, .int .i64 x.f4] 40)) w0.heap.size (fun j => j ≠ g ∧ j ≠ b) v out) := ⟨Kd.R_below (Kd.R_mono (Kd.R_bound HO.out) (fun k hk => ⟨hk.1, by have := hk.2.2.1; omega⟩)) HA.out⟩
 have HK := Aside0.mk (KeepBut.of_below HA.out g none)
 have HBo := HB
 have HB := Aside0.mk (Ze HB.out HA.out)
 have HB0 : Aside0 (w0.heap.size ≤ W.heap.size) := ⟨HBo.out.size⟩
 have HBG : Aside0 (W.heap.size ≤ b) := ⟨by omega⟩
 have hne1 : ¬ b = g := by omega
 have hne2 : ¬ g = b := by omega
 rw [hb]
 generalize W.alloc (.cells #[.int .i64 x.f0, .int .i64 x.f1, .string x.f2, .string x.f3, .int .i64 x.f4] 40) = W1 at HA HI HR HO HK HB ⊢
 clear HA hb
 go_wp2_with (first
  | (go_at_call 23; refine (Zn w0 W1 g s p v HR.out HB.out HG.out HP.out HS.out).mono ?_; rintro e w2 ⟨rfl, hR2, hB2, hK2⟩; have HI := Aside0.mk ((hK2.2 b (Yg HI.out) hne1 (by simp)).trans HI.out); have HR := Aside0.mk hR2; have HO := Aside0.mk (Kd.R_keep HO.out hK2 (fun _ h => h.1)) ; have HK := Aside0.mk (HK.out.trans hK2 (.inl rfl)); have HB := Aside0.mk hB2; clear hR2 hB2 hK2; have hm1 : w2.cell? ⟨b, 1, none⟩ = some (.int .i64 x.f1) := (zb HI.out 1).trans rfl; have hfm1 := zg HI.out 1)
  | (go_at_call 42; have hRx : Rd (w2.setCell ⟨b, 1, none⟩ (.int .i64 4)) g s (Zb s p) v := zp HR.out (p := ⟨b, 1, none⟩) hne2 _; have hIx : Itm (w2.setCell ⟨b, 1, none⟩ (.int .i64 4)) b (⟨x.f0, 4, x.f2, x.f3, x.f4⟩ : S40) := zq HI.out 1 _; have hBx := Yj (j := 1) (v := .int .i64 4) (g := b) HB.out (Ybg HB0.out HBG.out); have hOx := Kd.R_far HO.out (p := ⟨b, 1, none⟩) (fun _ h => h.2) (.int .i64 4); have hKx := Yp HK.out (p := ⟨b, 1, none⟩) HBG.out (.int .i64 4); refine (yU w0 _ g s (Zb s p) v hRx hBx HG.out HP1.out HS.out JT.out).mono ?_; rw [FR.out]; rintro e w3 ⟨rfl, hR3, hB3, hK3⟩; have HI3 := Aside0.mk ((hK3.2 b (Yg hIx) hne1 (by simp)).trans hIx); have HR3 := Aside0.mk hR3; have HO3 := Aside0.mk (Kd.R_keep hOx hK3 (fun _ h => h.1)); have HK3 := Aside0.mk (hKx.trans hK3 (.inl rfl)); have HB3 := Aside0.mk hB3; clear hR3 hB3 hK3 hRx hIx hBx hOx hKx; have hfn := zg HI3.out 4; have hmn : w3.cell? ⟨b, 4, none⟩ = some (.int .i64 x.f4) := (zb HI3.out 4).trans rfl))
 go_ret
 exact ⟨rfl, ⟨v, zp HR3.out (p := ⟨b, 4, none⟩) hne2 _, Kd.R_mono (Kd.R_far HO3.out (p := ⟨b, 4, none⟩) (fun _ h => h.2) _) (fun _ h => h.1), .inl rfl⟩, Yj HB3.out (Ybg HB0.out HBG.out), zC (Yp HK3.out (p := ⟨b, 4, none⟩) HBG.out _)⟩
theorem Za1 (w0 W : World) (g : Nat) (s : ByteArray) (p : Nat) (v : Value) (out : List S40) (x : S40) (hR : Rd W g s p v) (hO : Out w0 W g v out) (hB : Below w0.heap.size w0 W) (hg : w0.heap.size ≤ g) (hp : p ≤ s.size) (hs : s.size ≤ 4611686018427387904) (hj : JTabs w0) (hl : (out.length + 1) * 56 ≤ 140737488355328) (n : Int) (q : Nat) (hn : 48 ≤ zd s p ∧ zd s p ≤ 57) (hr : Yq s (Zb s p) = (n, 0, q)) :
  Calls Tryz.prog 22 #[.pointer (some ⟨g, 0, none⟩), Yh x] W fun e W' => e = .returned (.int .i64 0) ∧ Left w0 W W' g s q v (out ++ [(⟨x.f0, 4, x.f2, x.f3, n⟩ : S40)]) := by
 have HR := Aside0.mk hR
 have HO := Aside0.mk hO
 have HB := Aside0.mk hB
 have HG := Aside0.mk hg
 have HS := Aside0.mk hs
 have HP := Aside0.mk hp
 have JT := Aside0.mk hj
 have HP1 := Aside0.mk (Xu s p hp)
 have HL := Aside0.mk hl
 have c91 : ((zd s p : Int) == 91) = false := Ybb.mpr (by omega)
 have c123 : ((zd s p : Int) == 123) = false := Ybb.mpr (by omega)
 have c34 : ((zd s p : Int) == 34) = false := Ybb.mpr (by omega)
 have c45 : ((zd s p : Int) == 45) = false := Ybb.mpr (by omega)
 have d48 : decide (48 ≤ (zd s p : Int)) = true := decide_eq_true (by omega)
 have d57 : decide ((zd s p : Int) ≤ 57) = true := decide_eq_true (by omega)
 have FR := Aside0.mk hr
 clear hR hB hg hs hO hp hj hl hr hn
 unfold Yh
 go_enter Tryz.func22, Tryz.ntmps22
 go_wp2_with fail
 obtain ⟨b, hb⟩ : ∃ b, W.heap.size = b := ⟨_, rfl⟩
 have hgW := Yg HR.out
 have HA : Aside0 (Below W.heap.size W (W.alloc (.cells #[.int .i64 x.f0, .int .i64 x.f1, .string x.f2, .string x.f3, .int .i64 x.f4] 40))) := ⟨Za (ybd _ _) _⟩
 have HI : Aside0 (Itm (W.alloc (.cells #[.int .i64 x.f0, .int .i64 x.f1, .string x.f2, .string x.f3, .int .i64 x.f4] 40)) b x) := ⟨by rw [← hb]; exact ybi _ _⟩
 have HR := Aside0.mk (Zu HR.out HA.out)
 have HO : Aside0 (Kd.R k40 40 (W.alloc (.cells #[.int .i64 x.f0, .int .i64 x.f1, .string x.f2, .string x.f3, .int .i64 x.f4] 40)) w0.heap.size (fun j => j ≠ g ∧ j ≠ b) v out) := ⟨Kd.R_below (Kd.R_mono (Kd.R_bound HO.out) (fun k hk => ⟨hk.1, by have := hk.2.2.1; omega⟩)) HA.out⟩
 have HK := Aside0.mk (KeepBut.of_below HA.out g none)
 have HBo := HB
 have HB := Aside0.mk (Ze HB.out HA.out)
 have HB0 : Aside0 (w0.heap.size ≤ W.heap.size) := ⟨HBo.out.size⟩
 have HBG : Aside0 (W.heap.size ≤ b) := ⟨by omega⟩
 have hne1 : ¬ b = g := by omega
 have hne2 : ¬ g = b := by omega
 rw [hb]
 generalize W.alloc (.cells #[.int .i64 x.f0, .int .i64 x.f1, .string x.f2, .string x.f3, .int .i64 x.f4] 40) = W1 at HA HI HR HO HK HB ⊢
 clear HA hb
 go_wp2_with (first
  | (go_at_call 23; refine (Zn w0 W1 g s p v HR.out HB.out HG.out HP.out HS.out).mono ?_; rintro e w2 ⟨rfl, hR2, hB2, hK2⟩; have HI := Aside0.mk ((hK2.2 b (Yg HI.out) hne1 (by simp)).trans HI.out); have HR := Aside0.mk hR2; have HO := Aside0.mk (Kd.R_keep HO.out hK2 (fun _ h => h.1)) ; have HK := Aside0.mk (HK.out.trans hK2 (.inl rfl)); have HB := Aside0.mk hB2; clear hR2 hB2 hK2; have hm1 : w2.cell? ⟨b, 1, none⟩ = some (.int .i64 x.f1) := (zb HI.out 1).trans rfl; have hfm1 := zg HI.out 1)
  | (go_at_call 42; have hRx : Rd (w2.setCell ⟨b, 1, none⟩ (.int .i64 4)) g s (Zb s p) v := zp HR.out (p := ⟨b, 1, none⟩) hne2 _; have hIx : Itm (w2.setCell ⟨b, 1, none⟩ (.int .i64 4)) b (⟨x.f0, 4, x.f2, x.f3, x.f4⟩ : S40) := zq HI.out 1 _; have hBx := Yj (j := 1) (v := .int .i64 4) (g := b) HB.out (Ybg HB0.out HBG.out); have hOx := Kd.R_far HO.out (p := ⟨b, 1, none⟩) (fun _ h => h.2) (.int .i64 4); have hKx := Yp HK.out (p := ⟨b, 1, none⟩) HBG.out (.int .i64 4); refine (yU w0 _ g s (Zb s p) v hRx hBx HG.out HP1.out HS.out JT.out).mono ?_; rw [FR.out]; rintro e w3 ⟨rfl, hR3, hB3, hK3⟩; have HI3 := Aside0.mk ((hK3.2 b (Yg hIx) hne1 (by simp)).trans hIx); have HR3 := Aside0.mk hR3; have HO3 := Aside0.mk (Kd.R_keep hOx hK3 (fun _ h => h.1)); have HK3 := Aside0.mk (hKx.trans hK3 (.inl rfl)); have HB3 := Aside0.mk hB3; clear hR3 hB3 hK3 hRx hIx hBx hOx hKx; have hfn := zg HI3.out 4; have hmn : w3.cell? ⟨b, 4, none⟩ = some (.int .i64 x.f4) := (zb HI3.out 4).trans rfl))
 have HRa : Aside0 (Rd (w3.setCell ⟨b, 4, none⟩ (.int .i64 n)) g s q v) := ⟨zp HR3.out (p := ⟨b, 4, none⟩) hne2 _⟩
 have HIa : Aside0 (Itm (w3.setCell ⟨b, 4, none⟩ (.int .i64 n)) b (⟨x.f0, 4, x.f2, x.f3, n⟩ : S40)) := ⟨zq HI3.out 4 _⟩
 have HOa := Aside0.mk (Kd.R_far HO3.out (p := ⟨b, 4, none⟩) (fun _ h => h.2) (.int .i64 n))
 have HKa := Aside0.mk (Yp HK3.out (p := ⟨b, 4, none⟩) HBG.out (.int .i64 n))
 have HBa := Aside0.mk (Yj (j := 4) (v := .int .i64 n) (g := b) HB3.out (Ybg HB0.out HBG.out))
 clear hfn hmn
 generalize w3.setCell ⟨b, 4, none⟩ (.int .i64 n) = w1 at HRa HIa HOa HKa HBa ⊢
 refine ZG (n := 11) (S := fun w' => w'.cell? ⟨g, 2, none⟩ = some v ∧ w'.heap[b]? = some (.cells #[.int .i64 ((⟨x.f0, 4, x.f2, x.f3, n⟩ : S40)).f0, .int .i64 ((⟨x.f0, 4, x.f2, x.f3, n⟩ : S40)).f1, .string ((⟨x.f0, 4, x.f2, x.f3, n⟩ : S40)).f2, .string ((⟨x.f0, 4, x.f2, x.f3, n⟩ : S40)).f3, .int .i64 ((⟨x.f0, 4, x.f2, x.f3, n⟩ : S40)).f4] 40 (0, 0))) (ds := [7, 10]) #[false, false, false, false, false, false, false, false, false, false, false] (by kernel_rfl) rfl rfl ⟨Xr HRa.out, HIa.out⟩ (fun hHeld => ?_)
 refine pq 0 79 (v := ?_) (a' := ?_) #[true, false, false, false, false, false, false, false, false, false, false] rfl (by kernel_rfl) (.inl ⟨by rfl, ?_⟩) ?_ ?_
 rotate_left
 ·intro w'
  go_simp
  (try with_reducible rfl)
 rotate_left
 ·simp only [Act.put, qA, qB, qC]
  rfl
 refine pq 1 80 (v := ?_) (a' := ?_) #[true, true, false, false, false, false, false, false, false, false, false] rfl (by kernel_rfl) (.inl ⟨by rfl, ?_⟩) ?_ ?_
 rotate_left
 ·intro w'
  go_simp
  (try with_reducible rfl)
 rotate_left
 ·simp only [Act.put, qA, qB, qC]
  rfl
 refine pq 2 81 (v := ?_) (a' := ?_) #[true, true, true, false, false, false, false, false, false, false, false] rfl (by kernel_rfl) (.inl ⟨by rfl, ?_⟩) ?_ ?_
 rotate_left
 ·intro w'
  go_simp
  (try with_reducible rfl)
 rotate_left
 ·simp only [Act.put, qA, qB, qC]
  rfl
 refine pq 3 82 (v := ?_) (a' := ?_) #[true, true, true, true, false, false, false, false, false, false, false] rfl (by kernel_rfl) (.inl ⟨by rfl, ?_⟩) ?_ ?_
 rotate_left
 ·intro w'
  go_simp
  (try with_reducible rfl)
 rotate_left
 ·simp only [Act.put, qA, qB, qC]
  rfl
 refine tq 4 83 (v := ?_) (a' := ?_) #[true, true, true, true, true, false, false, false, false, false, false] rfl (by kernel_rfl) (.inl ⟨by rfl, ?_⟩) (by assumption) ?_ ?_
 rotate_left
 ·intro w hSw
  obtain ⟨hl0, hl1⟩ := hSw
  go_simp
  (try with_reducible rfl)
 rotate_left
 ·simp only [Act.put, qA, qB, qC]
  rfl
 refine tq 5 84 (v := ?_) (a' := ?_) #[true, true, true, true, true, true, false, false, false, false, false] rfl (by kernel_rfl) (.inl ⟨by rfl, ?_⟩) (by assumption) ?_ ?_
 rotate_left
 ·intro w hSw
  obtain ⟨hl0, hl1⟩ := hSw
  have hm0 : w.cell? ⟨b, 0, none⟩ = some (.int .i64 ((⟨x.f0, 4, x.f2, x.f3, n⟩ : S40)).f0) := (zb hl1 0).trans rfl
  have hm1 : w.cell? ⟨b, 1, none⟩ = some (.int .i64 ((⟨x.f0, 4, x.f2, x.f3, n⟩ : S40)).f1) := (zb hl1 1).trans rfl
  have hm2 : w.cell? ⟨b, 2, none⟩ = some (.string ((⟨x.f0, 4, x.f2, x.f3, n⟩ : S40)).f2) := (zb hl1 2).trans rfl
  have hm3 : w.cell? ⟨b, 3, none⟩ = some (.string ((⟨x.f0, 4, x.f2, x.f3, n⟩ : S40)).f3) := (zb hl1 3).trans rfl
  have hm4 : w.cell? ⟨b, 4, none⟩ = some (.int .i64 ((⟨x.f0, 4, x.f2, x.f3, n⟩ : S40)).f4) := (zb hl1 4).trans rfl
  clear hl1
  go_simp
  (try with_reducible rfl)
 rotate_left
 ·simp only [Act.put, qA, qB, qC]
  rfl
 refine one_ (i := 6) (N := some 85) #[true, true, true, true, true, true, true, false, false, false, false] rfl rfl (by kernel_rfl) (by decide) (fun K hK => ?_)
 refine ZB (W := w1.drew) (v := .slice (some ⟨w1.heap.size, 0, none⟩) 1 1) (w1 := w1.drew.alloc (.cells #[.int .i64 ((⟨x.f0, 4, x.f2, x.f3, n⟩ : S40)).f0, .int .i64 ((⟨x.f0, 4, x.f2, x.f3, n⟩ : S40)).f1, .string ((⟨x.f0, 4, x.f2, x.f3, n⟩ : S40)).f2, .string ((⟨x.f0, 4, x.f2, x.f3, n⟩ : S40)).f3, .int .i64 ((⟨x.f0, 4, x.f2, x.f3, n⟩ : S40)).f4] 40)) (by rfl) (by kernel_rfl) ?_
 refine hK.out _ _ ?_ (fun hHeld => ?_)
 ·exact ZI HRa.out HIa.out _
 clear hK K
 (try simp only [Act.put, qA, qB, qC])
 refine ZA (i := 7) (N := some 86) #[true, true, true, true, true, true, true, true, false, false, false] rfl rfl (by kernel_rfl) (by decide) (fun K hK => ?_)
 refine yD (.tmp 83) (.tmp 85) (by rfl) rfl rfl rfl HRa.out HIa.out HOa.out HBa.out HG.out HL.out ?_
 intro As N2 cc w2 hR2 hP2
 have hc2a := Xr hR2
 have hf2a := zg hR2 2
 have HPa := Aside0.mk hP2
 clear hR2 hP2
 refine hK.out _ _ ?_
 clear hK K
 (try simp only [Act.put, qA, qB, qC])
 refine pq 8 87 (v := ?_) (a' := ?_) #[true, true, true, true, true, true, true, true, true, false, false] rfl (by kernel_rfl) (.inl ⟨by rfl, ?_⟩) ?_ ?_
 rotate_left
 ·intro w'
  go_simp
  (try with_reducible rfl)
 rotate_left
 ·simp only [Act.put, qA, qB, qC]
  rfl
 refine pq 9 88 (v := ?_) (a' := ?_) #[true, true, true, true, true, true, true, true, true, true, false] rfl (by kernel_rfl) (.inl ⟨by rfl, ?_⟩) ?_ ?_
 rotate_left
 ·intro w'
  go_simp
  (try with_reducible rfl)
 rotate_left
 ·simp only [Act.put, qA, qB, qC]
  rfl
 refine ZA (i := 10) (N := none) #[true, true, true, true, true, true, true, true, true, true, true] rfl rfl (by kernel_rfl) (by decide) (fun K hK => ?_)
 go_simp
 refine hK.out _ _ ?_
 clear hK K
 (try simp only [Act.put, qA, qB, qC])
 refine xL (by kernel_rfl) ?_
 go_wp2_with fail
 go_ret
 exact ⟨rfl, Left.pre HKa.out HPa.out⟩
theorem xaT (w0 W : World) (g : Nat) (s : ByteArray) (p : Nat) (v : Value) (out : List S40) (x : S40) (hR : Rd W g s p v) (hO : Out w0 W g v out) (hB : Below w0.heap.size w0 W) (hg : w0.heap.size ≤ g) (hp : p ≤ s.size) (hs : s.size ≤ 4611686018427387904) (hj : JTabs w0) (hc : zd s p = 91) (hd : 64 ≤ x.f0) :
  Calls Tryz.prog 22 #[.pointer (some ⟨g, 0, none⟩), Yh x] W fun e W' => e = .returned (.int .i64 81) ∧ Left w0 W W' g s (Zb s p) v out := by
 have HR := Aside0.mk hR
 have HO := Aside0.mk hO
 have HB := Aside0.mk hB
 have HG := Aside0.mk hg
 have HS := Aside0.mk hs
 have HP := Aside0.mk hp
 have JT := Aside0.mk hj
 have HP1 := Aside0.mk (Xu s p hp)
 have c91 : ((zd s p : Int) == 91) = true := Ybf.mpr (by omega)
 have c123 : ((zd s p : Int) == 123) = false := Ybb.mpr (by omega)
 have HC : Aside0 ((zd s p : Int) = 91) := ⟨by omega⟩
 have d64 : decide (64 ≤ x.f0) = true := decide_eq_true (by omega)
 clear hR hB hg hs hO hp hj hc hd
 unfold Yh
 go_enter Tryz.func22, Tryz.ntmps22
 go_wp2_with fail
 obtain ⟨b, hb⟩ : ∃ b, W.heap.size = b := ⟨_, rfl⟩
 have hgW := Yg HR.out
 have HA : Aside0 (Below W.heap.size W (W.alloc (.cells #[.int .i64 x.f0, .int .i64 x.f1, .string x.f2, .string x.f3, .int .i64 x.f4] 40))) := ⟨Za (ybd _ _) _⟩
 have HI : Aside0 (Itm (W.alloc (.cells #[.int .i64 x.f0, .int .i64 x.f1, .string x.f2, .string x.f3, .int .i64 x.f4] 40)) b x) := ⟨by rw [← hb]; exact ybi _ _⟩
 have HR := Aside0.mk (Zu HR.out HA.out)
 have HO : Aside0 (Kd.R k40 40 (W.alloc (.cells #[.int .i64 x.f0, .int .i64 x.f1, .string x.f2, .string x.f3, .int .i64 x.f4] 40)) w0.heap.size (fun j => j ≠ g ∧ j ≠ b) v out) := ⟨Kd.R_below (Kd.R_mono (Kd.R_bound HO.out) (fun k hk => ⟨hk.1, by have := hk.2.2.1; omega⟩)) HA.out⟩
 have HK := Aside0.mk (KeepBut.of_below HA.out g none)
 have HBo := HB
 have HB := Aside0.mk (Ze HB.out HA.out)
 have HB0 : Aside0 (w0.heap.size ≤ W.heap.size) := ⟨HBo.out.size⟩
 have HBG : Aside0 (W.heap.size ≤ b) := ⟨by omega⟩
 have hne1 : ¬ b = g := by omega
 have hne2 : ¬ g = b := by omega
 rw [hb]
 generalize W.alloc (.cells #[.int .i64 x.f0, .int .i64 x.f1, .string x.f2, .string x.f3, .int .i64 x.f4] 40) = W1 at HA HI HR HO HK HB ⊢
 clear HA hb
 go_wp2_with (go_at_call 23; refine (Zn w0 W1 g s p v HR.out HB.out HG.out HP.out HS.out).mono ?_; rintro e w2 ⟨rfl, hR2, hB2, hK2⟩; have HI := Aside0.mk ((hK2.2 b (Yg HI.out) hne1 (by simp)).trans HI.out); have HR := Aside0.mk hR2; have HO := Aside0.mk (Kd.R_keep HO.out hK2 (fun _ h => h.1)) ; have HK := Aside0.mk (HK.out.trans hK2 (.inl rfl)); have HB := Aside0.mk hB2; clear hR2 hB2 hK2; have hm0 : w2.cell? ⟨b, 0, none⟩ = some (.int .i64 x.f0) := (zb HI.out 0).trans rfl; have hm1 : w2.cell? ⟨b, 1, none⟩ = some (.int .i64 x.f1) := (zb HI.out 1).trans rfl; have hfm1 := zg HI.out 1; have hcc1 := Yf HR.out; have hcf1 := zg HR.out 1)
 go_ret
 exact ⟨rfl, ⟨v, zp HR.out (p := ⟨b, 1, none⟩) hne2 _, Kd.R_mono (Kd.R_far HO.out (p := ⟨b, 1, none⟩) (fun _ h => h.2) (.int .i64 6)) (fun _ h => h.1), .inl rfl⟩, Yj (j := 1) (v := .int .i64 6) (g := b) HB.out (Ybg HB0.out HBG.out), zC (Yp HK.out (p := ⟨b, 1, none⟩) HBG.out (.int .i64 6))⟩
theorem ZaT (w0 W : World) (g : Nat) (s : ByteArray) (p : Nat) (v : Value) (out : List S40) (x : S40) (hR : Rd W g s p v) (hO : Out w0 W g v out) (hB : Below w0.heap.size w0 W) (hg : w0.heap.size ≤ g) (hp : p ≤ s.size) (hs : s.size ≤ 4611686018427387904) (hj : JTabs w0) (hc : zd s p = 91) (hd : x.f0 < 64) (hl : (out.length + 1) * 56 ≤ 140737488355328) (hq : Zb s p < s.size) (er : Int) (q : Nat) (out' : List S40) (hM : ∀ (W1 : World) (v1 : Value), Rd W1 g s (Zb s p + 1) v1 → Out w0 W1 g v1 (out ++ [(⟨x.f0, 6, x.f2, x.f3, x.f4⟩ : S40)]) → Below w0.heap.size w0 W1 → Calls Tryz.prog 40 #[.pointer (some ⟨g, 0, none⟩), Yh (⟨x.f0, 6, x.f2, x.f3, x.f4⟩ : S40), .int .u8 93] W1 fun e W' => e = .returned (.int .i64 er) ∧ Left w0 W1 W' g s q v1 out') :
  Calls Tryz.prog 22 #[.pointer (some ⟨g, 0, none⟩), Yh x] W fun e W' => e = .returned (.int .i64 er) ∧ Left w0 W W' g s q v out' := by
 have HR := Aside0.mk hR
 have HO := Aside0.mk hO
 have HB := Aside0.mk hB
 have HG := Aside0.mk hg
 have HS := Aside0.mk hs
 have HP := Aside0.mk hp
 have JT := Aside0.mk hj
 have HP1 := Aside0.mk (Xu s p hp)
 have c91 : ((zd s p : Int) == 91) = true := Ybf.mpr (by omega)
 have c123 : ((zd s p : Int) == 123) = false := Ybb.mpr (by omega)
 have HC : Aside0 ((zd s p : Int) = 91) := ⟨by omega⟩
 have d64 : decide (64 ≤ x.f0) = false := zbd (by omega)
 have HL := Aside0.mk hl
 have HM := Aside0.mk hM
 have HW : Aside0 (wrap64 ((Zb s p : Int) + 1) = ((Zb s p + 1 : Nat) : Int)) := ⟨by unfold wrap64; omega⟩
 have hu : IntKind.u8.wrap ((zd s p : Int) + 2) = 93 := by rw [HC.out]; rfl
 have hu2 : ((zd s p : Int) + 2) % 256 = 93 := by rw [HC.out]; rfl
 clear hR hB hg hs hO hp hj hc hd hl hM hq
 unfold Yh
 go_enter Tryz.func22, Tryz.ntmps22
 go_wp2_with fail
 obtain ⟨b, hb⟩ : ∃ b, W.heap.size = b := ⟨_, rfl⟩
 have hgW := Yg HR.out
 have HA : Aside0 (Below W.heap.size W (W.alloc (.cells #[.int .i64 x.f0, .int .i64 x.f1, .string x.f2, .string x.f3, .int .i64 x.f4] 40))) := ⟨Za (ybd _ _) _⟩
 have HI : Aside0 (Itm (W.alloc (.cells #[.int .i64 x.f0, .int .i64 x.f1, .string x.f2, .string x.f3, .int .i64 x.f4] 40)) b x) := ⟨by rw [← hb]; exact ybi _ _⟩
 have HR := Aside0.mk (Zu HR.out HA.out)
 have HO : Aside0 (Kd.R k40 40 (W.alloc (.cells #[.int .i64 x.f0, .int .i64 x.f1, .string x.f2, .string x.f3, .int .i64 x.f4] 40)) w0.heap.size (fun j => j ≠ g ∧ j ≠ b) v out) := ⟨Kd.R_below (Kd.R_mono (Kd.R_bound HO.out) (fun k hk => ⟨hk.1, by have := hk.2.2.1; omega⟩)) HA.out⟩
 have HK := Aside0.mk (KeepBut.of_below HA.out g none)
 have HBo := HB
 have HB := Aside0.mk (Ze HB.out HA.out)
 have HB0 : Aside0 (w0.heap.size ≤ W.heap.size) := ⟨HBo.out.size⟩
 have HBG : Aside0 (W.heap.size ≤ b) := ⟨by omega⟩
 have hne1 : ¬ b = g := by omega
 have hne2 : ¬ g = b := by omega
 rw [hb]
 generalize W.alloc (.cells #[.int .i64 x.f0, .int .i64 x.f1, .string x.f2, .string x.f3, .int .i64 x.f4] 40) = W1 at HA HI HR HO HK HB ⊢
 clear HA hb
 go_wp2_with (go_at_call 23; refine (Zn w0 W1 g s p v HR.out HB.out HG.out HP.out HS.out).mono ?_; rintro e w2 ⟨rfl, hR2, hB2, hK2⟩; have HI := Aside0.mk ((hK2.2 b (Yg HI.out) hne1 (by simp)).trans HI.out); have HR := Aside0.mk hR2; have HO := Aside0.mk (Kd.R_keep HO.out hK2 (fun _ h => h.1)) ; have HK := Aside0.mk (HK.out.trans hK2 (.inl rfl)); have HB := Aside0.mk hB2; clear hR2 hB2 hK2; have hm0 : w2.cell? ⟨b, 0, none⟩ = some (.int .i64 x.f0) := (zb HI.out 0).trans rfl; have hm1 : w2.cell? ⟨b, 1, none⟩ = some (.int .i64 x.f1) := (zb HI.out 1).trans rfl; have hfm1 := zg HI.out 1; have hcc1 := Yf HR.out; have hcf1 := zg HR.out 1)
 have HRb : Aside0 (Rd (w2.setCell ⟨b, 1, none⟩ (.int .i64 6)) g s (Zb s p) v) := ⟨zp HR.out (p := ⟨b, 1, none⟩) hne2 _⟩
 have HIb : Aside0 (Itm (w2.setCell ⟨b, 1, none⟩ (.int .i64 6)) b (⟨x.f0, 6, x.f2, x.f3, x.f4⟩ : S40)) := ⟨zq HI.out 1 _⟩
 have HOb := Aside0.mk (Kd.R_far HO.out (p := ⟨b, 1, none⟩) (fun _ h => h.2) (.int .i64 6))
 have HKb := Aside0.mk (Yp HK.out (p := ⟨b, 1, none⟩) HBG.out (.int .i64 6))
 have HBb := Aside0.mk (Yj (j := 1) (v := .int .i64 6) (g := b) HB.out (Ybg HB0.out HBG.out))
 have HRa : Aside0 (Rd ((w2.setCell ⟨b, 1, none⟩ (.int .i64 6)).setCell ⟨g, 1, none⟩ (.int .i64 (wrap64 ((Zb s p : Int) + 1)))) g s (Zb s p + 1) v) := ⟨xS HRb.out HW.out⟩
 have HIa : Aside0 (Itm ((w2.setCell ⟨b, 1, none⟩ (.int .i64 6)).setCell ⟨g, 1, none⟩ (.int .i64 (wrap64 ((Zb s p : Int) + 1)))) b (⟨x.f0, 6, x.f2, x.f3, x.f4⟩ : S40)) := ⟨zp HIb.out (p := ⟨g, 1, none⟩) hne1 _⟩
 have HOa := Aside0.mk (Kd.R_far HOb.out (p := ⟨g, 1, none⟩) (fun _ h => h.1) (.int .i64 (wrap64 ((Zb s p : Int) + 1))))
 have HKa := Aside0.mk (KeepBut.set_ HKb.out 1 (.int .i64 (wrap64 ((Zb s p : Int) + 1))))
 have HBa := Aside0.mk (Yj (j := 1) (v := .int .i64 (wrap64 ((Zb s p : Int) + 1))) HBb.out HG.out)
 clear HRb HIb HOb HKb HBb hcc1 hcf1 hm0 hm1 hfm1
 generalize (w2.setCell ⟨b, 1, none⟩ (.int .i64 6)).setCell ⟨g, 1, none⟩ (.int .i64 (wrap64 ((Zb s p : Int) + 1))) = w1 at HRa HIa HOa HKa HBa ⊢
 refine ZG (n := 11) (S := fun w' => w'.cell? ⟨g, 2, none⟩ = some v ∧ w'.heap[b]? = some (.cells #[.int .i64 ((⟨x.f0, 6, x.f2, x.f3, x.f4⟩ : S40)).f0, .int .i64 ((⟨x.f0, 6, x.f2, x.f3, x.f4⟩ : S40)).f1, .string ((⟨x.f0, 6, x.f2, x.f3, x.f4⟩ : S40)).f2, .string ((⟨x.f0, 6, x.f2, x.f3, x.f4⟩ : S40)).f3, .int .i64 ((⟨x.f0, 6, x.f2, x.f3, x.f4⟩ : S40)).f4] 40 (0, 0))) (ds := [7, 10]) #[false, false, false, false, false, false, false, false, false, false, false] (by kernel_rfl) rfl rfl ⟨Xr HRa.out, HIa.out⟩ (fun hHeld => ?_)
 refine pq 0 33 (v := ?_) (a' := ?_) #[true, false, false, false, false, false, false, false, false, false, false] rfl (by kernel_rfl) (.inl ⟨by rfl, ?_⟩) ?_ ?_
 rotate_left
 ·intro w'
  go_simp
  (try with_reducible rfl)
 rotate_left
 ·simp only [Act.put, qA, qB, qC]
  rfl
 refine pq 1 34 (v := ?_) (a' := ?_) #[true, true, false, false, false, false, false, false, false, false, false] rfl (by kernel_rfl) (.inl ⟨by rfl, ?_⟩) ?_ ?_
 rotate_left
 ·intro w'
  go_simp
  (try with_reducible rfl)
 rotate_left
 ·simp only [Act.put, qA, qB, qC]
  rfl
 refine pq 2 35 (v := ?_) (a' := ?_) #[true, true, true, false, false, false, false, false, false, false, false] rfl (by kernel_rfl) (.inl ⟨by rfl, ?_⟩) ?_ ?_
 rotate_left
 ·intro w'
  go_simp
  (try with_reducible rfl)
 rotate_left
 ·simp only [Act.put, qA, qB, qC]
  rfl
 refine pq 3 36 (v := ?_) (a' := ?_) #[true, true, true, true, false, false, false, false, false, false, false] rfl (by kernel_rfl) (.inl ⟨by rfl, ?_⟩) ?_ ?_
 rotate_left
 ·intro w'
  go_simp
  (try with_reducible rfl)
 rotate_left
 ·simp only [Act.put, qA, qB, qC]
  rfl
 refine tq 4 37 (v := ?_) (a' := ?_) #[true, true, true, true, true, false, false, false, false, false, false] rfl (by kernel_rfl) (.inl ⟨by rfl, ?_⟩) (by assumption) ?_ ?_
 rotate_left
 ·intro w hSw
  obtain ⟨hl0, hl1⟩ := hSw
  go_simp
  (try with_reducible rfl)
 rotate_left
 ·simp only [Act.put, qA, qB, qC]
  rfl
 refine tq 5 38 (v := ?_) (a' := ?_) #[true, true, true, true, true, true, false, false, false, false, false] rfl (by kernel_rfl) (.inl ⟨by rfl, ?_⟩) (by assumption) ?_ ?_
 rotate_left
 ·intro w hSw
  obtain ⟨hl0, hl1⟩ := hSw
  have hm0 : w.cell? ⟨b, 0, none⟩ = some (.int .i64 ((⟨x.f0, 6, x.f2, x.f3, x.f4⟩ : S40)).f0) := (zb hl1 0).trans rfl
  have hm1 : w.cell? ⟨b, 1, none⟩ = some (.int .i64 ((⟨x.f0, 6, x.f2, x.f3, x.f4⟩ : S40)).f1) := (zb hl1 1).trans rfl
  have hm2 : w.cell? ⟨b, 2, none⟩ = some (.string ((⟨x.f0, 6, x.f2, x.f3, x.f4⟩ : S40)).f2) := (zb hl1 2).trans rfl
  have hm3 : w.cell? ⟨b, 3, none⟩ = some (.string ((⟨x.f0, 6, x.f2, x.f3, x.f4⟩ : S40)).f3) := (zb hl1 3).trans rfl
  have hm4 : w.cell? ⟨b, 4, none⟩ = some (.int .i64 ((⟨x.f0, 6, x.f2, x.f3, x.f4⟩ : S40)).f4) := (zb hl1 4).trans rfl
  clear hl1
  go_simp
  (try with_reducible rfl)
 rotate_left
 ·simp only [Act.put, qA, qB, qC]
  rfl
 refine one_ (i := 6) (N := some 39) #[true, true, true, true, true, true, true, false, false, false, false] rfl rfl (by kernel_rfl) (by decide) (fun K hK => ?_)
 refine ZB (W := w1.drew) (v := .slice (some ⟨w1.heap.size, 0, none⟩) 1 1) (w1 := w1.drew.alloc (.cells #[.int .i64 ((⟨x.f0, 6, x.f2, x.f3, x.f4⟩ : S40)).f0, .int .i64 ((⟨x.f0, 6, x.f2, x.f3, x.f4⟩ : S40)).f1, .string ((⟨x.f0, 6, x.f2, x.f3, x.f4⟩ : S40)).f2, .string ((⟨x.f0, 6, x.f2, x.f3, x.f4⟩ : S40)).f3, .int .i64 ((⟨x.f0, 6, x.f2, x.f3, x.f4⟩ : S40)).f4] 40)) (by rfl) (by kernel_rfl) ?_
 refine hK.out _ _ ?_ (fun hHeld => ?_)
 ·exact ZI HRa.out HIa.out _
 clear hK K
 (try simp only [Act.put, qA, qB, qC])
 refine ZA (i := 7) (N := some 40) #[true, true, true, true, true, true, true, true, false, false, false] rfl rfl (by kernel_rfl) (by decide) (fun K hK => ?_)
 refine yD (.tmp 37) (.tmp 39) (by rfl) rfl rfl rfl HRa.out HIa.out HOa.out HBa.out HG.out HL.out ?_
 intro As N2 cc w2 hR2 hP2
 have hc2a := Xr hR2
 have hf2a := zg hR2 2
 have HPa := Aside0.mk hP2
 clear hR2 hP2
 refine hK.out _ _ ?_
 clear hK K
 (try simp only [Act.put, qA, qB, qC])
 refine pq 8 41 (v := ?_) (a' := ?_) #[true, true, true, true, true, true, true, true, true, false, false] rfl (by kernel_rfl) (.inl ⟨by rfl, ?_⟩) ?_ ?_
 rotate_left
 ·intro w'
  go_simp
  (try with_reducible rfl)
 rotate_left
 ·simp only [Act.put, qA, qB, qC]
  rfl
 refine pq 9 42 (v := ?_) (a' := ?_) #[true, true, true, true, true, true, true, true, true, true, false] rfl (by kernel_rfl) (.inl ⟨by rfl, ?_⟩) ?_ ?_
 rotate_left
 ·intro w'
  go_simp
  (try with_reducible rfl)
 rotate_left
 ·simp only [Act.put, qA, qB, qC]
  rfl
 refine ZA (i := 10) (N := none) #[true, true, true, true, true, true, true, true, true, true, true] rfl rfl (by kernel_rfl) (by decide) (fun K hK => ?_)
 go_simp
 refine hK.out _ _ ?_
 clear hK K
 (try simp only [Act.put, qA, qB, qC])
 refine xL (by kernel_rfl) ?_
 clear hc2a hf2a
 generalize w2.setCell ⟨g, 2, none⟩ (.slice As N2 cc) = wf at HPa ⊢
 obtain ⟨⟨v', hR', hO', hA'⟩, hB', hK'⟩ := HPa.out
 have HIf : Aside0 (Itm wf b (⟨x.f0, 6, x.f2, x.f3, x.f4⟩ : S40)) := ⟨(hK'.2 b (Yg HIa.out) hne1 (fun e => (HOa.out.1 b e.symm).2 rfl)).trans HIa.out⟩
 have hm0 : wf.cell? ⟨b, 0, none⟩ = some (.int .i64 x.f0) := (zb HIf.out 0).trans rfl
 have hm1 : wf.cell? ⟨b, 1, none⟩ = some (.int .i64 6) := (zb HIf.out 1).trans rfl
 have hm2 : wf.cell? ⟨b, 2, none⟩ = some (.string x.f2) := (zb HIf.out 2).trans rfl
 have hm3 : wf.cell? ⟨b, 3, none⟩ = some (.string x.f3) := (zb HIf.out 3).trans rfl
 have hm4 : wf.cell? ⟨b, 4, none⟩ = some (.int .i64 x.f4) := (zb HIf.out 4).trans rfl
 have HR' := Aside0.mk hR'
 have HO' := Aside0.mk hO'
 have HB' := Aside0.mk hB'
 have HA' := Aside0.mk hA'
 have HK' := Aside0.mk hK'
 clear hR' hO' hB' hA' hK'
 go_wp2_with (go_at_call 40; refine (HM.out wf v' HR'.out HO'.out HB'.out).mono ?_; rintro e w4 ⟨rfl, hL⟩; have HL4 := Aside0.mk hL; clear hL)
 go_ret
 exact ⟨rfl, Left.pre HKa.out (Left.comp HA'.out HK'.out HL4.out)⟩
theorem ZaQ (w0 W : World) (g : Nat) (s : ByteArray) (p : Nat) (v : Value) (out : List S40) (x : S40) (hR : Rd W g s p v) (hO : Out w0 W g v out) (hB : Below w0.heap.size w0 W) (hg : w0.heap.size ≤ g) (hp : p ≤ s.size) (hs : s.size ≤ 4611686018427387904) (hj : JTabs w0) (hc : zd s p = 123) (hd : 64 ≤ x.f0) :
  Calls Tryz.prog 22 #[.pointer (some ⟨g, 0, none⟩), Yh x] W fun e W' => e = .returned (.int .i64 81) ∧ Left w0 W W' g s (Zb s p) v out := by
 have HR := Aside0.mk hR
 have HO := Aside0.mk hO
 have HB := Aside0.mk hB
 have HG := Aside0.mk hg
 have HS := Aside0.mk hs
 have HP := Aside0.mk hp
 have JT := Aside0.mk hj
 have HP1 := Aside0.mk (Xu s p hp)
 have c91 : ((zd s p : Int) == 91) = false := Ybb.mpr (by omega)
 have c123 : ((zd s p : Int) == 123) = true := Ybf.mpr (by omega)
 have HC : Aside0 ((zd s p : Int) = 123) := ⟨by omega⟩
 have d64 : decide (64 ≤ x.f0) = true := decide_eq_true (by omega)
 clear hR hB hg hs hO hp hj hc hd
 unfold Yh
 go_enter Tryz.func22, Tryz.ntmps22
 go_wp2_with fail
 obtain ⟨b, hb⟩ : ∃ b, W.heap.size = b := ⟨_, rfl⟩
 have hgW := Yg HR.out
 have HA : Aside0 (Below W.heap.size W (W.alloc (.cells #[.int .i64 x.f0, .int .i64 x.f1, .string x.f2, .string x.f3, .int .i64 x.f4] 40))) := ⟨Za (ybd _ _) _⟩
 have HI : Aside0 (Itm (W.alloc (.cells #[.int .i64 x.f0, .int .i64 x.f1, .string x.f2, .string x.f3, .int .i64 x.f4] 40)) b x) := ⟨by rw [← hb]; exact ybi _ _⟩
 have HR := Aside0.mk (Zu HR.out HA.out)
 have HO : Aside0 (Kd.R k40 40 (W.alloc (.cells #[.int .i64 x.f0, .int .i64 x.f1, .string x.f2, .string x.f3, .int .i64 x.f4] 40)) w0.heap.size (fun j => j ≠ g ∧ j ≠ b) v out) := ⟨Kd.R_below (Kd.R_mono (Kd.R_bound HO.out) (fun k hk => ⟨hk.1, by have := hk.2.2.1; omega⟩)) HA.out⟩
 have HK := Aside0.mk (KeepBut.of_below HA.out g none)
 have HBo := HB
 have HB := Aside0.mk (Ze HB.out HA.out)
 have HB0 : Aside0 (w0.heap.size ≤ W.heap.size) := ⟨HBo.out.size⟩
 have HBG : Aside0 (W.heap.size ≤ b) := ⟨by omega⟩
 have hne1 : ¬ b = g := by omega
 have hne2 : ¬ g = b := by omega
 rw [hb]
 generalize W.alloc (.cells #[.int .i64 x.f0, .int .i64 x.f1, .string x.f2, .string x.f3, .int .i64 x.f4] 40) = W1 at HA HI HR HO HK HB ⊢
 clear HA hb
 go_wp2_with (go_at_call 23; refine (Zn w0 W1 g s p v HR.out HB.out HG.out HP.out HS.out).mono ?_; rintro e w2 ⟨rfl, hR2, hB2, hK2⟩; have HI := Aside0.mk ((hK2.2 b (Yg HI.out) hne1 (by simp)).trans HI.out); have HR := Aside0.mk hR2; have HO := Aside0.mk (Kd.R_keep HO.out hK2 (fun _ h => h.1)) ; have HK := Aside0.mk (HK.out.trans hK2 (.inl rfl)); have HB := Aside0.mk hB2; clear hR2 hB2 hK2; have hm0 : w2.cell? ⟨b, 0, none⟩ = some (.int .i64 x.f0) := (zb HI.out 0).trans rfl; have hm1 : w2.cell? ⟨b, 1, none⟩ = some (.int .i64 x.f1) := (zb HI.out 1).trans rfl; have hfm1 := zg HI.out 1; have hcc1 := Yf HR.out; have hcf1 := zg HR.out 1)
 go_ret
 exact ⟨rfl, ⟨v, zp (zp HR.out (p := ⟨b, 1, none⟩) hne2 (.int .i64 6)) (p := ⟨b, 1, none⟩) hne2 _, Kd.R_mono (Kd.R_far (Kd.R_far HO.out (p := ⟨b, 1, none⟩) (fun _ h => h.2) (.int .i64 6)) (p := ⟨b, 1, none⟩) (fun _ h => h.2) (.int .i64 7)) (fun _ h => h.1), .inl rfl⟩, Yj (j := 1) (v := .int .i64 7) (g := b) (Yj (j := 1) (v := .int .i64 6) (g := b) HB.out (Ybg HB0.out HBG.out)) (Ybg HB0.out HBG.out), zC (Yp (Yp HK.out (p := ⟨b, 1, none⟩) HBG.out (.int .i64 6)) (p := ⟨b, 1, none⟩) HBG.out (.int .i64 7))⟩
theorem YaQ (w0 W : World) (g : Nat) (s : ByteArray) (p : Nat) (v : Value) (out : List S40) (x : S40) (hR : Rd W g s p v) (hO : Out w0 W g v out) (hB : Below w0.heap.size w0 W) (hg : w0.heap.size ≤ g) (hp : p ≤ s.size) (hs : s.size ≤ 4611686018427387904) (hj : JTabs w0) (hc : zd s p = 123) (hd : x.f0 < 64) (hl : (out.length + 1) * 56 ≤ 140737488355328) (hq : Zb s p < s.size) (er : Int) (q : Nat) (out' : List S40) (hM : ∀ (W1 : World) (v1 : Value), Rd W1 g s (Zb s p + 1) v1 → Out w0 W1 g v1 (out ++ [(⟨x.f0, 7, x.f2, x.f3, x.f4⟩ : S40)]) → Below w0.heap.size w0 W1 → Calls Tryz.prog 40 #[.pointer (some ⟨g, 0, none⟩), Yh (⟨x.f0, 7, x.f2, x.f3, x.f4⟩ : S40), .int .u8 125] W1 fun e W' => e = .returned (.int .i64 er) ∧ Left w0 W1 W' g s q v1 out') :
  Calls Tryz.prog 22 #[.pointer (some ⟨g, 0, none⟩), Yh x] W fun e W' => e = .returned (.int .i64 er) ∧ Left w0 W W' g s q v out' := by
 have HR := Aside0.mk hR
 have HO := Aside0.mk hO
 have HB := Aside0.mk hB
 have HG := Aside0.mk hg
 have HS := Aside0.mk hs
 have HP := Aside0.mk hp
 have JT := Aside0.mk hj
 have HP1 := Aside0.mk (Xu s p hp)
 have c91 : ((zd s p : Int) == 91) = false := Ybb.mpr (by omega)
 have c123 : ((zd s p : Int) == 123) = true := Ybf.mpr (by omega)
 have HC : Aside0 ((zd s p : Int) = 123) := ⟨by omega⟩
 have d64 : decide (64 ≤ x.f0) = false := zbd (by omega)
 have HL := Aside0.mk hl
 have HM := Aside0.mk hM
 have HW : Aside0 (wrap64 ((Zb s p : Int) + 1) = ((Zb s p + 1 : Nat) : Int)) := ⟨by unfold wrap64; omega⟩
 have hu : IntKind.u8.wrap ((zd s p : Int) + 2) = 125 := by rw [HC.out]; rfl
 have hu2 : ((zd s p : Int) + 2) % 256 = 125 := by rw [HC.out]; rfl
 clear hR hB hg hs hO hp hj hc hd hl hM hq
 unfold Yh
 go_enter Tryz.func22, Tryz.ntmps22
 go_wp2_with fail
 obtain ⟨b, hb⟩ : ∃ b, W.heap.size = b := ⟨_, rfl⟩
 have hgW := Yg HR.out
 have HA : Aside0 (Below W.heap.size W (W.alloc (.cells #[.int .i64 x.f0, .int .i64 x.f1, .string x.f2, .string x.f3, .int .i64 x.f4] 40))) := ⟨Za (ybd _ _) _⟩
 have HI : Aside0 (Itm (W.alloc (.cells #[.int .i64 x.f0, .int .i64 x.f1, .string x.f2, .string x.f3, .int .i64 x.f4] 40)) b x) := ⟨by rw [← hb]; exact ybi _ _⟩
 have HR := Aside0.mk (Zu HR.out HA.out)
 have HO : Aside0 (Kd.R k40 40 (W.alloc (.cells #[.int .i64 x.f0, .int .i64 x.f1, .string x.f2, .string x.f3, .int .i64 x.f4] 40)) w0.heap.size (fun j => j ≠ g ∧ j ≠ b) v out) := ⟨Kd.R_below (Kd.R_mono (Kd.R_bound HO.out) (fun k hk => ⟨hk.1, by have := hk.2.2.1; omega⟩)) HA.out⟩
 have HK := Aside0.mk (KeepBut.of_below HA.out g none)
 have HBo := HB
 have HB := Aside0.mk (Ze HB.out HA.out)
 have HB0 : Aside0 (w0.heap.size ≤ W.heap.size) := ⟨HBo.out.size⟩
 have HBG : Aside0 (W.heap.size ≤ b) := ⟨by omega⟩
 have hne1 : ¬ b = g := by omega
 have hne2 : ¬ g = b := by omega
 rw [hb]
 generalize W.alloc (.cells #[.int .i64 x.f0, .int .i64 x.f1, .string x.f2, .string x.f3, .int .i64 x.f4] 40) = W1 at HA HI HR HO HK HB ⊢
 clear HA hb
 go_wp2_with (go_at_call 23; refine (Zn w0 W1 g s p v HR.out HB.out HG.out HP.out HS.out).mono ?_; rintro e w2 ⟨rfl, hR2, hB2, hK2⟩; have HI := Aside0.mk ((hK2.2 b (Yg HI.out) hne1 (by simp)).trans HI.out); have HR := Aside0.mk hR2; have HO := Aside0.mk (Kd.R_keep HO.out hK2 (fun _ h => h.1)) ; have HK := Aside0.mk (HK.out.trans hK2 (.inl rfl)); have HB := Aside0.mk hB2; clear hR2 hB2 hK2; have hm0 : w2.cell? ⟨b, 0, none⟩ = some (.int .i64 x.f0) := (zb HI.out 0).trans rfl; have hm1 : w2.cell? ⟨b, 1, none⟩ = some (.int .i64 x.f1) := (zb HI.out 1).trans rfl; have hfm1 := zg HI.out 1; have hcc1 := Yf HR.out; have hcf1 := zg HR.out 1)
 have HRb : Aside0 (Rd ((w2.setCell ⟨b, 1, none⟩ (.int .i64 6)).setCell ⟨b, 1, none⟩ (.int .i64 7)) g s (Zb s p) v) := ⟨zp (zp HR.out (p := ⟨b, 1, none⟩) hne2 (.int .i64 6)) (p := ⟨b, 1, none⟩) hne2 _⟩
 have HIb : Aside0 (Itm ((w2.setCell ⟨b, 1, none⟩ (.int .i64 6)).setCell ⟨b, 1, none⟩ (.int .i64 7)) b (⟨x.f0, 7, x.f2, x.f3, x.f4⟩ : S40)) := ⟨zq (zq HI.out 1 (.int .i64 6)) 1 _⟩
 have HOb := Aside0.mk (Kd.R_far (Kd.R_far HO.out (p := ⟨b, 1, none⟩) (fun _ h => h.2) (.int .i64 6)) (p := ⟨b, 1, none⟩) (fun _ h => h.2) (.int .i64 7))
 have HKb := Aside0.mk (Yp (Yp HK.out (p := ⟨b, 1, none⟩) HBG.out (.int .i64 6)) (p := ⟨b, 1, none⟩) HBG.out (.int .i64 7))
 have HBb := Aside0.mk (Yj (j := 1) (v := .int .i64 7) (g := b) (Yj (j := 1) (v := .int .i64 6) (g := b) HB.out (Ybg HB0.out HBG.out)) (Ybg HB0.out HBG.out))
 have HRa : Aside0 (Rd (((w2.setCell ⟨b, 1, none⟩ (.int .i64 6)).setCell ⟨b, 1, none⟩ (.int .i64 7)).setCell ⟨g, 1, none⟩ (.int .i64 (wrap64 ((Zb s p : Int) + 1)))) g s (Zb s p + 1) v) := ⟨xS HRb.out HW.out⟩
 have HIa : Aside0 (Itm (((w2.setCell ⟨b, 1, none⟩ (.int .i64 6)).setCell ⟨b, 1, none⟩ (.int .i64 7)).setCell ⟨g, 1, none⟩ (.int .i64 (wrap64 ((Zb s p : Int) + 1)))) b (⟨x.f0, 7, x.f2, x.f3, x.f4⟩ : S40)) := ⟨zp HIb.out (p := ⟨g, 1, none⟩) hne1 _⟩
 have HOa := Aside0.mk (Kd.R_far HOb.out (p := ⟨g, 1, none⟩) (fun _ h => h.1) (.int .i64 (wrap64 ((Zb s p : Int) + 1))))
 have HKa := Aside0.mk (KeepBut.set_ HKb.out 1 (.int .i64 (wrap64 ((Zb s p : Int) + 1))))
 have HBa := Aside0.mk (Yj (j := 1) (v := .int .i64 (wrap64 ((Zb s p : Int) + 1))) HBb.out HG.out)
 clear HRb HIb HOb HKb HBb hcc1 hcf1 hm0 hm1 hfm1
 generalize ((w2.setCell ⟨b, 1, none⟩ (.int .i64 6)).setCell ⟨b, 1, none⟩ (.int .i64 7)).setCell ⟨g, 1, none⟩ (.int .i64 (wrap64 ((Zb s p : Int) + 1))) = w1 at HRa HIa HOa HKa HBa ⊢
 refine ZG (n := 11) (S := fun w' => w'.cell? ⟨g, 2, none⟩ = some v ∧ w'.heap[b]? = some (.cells #[.int .i64 ((⟨x.f0, 7, x.f2, x.f3, x.f4⟩ : S40)).f0, .int .i64 ((⟨x.f0, 7, x.f2, x.f3, x.f4⟩ : S40)).f1, .string ((⟨x.f0, 7, x.f2, x.f3, x.f4⟩ : S40)).f2, .string ((⟨x.f0, 7, x.f2, x.f3, x.f4⟩ : S40)).f3, .int .i64 ((⟨x.f0, 7, x.f2, x.f3, x.f4⟩ : S40)).f4] 40 (0, 0))) (ds := [7, 10]) #[false, false, false, false, false, false, false, false, false, false, false] (by kernel_rfl) rfl rfl ⟨Xr HRa.out, HIa.out⟩ (fun hHeld => ?_)
 refine pq 0 33 (v := ?_) (a' := ?_) #[true, false, false, false, false, false, false, false, false, false, false] rfl (by kernel_rfl) (.inl ⟨by rfl, ?_⟩) ?_ ?_
 rotate_left
 ·intro w'
  go_simp
  (try with_reducible rfl)
 rotate_left
 ·simp only [Act.put, qA, qB, qC]
  rfl
 refine pq 1 34 (v := ?_) (a' := ?_) #[true, true, false, false, false, false, false, false, false, false, false] rfl (by kernel_rfl) (.inl ⟨by rfl, ?_⟩) ?_ ?_
 rotate_left
 ·intro w'
  go_simp
  (try with_reducible rfl)
 rotate_left
 ·simp only [Act.put, qA, qB, qC]
  rfl
 refine pq 2 35 (v := ?_) (a' := ?_) #[true, true, true, false, false, false, false, false, false, false, false] rfl (by kernel_rfl) (.inl ⟨by rfl, ?_⟩) ?_ ?_
 rotate_left
 ·intro w'
  go_simp
  (try with_reducible rfl)
 rotate_left
 ·simp only [Act.put, qA, qB, qC]
  rfl
 refine pq 3 36 (v := ?_) (a' := ?_) #[true, true, true, true, false, false, false, false, false, false, false] rfl (by kernel_rfl) (.inl ⟨by rfl, ?_⟩) ?_ ?_
 rotate_left
 ·intro w'
  go_simp
  (try with_reducible rfl)
 rotate_left
 ·simp only [Act.put, qA, qB, qC]
  rfl
 refine tq 4 37 (v := ?_) (a' := ?_) #[true, true, true, true, true, false, false, false, false, false, false] rfl (by kernel_rfl) (.inl ⟨by rfl, ?_⟩) (by assumption) ?_ ?_
 rotate_left
 ·intro w hSw
  obtain ⟨hl0, hl1⟩ := hSw
  go_simp
  (try with_reducible rfl)
 rotate_left
 ·simp only [Act.put, qA, qB, qC]
  rfl
 refine tq 5 38 (v := ?_) (a' := ?_) #[true, true, true, true, true, true, false, false, false, false, false] rfl (by kernel_rfl) (.inl ⟨by rfl, ?_⟩) (by assumption) ?_ ?_
 rotate_left
 ·intro w hSw
  obtain ⟨hl0, hl1⟩ := hSw
  have hm0 : w.cell? ⟨b, 0, none⟩ = some (.int .i64 ((⟨x.f0, 7, x.f2, x.f3, x.f4⟩ : S40)).f0) := (zb hl1 0).trans rfl
  have hm1 : w.cell? ⟨b, 1, none⟩ = some (.int .i64 ((⟨x.f0, 7, x.f2, x.f3, x.f4⟩ : S40)).f1) := (zb hl1 1).trans rfl
  have hm2 : w.cell? ⟨b, 2, none⟩ = some (.string ((⟨x.f0, 7, x.f2, x.f3, x.f4⟩ : S40)).f2) := (zb hl1 2).trans rfl
  have hm3 : w.cell? ⟨b, 3, none⟩ = some (.string ((⟨x.f0, 7, x.f2, x.f3, x.f4⟩ : S40)).f3) := (zb hl1 3).trans rfl
  have hm4 : w.cell? ⟨b, 4, none⟩ = some (.int .i64 ((⟨x.f0, 7, x.f2, x.f3, x.f4⟩ : S40)).f4) := (zb hl1 4).trans rfl
  clear hl1
  go_simp
  (try with_reducible rfl)
 rotate_left
 ·simp only [Act.put, qA, qB, qC]
  rfl
 refine one_ (i := 6) (N := some 39) #[true, true, true, true, true, true, true, false, false, false, false] rfl rfl (by kernel_rfl) (by decide) (fun K hK => ?_)
 refine ZB (W := w1.drew) (v := .slice (some ⟨w1.heap.size, 0, none⟩) 1 1) (w1 := w1.drew.alloc (.cells #[.int .i64 ((⟨x.f0, 7, x.f2, x.f3, x.f4⟩ : S40)).f0, .int .i64 ((⟨x.f0, 7, x.f2, x.f3, x.f4⟩ : S40)).f1, .string ((⟨x.f0, 7, x.f2, x.f3, x.f4⟩ : S40)).f2, .string ((⟨x.f0, 7, x.f2, x.f3, x.f4⟩ : S40)).f3, .int .i64 ((⟨x.f0, 7, x.f2, x.f3, x.f4⟩ : S40)).f4] 40)) (by rfl) (by kernel_rfl) ?_
 refine hK.out _ _ ?_ (fun hHeld => ?_)
 ·exact ZI HRa.out HIa.out _
 clear hK K
 (try simp only [Act.put, qA, qB, qC])
 refine ZA (i := 7) (N := some 40) #[true, true, true, true, true, true, true, true, false, false, false] rfl rfl (by kernel_rfl) (by decide) (fun K hK => ?_)
 refine yD (.tmp 37) (.tmp 39) (by rfl) rfl rfl rfl HRa.out HIa.out HOa.out HBa.out HG.out HL.out ?_
 intro As N2 cc w2 hR2 hP2
 have hc2a := Xr hR2
 have hf2a := zg hR2 2
 have HPa := Aside0.mk hP2
 clear hR2 hP2
 refine hK.out _ _ ?_
 clear hK K
 (try simp only [Act.put, qA, qB, qC])
 refine pq 8 41 (v := ?_) (a' := ?_) #[true, true, true, true, true, true, true, true, true, false, false] rfl (by kernel_rfl) (.inl ⟨by rfl, ?_⟩) ?_ ?_
 rotate_left
 ·intro w'
  go_simp
  (try with_reducible rfl)
 rotate_left
 ·simp only [Act.put, qA, qB, qC]
  rfl
 refine pq 9 42 (v := ?_) (a' := ?_) #[true, true, true, true, true, true, true, true, true, true, false] rfl (by kernel_rfl) (.inl ⟨by rfl, ?_⟩) ?_ ?_
 rotate_left
 ·intro w'
  go_simp
  (try with_reducible rfl)
 rotate_left
 ·simp only [Act.put, qA, qB, qC]
  rfl
 refine ZA (i := 10) (N := none) #[true, true, true, true, true, true, true, true, true, true, true] rfl rfl (by kernel_rfl) (by decide) (fun K hK => ?_)
 go_simp
 refine hK.out _ _ ?_
 clear hK K
 (try simp only [Act.put, qA, qB, qC])
 refine xL (by kernel_rfl) ?_
 clear hc2a hf2a
 generalize w2.setCell ⟨g, 2, none⟩ (.slice As N2 cc) = wf at HPa ⊢
 obtain ⟨⟨v', hR', hO', hA'⟩, hB', hK'⟩ := HPa.out
 have HIf : Aside0 (Itm wf b (⟨x.f0, 7, x.f2, x.f3, x.f4⟩ : S40)) := ⟨(hK'.2 b (Yg HIa.out) hne1 (fun e => (HOa.out.1 b e.symm).2 rfl)).trans HIa.out⟩
 have hm0 : wf.cell? ⟨b, 0, none⟩ = some (.int .i64 x.f0) := (zb HIf.out 0).trans rfl
 have hm1 : wf.cell? ⟨b, 1, none⟩ = some (.int .i64 7) := (zb HIf.out 1).trans rfl
 have hm2 : wf.cell? ⟨b, 2, none⟩ = some (.string x.f2) := (zb HIf.out 2).trans rfl
 have hm3 : wf.cell? ⟨b, 3, none⟩ = some (.string x.f3) := (zb HIf.out 3).trans rfl
 have hm4 : wf.cell? ⟨b, 4, none⟩ = some (.int .i64 x.f4) := (zb HIf.out 4).trans rfl
 have HR' := Aside0.mk hR'
 have HO' := Aside0.mk hO'
 have HB' := Aside0.mk hB'
 have HA' := Aside0.mk hA'
 have HK' := Aside0.mk hK'
 clear hR' hO' hB' hA' hK'
 go_wp2_with (go_at_call 40; refine (HM.out wf v' HR'.out HO'.out HB'.out).mono ?_; rintro e w4 ⟨rfl, hL⟩; have HL4 := Aside0.mk hL; clear hL)
 go_ret
 exact ⟨rfl, Left.pre HKa.out (Left.comp HA'.out HK'.out HL4.out)⟩
theorem info9 : (Tryz.prog.info? 9).map (fun i => (i.zero, i.size, i.bytes)) = some (some (.string ⟨#[]⟩), 1, 16) := by kernel_rfl
abbrev Res := Int × Nat × List S40
def ZV (V : Nat → List S40 → S40 → Option Res) (L : Nat → List S40 → List ByteArray → Option Res) (s : ByteArray) (x : S40) (e : Nat) (p : Nat) (out : List S40) (keys : List ByteArray) (key : ByteArray) : Option Res :=
 (V p out ⟨x.f0 + 1, 0, key, ⟨#[]⟩, 0⟩).bind fun r => if r.2.1 ≤ s.size then
  (if r.1 = 0 then (if (Xi s r.2.1 e).1 = true then some (0, (Xi s r.2.1 e).2, r.2.2) else if (Xi s (Xi s r.2.1 e).2 44).1 = true then L (Xi s (Xi s r.2.1 e).2 44).2 r.2.2 keys else some (80, (Xi s (Xi s r.2.1 e).2 44).2, r.2.2)) else some r) else none
mutual
def valueF : Nat → ByteArray → Nat → List S40 → S40 → Option Res
 | 0, _, _, _, _ => none
 | k + 1, s, p, out, x =>
  if zd s p = 91 then (if 64 ≤ x.f0 then some (81, Zb s p, out) else if (out.length + 1) * 56 ≤ 140737488355328 ∧ Zb s p < s.size then xN k s (Zb s p + 1) (out ++ [⟨x.f0, 6, x.f2, x.f3, x.f4⟩]) ⟨x.f0, 6, x.f2, x.f3, x.f4⟩ 93 else none)
  else if zd s p = 123 then (if 64 ≤ x.f0 then some (81, Zb s p, out) else if (out.length + 1) * 56 ≤ 140737488355328 ∧ Zb s p < s.size then xN k s (Zb s p + 1) (out ++ [⟨x.f0, 7, x.f2, x.f3, x.f4⟩]) ⟨x.f0, 7, x.f2, x.f3, x.f4⟩ 125 else none)
  else if zd s p = 34 then (Zj.f k (s.extract (Zb s p) s.size)).bind fun r => if 0 ≤ r.2.1 ∧ (Zb s p : Int) + r.2.1 ≤ s.size ∧ (out.length + 1) * 56 ≤ 140737488355328 then (if r.2.2 = 0 then some (0, Zb s p + r.2.1.toNat, out ++ [⟨x.f0, 5, x.f2, r.1, x.f4⟩]) else some (r.2.2, Zb s p + r.2.1.toNat, out)) else none
  else if (out.length + 1) * 56 ≤ 140737488355328 then
   (if zd s p = 45 ∨ (48 ≤ zd s p ∧ zd s p ≤ 57) then (if (Yq s (Zb s p)).2.1 = 0 then some (0, (Yq s (Zb s p)).2.2, out ++ [⟨x.f0, 4, x.f2, x.f3, (Yq s (Zb s p)).1⟩]) else some ((Yq s (Zb s p)).2.1, (Yq s (Zb s p)).2.2, out))
   else some (YO s (Zb s p) out x)) else none
def xN : Nat → ByteArray → Nat → List S40 → S40 → Nat → Option Res
 | 0, _, _, _, _, _ => none
 | k + 1, s, p, out, x, e => if (Xi s p e).1 = true then some (0, (Xi s p e).2, out) else yH k s (Xi s p e).2 out x e []
def yH : Nat → ByteArray → Nat → List S40 → S40 → Nat → List ByteArray → Option Res
 | 0, _, _, _, _, _, _ => none
 | k + 1, s, p, out, x, e, keys => if 0 ≤ x.f0 ∧ x.f0 < 64 then
  (if x.f1 = 7 then (if (keys.length + 1) * 16 ≤ 140737488355328 then (keyF k s p keys).bind fun r => if r.2.2 ≤ s.size then (if r.2.1 = 0 then ZV (fun p o y => valueF k s p o y) (fun p o ks => yH k s p o x e ks) s x e r.2.2 out (keys ++ [r.1]) r.1 else some (r.2.1, r.2.2, out)) else none else none)
  else ZV (fun p o y => valueF k s p o y) (fun p o ks => yH k s p o x e ks) s x e p out keys ⟨#[]⟩) else none
end
theorem YaT {w0 W : World} {v : Value} {out : List S40} {ok ok' : Nat → Prop} (h : Kd.R k40 40 W w0.heap.size ok v out) (hok : ∀ k, v.ownBlock = some k → ok k → ok' k) : Kd.R k40 40 W w0.heap.size ok' v out := Kd.R_flat (fun h => h) h hok
theorem XS {w0 W : World} {v : Value} {keys : List ByteArray} {ok ok' : Nat → Prop} (h : Kd.R Kd.string 9 W w0.heap.size ok v keys) (hok : ∀ k, v.ownBlock = some k → ok k → ok' k) : Kd.R Kd.string 9 W w0.heap.size ok' v keys := Kd.R_flat (fun h => h) h hok
structure MS (w0 W : World) (g b : Nat) (s : ByteArray) (x : S40) (v0 kv v : Value) (p : Nat) (out : List S40) (keys : List ByteArray) (w : World) : Prop where
 rd : Rd w g s p v
 out : Out w0 w g v out
 keys : Kd.R Kd.string 9 w w0.heap.size (fun j => j ≠ g) kv keys
 dis : ∀ j, v.ownBlock = some j → kv.ownBlock ≠ some j ∧ j ≠ b
 kb : kv.ownBlock ≠ some b
 kn : ∀ j, kv.ownBlock = some j → W.heap.size ≤ j
 itm : Itm w b x
 bg : b ≠ g
 keep : KeepBut W w g v0.ownBlock
 own : v.ownBlock = v0.ownBlock ∨ ∃ j, v.ownBlock = some j ∧ W.heap.size ≤ j
 below : Below w0.heap.size w0 w
 base : w0.heap.size ≤ g
theorem out_lt {w0 W : World} {ok : Nat → Prop} {v : Value} {out : List S40} (h : Kd.R k40 40 W w0.heap.size ok v out) {j : Nat} (e : v.ownBlock = some j) : j < W.heap.size := ((Kd.R_bound h).1 j e).2.2.1
theorem keys_lt {w0 W : World} {ok : Nat → Prop} {v : Value} {keys : List ByteArray} (h : Kd.R Kd.string 9 W w0.heap.size ok v keys) {j : Nat} (e : v.ownBlock = some j) : j < W.heap.size := ((Kd.R_bound h).1 j e).2.2.1
section
variable {w0 W : World} {g b : Nat} {s : ByteArray} {x : S40} {v0 kv v : Value} {p : Nat} {out : List S40} {keys : List ByteArray} {w : World}
theorem MS.quiet (h : MS w0 W g b s x v0 kv v p out keys w) {w2 : World} {p2 : Nat} (hR : Rd w2 g s p2 v) (hB : Below w0.heap.size w0 w2) (hK : KeepBut w w2 g none) : MS w0 W g b s x v0 kv v p2 out keys w2 where
 rd := hR
 out := Kd.R_keep h.out hK (fun _ h => h)
 keys := Kd.R_keep h.keys hK (fun _ h => h)
 dis := h.dis
 kb := h.kb
 kn := h.kn
 itm := (hK.2 b (Yg h.itm) h.bg (by simp)).trans h.itm
 bg := h.bg
 keep := h.keep.trans (zC hK) (.inl rfl)
 own := h.own
 below := hB
 base := h.base
theorem MS.value (h : MS w0 W g b s x v0 kv v p out keys w) {w4 : World} {q : Nat} {out2 : List S40} (hL : Left w0 w w4 g s q v out2) : ∃ v4, MS w0 W g b s x v0 kv v4 q out2 keys w4 := by
 obtain ⟨⟨v4, hR, hO, hA⟩, hB, hK⟩ := hL
 have hvb : some b ≠ v.ownBlock := fun e => (h.dis b e.symm).2 rfl
 refine ⟨v4, hR, hO, ?_, ?_, h.kb, h.kn, (hK.2 b (Yg h.itm) h.bg hvb).trans h.itm, h.bg, h.keep.trans hK h.own, ?_, hB, h.base⟩
 ·refine XS (Kd.R_step (XS h.keys (ok' := fun j => j ≠ g ∧ some j ≠ v.ownBlock) (fun j hj hg => ⟨hg, fun e => (h.dis j e.symm).1 hj⟩)) (fun j hj hlt => hK.2 j hlt hj.1 hj.2)) (fun _ _ h => h.1)
 ·intro j hj
  rcases hA with e | ⟨k, e, hk⟩
  ·exact h.dis j (e ▸ hj)
  ·have : k = j := Option.some.inj (e.symm.trans hj)
   subst this
   refine ⟨fun e2 => ?_, fun e2 => ?_⟩
   ·have := keys_lt h.keys e2; omega
   ·have := Yg h.itm; omega
 ·rcases hA with e | ⟨k, e, hk⟩
  ·rw [e]; exact h.own
  ·exact .inr ⟨k, e, Ybg h.keep.1 hk⟩
theorem MS.append (h : MS w0 W g b s x v0 kv v p out keys w) {w3 : World} {kv1 : Value} {keys1 : List ByteArray} (hO : Kd.R Kd.string 9 w3 w0.heap.size (fun j => j ≠ g) kv1 keys1) (hB : Below w0.heap.size w0 w3) (hg : w.grownBy w3 kv.ownBlock)
  (hA : kv1.ownBlock = kv.ownBlock ∨ ∃ j, kv1.ownBlock = some j ∧ w.heap.size ≤ j) : MS w0 W g b s x v0 kv1 v p out keys1 w3 := by
 have hgk : some g ≠ kv.ownBlock := fun e => h.keys.1 g e.symm rfl
 have hbk : some b ≠ kv.ownBlock := fun e => h.kb e.symm
 refine ⟨XB h.rd hg hgk, ?_, hO, ?_, ?_, ?_, XB h.itm hg hbk, h.bg, ?_, h.own, hB, h.base⟩
 ·exact YaT (Kd.R_grown (YaT h.out (ok' := fun j => j ≠ g ∧ some j ≠ kv.ownBlock) (fun j hj hg => ⟨hg, fun e => (h.dis j hj).1 e.symm⟩)) hg (fun _ h => h.2)) (fun _ _ h => h.1)
 ·intro j hj
  refine ⟨fun e => ?_, (h.dis j hj).2⟩
  rcases hA with e2 | ⟨k, e2, hk⟩
  ·exact (h.dis j hj).1 (e2 ▸ e)
  ·have : k = j := Option.some.inj (e2.symm.trans e)
   have := out_lt h.out hj
   omega
 ·intro e
  rcases hA with e2 | ⟨k, e2, hk⟩
  ·exact h.kb (e2 ▸ e)
  ·have : k = b := Option.some.inj (e2.symm.trans e)
   have := Yg h.itm
   omega
 ·intro j e
  rcases hA with e2 | ⟨k, e2, hk⟩
  ·exact h.kn j (e2 ▸ e)
  ·have : k = j := Option.some.inj (e2.symm.trans e)
   have := h.keep.1
   omega
 ·cases hk : kv.ownBlock with
  | none => rw [hk] at hg; exact h.keep.trans (zC (KeepBut.of_grown hg g)) (.inl rfl)
  | some j => rw [hk] at hg; exact h.keep.trans (KeepBut.of_grown hg g) (.inr ⟨j, rfl, h.kn j hk⟩)
theorem MS.left (h : MS w0 W g b s x v0 kv v p out keys w) : Left w0 W w g s p v0 out := ⟨⟨v, h.rd, h.out, h.own⟩, h.below, h.keep⟩
theorem MS.start (W1 : World) (hR : Rd W g s p v) (hO : Out w0 W g v out) (hB : Below w0.heap.size w0 W) (hg : w0.heap.size ≤ g) (hb : W.heap.size = b) (h1 : W1 = W.alloc (.cells #[.int .i64 x.f0, .int .i64 x.f1, .string x.f2, .string x.f3, .int .i64 x.f4] 40)) : MS w0 W g b s x v (.slice none 0 0) v p out [] W1 := by
 subst h1
 have hA : Below W.heap.size W (W.alloc (.cells #[.int .i64 x.f0, .int .i64 x.f1, .string x.f2, .string x.f3, .int .i64 x.f4] 40)) := Za (ybd _ _) _
 have hgl := Yg hR
 refine ⟨Zu hR hA, Kd.R_below hO hA, Kd.R_nil _ _ _ _ _, ?_, by simp [Value.ownBlock], by simp [Value.ownBlock], by rw [← hb]; exact ybi _ _, by omega, zC (KeepBut.of_below hA g none), .inl rfl, Ze hB hA, hg⟩
 intro j hj
 have := out_lt hO hj
 exact ⟨by simp [Value.ownBlock], by omega⟩
end
def VC (w0 : World) (g : Nat) (s : ByteArray) (k : Nat) : Prop := ∀ (W : World) (p : Nat) (v : Value) (out : List S40) (y : S40) (r : Res), valueF k s p out y = some r → Rd W g s p v → Out w0 W g v out → Below w0.heap.size w0 W → p ≤ s.size →
 Calls Tryz.prog 22 #[.pointer (some ⟨g, 0, none⟩), Yh y] W fun e W' => e = .returned (.int .i64 r.1) ∧ Left w0 W W' g s r.2.1 v r.2.2
theorem Xau {V : Nat → List S40 → S40 → Option Res} {L : Nat → List S40 → List ByteArray → Option Res} {s : ByteArray} {x : S40} {e p : Nat} {out : List S40} {keys : List ByteArray} {key : ByteArray} {r : Res} (h : ZV V L s x e p out keys key = some r) :
  ∃ r1 : Res, V p out ⟨x.f0 + 1, 0, key, ⟨#[]⟩, 0⟩ = some r1 ∧ r1.2.1 ≤ s.size ∧ ((r1.1 ≠ 0 ∧ r = r1) ∨ (r1.1 = 0 ∧ (Xi s r1.2.1 e).1 = true ∧ r = (0, (Xi s r1.2.1 e).2, r1.2.2))
   ∨ (r1.1 = 0 ∧ (Xi s r1.2.1 e).1 = false ∧ (Xi s (Xi s r1.2.1 e).2 44).1 = true ∧ L (Xi s (Xi s r1.2.1 e).2 44).2 r1.2.2 keys = some r)
   ∨ (r1.1 = 0 ∧ (Xi s r1.2.1 e).1 = false ∧ (Xi s (Xi s r1.2.1 e).2 44).1 = false ∧ r = (80, (Xi s (Xi s r1.2.1 e).2 44).2, r1.2.2))) := by
 unfold ZV at h
 obtain ⟨r1, hV, h⟩ := Ybe.1 h
 refine ⟨r1, hV, ?_⟩
 by_cases a : r1.2.1 ≤ s.size
 ·rw [if_pos a] at h
  refine ⟨a, ?_⟩
  by_cases c : r1.1 = 0
  ·rw [if_pos c] at h
   by_cases d : (Xi s r1.2.1 e).1 = true
   ·rw [if_pos d] at h
    exact .inr (.inl ⟨c, d, (Option.some.inj h).symm⟩)
   ·rw [if_neg d] at h
    by_cases f : (Xi s (Xi s r1.2.1 e).2 44).1 = true
    ·rw [if_pos f] at h
     exact .inr (.inr (.inl ⟨c, ybh.2 d, f, h⟩))
    ·rw [if_neg f] at h
     exact .inr (.inr (.inr ⟨c, ybh.2 d, ybh.2 f, (Option.some.inj h).symm⟩))
  ·rw [if_neg c] at h
   exact .inl ⟨c, (Option.some.inj h).symm⟩
 ·rw [if_neg a] at h; cases h
theorem XaT (w0 W : World) (g : Nat) (s : ByteArray) (p : Nat) (v : Value) (out : List S40) (x : S40) (e k : Nat) (r : Res) (hR : Rd W g s p v) (hO : Out w0 W g v out) (hB : Below w0.heap.size w0 W) (hg : w0.heap.size ≤ g) (hp : p ≤ s.size) (hs : s.size ≤ 4611686018427387904) (hj : JTabs w0)
  (hIH : ∀ j, j < k → VC w0 g s j) (ht : (Xi s p e).1 = false) (h : yH k s (Xi s p e).2 out x e [] = some r) :
  Calls Tryz.prog 40 #[.pointer (some ⟨g, 0, none⟩), Yh x, .int .u8 (e : Int)] W fun ev W' => ev = .returned (.int .i64 r.1) ∧ Left w0 W W' g s r.2.1 v r.2.2 := by
 have HR := Aside0.mk hR
 have HO := Aside0.mk hO
 have HB := Aside0.mk hB
 have HG := Aside0.mk hg
 have HS := Aside0.mk hs
 have JT := Aside0.mk hj
 have IH := Aside0.mk hIH
 have HL := Aside0.mk h
 have HPs := Aside0.mk hp
 have HPt := Aside0.mk (zH s p e hp)
 clear hR hB hg hs hO hj hIH h hp
 unfold Yh
 go_enter Tryz.func40, Tryz.ntmps40
 go_wp2_with fail
 obtain ⟨b, hb⟩ : ∃ b, W.heap.size = b := ⟨_, rfl⟩
 have HM := Aside0.mk (MS.start (x := x) (W.alloc (.cells #[.int .i64 x.f0, .int .i64 x.f1, .string x.f2, .string x.f3, .int .i64 x.f4] 40)) HR.out HO.out HB.out HG.out hb rfl)
 rw [hb]
 generalize W.alloc (.cells #[.int .i64 x.f0, .int .i64 x.f1, .string x.f2, .string x.f3, .int .i64 x.f4] 40) = W1 at HM ⊢
 clear hb HR HO HB
 go_wp2_with (go_at_call 60; refine (Zr w0 W1 g s p v e HM.out.rd HM.out.below HG.out HPs.out HS.out).mono ?_; rintro ev w1 ⟨rfl, hR1, hB1, hK1⟩; have HM1 := Aside0.mk (HM.out.quiet hR1 hB1 hK1); clear hR1 hB1 hK1)
 go_loopg [7] k (fun kq v7 wr => ∃ (p : Nat) (out : List S40) (keys : List ByteArray) (vq : Value), Aside0 (yH kq s p out x e keys = some r) ∧ Aside0 (kq ≤ k) ∧ Aside0 (p ≤ s.size) ∧ Aside0 (MS w0 W g b s x v v7 vq p out keys wr))
 case atStart => exact ⟨_, out, [], v, HL, ⟨Xbc _⟩, HPt, HM1⟩
 case round =>
  clear HPs HPt HL HM HM1
  obtain ⟨p, out, keys, vq, HL, HKK, HP, HM⟩ := hrel
  cases gk with
  | zero => exact absurd HL.out (by simp [yH])
  | succ k1 =>
   have H := HL.out
   rw [yH] at H
   by_cases hx : 0 ≤ x.f0 ∧ x.f0 < 64
   ·rw [if_pos hx] at H
    obtain ⟨hx0, hx1⟩ := hx
    have hm0 : wr.cell? ⟨b, 0, none⟩ = some (.int .i64 x.f0) := (zb HM.out.itm 0).trans rfl
    have hm1 : wr.cell? ⟨b, 1, none⟩ = some (.int .i64 x.f1) := (zb HM.out.itm 1).trans rfl
    by_cases h7 : x.f1 = 7
    ·rw [if_pos h7] at H
     have d7 : (x.f1 == 7) = true := Ybf.mpr h7
     clear h7
     by_cases hlk : (keys.length + 1) * 16 ≤ 140737488355328
     ·rw [if_pos hlk] at H
      have HLK := Aside0.mk hlk
      clear hlk
      obtain ⟨⟨t, erk, q⟩, hK, H⟩ := Ybe.1 H
      have FK := Aside0.mk hK
      clear hK
      simp only at H
      obtain ⟨A, c, rfl⟩ := Kd.R_slice HM.out.keys
      by_cases hqs : q ≤ s.size
      ·rw [if_pos hqs] at H
       have HPk := Aside0.mk hqs
       clear hqs
       by_cases hek : erk = 0
       ·rw [if_pos hek] at H
        subst hek
        obtain ⟨⟨er1, q1, out1⟩, hV, hq1, hcase⟩ := Xau H
        have FV := Aside0.mk hV
        have HPq := Aside0.mk hq1
        clear H hV hq1
        simp only at hcase
        rcases hcase with ⟨hc, hr⟩ | ⟨rfl, ht1, hr⟩ | ⟨rfl, ht1, ht2, hr⟩ | ⟨rfl, ht1, ht2, hr⟩
        ·have n1 : (er1 == 0) = false := Ybb.mpr hc
         have n2 : (er1 != 0) = true := Zbh.mpr hc
         have HRR := Aside0.mk hr
         clear hc hr
         go_wp2_with (first
              | (go_at_call 61; with_reducible refine (zY w0 wr g s p vq k1 keys t _ q A c FK.out HM.out.rd HM.out.below HG.out HP.out HS.out JT.out HM.out.keys).mono ?_; rintro ev w2 ⟨rfl, hR2, hB2, hK2⟩; have HM2 := Aside0.mk (HM.out.quiet hR2 hB2 hK2); clear hR2 hB2 hK2; have hm02 : w2.cell? ⟨b, 0, none⟩ = some (.int .i64 x.f0) := (zb HM2.out.itm 0).trans rfl)
              | (at_builtin; refine Kd.R_append Kd.string (w0 := w0) (W := w2) w0.heap.size rfl (.tmp 28) (.tmp 30) 69 9 (.string ⟨#[]⟩) 16 rfl Tryz.underlying69 info9 rfl (by decide) (by decide) (.slice A keys.length c) keys t [.string t] (fun j => j ≠ g) (fun _ => False) rfl rfl rfl (fun _ h => h.elim) (fun k hk => by have := Yg HM2.out.rd; omega) HM2.out.keys HM2.out.below HM2.out.below.size HLK.out ?_; intro v1 w3 hO3 hB3 hg3 hA3; obtain ⟨A1, c1, hv1⟩ := Kd.R_slice hO3; obtain ⟨N1, hN1⟩ : ∃ N1, (keys ++ [t]).length = N1 := ⟨_, rfl⟩; rw [hN1] at hv1; clear hN1; subst hv1; have HM3 := Aside0.mk (HM2.out.append hO3 hB3 hg3 hA3); clear hO3 hB3 hg3 hA3; have hm03 : w3.cell? ⟨b, 0, none⟩ = some (.int .i64 x.f0) := (zb HM3.out.itm 0).trans rfl)
              | (go_at_call 22; refine (IH.out k1 (by have := HKK.out; omega) w3 q vq out ⟨x.f0 + 1, 0, t, ⟨#[]⟩, 0⟩ _ FV.out HM3.out.rd HM3.out.out HM3.out.below HPk.out).mono ?_; rintro ev w4 ⟨rfl, hL4⟩; obtain ⟨v4, hM4⟩ := HM3.out.value hL4; have HM4 := Aside0.mk hM4; clear hL4 hM4))
         go_ret
         rw [HRR.out]
         exact ⟨rfl, HM4.out.left⟩
        ·have HRR := Aside0.mk hr
         clear hr
         go_wp2_with (first
              | (go_at_call 61; with_reducible refine (zY w0 wr g s p vq k1 keys t _ q A c FK.out HM.out.rd HM.out.below HG.out HP.out HS.out JT.out HM.out.keys).mono ?_; rintro ev w2 ⟨rfl, hR2, hB2, hK2⟩; have HM2 := Aside0.mk (HM.out.quiet hR2 hB2 hK2); clear hR2 hB2 hK2; have hm02 : w2.cell? ⟨b, 0, none⟩ = some (.int .i64 x.f0) := (zb HM2.out.itm 0).trans rfl)
              | (at_builtin; refine Kd.R_append Kd.string (w0 := w0) (W := w2) w0.heap.size rfl (.tmp 28) (.tmp 30) 69 9 (.string ⟨#[]⟩) 16 rfl Tryz.underlying69 info9 rfl (by decide) (by decide) (.slice A keys.length c) keys t [.string t] (fun j => j ≠ g) (fun _ => False) rfl rfl rfl (fun _ h => h.elim) (fun k hk => by have := Yg HM2.out.rd; omega) HM2.out.keys HM2.out.below HM2.out.below.size HLK.out ?_; intro v1 w3 hO3 hB3 hg3 hA3; obtain ⟨A1, c1, hv1⟩ := Kd.R_slice hO3; obtain ⟨N1, hN1⟩ : ∃ N1, (keys ++ [t]).length = N1 := ⟨_, rfl⟩; rw [hN1] at hv1; clear hN1; subst hv1; have HM3 := Aside0.mk (HM2.out.append hO3 hB3 hg3 hA3); clear hO3 hB3 hg3 hA3; have hm03 : w3.cell? ⟨b, 0, none⟩ = some (.int .i64 x.f0) := (zb HM3.out.itm 0).trans rfl)
              | (go_at_call 22; refine (IH.out k1 (by have := HKK.out; omega) w3 q vq out ⟨x.f0 + 1, 0, t, ⟨#[]⟩, 0⟩ _ FV.out HM3.out.rd HM3.out.out HM3.out.below HPk.out).mono ?_; rintro ev w4 ⟨rfl, hL4⟩; obtain ⟨v4, hM4⟩ := HM3.out.value hL4; have HM4 := Aside0.mk hM4; clear hL4 hM4)
              | (go_at_call 60; with_reducible refine (Zr w0 w4 g s q1 v4 e HM4.out.rd HM4.out.below HG.out HPq.out HS.out).mono ?_; rintro ev w5 ⟨rfl, hR5, hB5, hK5⟩; have HM5 := Aside0.mk (HM4.out.quiet hR5 hB5 hK5); clear hR5 hB5 hK5))
         go_ret
         rw [HRR.out]
         exact ⟨rfl, HM5.out.left⟩
        ·have HRR := Aside0.mk hr
         clear hr
         go_wp2_with (first
              | (go_at_call 61; with_reducible refine (zY w0 wr g s p vq k1 keys t _ q A c FK.out HM.out.rd HM.out.below HG.out HP.out HS.out JT.out HM.out.keys).mono ?_; rintro ev w2 ⟨rfl, hR2, hB2, hK2⟩; have HM2 := Aside0.mk (HM.out.quiet hR2 hB2 hK2); clear hR2 hB2 hK2; have hm02 : w2.cell? ⟨b, 0, none⟩ = some (.int .i64 x.f0) := (zb HM2.out.itm 0).trans rfl)
              | (at_builtin; refine Kd.R_append Kd.string (w0 := w0) (W := w2) w0.heap.size rfl (.tmp 28) (.tmp 30) 69 9 (.string ⟨#[]⟩) 16 rfl Tryz.underlying69 info9 rfl (by decide) (by decide) (.slice A keys.length c) keys t [.string t] (fun j => j ≠ g) (fun _ => False) rfl rfl rfl (fun _ h => h.elim) (fun k hk => by have := Yg HM2.out.rd; omega) HM2.out.keys HM2.out.below HM2.out.below.size HLK.out ?_; intro v1 w3 hO3 hB3 hg3 hA3; obtain ⟨A1, c1, hv1⟩ := Kd.R_slice hO3; obtain ⟨N1, hN1⟩ : ∃ N1, (keys ++ [t]).length = N1 := ⟨_, rfl⟩; rw [hN1] at hv1; clear hN1; subst hv1; have HM3 := Aside0.mk (HM2.out.append hO3 hB3 hg3 hA3); clear hO3 hB3 hg3 hA3; have hm03 : w3.cell? ⟨b, 0, none⟩ = some (.int .i64 x.f0) := (zb HM3.out.itm 0).trans rfl)
              | (go_at_call 22; refine (IH.out k1 (by have := HKK.out; omega) w3 q vq out ⟨x.f0 + 1, 0, t, ⟨#[]⟩, 0⟩ _ FV.out HM3.out.rd HM3.out.out HM3.out.below HPk.out).mono ?_; rintro ev w4 ⟨rfl, hL4⟩; obtain ⟨v4, hM4⟩ := HM3.out.value hL4; have HM4 := Aside0.mk hM4; clear hL4 hM4)
              | (go_at_call 60; with_reducible refine (Zr w0 w4 g s q1 v4 e HM4.out.rd HM4.out.below HG.out HPq.out HS.out).mono ?_; rintro ev w5 ⟨rfl, hR5, hB5, hK5⟩; have HM5 := Aside0.mk (HM4.out.quiet hR5 hB5 hK5); clear hR5 hB5 hK5)
              | (go_at_call 60; refine (Zr w0 w5 g s (Xi s q1 e).2 v4 44 HM5.out.rd HM5.out.below HG.out (zH s q1 e HPq.out) HS.out).mono ?_; rintro ev w6 ⟨rfl, hR6, hB6, hK6⟩; have HM6 := Aside0.mk (HM5.out.quiet hR6 hB6 hK6); clear hR6 hB6 hK6))
         go_roundg k1
         case measure => omega
         case rel => exact ⟨_, out1, (keys ++ [t]), v4, HRR, ⟨by have := HKK.out; omega⟩, ⟨zH s _ 44 (zH s q1 e HPq.out)⟩, HM6⟩
        ·have HRR := Aside0.mk hr
         clear hr
         go_wp2_with (first
              | (go_at_call 61; with_reducible refine (zY w0 wr g s p vq k1 keys t _ q A c FK.out HM.out.rd HM.out.below HG.out HP.out HS.out JT.out HM.out.keys).mono ?_; rintro ev w2 ⟨rfl, hR2, hB2, hK2⟩; have HM2 := Aside0.mk (HM.out.quiet hR2 hB2 hK2); clear hR2 hB2 hK2; have hm02 : w2.cell? ⟨b, 0, none⟩ = some (.int .i64 x.f0) := (zb HM2.out.itm 0).trans rfl)
              | (at_builtin; refine Kd.R_append Kd.string (w0 := w0) (W := w2) w0.heap.size rfl (.tmp 28) (.tmp 30) 69 9 (.string ⟨#[]⟩) 16 rfl Tryz.underlying69 info9 rfl (by decide) (by decide) (.slice A keys.length c) keys t [.string t] (fun j => j ≠ g) (fun _ => False) rfl rfl rfl (fun _ h => h.elim) (fun k hk => by have := Yg HM2.out.rd; omega) HM2.out.keys HM2.out.below HM2.out.below.size HLK.out ?_; intro v1 w3 hO3 hB3 hg3 hA3; obtain ⟨A1, c1, hv1⟩ := Kd.R_slice hO3; obtain ⟨N1, hN1⟩ : ∃ N1, (keys ++ [t]).length = N1 := ⟨_, rfl⟩; rw [hN1] at hv1; clear hN1; subst hv1; have HM3 := Aside0.mk (HM2.out.append hO3 hB3 hg3 hA3); clear hO3 hB3 hg3 hA3; have hm03 : w3.cell? ⟨b, 0, none⟩ = some (.int .i64 x.f0) := (zb HM3.out.itm 0).trans rfl)
              | (go_at_call 22; refine (IH.out k1 (by have := HKK.out; omega) w3 q vq out ⟨x.f0 + 1, 0, t, ⟨#[]⟩, 0⟩ _ FV.out HM3.out.rd HM3.out.out HM3.out.below HPk.out).mono ?_; rintro ev w4 ⟨rfl, hL4⟩; obtain ⟨v4, hM4⟩ := HM3.out.value hL4; have HM4 := Aside0.mk hM4; clear hL4 hM4)
              | (go_at_call 60; with_reducible refine (Zr w0 w4 g s q1 v4 e HM4.out.rd HM4.out.below HG.out HPq.out HS.out).mono ?_; rintro ev w5 ⟨rfl, hR5, hB5, hK5⟩; have HM5 := Aside0.mk (HM4.out.quiet hR5 hB5 hK5); clear hR5 hB5 hK5)
              | (go_at_call 60; refine (Zr w0 w5 g s (Xi s q1 e).2 v4 44 HM5.out.rd HM5.out.below HG.out (zH s q1 e HPq.out) HS.out).mono ?_; rintro ev w6 ⟨rfl, hR6, hB6, hK6⟩; have HM6 := Aside0.mk (HM5.out.quiet hR6 hB6 hK6); clear hR6 hB6 hK6))
         go_ret
         rw [HRR.out]
         exact ⟨rfl, HM6.out.left⟩
       ·rw [if_neg hek] at H
        have n1 : (erk == 0) = false := Ybb.mpr hek
        have n2 : (erk != 0) = true := Zbh.mpr hek
        have HRR := Aside0.mk (Option.some.inj H)
        clear H hek
        go_wp2_with (go_at_call 61; with_reducible refine (zY w0 wr g s p vq k1 keys t _ q A c FK.out HM.out.rd HM.out.below HG.out HP.out HS.out JT.out HM.out.keys).mono ?_; rintro ev w2 ⟨rfl, hR2, hB2, hK2⟩; have HM2 := Aside0.mk (HM.out.quiet hR2 hB2 hK2); clear hR2 hB2 hK2; have hm02 : w2.cell? ⟨b, 0, none⟩ = some (.int .i64 x.f0) := (zb HM2.out.itm 0).trans rfl)
        go_ret
        rw [← HRR.out]
        exact ⟨rfl, HM2.out.left⟩
      ·rw [if_neg hqs] at H; cases H
     ·rw [if_neg hlk] at H; cases H
    ·rw [if_neg h7] at H
     have d7 : (x.f1 == 7) = false := Ybb.mpr h7
     obtain ⟨⟨er1, q1, out1⟩, hV, hq1, hcase⟩ := Xau H
     have FV := Aside0.mk hV
     have HPq := Aside0.mk hq1
     clear H hV hq1
     simp only at hcase
     rcases hcase with ⟨hc, hr⟩ | ⟨rfl, ht1, hr⟩ | ⟨rfl, ht1, ht2, hr⟩ | ⟨rfl, ht1, ht2, hr⟩
     ·have n1 : (er1 == 0) = false := Ybb.mpr hc
      have n2 : (er1 != 0) = true := Zbh.mpr hc
      have HRR := Aside0.mk hr
      clear hc hr
      go_wp2_with (first
           | (go_at_call 22; refine (IH.out k1 (by have := HKK.out; omega) wr p vq out ⟨x.f0 + 1, 0, ⟨#[]⟩, ⟨#[]⟩, 0⟩ _ FV.out HM.out.rd HM.out.out HM.out.below HP.out).mono ?_; rintro ev w4 ⟨rfl, hL4⟩; obtain ⟨v4, hM4⟩ := HM.out.value hL4; have HM4 := Aside0.mk hM4; clear hL4 hM4))
      go_ret
      rw [HRR.out]
      exact ⟨rfl, HM4.out.left⟩
     ·have HRR := Aside0.mk hr
      clear hr
      go_wp2_with (first
           | (go_at_call 22; refine (IH.out k1 (by have := HKK.out; omega) wr p vq out ⟨x.f0 + 1, 0, ⟨#[]⟩, ⟨#[]⟩, 0⟩ _ FV.out HM.out.rd HM.out.out HM.out.below HP.out).mono ?_; rintro ev w4 ⟨rfl, hL4⟩; obtain ⟨v4, hM4⟩ := HM.out.value hL4; have HM4 := Aside0.mk hM4; clear hL4 hM4)
           | (go_at_call 60; with_reducible refine (Zr w0 w4 g s q1 v4 e HM4.out.rd HM4.out.below HG.out HPq.out HS.out).mono ?_; rintro ev w5 ⟨rfl, hR5, hB5, hK5⟩; have HM5 := Aside0.mk (HM4.out.quiet hR5 hB5 hK5); clear hR5 hB5 hK5))
      go_ret
      rw [HRR.out]
      exact ⟨rfl, HM5.out.left⟩
     ·have HRR := Aside0.mk hr
      clear hr
      go_wp2_with (first
           | (go_at_call 22; refine (IH.out k1 (by have := HKK.out; omega) wr p vq out ⟨x.f0 + 1, 0, ⟨#[]⟩, ⟨#[]⟩, 0⟩ _ FV.out HM.out.rd HM.out.out HM.out.below HP.out).mono ?_; rintro ev w4 ⟨rfl, hL4⟩; obtain ⟨v4, hM4⟩ := HM.out.value hL4; have HM4 := Aside0.mk hM4; clear hL4 hM4)
           | (go_at_call 60; with_reducible refine (Zr w0 w4 g s q1 v4 e HM4.out.rd HM4.out.below HG.out HPq.out HS.out).mono ?_; rintro ev w5 ⟨rfl, hR5, hB5, hK5⟩; have HM5 := Aside0.mk (HM4.out.quiet hR5 hB5 hK5); clear hR5 hB5 hK5)
           | (go_at_call 60; refine (Zr w0 w5 g s (Xi s q1 e).2 v4 44 HM5.out.rd HM5.out.below HG.out (zH s q1 e HPq.out) HS.out).mono ?_; rintro ev w6 ⟨rfl, hR6, hB6, hK6⟩; have HM6 := Aside0.mk (HM5.out.quiet hR6 hB6 hK6); clear hR6 hB6 hK6))
      go_roundg k1
      case measure => omega
      case rel => exact ⟨_, out1, keys, v4, HRR, ⟨by have := HKK.out; omega⟩, ⟨zH s _ 44 (zH s q1 e HPq.out)⟩, HM6⟩
     ·have HRR := Aside0.mk hr
      clear hr
      go_wp2_with (first
           | (go_at_call 22; refine (IH.out k1 (by have := HKK.out; omega) wr p vq out ⟨x.f0 + 1, 0, ⟨#[]⟩, ⟨#[]⟩, 0⟩ _ FV.out HM.out.rd HM.out.out HM.out.below HP.out).mono ?_; rintro ev w4 ⟨rfl, hL4⟩; obtain ⟨v4, hM4⟩ := HM.out.value hL4; have HM4 := Aside0.mk hM4; clear hL4 hM4)
           | (go_at_call 60; with_reducible refine (Zr w0 w4 g s q1 v4 e HM4.out.rd HM4.out.below HG.out HPq.out HS.out).mono ?_; rintro ev w5 ⟨rfl, hR5, hB5, hK5⟩; have HM5 := Aside0.mk (HM4.out.quiet hR5 hB5 hK5); clear hR5 hB5 hK5)
           | (go_at_call 60; refine (Zr w0 w5 g s (Xi s q1 e).2 v4 44 HM5.out.rd HM5.out.below HG.out (zH s q1 e HPq.out) HS.out).mono ?_; rintro ev w6 ⟨rfl, hR6, hB6, hK6⟩; have HM6 := Aside0.mk (HM5.out.quiet hR6 hB6 hK6); clear hR6 hB6 hK6))
      go_ret
      rw [HRR.out]
      exact ⟨rfl, HM6.out.left⟩
   ·rw [if_neg hx] at H; cases H
theorem zaU (w0 W : World) (g : Nat) (s : ByteArray) (p : Nat) (v : Value) (out : List S40) (x : S40) (e : Nat) (hR : Rd W g s p v) (hO : Out w0 W g v out) (hB : Below w0.heap.size w0 W) (hg : w0.heap.size ≤ g) (hp : p ≤ s.size) (hs : s.size ≤ 4611686018427387904)
  (ht : (Xi s p e).1 = true) :
  Calls Tryz.prog 40 #[.pointer (some ⟨g, 0, none⟩), Yh x, .int .u8 (e : Int)] W fun ev W' => ev = .returned (.int .i64 0) ∧ Left w0 W W' g s (Xi s p e).2 v out := by
 have HR := Aside0.mk hR
 have HO := Aside0.mk hO
 have HB := Aside0.mk hB
 have HG := Aside0.mk hg
 have HS := Aside0.mk hs
 have HPs := Aside0.mk hp
 clear hR hB hg hs hO hp
 unfold Yh
 go_enter Tryz.func40, Tryz.ntmps40
 go_wp2_with fail
 obtain ⟨b, hb⟩ : ∃ b, W.heap.size = b := ⟨_, rfl⟩
 have HM := Aside0.mk (MS.start (x := x) (W.alloc (.cells #[.int .i64 x.f0, .int .i64 x.f1, .string x.f2, .string x.f3, .int .i64 x.f4] 40)) HR.out HO.out HB.out HG.out hb rfl)
 rw [hb]
 generalize W.alloc (.cells #[.int .i64 x.f0, .int .i64 x.f1, .string x.f2, .string x.f3, .int .i64 x.f4] 40) = W1 at HM ⊢
 clear hb HR HO HB
 go_wp2_with (go_at_call 60; refine (Zr w0 W1 g s p v e HM.out.rd HM.out.below HG.out HPs.out HS.out).mono ?_; rintro ev w1 ⟨rfl, hR1, hB1, hK1⟩; have HM1 := Aside0.mk (HM.out.quiet hR1 hB1 hK1); clear hR1 hB1 hK1)
 go_ret
 exact ⟨rfl, HM1.out.left⟩
theorem XaQ (w0 : World) (g : Nat) (s : ByteArray) (k : Nat) (hg : w0.heap.size ≤ g) (hs : s.size ≤ 4611686018427387904) (hj : JTabs w0) (hIH : ∀ j, j < k → VC w0 g s j)
  (W : World) (p : Nat) (v : Value) (out : List S40) (x : S40) (e : Nat) (r : Res) (h : xN k s p out x e = some r) (hR : Rd W g s p v) (hO : Out w0 W g v out) (hB : Below w0.heap.size w0 W) (hp : p ≤ s.size) :
  Calls Tryz.prog 40 #[.pointer (some ⟨g, 0, none⟩), Yh x, .int .u8 (e : Int)] W fun ev W' => ev = .returned (.int .i64 r.1) ∧ Left w0 W W' g s r.2.1 v r.2.2 := by
 cases k with
 | zero => simp [xN] at h
 | succ k =>
  rw [xN] at h
  by_cases ht : (Xi s p e).1 = true
  ·rw [if_pos ht] at h
   cases h
   exact zaU w0 W g s p v _ x e hR hO hB hg hp hs ht
  ·rw [if_neg ht] at h
   exact XaT w0 W g s p v out x e k r hR hO hB hg hp hs hj (fun j hjk => hIH j (by omega)) (ybh.2 ht) h
theorem Xaa (w0 : World) (g : Nat) (s : ByteArray) (hg : w0.heap.size ≤ g) (hs : s.size ≤ 4611686018427387904) (hj : JTabs w0) : ∀ k, VC w0 g s k := by
 intro k
 induction k using Nat.strongRecOn with
 | _ k ih =>
  intro W p v out x r h hR hO hB hp
  cases k with
  | zero => simp [valueF] at h
  | succ k =>
   have hM := fun (W1 : World) (p1 : Nat) (v1 : Value) (o1 : List S40) (y : S40) (e : Nat) (r1 : Res) (h1 : xN k s p1 o1 y e = some r1) (hR1 : Rd W1 g s p1 v1) (hO1 : Out w0 W1 g v1 o1) (hB1 : Below w0.heap.size w0 W1) (hp1 : p1 ≤ s.size) =>
    XaQ w0 g s k hg hs hj (fun j hjk => ih j (by omega)) W1 p1 v1 o1 y e r1 h1 hR1 hO1 hB1 hp1
   rw [valueF] at h
   by_cases h91 : zd s p = 91
   ·rw [if_pos h91] at h
    by_cases hd : 64 ≤ x.f0
    ·rw [if_pos hd] at h
     cases h
     exact xaT w0 W g s p v _ x hR hO hB hg hp hs hj h91 hd
    ·rw [if_neg hd] at h
     by_cases hl : (out.length + 1) * 56 ≤ 140737488355328 ∧ Zb s p < s.size
     ·rw [if_pos hl] at h
      exact ZaT w0 W g s p v out x hR hO hB hg hp hs hj h91 (by omega) hl.1 hl.2 r.1 r.2.1 r.2.2 (fun W1 v1 a b c => hM W1 _ v1 _ _ 93 r h a b c (by omega))
     ·rw [if_neg hl] at h; cases h
   ·rw [if_neg h91] at h
    by_cases h123 : zd s p = 123
    ·rw [if_pos h123] at h
     by_cases hd : 64 ≤ x.f0
     ·rw [if_pos hd] at h
      cases h
      exact ZaQ w0 W g s p v _ x hR hO hB hg hp hs hj h123 hd
     ·rw [if_neg hd] at h
      by_cases hl : (out.length + 1) * 56 ≤ 140737488355328 ∧ Zb s p < s.size
      ·rw [if_pos hl] at h
       exact YaQ w0 W g s p v out x hR hO hB hg hp hs hj h123 (by omega) hl.1 hl.2 r.1 r.2.1 r.2.2 (fun W1 v1 a b c => hM W1 _ v1 _ _ 125 r h a b c (by omega))
      ·rw [if_neg hl] at h; cases h
    ·rw [if_neg h123] at h
     by_cases h34 : zd s p = 34
     ·rw [if_pos h34] at h
      obtain ⟨⟨t, m1, er⟩, hq, h⟩ := Ybe.1 h
      simp only at h
      by_cases hl : 0 ≤ m1 ∧ (Zb s p : Int) + m1 ≤ s.size ∧ (out.length + 1) * 56 ≤ 140737488355328
      ·rw [if_pos hl] at h
       obtain ⟨m, rfl⟩ : ∃ m : Nat, m1 = m := ⟨m1.toNat, by omega⟩
       rw [Ybd] at h
       by_cases he : er = 0
       ·rw [if_pos he] at h
        subst he
        cases h
        exact Xa4 w0 W g s p v out x hR hO hB hg hp hs hj hl.2.2 k t m h34 hq (by omega)
       ·rw [if_neg he] at h
        cases h
        exact zaJ w0 W g s p v _ x hR hO hB hg hp hs hj k t m er h34 hq (by omega) he
      ·rw [if_neg hl] at h; cases h
     ·rw [if_neg h34] at h
      by_cases hl : (out.length + 1) * 56 ≤ 140737488355328
      ·rw [if_pos hl] at h
       by_cases hn : zd s p = 45 ∨ (48 ≤ zd s p ∧ zd s p ≤ 57)
       ·rw [if_pos hn] at h
        obtain ⟨⟨n, er, q⟩, hN⟩ : ∃ y, Yq s (Zb s p) = y := ⟨_, rfl⟩
        rw [hN] at h
        simp only at h
        by_cases he : er = 0
        ·rw [if_pos he] at h
         subst he
         cases h
         rcases hn with hn | hn
         ·exact xa1 w0 W g s p v out x hR hO hB hg hp hs hj hl n q hn hN
         ·exact Za1 w0 W g s p v out x hR hO hB hg hp hs hj hl n q hn hN
        ·rw [if_neg he] at h
         cases h
         rcases hn with hn | hn
         ·exact XaB w0 W g s p v _ x hR hO hB hg hp hs hj n er q hn hN he
         ·exact zaC w0 W g s p v _ x hR hO hB hg hp hs hj n er q hn hN he
       ·rw [if_neg hn] at h
        cases h
        by_cases h48 : zd s p < 48
        ·exact za1 w0 W g s p v out x hR hO hB hg hp hs hj hl h91 h123 h34 (by omega) h48
        ·exact ya1 w0 W g s p v out x hR hO hB hg hp hs hj hl h91 h123 h34 (by omega) (by omega)
      ·rw [if_neg hl] at h; cases h
def z0 : S40 := ⟨0, 0, ⟨#[]⟩, ⟨#[]⟩, 0⟩
def Xs.f (k : Nat) (s : ByteArray) : Option (List S40 × Int) := if s.size ≤ 4611686018427387904 then (valueF k s 0 [] z0).bind fun r => if r.2.1 ≤ s.size then (if r.1 = 0 then (if Zb s r.2.1 < s.size then some ([], 80) else some (r.2.2, 0)) else some ([], r.1)) else none else none
theorem parse_err (k : Nat) (s : ByteArray) (er : Int) (q : Nat) (out : List S40) (w : World) (ht : JTabs w) (hs : s.size ≤ 4611686018427387904) (h : valueF k s 0 [] z0 = some (er, q, out)) (he : er ≠ 0) :
  Calls Tryz.prog 10 #[.string s] w fun e w' => ∃ v0_ : Value, e = .returned (.tuple #[v0_, .int .i64 er]) ∧ Kd.R k40 40 w' w.heap.size (fun _ => True) v0_ [] ∧ Below w.heap.size w w' := by
 have JT := Aside0.mk ht
 have HS := Aside0.mk hs
 have FV := Aside0.mk h
 have hmf : ∀ (fn : Fn) (first cap : Array Value) (w : World), (Instr.makeFunc fn first cap).run Tryz.prog w = .ok (.func fn first cap) w := fun _ _ _ _ => rfl
 have n1 : (er == 0) = false := Ybb.mpr he
 have n2 : (er != 0) = true := Zbh.mpr he
 clear he h hs ht
 go_enter Tryz.func10, Tryz.ntmps10
 go_wp2_with fail
 have HR : Aside0 (Rd (w.alloc (.cells #[.string s, .int .i64 0, .slice none 0 0] 58)) w.heap.size s 0 (.slice none 0 0)) := ⟨ybi _ _⟩
 have HB : Aside0 (Below w.heap.size w (w.alloc (.cells #[.string s, .int .i64 0, .slice none 0 0] 58))) := ⟨Za (ybd _ _) _⟩
 obtain ⟨g, hg⟩ : ∃ g, w.heap.size = g := ⟨_, rfl⟩
 have HG : Aside0 (w.heap.size ≤ g) := ⟨by omega⟩
 generalize w.alloc (.cells #[.string s, .int .i64 0, .slice none 0 0] 58) = w1 at HR HB ⊢
 have HR : Aside0 (Rd w1 g s 0 (.slice none 0 0)) := ⟨by rw [← hg]; exact HR.out⟩
 rw [show (({ block := w.heap.size, off := 0 } : Addr)) = { block := g, off := 0 } by rw [hg]]
 clear hg
 go_wp2_with (first
  | (go_at_call 22; refine (Xaa w g s HG.out HS.out JT.out k w1 0 (.slice none 0 0) [] z0 _ FV.out HR.out (Kd.R_nil _ _ _ _ _) HB.out (Ybm _)).mono ?_; rintro e w2 ⟨rfl, ⟨v2, hR2, hO2, hA2⟩, hB2, hK2⟩; obtain ⟨A2, c2, rfl⟩ := Kd.R_slice hO2; have HR2 := Aside0.mk hR2; have HO2 := Aside0.mk hO2; have HB2 := Aside0.mk hB2; clear hR2 hO2 hA2 hB2 hK2))
 go_ret2
 exact ⟨_, rfl, Kd.R_nil _ _ _ _ _, HB2.out⟩
theorem za5 (k : Nat) (s : ByteArray) (er : Int) (q : Nat) (out : List S40) (w : World) (ht : JTabs w) (hs : s.size ≤ 4611686018427387904) (h : valueF k s 0 [] z0 = some (er, q, out)) (hq : q ≤ s.size) (he : er = 0) (hm : Zb s q < s.size) :
  Calls Tryz.prog 10 #[.string s] w fun e w' => ∃ v0_ : Value, e = .returned (.tuple #[v0_, .int .i64 80]) ∧ Kd.R k40 40 w' w.heap.size (fun _ => True) v0_ [] ∧ Below w.heap.size w w' := by
 have JT := Aside0.mk ht
 have HS := Aside0.mk hs
 have FV := Aside0.mk h
 have hmf : ∀ (fn : Fn) (first cap : Array Value) (w : World), (Instr.makeFunc fn first cap).run Tryz.prog w = .ok (.func fn first cap) w := fun _ _ _ _ => rfl
 subst he
 have HQ := Aside0.mk hq
 have n1 : decide ((Zb s q : Int) < (s.size : Int)) = true := decide_eq_true (by omega)
 have n2 : (Zb s q < s.size) = True := eq_true hm
 clear h hs ht hq hm
 go_enter Tryz.func10, Tryz.ntmps10
 go_wp2_with fail
 have HR : Aside0 (Rd (w.alloc (.cells #[.string s, .int .i64 0, .slice none 0 0] 58)) w.heap.size s 0 (.slice none 0 0)) := ⟨ybi _ _⟩
 have HB : Aside0 (Below w.heap.size w (w.alloc (.cells #[.string s, .int .i64 0, .slice none 0 0] 58))) := ⟨Za (ybd _ _) _⟩
 obtain ⟨g, hg⟩ : ∃ g, w.heap.size = g := ⟨_, rfl⟩
 have HG : Aside0 (w.heap.size ≤ g) := ⟨by omega⟩
 generalize w.alloc (.cells #[.string s, .int .i64 0, .slice none 0 0] 58) = w1 at HR HB ⊢
 have HR : Aside0 (Rd w1 g s 0 (.slice none 0 0)) := ⟨by rw [← hg]; exact HR.out⟩
 rw [show (({ block := w.heap.size, off := 0 } : Addr)) = { block := g, off := 0 } by rw [hg]]
 clear hg
 go_wp2_with (first
  | (go_at_call 22; refine (Xaa w g s HG.out HS.out JT.out k w1 0 (.slice none 0 0) [] z0 _ FV.out HR.out (Kd.R_nil _ _ _ _ _) HB.out (Ybm _)).mono ?_; rintro e w2 ⟨rfl, ⟨v2, hR2, hO2, hA2⟩, hB2, hK2⟩; obtain ⟨A2, c2, rfl⟩ := Kd.R_slice hO2; have HR2 := Aside0.mk hR2; have HO2 := Aside0.mk hO2; have HB2 := Aside0.mk hB2; clear hR2 hO2 hA2 hB2 hK2)
  | (go_at_call 23; refine (Zn w w2 g s q _ HR2.out HB2.out HG.out HQ.out HS.out).mono ?_; rintro e w3 ⟨rfl, hR3, hB3, hK3⟩; have HR3 := Aside0.mk hR3; have HB3 := Aside0.mk hB3; have HO3 := Aside0.mk (Kd.R_keep HO2.out hK3 (fun _ h => h)); have hd1 := Yf hR3; have hd2 := Xr hR3; clear hR3 hB3 hK3))
 go_ret2
 exact ⟨_, rfl, Kd.R_nil _ _ _ _ _, HB3.out⟩
theorem parse_ok (k : Nat) (s : ByteArray) (er : Int) (q : Nat) (out : List S40) (w : World) (ht : JTabs w) (hs : s.size ≤ 4611686018427387904) (h : valueF k s 0 [] z0 = some (er, q, out)) (hq : q ≤ s.size) (he : er = 0) (hm : ¬ Zb s q < s.size) :
  Calls Tryz.prog 10 #[.string s] w fun e w' => ∃ v0_ : Value, e = .returned (.tuple #[v0_, .int .i64 0]) ∧ Kd.R k40 40 w' w.heap.size (fun _ => True) v0_ out ∧ Below w.heap.size w w' := by
 have JT := Aside0.mk ht
 have HS := Aside0.mk hs
 have FV := Aside0.mk h
 have hmf : ∀ (fn : Fn) (first cap : Array Value) (w : World), (Instr.makeFunc fn first cap).run Tryz.prog w = .ok (.func fn first cap) w := fun _ _ _ _ => rfl
 subst he
 have HQ := Aside0.mk hq
 have n1 : decide ((Zb s q : Int) < (s.size : Int)) = false := zbd (by omega)
 have n2 : (Zb s q < s.size) = False := eq_false hm
 clear h hs ht hq hm
 go_enter Tryz.func10, Tryz.ntmps10
 go_wp2_with fail
 have HR : Aside0 (Rd (w.alloc (.cells #[.string s, .int .i64 0, .slice none 0 0] 58)) w.heap.size s 0 (.slice none 0 0)) := ⟨ybi _ _⟩
 have HB : Aside0 (Below w.heap.size w (w.alloc (.cells #[.string s, .int .i64 0, .slice none 0 0] 58))) := ⟨Za (ybd _ _) _⟩
 obtain ⟨g, hg⟩ : ∃ g, w.heap.size = g := ⟨_, rfl⟩
 have HG : Aside0 (w.heap.size ≤ g) := ⟨by omega⟩
 generalize w.alloc (.cells #[.string s, .int .i64 0, .slice none 0 0] 58) = w1 at HR HB ⊢
 have HR : Aside0 (Rd w1 g s 0 (.slice none 0 0)) := ⟨by rw [← hg]; exact HR.out⟩
 rw [show (({ block := w.heap.size, off := 0 } : Addr)) = { block := g, off := 0 } by rw [hg]]
 clear hg
 go_wp2_with (first
  | (go_at_call 22; refine (Xaa w g s HG.out HS.out JT.out k w1 0 (.slice none 0 0) [] z0 _ FV.out HR.out (Kd.R_nil _ _ _ _ _) HB.out (Ybm _)).mono ?_; rintro e w2 ⟨rfl, ⟨v2, hR2, hO2, hA2⟩, hB2, hK2⟩; obtain ⟨A2, c2, rfl⟩ := Kd.R_slice hO2; have HR2 := Aside0.mk hR2; have HO2 := Aside0.mk hO2; have HB2 := Aside0.mk hB2; clear hR2 hO2 hA2 hB2 hK2)
  | (go_at_call 23; refine (Zn w w2 g s q _ HR2.out HB2.out HG.out HQ.out HS.out).mono ?_; rintro e w3 ⟨rfl, hR3, hB3, hK3⟩; have HR3 := Aside0.mk hR3; have HB3 := Aside0.mk hB3; have HO3 := Aside0.mk (Kd.R_keep HO2.out hK3 (fun _ h => h)); have hd1 := Yf hR3; have hd2 := Xr hR3; clear hR3 hB3 hK3))
 go_ret2
 exact ⟨_, rfl, Kd.R_mono HO3.out (fun _ _ => trivial), HB3.out⟩
theorem Xs.calls (k : Nat) (a0 : ByteArray) (r1 : List S40) (r2 : Int) (w : World) (h : Xs.f k a0 = some (r1, r2)) (ht : JTabs w := by first | assumption | (refine JTabs.step (by assumption) ?_; repeat (first | exact Aside0.out (by assumption) | apply Za | apply Ya | apply Xa | exact ybd _ _))) :
  Calls Tryz.prog 10 #[.string a0] w fun e w' => ∃ v0_ : Value, e = .returned (.tuple #[v0_, .int .i64 r2]) ∧ Kd.R k40 40 w' w.heap.size (fun _ => True) v0_ r1 ∧ Below w.heap.size w w' := by
 unfold Xs.f at h
 by_cases hs : a0.size ≤ 4611686018427387904
 ·rw [if_pos hs] at h
  obtain ⟨⟨er, q, out⟩, hv, h⟩ := Ybe.1 h
  simp only at h
  by_cases hq : q ≤ a0.size
  ·rw [if_pos hq] at h
   by_cases he : er = 0
   ·rw [if_pos he] at h
    by_cases hm : Zb a0 q < a0.size
    ·rw [if_pos hm] at h; cases h
     exact za5 k a0 er q out w ht hs hv hq he hm
    ·rw [if_neg hm] at h; cases h
     exact parse_ok k a0 er q _ w ht hs hv hq he hm
   ·rw [if_neg he] at h; cases h
    exact parse_err k a0 _ q out w ht hs hv he
  ·rw [if_neg hq] at h; cases h
 ·rw [if_neg hs] at h; cases h
end Go.Proofs.NGiv
namespace Go.Proofs.NGiv
open Go.RowKit Go.Proofs.Wa Go.Proofs.Wb Go.Proofs.Wc
open Go.Proofs.NU1 Go.Proofs.NQ1
def X4 (n : Int) : Int := if n = 34 ∨ n = 92 then n else if n = 8 then 98 else if n = 9 then 116 else if n = 10 then 110 else if n = 12 then 102 else if n = 13 then 114 else 0
theorem short_f (k : Nat) (n : Int) (hk : 0 < k) : Yi.f k n = some (X4 n) := by
 obtain ⟨k, rfl⟩ : ∃ m, k = m + 1 := ⟨k - 1, by omega⟩
 unfold Yi.f X4
 by_cases a : n = 34
 ·subst a; rfl
 ·rw [if_neg a, Yi.j0]
  by_cases b : n = 92
  ·subst b; rfl
  ·rw [if_neg (show ¬ (n == 92) = true by simpa using b), if_neg (show ¬ (n = 34 ∨ n = 92) by omega)]
   repeat' split
   all_goals rfl
theorem byte_bt (s : ByteArray) (i : Nat) : bt s (i : Int) = (((s.data.toList.getD i 0).toNat : Nat) : Int) := btL s i
theorem drop_byte (s : ByteArray) (i : Nat) (hi : i < s.size) : s.data.toList.drop i = s.data.toList.getD i 0 :: s.data.toList.drop (i + 1) := by
 have hl : i < s.data.toList.length := by rw [data_length]; exact hi
 rw [Xbo hl]
 congr 1
 rw [zbe, zbf hl]; rfl
def hv (n : Nat) : Int := if 48 ≤ n ∧ n ≤ 57 then (n : Int) - 48 else if 97 ≤ n ∧ n ≤ 102 then (n : Int) - 87 else if 65 ≤ n ∧ n ≤ 70 then (n : Int) - 55 else -1
theorem ZL (n : Nat) : -1 ≤ hv n ∧ hv n < 16 := by
 unfold hv; repeat' split
 all_goals omega
def hexL : List UInt8 := [48, 49, 50, 51, 52, 53, 54, 55, 56, 57, 97, 98, 99, 100, 101, 102]
def hexU : List UInt8 := [48, 49, 50, 51, 52, 53, 54, 55, 56, 57, 65, 66, 67, 68, 69, 70]
theorem hv_index : ∀ n : Nat, n < 256 → (if Lib.indexByte hexL n.toUInt8 < 0 then Lib.indexByte hexU n.toUInt8 else Lib.indexByte hexL n.toUInt8) = hv n := by decide +kernel
theorem ZZ (a b : Nat) (ha : a < 65536) (hb : b < 16) : Go.bits .or .i64 ((a : Int) * 16) (b : Int) = ((a * 16 + b : Nat) : Int) := by
 rw [show (a : Int) * 16 = ((a * 16 : Nat) : Int) by omega]
 have h1 : (BitVec.ofInt 64 ((a * 16 : Nat) : Int)).toNat = a * 16 := by
  rw [BitVec.ofInt_natCast, BitVec.toNat_ofNat]; exact Nat.mod_eq_of_lt (by omega)
 have h2 : (BitVec.ofInt 64 (b : Int)).toNat = b := by
  rw [BitVec.ofInt_natCast, BitVec.toNat_ofNat]; exact Nat.mod_eq_of_lt (by omega)
 have ho : a * 16 ||| b = a * 16 + b := by
  have := Nat.shiftLeft_add_eq_or_of_lt (i := 4) (b := b) (by omega) a
  rw [Nat.shiftLeft_eq] at this
  exact this.symm
 show IntKind.i64.wrap ((BitVec.ofInt 64 ((a * 16 : Nat) : Int) ||| BitVec.ofInt 64 (b : Int)).toNat : Int) = _
 rw [BitVec.toNat_or, h1, h2, ho]
 rw [i64_w]
 exact w64 (x := ((a * 16 + b : Nat) : Int)) (by omega) (by omega)
theorem Ya1 (k : Nat) (s : ByteArray) (a i : Nat) (hi : i < 4) (hs : 4 ≤ s.size) (ha : a < 65536) :
  zi.l0 (k + 1) s (a : Int) (i : Int) = if hv (s.data.toList.getD i 0).toNat < 0 then some (-1) else zi.l0 k s (((a : Int) * 16 + hv (s.data.toList.getD i 0).toNat)) ((i + 1 : Nat) : Int) := by
 simp only [zi.l0]
 have hn := UInt8.toNat_lt (s.data.toList.getD i 0)
 have hh := hv_index _ hn
 have hbd := ZL (s.data.toList.getD i 0).toNat
 rw [if_pos (by omega), if_pos (by omega), if_pos (by omega), byte_bt s i]
 generalize (s.data.toList.getD i 0).toNat = n at hn hh hbd ⊢
 unfold strings_IndexByte.f
 rw [Zbf, Zbf, Ybd, w64 (x := (i : Int) + 1) (by omega) (by omega), w64 (x := (a : Int) * 16) (by omega) (by omega), show ((i : Int) + 1) = ((i + 1 : Nat) : Int) by omega]
 show (if Lib.indexByte hexL n.toUInt8 < 0 then if Lib.indexByte hexU n.toUInt8 < 0 then some (-1) else zi.l0 k s (Go.bits .or .i64 ((a : Int) * 16) (Lib.indexByte hexU n.toUInt8)) ((i + 1 : Nat) : Int) else zi.l0 k s (Go.bits .or .i64 ((a : Int) * 16) (Lib.indexByte hexL n.toUInt8)) ((i + 1 : Nat) : Int)) = _
 by_cases c : Lib.indexByte hexL n.toUInt8 < 0
 ·rw [if_pos c] at hh
  rw [if_pos c, hh]
  by_cases d : hv n < 0
  ·rw [if_pos d, if_pos d]
  ·rw [if_neg d, if_neg d]
   obtain ⟨m, hm⟩ : ∃ m : Nat, hv n = m := ⟨(hv n).toNat, by omega⟩
   rw [hm, ZZ a m ha (by omega)]
   congr 1
 ·rw [if_neg c] at hh
  rw [hh] at c
  rw [hh, if_neg c, if_neg c]
  obtain ⟨m, hm⟩ : ∃ m : Nat, hv n = m := ⟨(hv n).toNat, by omega⟩
  rw [hm, ZZ a m ha (by omega)]
  congr 1
def digN (l : List UInt8) : Int :=
 if l.length < 4 then -1 else if hv (l.getD 0 0).toNat < 0 ∨ hv (l.getD 1 0).toNat < 0 ∨ hv (l.getD 2 0).toNat < 0 ∨ hv (l.getD 3 0).toNat < 0 then -1
 else ((hv (l.getD 0 0).toNat * 16 + hv (l.getD 1 0).toNat) * 16 + hv (l.getD 2 0).toNat) * 16 + hv (l.getD 3 0).toNat
theorem zac (l : List UInt8) : -1 ≤ digN l ∧ digN l < 65536 := by
 have h0 := ZL (l.getD 0 0).toNat
 have h1 := ZL (l.getD 1 0).toNat
 have h2 := ZL (l.getD 2 0).toNat
 have h3 := ZL (l.getD 3 0).toNat
 unfold digN; repeat' split
 all_goals omega
theorem yaU (k : Nat) (s : ByteArray) (hk : 4 < k) : zi.f k s = some (digN s.data.toList) := by
 obtain ⟨k, rfl⟩ : ∃ m, k = m + 1 + 1 + 1 + 1 + 1 := ⟨k - 5, by omega⟩
 have hl : s.data.toList.length = s.size := data_length s
 have h0 := ZL (s.data.toList.getD 0 0).toNat
 have h1 := ZL (s.data.toList.getD 1 0).toNat
 have h2 := ZL (s.data.toList.getD 2 0).toNat
 have h3 := ZL (s.data.toList.getD 3 0).toNat
 unfold zi.f digN
 by_cases c : s.size < 4
 ·rw [if_pos (by omega), if_pos (by omega)]
 ·rw [if_neg (by omega), if_neg (by omega)]
  have st : ∀ (k : Nat) (i : Nat) (a : Int), i < 4 → 0 ≤ a → a < 65536 → zi.l0 (k + 1) s a (i : Int) = if hv (s.data.toList.getD i 0).toNat < 0 then some (-1) else zi.l0 k s (a * 16 + hv (s.data.toList.getD i 0).toNat) ((i + 1 : Nat) : Int) := by
   intro k i a hi ha0 ha1
   obtain ⟨m, rfl⟩ : ∃ m : Nat, a = m := ⟨a.toNat, by omega⟩
   exact Ya1 k s m i hi (by omega) (by omega)
  have e0 := st (k + 1 + 1 + 1 + 1) 0 0 (by omega) (by omega) (by omega)
  show zi.l0 (k + 1 + 1 + 1 + 1 + 1) s 0 ((0 : Nat) : Int) = _
  rw [e0]
  by_cases d0 : hv (s.data.toList.getD 0 0).toNat < 0
  ·rw [if_pos d0, if_pos (by omega)]
  ·rw [if_neg d0, st _ 1 _ (by omega) (by omega) (by omega)]
   by_cases d1 : hv (s.data.toList.getD 1 0).toNat < 0
   ·rw [if_pos d1, if_pos (by omega)]
   ·rw [if_neg d1, st _ 2 _ (by omega) (by omega) (by omega)]
    by_cases d2 : hv (s.data.toList.getD 2 0).toNat < 0
    ·rw [if_pos d2, if_pos (by omega)]
    ·rw [if_neg d2, st _ 3 _ (by omega) (by omega) (by omega)]
     by_cases d3 : hv (s.data.toList.getD 3 0).toNat < 0
     ·rw [if_pos d3, if_pos (by omega)]
     ·rw [if_neg d3, if_neg (by omega)]
      simp only [zi.l0]
      rw [if_neg (by omega)]
      congr 1
      omega
theorem extract_drop (s : ByteArray) (m : Nat) : (s.extract m s.size).data.toList = s.data.toList.drop m := by
 rw [zbo, zbp]
 simp
 rw [Zbj (by rw [Zbb, data_length]; exact Xbc _)]
def numL (l : List UInt8) : Int × Int :=
 if digN l < 55296 ∨ 57344 ≤ digN l then (digN l, 4)
 else if 56320 ≤ digN l ∨ l.length < 6 ∨ (l.getD 4 0).toNat ≠ 92 ∨ (l.getD 5 0).toNat ≠ 117 then (-1, 0)
 else if digN (l.drop 6) < 56320 ∨ 57344 ≤ digN (l.drop 6) then (-1, 0)
 else (65536 + (digN l - 55296) * 1024 + digN (l.drop 6) - 56320, 10)
theorem ya5 (k : Nat) (s : ByteArray) (hk : 8 < k) : zf.f k s = some (numL s.data.toList) := by
 obtain ⟨k, rfl⟩ : ∃ m, k = m + 1 + 1 := ⟨k - 2, by omega⟩
 have hl : s.data.toList.length = s.size := data_length s
 have hd := zac s.data.toList
 have hd6 := zac (s.data.toList.drop 6)
 unfold zf.f numL
 rw [yaU _ s (by omega), Zbf]
 generalize digN s.data.toList = n at hd ⊢
 by_cases a : n < 55296
 ·rw [if_pos a, if_pos (show n < 55296 ∨ 57344 ≤ n by omega), zf.j0, if_pos rfl]
 ·rw [if_neg a, zf.j0]
  by_cases b : 57344 ≤ n
  ·rw [if_pos (by simpa using b), if_pos (show n < 55296 ∨ 57344 ≤ n by omega)]
  ·rw [if_neg (by simpa using b), if_neg (show ¬ (n < 55296 ∨ 57344 ≤ n) by omega)]
   by_cases c : 56320 ≤ n
   ·rw [if_pos (show n ≥ 56320 from c), if_pos (show 56320 ≤ n ∨ s.data.toList.length < 6 ∨ (s.data.toList.getD 4 0).toNat ≠ 92 ∨ (s.data.toList.getD 5 0).toNat ≠ 117 by omega), zf.j1, if_pos rfl]
   ·rw [if_neg (show ¬ n ≥ 56320 from c)]
    by_cases d : s.size < 6
    ·rw [if_pos (show (s.size : Int) < 6 by omega), if_pos (show 56320 ≤ n ∨ s.data.toList.length < 6 ∨ (s.data.toList.getD 4 0).toNat ≠ 92 ∨ (s.data.toList.getD 5 0).toNat ≠ 117 by omega), zf.j1, if_pos rfl]
    ·rw [if_neg (show ¬ (s.size : Int) < 6 by omega), if_pos (show 4 < (s.size : Int) by omega), show (4 : Int) = ((4 : Nat) : Int) from rfl, show (5 : Int) = ((5 : Nat) : Int) from rfl, byte_bt, byte_bt]
     by_cases e : (s.data.toList.getD 4 0).toNat = 92
     ·rw [if_pos (show (((s.data.toList.getD 4 0).toNat : Nat) : Int) = 92 by omega), if_pos (show ((5 : Nat) : Int) < (s.size : Int) by omega), zf.j1]
      by_cases f : (s.data.toList.getD 5 0).toNat = 117
      ·rw [if_neg (show ¬ ((((s.data.toList.getD 5 0).toNat : Nat) : Int) != 117) = true by rw [Zbh]; omega), if_neg (show ¬ (56320 ≤ n ∨ s.data.toList.length < 6 ∨ (s.data.toList.getD 4 0).toNat ≠ 92 ∨ (s.data.toList.getD 5 0).toNat ≠ 117) by omega), if_pos (show 6 ≤ (s.size : Int) by omega), yaU _ _ (by omega), Zbf, extract_drop]
       generalize digN (s.data.toList.drop 6) = m at hd6 ⊢
       by_cases g : m < 56320
       ·rw [if_pos g, if_pos (show m < 56320 ∨ 57344 ≤ m by omega)]
       ·rw [if_neg g]
        by_cases g2 : 57344 ≤ m
        ·rw [if_pos (show m ≥ 57344 from g2), if_pos (show m < 56320 ∨ 57344 ≤ m by omega)]
        ·rw [if_neg (show ¬ m ≥ 57344 from g2), if_neg (show ¬ (m < 56320 ∨ 57344 ≤ m) by omega)]
         rw [w64 (x := n - 55296) (by omega) (by omega), w64 (x := (n - 55296) * 1024) (by omega) (by omega), w64 (x := 65536 + (n - 55296) * 1024) (by omega) (by omega), w64 (x := 65536 + (n - 55296) * 1024 + m) (by omega) (by omega), w64 (by omega) (by omega)]
      ·rw [if_pos (show ((((s.data.toList.getD 5 0).toNat : Nat) : Int) != 117) = true by rw [Zbh]; omega), if_pos (show 56320 ≤ n ∨ s.data.toList.length < 6 ∨ (s.data.toList.getD 4 0).toNat ≠ 92 ∨ (s.data.toList.getD 5 0).toNat ≠ 117 by omega)]
     ·rw [if_neg (show ¬ (((s.data.toList.getD 4 0).toNat : Nat) : Int) = 92 by omega), if_pos (show 56320 ≤ n ∨ s.data.toList.length < 6 ∨ (s.data.toList.getD 4 0).toNat ≠ 92 ∨ (s.data.toList.getD 5 0).toNat ≠ 117 by omega), zf.j1, if_pos rfl]
def Zs (n : Nat) : UInt8 := if n = 98 then 8 else if n = 116 then 9 else if n = 110 then 10 else if n = 102 then 12 else if n = 114 then 13 else 0
theorem xa5 : ∀ n : Nat, n < 256 → if 0 ≤ Lib.indexByte [98, 116, 110, 102, 114] n.toUInt8 then (Lib.indexByte [98, 116, 110, 102, 114] n.toUInt8 ≤ 4 ∧ Zs n ≠ 0 ∧ ((⟨#[8, 9, 10, 12, 13]⟩ : ByteArray).extract (Lib.indexByte [98, 116, 110, 102, 114] n.toUInt8).toNat (Lib.indexByte [98, 116, 110, 102, 114] n.toUInt8 + 1).toNat).data.toList = [Zs n]) else Zs n = 0 := by decide +kernel
def escL (l : List UInt8) : List UInt8 × Int × Int :=
 if l.length < 2 then ([], 0, 73)
 else if Zs (l.getD 1 0).toNat ≠ 0 then ([Zs (l.getD 1 0).toNat], 2, 0)
 else if (l.getD 1 0).toNat = 34 ∨ (l.getD 1 0).toNat = 92 ∨ (l.getD 1 0).toNat = 47 then ([l.getD 1 0], 2, 0)
 else if (l.getD 1 0).toNat = 117 then (if Xm (numL (l.drop 2)).1 = true then (enc (numL (l.drop 2)).1, 2 + (numL (l.drop 2)).2, 0) else ([], 0, 73))
 else ([], 0, 73)
def XO (r : List UInt8 × Int × Int) : ByteArray × Int × Int := (⟨r.1.toArray⟩, r.2.1, r.2.2)
theorem numL_bd (l : List UInt8) : (numL l).2 = 0 ∨ (numL l).2 = 4 ∨ (numL l).2 = 10 := by
 unfold numL; repeat' split
 all_goals simp
theorem esc_j0 (k : Nat) (s : ByteArray) (hk : 9 < k) (h2 : 2 ≤ s.size) (b : Bool) (hb : b = true ↔ ((s.data.toList.getD 1 0).toNat = 34 ∨ (s.data.toList.getD 1 0).toNat = 92 ∨ (s.data.toList.getD 1 0).toNat = 47)) (hm : Zs (s.data.toList.getD 1 0).toNat = 0) :
  Yl.j0 k s (((s.data.toList.getD 1 0).toNat : Nat) : Int) b = some (XO (escL s.data.toList)) := by
 obtain ⟨k, rfl⟩ : ∃ m, k = m + 1 := ⟨k - 1, by omega⟩
 have hl : s.data.toList.length = s.size := data_length s
 rw [Yl.j0]
 unfold escL
 rw [if_neg (show ¬ s.data.toList.length < 2 by omega), if_neg (show ¬ Zs (s.data.toList.getD 1 0).toNat ≠ 0 from fun h => h hm)]
 by_cases a : b = true
 ·rw [if_pos a, if_pos (by decide), if_pos (by omega), if_pos (hb.1 a)]
  congr 1
  unfold XO
  simp only
  congr 1
  apply xA
  have e := drop_byte s 1 (by omega)
  rw [zbo, zbp]
  simp only [List.extract, e]
  rfl
 ·rw [if_neg a, if_neg (fun h => a (hb.2 h))]
  by_cases c : (s.data.toList.getD 1 0).toNat = 117
  ·rw [if_pos (by omega), if_pos (by omega), if_pos c, ya5 _ _ (by omega), extract_drop, Zbf, put_S _ _ (by omega), Zbf]
   have hn := numL_bd (s.data.toList.drop 2)
   unfold putS
   by_cases d : Xm (numL (s.data.toList.drop 2)).1 = true
   ·rw [if_pos d, if_pos d, if_pos rfl, w64 (by omega) (by omega)]; rfl
   ·rw [if_neg d, if_neg d, if_neg (by decide)]; rfl
  ·rw [if_neg (by omega), if_neg c]; rfl
theorem escape_f (k : Nat) (s : ByteArray) (hk : 9 < k) : Yl.f k s = some (XO (escL s.data.toList)) := by
 have hl : s.data.toList.length = s.size := data_length s
 unfold Yl.f
 by_cases a : s.size < 2
 ·rw [if_pos (by omega)]
  unfold escL
  rw [if_pos (show s.data.toList.length < 2 by omega)]; rfl
 ·rw [if_neg (by omega), if_pos (by omega), show (1 : Int) = ((1 : Nat) : Int) from rfl, byte_bt]
  have hn := UInt8.toNat_lt (s.data.toList.getD 1 0)
  have hm := xa5 _ hn
  have hj := esc_j0 k s hk (by omega)
  have hE : ¬ s.data.toList.length < 2 := by omega
  unfold strings_IndexByte.f
  rw [Zbf, Ybd]
  show (if Lib.indexByte [98, 116, 110, 102, 114] (s.data.toList.getD 1 0).toNat.toUInt8 ≥ 0 then _ else _) = _
  by_cases b : 0 ≤ Lib.indexByte [98, 116, 110, 102, 114] (s.data.toList.getD 1 0).toNat.toUInt8
  ·rw [if_pos b] at hm
   rw [if_pos (show Lib.indexByte [98, 116, 110, 102, 114] (s.data.toList.getD 1 0).toNat.toUInt8 ≥ 0 from b)]
   show (if 0 ≤ Lib.indexByte [98, 116, 110, 102, 114] (s.data.toList.getD 1 0).toNat.toUInt8 then (if Lib.indexByte [98, 116, 110, 102, 114] (s.data.toList.getD 1 0).toNat.toUInt8 ≤ wrap64 (Lib.indexByte [98, 116, 110, 102, 114] (s.data.toList.getD 1 0).toNat.toUInt8 + 1) then (if wrap64 (Lib.indexByte [98, 116, 110, 102, 114] (s.data.toList.getD 1 0).toNat.toUInt8 + 1) ≤ 5 then some ((⟨#[8, 9, 10, 12, 13]⟩ : ByteArray).extract (Lib.indexByte [98, 116, 110, 102, 114] (s.data.toList.getD 1 0).toNat.toUInt8).toNat (wrap64 (Lib.indexByte [98, 116, 110, 102, 114] (s.data.toList.getD 1 0).toNat.toUInt8 + 1)).toNat, (2 : Int), (0 : Int)) else none) else none) else none) = _
   unfold escL
   rw [if_neg hE, if_pos hm.2.1]
   obtain ⟨h1, _, h3⟩ := hm
   generalize Lib.indexByte [98, 116, 110, 102, 114] (s.data.toList.getD 1 0).toNat.toUInt8 = t at b h1 h3 ⊢
   rw [w64 (x := t + 1) (by omega) (by omega), if_pos b, if_pos (by omega), if_pos (by omega)]
   congr 1
   unfold XO
   simp only
   congr 1
   apply xA
   rw [h3]
  ·rw [if_neg b] at hm
   rw [if_neg (show ¬ Lib.indexByte [98, 116, 110, 102, 114] (s.data.toList.getD 1 0).toNat.toUInt8 ≥ 0 from b)]
   by_cases c : (s.data.toList.getD 1 0).toNat = 34
   ·rw [if_pos (by omega)]
    exact hj _ (by rw [Ybf]; omega) hm
   ·rw [if_neg (by omega)]
    by_cases d : (s.data.toList.getD 1 0).toNat = 92
    ·rw [if_pos (by omega)]
     exact hj _ (by rw [Ybf]; omega) hm
    ·rw [if_neg (by omega)]
     exact hj _ (by rw [Ybf]; omega) hm
def yQ (l : List UInt8) : List UInt8 × Int × Int := match tk l with | none => ([], 0, 74) | some (_, n) => (l.take n, (n : Int), 0)
theorem plain_f (s : ByteArray) : yK.f s = some (XO (yQ s.data.toList)) := by
 have hl : s.data.toList.length = s.size := data_length s
 unfold yK.f yQ
 rw [take_S, Zbf]
 unfold zaq
 cases ht : tk s.data.toList with
 | none => rfl
 | some d =>
  obtain ⟨r, n⟩ := d
  obtain ⟨_, _, h1, h2⟩ := yS ht
  simp only
  rw [if_pos trivial, if_pos (by omega), if_pos (by omega), Ybd]
  congr 1
  unfold XO
  simp only
  congr 1
  apply xA
  rw [zbo, zbp]; simp
def oneL (l : List UInt8) : List UInt8 × Int × Int := if (l.getD 0 0).toNat = 92 then escL l else yQ l
def Xy : Nat → List UInt8 → Option (List UInt8 × Int × Int)
 | 0, _ => none
 | n + 1, l => if l = [] then some ([], 0, 71) else if (l.getD 0 0).toNat = 34 then some ([], 1, 0) else if (l.getD 0 0).toNat < 32 then some ([], 0, 72)
  else if (oneL l).2.2 = 0 then (Xy n (l.drop (oneL l).2.1.toNat)).map fun q => if q.2.2 = 0 then ((oneL l).1 ++ q.1, (oneL l).2.1 + q.2.1, 0) else ([], 0, q.2.2) else some ([], 0, (oneL l).2.2)
theorem Xay (r : Int) : (enc r).length ≤ 4 := by
 have := YaS [r]
 rw [encs, Xbb] at this
 simp at this; omega
theorem yaz (l : List UInt8) (h : 0 ≤ digN l) : 4 ≤ l.length := by
 unfold digN at h
 by_cases c : l.length < 4
 ·rw [if_pos c] at h; omega
 ·omega
theorem numL_len (l : List UInt8) (h : Xm (numL l).1 = true) : 0 ≤ (numL l).2 ∧ (numL l).2 ≤ l.length := by
 obtain ⟨h0, _, _⟩ := (Xv _).1 h
 unfold numL at h0 ⊢
 split
 ·rename_i c
  rw [if_pos c] at h0
  have := yaz l h0
  simp only; omega
 ·rename_i c
  rw [if_neg c] at h0
  split
  ·rename_i d; rw [if_pos d] at h0; simp only at h0; omega
  ·rename_i d
   rw [if_neg d] at h0
   split
   ·rename_i e; rw [if_pos e] at h0; simp only at h0; omega
   ·rename_i e
    have := yaz (l.drop 6) (by omega)
    rw [Zbb] at this
    simp only; omega
theorem yaC (l : List UInt8) (h : (oneL l).2.2 = 0) : 1 ≤ (oneL l).2.1 ∧ (oneL l).2.1 ≤ l.length ∧ (oneL l).1.length ≤ 4 := by
 unfold oneL at h ⊢
 split
 ·rename_i c
  rw [if_pos c] at h
  unfold escL at h ⊢
  by_cases a : l.length < 2
  ·rw [if_pos a] at h; simp at h
  ·rw [if_neg a] at h ⊢
   by_cases b : Zs (l.getD 1 0).toNat ≠ 0
   ·rw [if_pos b]; simp only [Xbh]; omega
   ·rw [if_neg b] at h ⊢
    by_cases d : (l.getD 1 0).toNat = 34 ∨ (l.getD 1 0).toNat = 92 ∨ (l.getD 1 0).toNat = 47
    ·rw [if_pos d]; simp only [Xbh]; omega
    ·rw [if_neg d] at h ⊢
     by_cases e : (l.getD 1 0).toNat = 117
     ·rw [if_pos e] at h ⊢
      by_cases f : Xm (numL (l.drop 2)).1 = true
      ·rw [if_pos f]
       have := numL_len _ f
       rw [Zbb] at this
       exact ⟨by simp only; omega, by simp only; omega, Xay _⟩
      ·rw [if_neg f] at h; simp at h
     ·rw [if_neg e] at h; simp at h
 ·rename_i c
  rw [if_neg c] at h
  unfold yQ at h ⊢
  cases ht : tk l with
  | none => rw [ht] at h; simp at h
  | some d =>
   obtain ⟨r, n⟩ := d
   obtain ⟨_, he, h1, h2⟩ := yS ht
   simp only
   refine ⟨by omega, by omega, ?_⟩
   rw [← he]
   exact Xay _
theorem getD_drop (l : List UInt8) (p : Nat) : (l.drop p).getD 0 0 = l.getD p 0 := by
 rw [zbe, zbe, zbn, Nat.add_zero]
theorem read_one (k : Nat) (s : ByteArray) (p : Nat) (hk : 9 < k) : Zj.one k s p = some (XO (oneL (s.data.toList.drop p))) := by
 unfold Zj.one oneL
 rw [byte_bt, getD_drop]
 by_cases c : (s.data.toList.getD p 0).toNat = 92
 ·rw [if_pos (by omega), if_pos c, escape_f k _ hk, extract_drop]
 ·rw [if_neg (by omega), if_neg c, plain_f, extract_drop]
def endR (o : ByteArray) (p : Nat) (r : List UInt8 × Int × Int) : ByteArray × Int × Int := if r.2.2 = 0 then (o ++ ⟨r.1.toArray⟩, (p : Int) + r.2.1, 0) else (⟨#[]⟩, 0, r.2.2)
theorem xaC : ∀ (n : Nat) (l : List UInt8), l.length < n → ∃ r, Xy n l = some r
 | 0, l, h => absurd h (Nat.not_lt_zero _)
 | n + 1, l, h => by
  rw [Xy]
  by_cases e1 : l = []
  ·rw [if_pos e1]; exact ⟨_, rfl⟩
  ·rw [if_neg e1]
   by_cases e2 : (l.getD 0 0).toNat = 34
   ·rw [if_pos e2]; exact ⟨_, rfl⟩
   ·rw [if_neg e2]
    by_cases e3 : (l.getD 0 0).toNat < 32
    ·rw [if_pos e3]; exact ⟨_, rfl⟩
    ·rw [if_neg e3]
     by_cases e4 : (oneL l).2.2 = 0
     ·obtain ⟨b1, b2, _⟩ := yaC l e4
      obtain ⟨q, hq⟩ := xaC n (l.drop (oneL l).2.1.toNat) (by rw [Zbb]; omega)
      rw [if_pos e4, hq]; exact ⟨_, rfl⟩
     ·rw [if_neg e4]; exact ⟨_, rfl⟩
def xaq (n : Nat) (s : ByteArray) : Option (ByteArray × Int × Int) :=
 if s.size = 0 then some (⟨#[]⟩, 0, 70) else if (s.data.toList.getD 0 0).toNat = 34 then (Xy n (s.data.toList.drop 1)).map (endR ⟨#[]⟩ 1) else some (⟨#[]⟩, 0, 70)
theorem value_all : ∀ n : Nat, n < 256 → Yb.f 5 (n : Int) = some (hv n) := by decide +kernel
theorem value_f (k : Nat) (n : Nat) (hn : n < 256) (hk : 5 ≤ k) : Yb.f k (n : Int) = some (hv n) := at_rounds (Yb.mono (n : Int)) hk (value_all n hn)
theorem Xa1 (k : Nat) (s : ByteArray) (at_ a i : Nat) (hi : i < at_ + 5) (hs : i < s.size) (hb : at_ ≤ 1073741824) (ha : a < 65536) (hk : 5 ≤ k) :
  Xb.l0 (k + 1) s (at_ : Int) (a : Int) (i : Int) = if hv (s.data.toList.getD i 0).toNat < 0 then some (-1) else Xb.l0 k s (at_ : Int) ((a : Int) * 16 + hv (s.data.toList.getD i 0).toNat) ((i + 1 : Nat) : Int) := by
 have hbd := ZL (s.data.toList.getD i 0).toNat
 have hn := UInt8.toNat_lt (s.data.toList.getD i 0)
 rw [Xb.l0]
 rw [w64 (x := (at_ : Int) + 5) (by omega) (by omega), if_pos (by omega), if_pos (by omega), if_pos (by omega), byte_bt, value_f k _ hn hk, Zbf, Zbf]
 generalize hv (s.data.toList.getD i 0).toNat = v at hbd ⊢
 rw [w64 (x := 16 * (a : Int)) (by omega) (by omega), w64 (x := 16 * (a : Int) + v) (by omega) (by omega), w64 (x := (i : Int) + 1) (by omega) (by omega)]
 rw [show 16 * (a : Int) + v = (a : Int) * 16 + v by omega, show ((i : Int) + 1) = ((i + 1 : Nat) : Int) by omega]
def numU (l : List UInt8) : Int := if (l.getD 0 0).toNat = 117 then digN (l.drop 1) else -1
theorem getD_drops (l : List UInt8) (p j : Nat) : (l.drop p).getD j 0 = l.getD (p + j) 0 := by
 rw [zbe, zbe, zbn]
theorem xaU (k : Nat) (s : ByteArray) (p : Nat) (hp : p ≤ s.size) (hs : s.size ≤ 1073741824) (hk : 12 < k) : Xb.f k s (p : Int) = some (numU (s.data.toList.drop p)) := by
 obtain ⟨k, rfl⟩ : ∃ m, k = m + 1 + 1 + 1 + 1 + 1 + 1 + 5 := ⟨k - 11, by omega⟩
 have hl : (s.data.toList.drop p).length = s.size - p := by rw [Zbb, data_length]
 have h0 := ZL (s.data.toList.getD (p + 1) 0).toNat
 have h1 := ZL (s.data.toList.getD (p + 1 + 1) 0).toNat
 have h2 := ZL (s.data.toList.getD (p + 1 + 1 + 1) 0).toNat
 have h3 := ZL (s.data.toList.getD (p + 1 + 1 + 1 + 1) 0).toNat
 unfold Xb.f numU
 rw [w64 (x := (s.size : Int) - p) (by omega) (by omega), getD_drop]
 by_cases a : s.size < p + 5
 ·rw [if_pos (show (s.size : Int) - p < 5 by omega), Xb.j0, if_pos rfl]
  congr 1
  split
  ·unfold digN
   rw [if_pos (by rw [Zbb]; omega)]
  ·rfl
 ·rw [if_neg (show ¬ (s.size : Int) - p < 5 by omega), if_pos (by omega), if_pos (by omega), Xb.j0, byte_bt]
  by_cases b : (s.data.toList.getD p 0).toNat = 117
  ·rw [if_neg (show ¬ ((((s.data.toList.getD p 0).toNat : Nat) : Int) != 117) = true by rw [Zbh]; omega), if_pos b, w64 (x := (p : Int) + 1) (by omega) (by omega)]
   have st : ∀ (k : Nat) (i : Nat) (a : Int), i < p + 5 → 0 ≤ a → a < 65536 → 5 ≤ k → Xb.l0 (k + 1) s (p : Int) a (i : Int) = if hv (s.data.toList.getD i 0).toNat < 0 then some (-1) else Xb.l0 k s (p : Int) (a * 16 + hv (s.data.toList.getD i 0).toNat) ((i + 1 : Nat) : Int) := by
    intro k i a hi ha0 ha1 hk
    obtain ⟨m, rfl⟩ : ∃ m : Nat, a = m := ⟨a.toNat, by omega⟩
    exact Xa1 k s p m i hi (by omega) (by omega) (by omega) hk
   unfold digN
   rw [if_neg (by rw [Zbb]; omega), Ybk, getD_drop, getD_drops, getD_drops, getD_drops, show p + 1 + 2 = p + 1 + 1 + 1 from rfl, show p + 1 + 3 = p + 1 + 1 + 1 + 1 from rfl]
   rw [show (p : Int) + 1 = ((p + 1 : Nat) : Int) by omega, st _ (p + 1) _ (by omega) (by omega) (by omega) (by omega)]
   by_cases d0 : hv (s.data.toList.getD (p + 1) 0).toNat < 0
   ·rw [if_pos d0, if_pos (Or.inl d0)]
   ·rw [if_neg d0, st _ (p + 1 + 1) _ (by omega) (by omega) (by omega) (by omega)]
    by_cases d1 : hv (s.data.toList.getD (p + 1 + 1) 0).toNat < 0
    ·rw [if_pos d1, if_pos (Or.inr (Or.inl d1))]
    ·rw [if_neg d1, st _ (p + 1 + 1 + 1) _ (by omega) (by omega) (by omega) (by omega)]
     by_cases d2 : hv (s.data.toList.getD (p + 1 + 1 + 1) 0).toNat < 0
     ·rw [if_pos d2, if_pos (Or.inr (Or.inr (Or.inl d2)))]
     ·rw [if_neg d2, st _ (p + 1 + 1 + 1 + 1) _ (by omega) (by omega) (by omega) (by omega)]
      by_cases d3 : hv (s.data.toList.getD (p + 1 + 1 + 1 + 1) 0).toNat < 0
      ·rw [if_pos d3, if_pos (Or.inr (Or.inr (Or.inr d3)))]
      ·rw [if_neg d3, if_neg (by omega), Xb.l0]
       rw [w64 (x := (p : Int) + 5) (by omega) (by omega), if_neg (by omega)]
       congr 1
       omega
  ·rw [if_pos (show ((((s.data.toList.getD p 0).toNat : Nat) : Int) != 117) = true by rw [Zbh]; omega), if_neg b]
def escN (l : List UInt8) : Int × Int :=
 if numU (l.drop 1) < 0 ∨ (56320 ≤ numU (l.drop 1) ∧ numU (l.drop 1) ≤ 57343) then (0, 0)
 else if numU (l.drop 1) < 55296 ∨ 57343 < numU (l.drop 1) then (numU (l.drop 1), 6)
 else if l.length < 12 ∨ (l.getD 6 0).toNat ≠ 92 then (0, 0)
 else if numU (l.drop 7) < 56320 ∨ 57343 < numU (l.drop 7) then (0, 0)
 else (65536 + 1024 * (numU (l.drop 1) - 55296) + numU (l.drop 7) - 56320, 12)
theorem Xak (k : Nat) (s : ByteArray) (p : Int) (c b : Nat) (hb : 8 ≤ b ∧ b ≤ 13) (hk : 0 < k) :
  za.l0 (k + 1) s p (c : Int) (b : Int) = if 92 < c ∧ X4 (b : Int) = (c : Int) then some ((b : Int), 2) else za.l0 k s p (c : Int) ((b + 1 : Nat) : Int) := by
 rw [za.l0, if_pos (by omega), w64 (x := (b : Int) + 1) (by omega) (by omega), show ((b : Int) + 1) = ((b + 1 : Nat) : Int) by omega, show (b : Int) % 256 = (b : Int) by omega, short_f k _ hk, Zbf]
 by_cases a : 92 < c
 ·rw [if_pos (by omega)]
  by_cases d : X4 (b : Int) = (c : Int)
  ·rw [if_pos d, if_pos ⟨a, d⟩]
  ·rw [if_neg d, if_neg (fun h => d h.2)]
 ·rw [if_neg (by omega), if_neg (fun h => a h.1)]
theorem loop_none : ∀ c : Nat, c < 256 → Zs c = 0 → ∀ b : Nat, b < 14 → 8 ≤ b → ¬ (92 < c ∧ X4 (b : Int) = (c : Int)) := by decide +kernel
theorem loop_some : ∀ c : Nat, c < 256 → (Zs c = 0) = False → ∀ b : Nat, b < 14 → 8 ≤ b → decide (92 < c ∧ X4 (b : Int) = (c : Int)) = decide (b = (Zs c).toNat) := by
 intro c hc hm b hb h8
 have h : ∀ c : Nat, c < 256 → (decide (Zs c = 0)) = false → ∀ b : Nat, b < 14 → 8 ≤ b → decide (92 < c ∧ X4 (b : Int) = (c : Int)) = decide (b = (Zs c).toNat) := by decide +kernel
 exact h c hc (by simp [hm]) b hb h8
theorem Zaq (l : List UInt8) : -1 ≤ numU l ∧ numU l < 65536 := by
 unfold numU
 split
 ·exact zac _
 ·omega
theorem refN (k : Nat) (s : ByteArray) (p : Nat) (c : Int) (hp : p + 1 < s.size) (hs : s.size ≤ 1073741824) (hk : 20 < k) :
  za.l0 (k + 1) s (p : Int) c 14 = some (escN (s.data.toList.drop p)) := by
 obtain ⟨k, rfl⟩ : ∃ m, k = m + 1 + 1 + 1 := ⟨k - 3, by omega⟩
 have hl : (s.data.toList.drop p).length = s.size - p := by rw [Zbb, data_length]
 have h1 := Zaq (s.data.toList.drop (p + 1))
 have h7 := Zaq (s.data.toList.drop (p + 7))
 rw [za.l0, if_neg (by omega), w64 (x := (p : Int) + 1) (by omega) (by omega), show (p : Int) + 1 = ((p + 1 : Nat) : Int) by omega, xaU _ s (p + 1) (by omega) hs (by omega), Zbf]
 unfold escN
 rw [Ybk, Ybk, getD_drops, hl]
 generalize numU (s.data.toList.drop (p + 1)) = n at h1 ⊢
 have e2 : ∀ b : Bool, (b = true ↔ (n < 0 ∨ (56320 ≤ n ∧ n ≤ 57343))) → za.j2 (k + 1 + 1 + 1) s (p : Int) n b = some (if n < 0 ∨ (56320 ≤ n ∧ n ≤ 57343) then (0, 0) else if n < 55296 ∨ 57343 < n then (n, 6) else if s.size - p < 12 ∨ (s.data.toList.getD (p + 6) 0).toNat ≠ 92 then (0, 0) else if numU (s.data.toList.drop (p + 7)) < 56320 ∨ 57343 < numU (s.data.toList.drop (p + 7)) then (0, 0) else (65536 + 1024 * (n - 55296) + numU (s.data.toList.drop (p + 7)) - 56320, 12)) := by
  intro b hb
  rw [za.j2]
  by_cases a : b = true
  ·rw [if_pos a, if_pos (hb.1 a)]
  ·have a' : ¬ (n < 0 ∨ (56320 ≤ n ∧ n ≤ 57343)) := fun h => a (hb.2 h)
   rw [if_neg a, if_neg a']
   have e3 : ∀ b : Bool, (b = true ↔ (n < 55296 ∨ 57343 < n)) → za.j3 (k + 1 + 1) s (p : Int) n b = some (if n < 55296 ∨ 57343 < n then (n, 6) else if s.size - p < 12 ∨ (s.data.toList.getD (p + 6) 0).toNat ≠ 92 then (0, 0) else if numU (s.data.toList.drop (p + 7)) < 56320 ∨ 57343 < numU (s.data.toList.drop (p + 7)) then (0, 0) else (65536 + 1024 * (n - 55296) + numU (s.data.toList.drop (p + 7)) - 56320, 12)) := by
    intro b hb
    rw [za.j3]
    by_cases c : b = true
    ·rw [if_pos c, if_pos (hb.1 c)]
    ·have c' : ¬ (n < 55296 ∨ 57343 < n) := fun h => c (hb.2 h)
     rw [if_neg c, if_neg c', w64 (x := (s.size : Int) - p) (by omega) (by omega), w64 (x := (p : Int) + 6) (by omega) (by omega)]
     have e4 : ∀ b : Bool, (b = true ↔ (s.size - p < 12 ∨ (s.data.toList.getD (p + 6) 0).toNat ≠ 92)) → za.j4 (k + 1) s (p : Int) n b = some (if s.size - p < 12 ∨ (s.data.toList.getD (p + 6) 0).toNat ≠ 92 then (0, 0) else if numU (s.data.toList.drop (p + 7)) < 56320 ∨ 57343 < numU (s.data.toList.drop (p + 7)) then (0, 0) else (65536 + 1024 * (n - 55296) + numU (s.data.toList.drop (p + 7)) - 56320, 12)) := by
      intro b hb
      rw [za.j4]
      by_cases d : b = true
      ·rw [if_pos d, if_pos (hb.1 d)]
      ·have d' : ¬ (s.size - p < 12 ∨ (s.data.toList.getD (p + 6) 0).toNat ≠ 92) := fun h => d (hb.2 h)
       rw [if_neg d, if_neg d', w64 (x := (p : Int) + 7) (by omega) (by omega), show (p : Int) + 7 = ((p + 7 : Nat) : Int) by omega, xaU _ s (p + 7) (by omega) hs (by omega), Zbf]
       generalize numU (s.data.toList.drop (p + 7)) = m at h7 ⊢
       by_cases f : m < 56320
       ·rw [if_pos f, if_pos (Or.inl f)]
       ·rw [if_neg f]
        by_cases g : 57343 < m
        ·rw [if_pos (show m > 57343 from g), if_pos (Or.inr g)]
        ·rw [if_neg (show ¬ m > 57343 from g), if_neg (show ¬ (m < 56320 ∨ 57343 < m) by omega)]
         rw [w64 (x := n - 55296) (by omega) (by omega), w64 (x := 1024 * (n - 55296)) (by omega) (by omega), w64 (x := 65536 + 1024 * (n - 55296)) (by omega) (by omega), w64 (x := 65536 + 1024 * (n - 55296) + m) (by omega) (by omega), w64 (by omega) (by omega)]
     by_cases g : s.size - p < 12
     ·rw [if_pos (show (s.size : Int) - p < 12 by omega), e4 true (by simp; omega)]
     ·rw [if_neg (show ¬ (s.size : Int) - p < 12 by omega), if_pos (by omega), if_pos (by omega), show (p : Int) + 6 = ((p + 6 : Nat) : Int) by omega, byte_bt, e4 _ (by rw [Zbh]; omega)]
   by_cases c : n < 55296
   ·rw [if_pos c, e3 true (by simp; omega)]
   ·rw [if_neg c, e3 _ (by rw [decide_eq_true_iff]; omega)]
 by_cases a : n < 0
 ·rw [if_pos a, e2 true (by simp; omega)]
 ·rw [if_neg a]
  by_cases d : 56320 ≤ n
  ·rw [if_pos (show n ≥ 56320 from d), e2 _ (by rw [decide_eq_true_iff]; omega)]
  ·rw [if_neg (show ¬ n ≥ 56320 from d), e2 false (by simp; omega)]
def escR (l : List UInt8) : Int × Int :=
 if l.length < 2 then (0, 0)
 else if (l.getD 1 0).toNat = 34 ∨ (l.getD 1 0).toNat = 92 ∨ (l.getD 1 0).toNat = 47 then (((l.getD 1 0).toNat : Int), 2)
 else if Zs (l.getD 1 0).toNat = 0 then escN l else (((Zs (l.getD 1 0).toNat).toNat : Int), 2)
theorem yaJ (n : Nat) (h : Zs n ≠ 0) : 8 ≤ (Zs n).toNat ∧ (Zs n).toNat ≤ 13 := by
 unfold Zs at h ⊢
 repeat' split
 all_goals first | decide | simp_all
theorem refLoop (k : Nat) (s : ByteArray) (p c : Nat) (hc : c < 256) (hp : p + 1 < s.size) (hs : s.size ≤ 1073741824) (hk : 30 < k) :
  za.l0 k s (p : Int) (c : Int) 8 = some (if Zs c = 0 then escN (s.data.toList.drop p) else (((Zs c).toNat : Int), 2)) := by
 obtain ⟨k, rfl⟩ : ∃ m, k = m + 1 + 1 + 1 + 1 + 1 + 1 + 1 := ⟨k - 7, by omega⟩
 by_cases hm : Zs c = 0
 ·rw [if_pos hm]
  have st : ∀ (k b : Nat), b < 14 → 8 ≤ b → 0 < k → za.l0 (k + 1) s (p : Int) (c : Int) (b : Int) = za.l0 k s (p : Int) (c : Int) ((b + 1 : Nat) : Int) := by
   intro k b h1 h2 h3
   rw [Xak k s p c b ⟨h2, by omega⟩ h3, if_neg (loop_none c hc hm b h1 h2)]
  show za.l0 _ s (p : Int) (c : Int) ((8 : Nat) : Int) = _
  rw [st _ 8 (by omega) (by omega) (by omega), st _ 9 (by omega) (by omega) (by omega), st _ 10 (by omega) (by omega) (by omega), st _ 11 (by omega) (by omega) (by omega), st _ 12 (by omega) (by omega) (by omega), st _ 13 (by omega) (by omega) (by omega)]
  exact refN k s p c hp hs (by omega)
 ·rw [if_neg hm]
  have hb := yaJ c hm
  have st : ∀ (k b : Nat), b < 14 → 8 ≤ b → 0 < k → za.l0 (k + 1) s (p : Int) (c : Int) (b : Int) = if b = (Zs c).toNat then some ((b : Int), 2) else za.l0 k s (p : Int) (c : Int) ((b + 1 : Nat) : Int) := by
   intro k b h1 h2 h3
   have := loop_some c hc (eq_false hm) b h1 h2
   rw [decide_eq_decide] at this
   rw [Xak k s p c b ⟨h2, by omega⟩ h3]
   by_cases e : b = (Zs c).toNat
   ·rw [if_pos e, if_pos (this.2 e)]
   ·rw [if_neg e, if_neg (fun h => e (this.1 h))]
  show za.l0 _ s (p : Int) (c : Int) ((8 : Nat) : Int) = _
  generalize (Zs c).toNat = m at hb st ⊢
  rw [st _ 8 (by omega) (by omega) (by omega), st _ 9 (by omega) (by omega) (by omega), st _ 10 (by omega) (by omega) (by omega), st _ 11 (by omega) (by omega) (by omega), st _ 12 (by omega) (by omega) (by omega), st _ 13 (by omega) (by omega) (by omega)]
  repeat' split
  all_goals first | (subst_vars; rfl) | omega
theorem refEscape (k : Nat) (s : ByteArray) (p : Nat) (hp : p < s.size) (hs : s.size ≤ 1073741824) (hk : 31 < k) : za.f k s (p : Int) = some (escR (s.data.toList.drop p)) := by
 obtain ⟨k, rfl⟩ : ∃ m, k = m + 1 := ⟨k - 1, by omega⟩
 have hl : (s.data.toList.drop p).length = s.size - p := by rw [Zbb, data_length]
 have hn := UInt8.toNat_lt (s.data.toList.getD (p + 1) 0)
 unfold za.f escR
 rw [w64 (x := (p : Int) + 1) (by omega) (by omega), show (p : Int) + 1 = ((p + 1 : Nat) : Int) by omega, hl, getD_drops, byte_bt]
 by_cases a : s.size ≤ p + 1
 ·rw [if_pos (show ((p + 1 : Nat) : Int) ≥ (s.size : Int) by omega), if_pos (by omega)]
 ·rw [if_neg (show ¬ ((p + 1 : Nat) : Int) ≥ (s.size : Int) by omega), if_pos (by omega), if_pos (by omega)]
  have hlp := fun k hk => refLoop k s p (s.data.toList.getD (p + 1) 0).toNat hn (by omega) hs hk
  generalize (s.data.toList.getD (p + 1) 0).toNat = c at hn hlp ⊢
  have e0 : ∀ b : Bool, (b = true ↔ (c = 34 ∨ c = 92 ∨ c = 47)) → za.j0 (k + 1) s (p : Int) (c : Int) b = some (if s.size - p < 2 then (0, 0) else if c = 34 ∨ c = 92 ∨ c = 47 then ((c : Int), 2) else if Zs c = 0 then escN (s.data.toList.drop p) else (((Zs c).toNat : Int), 2)) := by
   intro b hb
   rw [za.j0, if_neg (show ¬ s.size - p < 2 by omega)]
   by_cases d : b = true
   ·rw [if_pos d, if_pos (hb.1 d), w64 (by omega) (by omega)]
   ·rw [if_neg d, if_neg (fun h => d (hb.2 h)), hlp k (by omega)]
  by_cases d : c = 34
  ·rw [if_pos (by omega), e0 true (by simp; omega)]
  ·rw [if_neg (by omega)]
   by_cases e : c = 92
   ·rw [if_pos (by omega), e0 true (by simp; omega)]
   ·rw [if_neg (by omega), e0 _ (by rw [Ybf]; omega)]
theorem Y8 (n : Nat) (h : n < 128) : enc (n : Int) = [n.toUInt8] ∧ Xm (n : Int) = true := by
 constructor
 ·unfold enc Lib.encodeRune
  rw [Lib.encodeRuneZ, if_pos (by omega)]
  simp
 ·rw [Xv]; omega
def ofR (r : Int × Int) : List UInt8 × Int × Int := if r.2 = 0 then ([], 0, 73) else (enc r.1, r.2, 0)
theorem escN_u (l : List UInt8) (h : (l.getD 1 0).toNat = 117) (hl : 2 ≤ l.length) : ofR (escN l) = if Xm (numL (l.drop 2)).1 = true then (enc (numL (l.drop 2)).1, 2 + (numL (l.drop 2)).2, 0) else ([], 0, 73) := by
 have hd := zac (l.drop 2)
 have hd8 := zac (l.drop 8)
 have h8 := yaz (l.drop 8)
 rw [Zbb] at h8
 have e1 : numU (l.drop 1) = digN (l.drop 2) := by unfold numU; rw [getD_drops, if_pos h, Ybk]
 have e7 : numU (l.drop 7) = if (l.getD 7 0).toNat = 117 then digN (l.drop 8) else -1 := by unfold numU; rw [getD_drop, Ybk]
 unfold escN numL
 rw [e1, e7, getD_drops, getD_drops, Ybk, Zbb]
 generalize digN (l.drop 2) = n at hd ⊢
 generalize digN (l.drop 8) = m at hd8 h8 ⊢
 have no : ∀ x : Int, ¬ (0 ≤ x ∧ x ≤ 1114111 ∧ (x < 55296 ∨ 57343 < x)) → ¬ Xm x = true := fun x hx h => hx ((Xv x).1 h)
 have yes : ∀ x : Int, (0 ≤ x ∧ x ≤ 1114111 ∧ (x < 55296 ∨ 57343 < x)) → Xm x = true := fun x hx => (Xv x).2 hx
 by_cases a : n < 0
 ·rw [if_pos (show n < 0 ∨ (56320 ≤ n ∧ n ≤ 57343) by omega), if_pos (show n < 55296 ∨ 57344 ≤ n by omega), if_neg (no _ (by simp only; omega))]; rfl
 ·by_cases b : n < 55296 ∨ 57344 ≤ n
  ·rw [if_neg (show ¬ (n < 0 ∨ (56320 ≤ n ∧ n ≤ 57343)) by omega), if_pos (show n < 55296 ∨ 57343 < n by omega), if_pos b, if_pos (yes _ (by simp only; omega))]; rfl
  ·rw [if_neg b]
   by_cases c : 56320 ≤ n
   ·rw [if_pos (show n < 0 ∨ (56320 ≤ n ∧ n ≤ 57343) by omega), if_pos (Or.inl c), if_neg (no _ (by simp only; omega))]; rfl
   ·rw [if_neg (show ¬ (n < 0 ∨ (56320 ≤ n ∧ n ≤ 57343)) by omega), if_neg (show ¬ (n < 55296 ∨ 57343 < n) by omega)]
    by_cases d : l.length - 2 < 6 ∨ (l.getD (2 + 4) 0).toNat ≠ 92 ∨ (l.getD (2 + 5) 0).toNat ≠ 117
    ·rw [if_pos (Or.inr d), if_neg (no (-1) (by omega))]
     by_cases e : l.length < 12 ∨ (l.getD 6 0).toNat ≠ 92
     ·rw [if_pos e]; rfl
     ·rw [if_neg e]
      have f : ¬ (l.getD 7 0).toNat = 117 := by intro f; rcases d with d | d | d; omega; exact e (Or.inr d); exact d f
      rw [if_neg f, if_pos (by omega)]; rfl
    ·have d6 : (l.getD 6 0).toNat = 92 := by have : ¬ (l.getD (2 + 4) 0).toNat ≠ 92 := fun h => d (Or.inr (Or.inl h)); exact Decidable.not_not.1 this
     have d7 : (l.getD 7 0).toNat = 117 := by have : ¬ (l.getD (2 + 5) 0).toNat ≠ 117 := fun h => d (Or.inr (Or.inr h)); exact Decidable.not_not.1 this
     have d8 : ¬ l.length - 2 < 6 := fun h => d (Or.inl h)
     rw [if_neg (show ¬ (56320 ≤ n ∨ l.length - 2 < 6 ∨ (l.getD (2 + 4) 0).toNat ≠ 92 ∨ (l.getD (2 + 5) 0).toNat ≠ 117) from fun h => h.elim c d), if_pos d7]
     by_cases e : m < 56320 ∨ 57344 ≤ m
     ·rw [show (if m < 56320 ∨ 57343 < m then ((0 : Int), (0 : Int)) else (65536 + 1024 * (n - 55296) + m - 56320, 12)) = (0, 0) from if_pos (by omega), if_pos e, if_neg (no (-1) (by omega))]
      split <;> rfl
     ·have h12 := h8 (by omega)
      rw [if_neg (show ¬ (l.length < 12 ∨ (l.getD 6 0).toNat ≠ 92) by omega), if_neg (show ¬ (m < 56320 ∨ 57343 < m) by omega), if_neg e, if_pos (yes _ (by simp only; omega))]
      unfold ofR
      rw [if_neg (show ¬ (12 : Int) = 0 by decide)]
      simp only
      rw [show 65536 + 1024 * (n - 55296) + m - 56320 = 65536 + (n - 55296) * 1024 + m - 56320 by omega]
      rfl
theorem escR_L (l : List UInt8) : ofR (escR l) = escL l := by
 unfold escR escL
 by_cases a : l.length < 2
 ·rw [if_pos a, if_pos a]; rfl
 ·rw [if_neg a, if_neg a]
  by_cases b : (l.getD 1 0).toNat = 34 ∨ (l.getD 1 0).toNat = 92 ∨ (l.getD 1 0).toNat = 47
  ·have hm : ¬ Zs (l.getD 1 0).toNat ≠ 0 := by
    rcases b with b | b | b <;> rw [b] <;> decide
   rw [if_pos b, if_neg hm, if_pos b]
   unfold ofR
   rw [if_neg (show ¬ (2 : Int) = 0 by decide)]
   simp only
   rw [(Y8 _ (by omega)).1]
   simp
  ·rw [if_neg b]
   by_cases c : Zs (l.getD 1 0).toNat = 0
   ·rw [if_pos c, if_neg (fun h => h c), if_neg b]
    by_cases d : (l.getD 1 0).toNat = 117
    ·rw [if_pos d, escN_u l d (by omega)]
    ·rw [if_neg d]
     have e1 : numU (l.drop 1) = -1 := by unfold numU; rw [getD_drops, if_neg d]
     unfold escN
     rw [e1, if_pos (by omega)]; rfl
   ·rw [if_neg c, if_pos c]
    have hb := yaJ _ c
    unfold ofR
    rw [if_neg (show ¬ (2 : Int) = 0 by decide)]
    simp only
    rw [(Y8 _ (by omega)).1]
    simp
theorem zav (l : List UInt8) (h : (escR l).2 ≠ 0) : Xm (escR l).1 = true := by
 have h1 := Zaq (l.drop 1)
 have h7 := Zaq (l.drop 7)
 unfold escR at h ⊢
 split
 ·rename_i a; rw [if_pos a] at h; exact absurd rfl h
 ·rename_i a
  rw [if_neg a] at h
  split
  ·exact (Y8 _ (by omega)).2
  ·rename_i b
   rw [if_neg b] at h
   split
   ·rename_i c
    rw [if_pos c] at h
    unfold escN at h ⊢
    generalize numU (l.drop 1) = n at h1 h ⊢
    generalize numU (l.drop 7) = m at h7 h ⊢
    rw [Xv]
    split
    ·rename_i d; rw [if_pos d] at h; exact absurd rfl h
    ·rename_i d
     rw [if_neg d] at h
     split
     ·simp only; omega
     ·rename_i e
      rw [if_neg e] at h
      split
      ·rename_i f; rw [if_pos f] at h; exact absurd rfl h
      ·rename_i f
       rw [if_neg f] at h
       split
       ·rename_i g; rw [if_pos g] at h; exact absurd rfl h
       ·simp only; omega
   ·rename_i c
    have hb := yaJ _ c
    exact (Y8 _ (by omega)).2
theorem refPiece (k : Nat) (s : ByteArray) (p : Nat) (hp : p < s.size) (hs : s.size ≤ 1073741824) (hk : 31 < k) (h32 : ¬ (s.data.toList.getD p 0).toNat < 32) :
  Xn.f k s (p : Int) = some (XO (oneL (s.data.toList.drop p))) := by
 have hl : (s.data.toList.drop p).length = s.size - p := by rw [Zbb, data_length]
 unfold Xn.f oneL
 rw [if_neg (show ¬ (p : Int) ≥ (s.size : Int) by omega), if_pos (by omega), if_pos (by omega), byte_bt, if_neg (by omega), getD_drop]
 by_cases c : (s.data.toList.getD p 0).toNat = 92
 ·rw [if_pos (by omega), if_pos c, refEscape k s p hp hs hk, Zbf, ← escR_L]
  by_cases d : (escR (s.data.toList.drop p)).2 = 0
  ·rw [if_pos d]; unfold ofR; rw [if_pos d]; rfl
  ·rw [if_neg d, refPut, Zbf]; unfold ofR; rw [if_neg d]
   have hL := zav _ d
   unfold putS
   rw [if_pos hL]; rfl
 ·rw [if_neg (by omega), if_neg c, if_pos (by omega), Ybd, refTake k _ (by omega), refTakeS_eq, Zbf]
  unfold zaq yQ
  rw [extract_drop]
  cases ht : tk (s.data.toList.drop p) with
  | none => rfl
  | some d =>
   obtain ⟨r, n⟩ := d
   obtain ⟨_, _, h1, h2⟩ := yS ht
   simp only
   rw [if_pos trivial, w64 (x := (p : Int) + n) (by omega) (by omega), if_pos (by omega), if_pos (by omega)]
   congr 1
   unfold XO
   simp only
   congr 1
   apply xA
   rw [zbo, zbp, show ((p : Int) + n).toNat = p + n by omega]
   simp
theorem ZaC (s : ByteArray) (hs : s.size ≤ 1073741824) : ∀ (n k : Nat) (o : ByteArray) (p : Nat) (r : List UInt8 × Int × Int), Xy n (s.data.toList.drop p) = some r → p ≤ s.size → 2 * n + 40 < k → o.size + 4 * n ≤ 140737488355328 →
  Zc.l0 k s o (p : Int) = some (endR o p r)
 | 0, k, o, p, r, h, hp, hk, ho => by simp [Xy] at h
 | n + 1, k, o, p, r, h, hp, hk, ho => by
  obtain ⟨k, rfl⟩ : ∃ m, k = m + 1 + 1 := ⟨k - 2, by omega⟩
  have hl : (s.data.toList.drop p).length = s.size - p := by rw [Zbb, data_length]
  rw [Xy] at h
  rw [Zc.l0]
  by_cases e1 : p = s.size
  ·have e : s.data.toList.drop p = [] := xbg (by omega)
   rw [if_pos e] at h
   rw [if_pos (show (p : Int) ≥ (s.size : Int) by omega), Zc.j2, if_pos rfl]
   unfold Xn.f
   rw [if_pos (show (p : Int) ≥ (s.size : Int) by omega), Zbf]
   cases h; rfl
  ·have e : s.data.toList.drop p ≠ [] := fun e => by rw [e] at hl; simp at hl; omega
   rw [if_neg e] at h
   rw [if_neg (show ¬ (p : Int) ≥ (s.size : Int) by omega), if_pos (by omega), if_pos (by omega), byte_bt, Zc.j2]
   rw [getD_drop] at h
   by_cases e2 : (s.data.toList.getD p 0).toNat = 34
   ·rw [if_pos e2] at h
    rw [if_neg (show ¬ ((((s.data.toList.getD p 0).toNat : Nat) : Int) != 34) = true by rw [Zbh]; omega), w64 (by omega) (by omega)]
    cases h
    unfold endR
    rw [if_pos rfl]
    congr 2
    apply xA
    rw [Ybq, Array.toList_append]; simp
   ·rw [if_neg e2] at h
    rw [if_pos (show ((((s.data.toList.getD p 0).toNat : Nat) : Int) != 34) = true by rw [Zbh]; omega)]
    by_cases e3 : (s.data.toList.getD p 0).toNat < 32
    ·rw [if_pos e3] at h
     unfold Xn.f
     rw [if_neg (show ¬ (p : Int) ≥ (s.size : Int) by omega), if_pos (by omega), if_pos (by omega), byte_bt, if_pos (by omega), Zbf]
     cases h; rfl
    ·rw [if_neg e3] at h
     rw [refPiece k s p (by omega) hs (by omega) e3, Zbf]
     by_cases e4 : (oneL (s.data.toList.drop p)).2.2 = 0
     ·rw [if_pos e4] at h
      obtain ⟨q, hq, hr⟩ := xbh.1 h
      obtain ⟨b1, b2, b3⟩ := yaC _ e4
      unfold XO
      simp only
      have hsz : (⟨(oneL (s.data.toList.drop p)).1.toArray⟩ : ByteArray).size ≤ 4 := by
       show ((oneL (s.data.toList.drop p)).1.toArray).size ≤ 4
       rw [Ybo]; exact b3
      rw [if_pos e4, if_pos (by omega), w64 (by omega) (by omega)]
      rw [Ybk] at hq
      rw [show (p : Int) + (oneL (s.data.toList.drop p)).2.1 = ((p + (oneL (s.data.toList.drop p)).2.1.toNat : Nat) : Int) by omega]
      rw [ZaC s hs n k _ _ q hq (by omega) (by omega) (by rw [Xbt]; omega)]
      congr 1
      subst hr
      unfold endR
      by_cases e5 : q.2.2 = 0
      ·rw [if_pos e5, if_pos e5, if_pos rfl]
       simp only [Prod.mk.injEq, and_true]
       refine ⟨?_, by omega⟩
       apply xA
       simp [Ybq, Array.toList_append]
      ·rw [if_neg e5, if_neg e5, if_neg e5]
     ·rw [if_neg e4] at h
      unfold XO
      simp only
      rw [if_neg e4]
      cases h
      unfold endR
      rw [if_neg e4]
theorem refRead_S (n k : Nat) (s : ByteArray) (r : ByteArray × Int × Int) (h : xaq n s = some r) (hk : 2 * n + 42 < k) (hn : 4 * n ≤ 140737488355328) (hs : s.size ≤ 1073741824) : Zc.f k s = some r := by
 obtain ⟨k, rfl⟩ : ∃ m, k = m + 1 := ⟨k - 1, by omega⟩
 unfold xaq at h
 unfold Zc.f
 by_cases e1 : s.size = 0
 ·rw [if_pos e1] at h
  rw [if_pos (by omega), Zc.j0, if_pos rfl]; exact h
 ·rw [if_neg e1] at h
  rw [if_neg (by omega), if_pos (by omega), show (0 : Int) = ((0 : Nat) : Int) from rfl, byte_bt, Zc.j0]
  by_cases e2 : (s.data.toList.getD 0 0).toNat = 34
  ·rw [if_pos e2] at h
   rw [if_neg (show ¬ ((((s.data.toList.getD 0 0).toNat : Nat) : Int) != 34) = true by rw [Zbh]; omega)]
   obtain ⟨q, hq, hr⟩ := xbh.1 h
   rw [show (1 : Int) = ((1 : Nat) : Int) from rfl, ZaC s hs n k ⟨#[]⟩ 1 q hq (by omega) (by omega) (by show 0 + _ ≤ _; omega), hr]
  ·rw [if_neg e2] at h
   rw [if_pos (show ((((s.data.toList.getD 0 0).toNat : Nat) : Int) != 34) = true by rw [Zbh]; omega)]
   exact h
theorem one_enc (l : List UInt8) (h : (oneL l).2.2 = 0) : ∃ r : Int, Xm r = true ∧ (oneL l).1 = enc r := by
 unfold oneL at h ⊢
 split
 ·rename_i c
  rw [if_pos c, ← escR_L] at h
  rw [← escR_L]
  unfold ofR at h ⊢
  by_cases d : (escR l).2 = 0
  ·rw [if_pos d] at h; simp at h
  ·rw [if_neg d]
   exact ⟨_, zav l d, rfl⟩
 ·rename_i c
  rw [if_neg c] at h
  unfold yQ at h ⊢
  cases ht : tk l with
  | none => rw [ht] at h; simp at h
  | some d =>
   obtain ⟨r, n⟩ := d
   obtain ⟨hl, he, h1, h2⟩ := yS ht
   exact ⟨r, hl, he.symm⟩
theorem ZU : ∀ (n : Nat) (l : List UInt8) (r : List UInt8 × Int × Int), Xy n l = some r → r.2.2 = 0 → 1 ≤ r.2.1 ∧ r.2.1 ≤ l.length ∧ ∃ xs : List Int, (∀ x ∈ xs, Xm x = true) ∧ r.1 = encs xs
 | 0, l, r, h, he => by simp [Xy] at h
 | n + 1, l, r, h, he => by
  rw [Xy] at h
  by_cases e1 : l = []
  ·rw [if_pos e1] at h; cases h; simp at he
  ·rw [if_neg e1] at h
   have hlen : 1 ≤ l.length := by cases l with | nil => exact absurd rfl e1 | cons => simp
   by_cases e2 : (l.getD 0 0).toNat = 34
   ·rw [if_pos e2] at h; cases h
    exact ⟨by simp, by simp only; omega, [], by simp, rfl⟩
   ·rw [if_neg e2] at h
    by_cases e3 : (l.getD 0 0).toNat < 32
    ·rw [if_pos e3] at h; cases h; simp at he
    ·rw [if_neg e3] at h
     by_cases e4 : (oneL l).2.2 = 0
     ·rw [if_pos e4] at h
      obtain ⟨q, hq, hr⟩ := xbh.1 h
      obtain ⟨b1, b2, _⟩ := yaC l e4
      by_cases e5 : q.2.2 = 0
      ·rw [if_pos e5] at hr
       obtain ⟨c1, c2, xs, c3, c4⟩ := ZU n _ q hq e5
       obtain ⟨x, d1, d2⟩ := one_enc l e4
       rw [Zbb] at c2
       subst hr
       refine ⟨by simp only; omega, by simp only; omega, x :: xs, ?_, ?_⟩
       ·intro y hy
        rcases zbr.1 hy with rfl | hy
        ·exact d1
        ·exact c3 y hy
       ·simp only
        rw [d2, c4, encs]
      ·rw [if_neg e5] at hr
       subst hr
       exact absurd he e5
     ·rw [if_neg e4] at h
      cases h
      exact absurd he e4
theorem ZaU : ∀ c : Nat, c < 256 → ((yN c).getD 0 0).toNat ≠ 34 ∧ 32 ≤ ((yN c).getD 0 0).toNat ∧ 1 ≤ (yN c).length := by decide +kernel
theorem numL_pos (l : List UInt8) (h : Xm (numL l).1 = true) : 4 ≤ (numL l).2 := by
 obtain ⟨h0, _, _⟩ := (Xv _).1 h
 unfold numL at h0 ⊢
 split
 ·simp
 ·rename_i c
  rw [if_neg c] at h0
  split
  ·rename_i d; rw [if_pos d] at h0; simp at h0
  ·rename_i d
   rw [if_neg d] at h0
   split
   ·rename_i e; rw [if_pos e] at h0; simp at h0
   ·simp
theorem one_le (l : List UInt8) (h : (oneL l).2.2 = 0) : ((oneL l).1.length : Int) ≤ (oneL l).2.1 := by
 unfold oneL at h ⊢
 split
 ·rename_i c
  rw [if_pos c] at h
  unfold escL at h ⊢
  by_cases a : l.length < 2
  ·rw [if_pos a] at h; simp at h
  ·rw [if_neg a] at h ⊢
   by_cases b : Zs (l.getD 1 0).toNat ≠ 0
   ·rw [if_pos b]; simp
   ·rw [if_neg b] at h ⊢
    by_cases d : (l.getD 1 0).toNat = 34 ∨ (l.getD 1 0).toNat = 92 ∨ (l.getD 1 0).toNat = 47
    ·rw [if_pos d]; simp
    ·rw [if_neg d] at h ⊢
     by_cases e : (l.getD 1 0).toNat = 117
     ·rw [if_pos e] at h ⊢
      by_cases f : Xm (numL (l.drop 2)).1 = true
      ·rw [if_pos f]
       have h4 := Xay (numL (l.drop 2)).1
       have h5 := numL_pos _ f
       simp only; omega
      ·rw [if_neg f] at h; simp at h
     ·rw [if_neg e] at h; simp at h
 ·rename_i c
  rw [if_neg c] at h
  unfold yQ at h ⊢
  cases ht : tk l with
  | none => rw [ht] at h; simp at h
  | some d =>
   obtain ⟨r, n⟩ := d
   simp only
   rw [ybc]
   omega
theorem YaU (s : ByteArray) : ∀ (n k : Nat) (o : ByteArray) (p : Nat) (r : List UInt8 × Int × Int), Xy n (s.data.toList.drop p) = some r → p ≤ s.size → n + 10 < k → o.size + (s.size - p) ≤ 140737488355328 →
  Zj.l0 k s o p = some (endR o p r)
 | 0, k, o, p, r, h, hp, hk, ho => by simp [Xy] at h
 | n + 1, k, o, p, r, h, hp, hk, ho => by
  obtain ⟨k, rfl⟩ : ∃ m, k = m + 1 := ⟨k - 1, by omega⟩
  have hl : (s.data.toList.drop p).length = s.size - p := by rw [Zbb, data_length]
  rw [Xy] at h
  rw [Zj.l0]
  by_cases e1 : p = s.size
  ·have e : s.data.toList.drop p = [] := xbg (by omega)
   rw [if_pos e] at h
   rw [if_pos e1]
   cases h; rfl
  ·have e : s.data.toList.drop p ≠ [] := fun e => by rw [e] at hl; simp at hl; omega
   rw [if_neg e] at h
   rw [if_neg e1, if_neg (by omega), byte_bt]
   rw [getD_drop] at h
   by_cases e2 : (s.data.toList.getD p 0).toNat = 34
   ·rw [if_pos e2] at h
    rw [if_pos (by omega)]
    cases h
    unfold endR
    rw [if_pos rfl]
    congr 2
    apply xA
    rw [Ybq, Array.toList_append]; simp
   ·rw [if_neg e2] at h
    rw [if_neg (by omega)]
    by_cases e3 : (s.data.toList.getD p 0).toNat < 32
    ·rw [if_pos e3] at h
     rw [if_pos (by omega)]
     cases h; rfl
    ·rw [if_neg e3] at h
     rw [if_neg (by omega), read_one k s p (by omega), Zbf]
     by_cases e4 : (oneL (s.data.toList.drop p)).2.2 = 0
     ·rw [if_pos e4] at h
      obtain ⟨q, hq, hr⟩ := xbh.1 h
      obtain ⟨b1, b2, b3⟩ := yaC _ e4
      have b4 := one_le _ e4
      unfold XO
      simp only
      have hsz : (⟨(oneL (s.data.toList.drop p)).1.toArray⟩ : ByteArray).size = (oneL (s.data.toList.drop p)).1.length := by
       show ((oneL (s.data.toList.drop p)).1.toArray).size = _
       rw [Ybo]
      rw [if_pos e4, if_pos (by omega), if_pos (by omega), if_pos (by omega)]
      rw [Ybk] at hq
      rw [YaU s n k _ _ q hq (by omega) (by omega) (by rw [Xbt]; omega)]
      congr 1
      subst hr
      unfold endR
      by_cases e5 : q.2.2 = 0
      ·rw [if_pos e5, if_pos e5, if_pos rfl]
       simp only [Prod.mk.injEq, and_true]
       refine ⟨?_, by omega⟩
       apply xA
       simp [Ybq, Array.toList_append]
      ·rw [if_neg e5, if_neg e5, if_neg e5]
     ·rw [if_neg e4] at h
      unfold XO
      simp only
      rw [if_neg e4]
      cases h
      unfold endR
      rw [if_neg e4]
theorem xaz (k : Nat) (s : ByteArray) (hk : s.size + 20 < k) (hs : s.size ≤ 140737488355328) : ∃ r, xaq (s.size + 1) s = some r ∧ Zj.f k s = some r := by
 unfold xaq Zj.f
 rw [if_pos (show s.size ≤ 4611686018427387904 by omega)]
 by_cases e1 : s.size = 0
 ·rw [if_pos e1]; exact ⟨_, rfl, if_pos e1⟩
 ·rw [if_neg e1]
  have hb : bt s 0 = (((s.data.toList.getD 0 0).toNat : Nat) : Int) := byte_bt s 0
  rw [hb]
  by_cases e2 : (s.data.toList.getD 0 0).toNat = 34
  ·obtain ⟨q, hq⟩ := xaC (s.size + 1) (s.data.toList.drop 1) (by rw [Zbb, data_length]; omega)
   rw [if_pos e2, if_pos (show (((s.data.toList.getD 0 0).toNat : Nat) : Int) = 34 by omega), hq, YaU s (s.size + 1) k ⟨#[]⟩ 1 q hq (by omega) (by omega) (by show 0 + _ ≤ _; omega)]
   exact ⟨_, rfl, if_neg e1⟩
  ·rw [if_neg e2, if_neg (show ¬ (((s.data.toList.getD 0 0).toNat : Nat) : Int) = 34 by omega)]
   exact ⟨_, rfl, if_neg e1⟩
theorem zaf (l : List UInt8) : (YG l).length = (inner l).length + 2 := by
 unfold YG; simp
theorem YaC (s : ByteArray) : (inner s.data.toList).length ≤ 6 * s.size := by
 have := Z8 s.data.toList
 rw [data_length] at this; exact this
end Go.Proofs.NGiv
namespace Go.Proofs.NGiv
open Go.RowKit Go.Proofs.Wa Go.Proofs.Wb Go.Proofs.Wc
open Go.Proofs.NU1 Go.Proofs.NQ1 Go.Proofs.NJ0 Go.Proofs.NJ1
abbrev B := List UInt8
def sk (l : B) : B := l.drop (skips l)
def hd (l : B) : Nat := ((sk l).getD 0 0).toNat
def tk1 (l : B) (c : Nat) : Bool × B := if hd l = c ∧ sk l ≠ [] then (true, (sk l).drop 1) else (false, sk l)
def rq (l : B) : B × B × Int := match Xy (l.length + 1) (l.drop 1) with
 | some q => if q.2.2 = 0 then (q.1, l.drop (q.2.1.toNat + 1), 0) else ([], [], q.2.2)
 | none => ([], [], 71)
def rn (t : B) : Int × Bool := Yu ⟨t.toArray⟩
def row (d : Nat) (k : Int) (key t : ByteArray) (n : Int) : S40 := ⟨(d : Int), k, key, t, n⟩
def e0 : ByteArray := ⟨#[]⟩
def en (ob : Bool) : Nat := if ob then 125 else 93
def pk (l : B) (keys : List ByteArray) : ByteArray × B × Int :=
 if hd l = 34 then (if (rq (sk l)).2.2 = 0 then (if hasB ⟨(rq (sk l)).1.toArray⟩ keys = true then (e0, [], 82) else if (tk1 (rq (sk l)).2.1 58).1 = true then (⟨(rq (sk l)).1.toArray⟩, (tk1 (rq (sk l)).2.1 58).2, 0) else (e0, [], 80)) else (e0, [], (rq (sk l)).2.2))
 else (e0, [], 80)
def wd (l : B) (d : Nat) (key : ByteArray) : Int × B × List S40 :=
 if [110, 117, 108, 108] <+: l then (0, l.drop 4, [row d 1 key e0 0])
 else if [102, 97, 108, 115, 101] <+: l then (0, l.drop 5, [row d 2 key e0 0])
 else if [116, 114, 117, 101] <+: l then (0, l.drop 4, [row d 3 key e0 0])
 else (80, [], [])
def cont (L : B → Int × B × List S40) (l : B) (ob : Bool) : Int × B × List S40 :=
 if (tk1 l (en ob)).1 = true then (0, (tk1 l (en ob)).2, []) else if (tk1 (tk1 l (en ob)).2 44).1 = true then L (tk1 (tk1 l (en ob)).2 44).2 else (80, [], [])
def pma (L : B → Int × B × List S40) (V : Int × B × List S40) (ob : Bool) : Int × B × List S40 :=
 if V.1 = 0 then ((cont L V.2.1 ob).1, (cont L V.2.1 ob).2.1, V.2.2 ++ (cont L V.2.1 ob).2.2) else (V.1, [], [])
def ZC (ob : Bool) : Int := if ob then 7 else 6
mutual
def pv : Nat → B → Nat → ByteArray → Int × B × List S40
 | 0, _, _, _ => (-1, [], [])
 | n + 1, l, d, key =>
  if hd l = 91 then (if 64 ≤ d then (81, [], []) else ((pms n ((sk l).drop 1) d false).1, (pms n ((sk l).drop 1) d false).2.1, row d 6 key e0 0 :: (pms n ((sk l).drop 1) d false).2.2))
  else if hd l = 123 then (if 64 ≤ d then (81, [], []) else ((pms n ((sk l).drop 1) d true).1, (pms n ((sk l).drop 1) d true).2.1, row d 7 key e0 0 :: (pms n ((sk l).drop 1) d true).2.2))
  else if hd l = 34 then (if (rq (sk l)).2.2 = 0 then (0, (rq (sk l)).2.1, [row d 5 key ⟨(rq (sk l)).1.toArray⟩ 0]) else ((rq (sk l)).2.2, [], []))
  else if hd l = 45 ∨ (48 ≤ hd l ∧ hd l ≤ 57) then (if (rn ((sk l).take (numsL (sk l)))).2 = true then (0, (sk l).drop (numsL (sk l)), [row d 4 key e0 (rn ((sk l).take (numsL (sk l)))).1]) else (83, [], []))
  else wd (sk l) d key
def pms : Nat → B → Nat → Bool → Int × B × List S40
 | 0, _, _, _ => (-1, [], [])
 | n + 1, l, d, ob => if (tk1 l (en ob)).1 = true then (0, (tk1 l (en ob)).2, []) else pml n (tk1 l (en ob)).2 d ob []
def pml : Nat → B → Nat → Bool → List ByteArray → Int × B × List S40
 | 0, _, _, _, _ => (-1, [], [])
 | n + 1, l, d, ob, keys =>
  if ob = true then (if (pk l keys).2.2 = 0 then pma (fun x => pml n x d ob (keys ++ [(pk l keys).1])) (pv n (pk l keys).2.1 (d + 1) (pk l keys).1) ob else ((pk l keys).2.2, [], []))
  else pma (fun x => pml n x d ob keys) (pv n l (d + 1) e0) ob
end
theorem Yaq (s : ByteArray) (p : Nat) (l : B) (h : s.data.toList.drop p = l) (hp : p ≤ s.size) : s.data.toList.drop (Zb s p) = sk l ∧ zd s p = hd l ∧ Zb s p ≤ s.size ∧ (Zb s p < s.size ↔ sk l ≠ []) := by
 have h1 : s.data.toList.drop (Zb s p) = sk l := by
  unfold Zb sk
  rw [← Ybk, h]
 have h2 := Xu s p hp
 refine ⟨h1, ?_, h2, ?_⟩
 ·unfold zd hd
  rw [← h1, getD_drops]; rfl
 ·rw [← h1]
  constructor
  ·intro hlt e
   have := congrArg List.length e
   rw [Zbb, data_length] at this
   simp at this; omega
  ·intro hne
   by_cases c : Zb s p < s.size
   ·exact c
   ·exact absurd (xbp (by rw [data_length]; omega)) hne
theorem X8 (s : ByteArray) (p : Nat) (l : B) (c : Nat) (h : s.data.toList.drop p = l) (hp : p ≤ s.size) : (Xi s p c).1 = (tk1 l c).1 ∧ s.data.toList.drop (Xi s p c).2 = (tk1 l c).2 ∧ (Xi s p c).2 ≤ s.size := by
 obtain ⟨h1, h2, h3, h4⟩ := Yaq s p l h hp
 refine ⟨?_, ?_, zH s p c hp⟩
 ·unfold Xi tk1
  rw [h2]
  by_cases c1 : hd l = c ∧ sk l ≠ []
  ·rw [if_pos c1, if_pos ⟨c1.1, h4.2 c1.2⟩]
  ·rw [if_neg c1, if_neg (fun x => c1 ⟨x.1, h4.1 x.2⟩)]
 ·unfold Xi tk1
  rw [h2]
  by_cases c1 : hd l = c ∧ sk l ≠ []
  ·rw [if_pos c1, if_pos ⟨c1.1, h4.2 c1.2⟩, ← h1, Ybk]
  ·rw [if_neg c1, if_neg (fun x => c1 ⟨x.1, h4.1 x.2⟩)]; exact h1
theorem XaU (s : ByteArray) (p : Nat) : (s.extract p s.size).data.toList = s.data.toList.drop p := by
 rw [zbo, zbp]
 simp
 rw [Zbj (by rw [Zbb, data_length]; exact Xbc _)]
theorem rq_sim (s : ByteArray) (q : Nat) (l : B) (h : s.data.toList.drop q = l) (hq : q ≤ s.size) (hs : s.size ≤ 140737488355328) (h34 : (l.getD 0 0).toNat = 34) (k : Nat) (hk : s.size + 20 < k) :
  ∃ r, Zj.f k (s.extract q s.size) = some r ∧ r.2.2 = (rq l).2.2 ∧ 0 ≤ r.2.1 ∧ (q : Int) + r.2.1 ≤ s.size ∧ (r.2.2 = 0 → r.1 = ⟨(rq l).1.toArray⟩ ∧ s.data.toList.drop (q + r.2.1.toNat) = (rq l).2.1) := by
 have hS : (s.extract q s.size).data.toList = l := by rw [XaU, h]
 have hz : (s.extract q s.size).size = l.length := by rw [← data_length, hS]
 have hlen : l.length + q = s.size := by rw [← h, Zbb, data_length]; omega
 obtain ⟨r, h1, h2⟩ := xaz k (s.extract q s.size) (by omega) (by omega)
 refine ⟨r, h2, ?_⟩
 have hne : l ≠ [] := by rintro rfl; simp at h34
 have hl0 : l.length ≠ 0 := fun e => hne (xbg e)
 unfold xaq at h1
 rw [if_neg (by omega), hS, if_pos h34, hz] at h1
 obtain ⟨q0, h3, h4⟩ := xbh.1 h1
 unfold rq
 rw [h3]
 unfold endR at h4
 by_cases c : q0.2.2 = 0
 ·rw [if_pos c] at h4
  have hg := ZU _ _ _ h3 c
  rw [Zbb] at hg
  simp only [c, if_pos]
  rw [← h4]
  refine ⟨rfl, by simp only; omega, by simp only; omega, fun _ => ⟨?_, ?_⟩⟩
  ·simp only; exact xA (by simp [Ybq])
  ·simp only
   rw [← h, Ybk]
   congr 1
   omega
 ·rw [if_neg c] at h4
  simp only [c, if_false]
  rw [← h4]
  exact ⟨rfl, Int.le_refl _, by simp only; omega, fun e => absurd e c⟩
theorem num_sim (s : ByteArray) (q : Nat) (l : B) (h : s.data.toList.drop q = l) (_hq : q ≤ s.size) :
  Yq s q = (if (rn (l.take (numsL l))).2 = true then ((rn (l.take (numsL l))).1, 0, q + numsL l) else (0, 83, q)) := by
 have e : numP s q = q + numsL l := by unfold numP; rw [h]
 have e2 : s.extract q (numP s q) = ⟨(l.take (numsL l)).toArray⟩ := by
  apply xA
  rw [e, zbo, zbp, ← h]
  simp [List.take_drop]
 unfold Yq rn
 rw [e2, e]
theorem Xaq : ∀ l : B, numsL l ≤ l.length
 | [] => Xbc _
 | c :: l => by
  have := Xaq l
  unfold numsL; split
  ·simp only [Xbd]; omega
  ·simp only [Xbd]; omega
theorem word_sim (s : ByteArray) (q : Nat) (l : B) (h : s.data.toList.drop q = l) (hq : q ≤ s.size) (out : List S40) (d : Nat) (key : ByteArray) :
  ∃ p' o', YO s q out ⟨d, 0, key, e0, 0⟩ = ((wd l d key).1, p', o') ∧ p' ≤ s.size ∧ ((wd l d key).1 = 0 → s.data.toList.drop p' = (wd l d key).2.1 ∧ o' = out ++ (wd l d key).2.2) := by
 have len : ∀ t : B, t <+: l → q + t.length ≤ s.size := by
  intro t ht
  have := ht.length_le
  rw [← h, Zbb, data_length] at this
  omega
 unfold YO wd
 rw [h]
 by_cases c1 : [110, 117, 108, 108] <+: l
 ·rw [if_pos c1, if_pos c1]
  exact ⟨_, _, rfl, len _ c1, fun _ => ⟨by rw [← h, Ybk], rfl⟩⟩
 ·rw [if_neg c1, if_neg c1]
  by_cases c2 : [102, 97, 108, 115, 101] <+: l
  ·rw [if_pos c2, if_pos c2]
   exact ⟨_, _, rfl, len _ c2, fun _ => ⟨by rw [← h, Ybk], rfl⟩⟩
  ·rw [if_neg c2, if_neg c2]
   by_cases c3 : [116, 114, 117, 101] <+: l
   ·rw [if_pos c3, if_pos c3]
    exact ⟨_, _, rfl, len _ c3, fun _ => ⟨by rw [← h, Ybk], rfl⟩⟩
   ·rw [if_neg c3, if_neg c3]
    exact ⟨_, _, rfl, hq, fun e => absurd e (by decide)⟩
theorem YU (l : B) : (sk l).length ≤ l.length := by unfold sk; rw [Zbb]; omega
theorem Yv (l : B) (c : Nat) : (tk1 l c).2.length ≤ l.length ∧ ((tk1 l c).1 = true → (tk1 l c).2.length < l.length) := by
 have h := YU l
 unfold tk1
 split
 ·rename_i c1
  have : (sk l).length ≠ 0 := fun e => c1.2 (xbg e)
  rw [Zbb]; exact ⟨by omega, fun _ => by omega⟩
 ·exact ⟨h, fun e => by cases e⟩
theorem rq_len (l : B) (h : (rq l).2.2 = 0) (hl : l ≠ []) : (rq l).2.1.length + 2 ≤ l.length := by
 unfold rq at h ⊢
 have hl0 : l.length ≠ 0 := fun e => hl (xbg e)
 cases hq : Xy (l.length + 1) (l.drop 1) with
 | none => rw [hq] at h; simp at h
 | some q =>
  rw [hq] at h
  simp only at h ⊢
  by_cases c : q.2.2 = 0
  ·rw [if_pos c]
   have hg := ZU _ _ _ hq c
   rw [Zbb] at hg
   simp only
   rw [Zbb]; omega
  ·rw [if_neg c] at h; exact absurd h c
theorem XC {l : B} (h : hd l ≠ 0) : sk l ≠ [] := by
 intro e; apply h; unfold hd; rw [e]; rfl
theorem Z5 (l : B) (keys : List ByteArray) (h : (pk l keys).2.2 = 0) : (pk l keys).2.1.length < l.length := by
 unfold pk at h ⊢
 have h0 := YU l
 split at h
 ·rename_i c1
  rw [if_pos c1]
  split at h
  ·rename_i c2
   rw [if_pos c2]
   split at h
   ·simp at h
   ·rename_i c3
    rw [if_neg c3]
    split at h
    ·rename_i c4
     rw [if_pos c4]
     have h1 := rq_len (sk l) c2 (XC (by omega))
     have h2 := (Yv (rq (sk l)).2.1 58).1
     simp only; omega
    ·simp at h
  ·rename_i c2
   simp only at h; exact absurd h c2
 ·simp at h
theorem wd_len (l : B) (d : Nat) (key : ByteArray) (h : (wd l d key).1 = 0) : (wd l d key).2.1.length + (wd l d key).2.2.length ≤ l.length ∧ (wd l d key).2.1.length < l.length := by
 unfold wd at h ⊢
 split
 ·rename_i c; have := c.length_le; simp at this; simp only [Zbb, Xbh]; omega
 ·rename_i c1
  rw [if_neg c1] at h
  split
  ·rename_i c; have := c.length_le; simp at this; simp only [Zbb, Xbh]; omega
  ·rename_i c2
   rw [if_neg c2] at h
   split
   ·rename_i c; have := c.length_le; simp at this; simp only [Zbb, Xbh]; omega
   ·rename_i c3
    rw [if_neg c3] at h; simp at h
theorem zaV (l : B) (h : (rn (l.take (numsL l))).2 = true) : 0 < numsL l := by
 by_cases c : numsL l = 0
 ·rw [c, List.take_zero] at h; exact absurd h (by decide)
 ·omega
theorem cont_len (L : B → Int × B × List S40) (l : B) (ob : Bool) (hL : ∀ x, x.length < l.length → (L x).1 = 0 → (L x).2.1.length + (L x).2.2.length ≤ x.length) (h : (cont L l ob).1 = 0) : (cont L l ob).2.1.length + (cont L l ob).2.2.length < l.length := by
 unfold cont at h ⊢
 have h1 := Yv l (en ob)
 have h2 := Yv (tk1 l (en ob)).2 44
 split
 ·rename_i c; have := h1.2 c; simp only [Xbg]; omega
 ·rename_i c
  rw [if_neg c] at h
  split
  ·rename_i c2
   rw [if_pos c2] at h
   have := h2.2 c2
   have := hL _ (by omega) h
   omega
  ·rename_i c2
   rw [if_neg c2] at h; simp at h
theorem pma_len (L : B → Int × B × List S40) (V : Int × B × List S40) (ob : Bool) (m : Nat) (hV : V.1 = 0 → V.2.1.length + V.2.2.length ≤ m) (hL : ∀ x, x.length < m → (L x).1 = 0 → (L x).2.1.length + (L x).2.2.length ≤ x.length) (h : (pma L V ob).1 = 0) : (pma L V ob).2.1.length + (pma L V ob).2.2.length ≤ m := by
 unfold pma at h ⊢
 split
 ·rename_i c
  rw [if_pos c] at h
  have h1 := hV c
  have := cont_len L V.2.1 ob (fun x hx => hL x (by omega)) h
  simp only [Xbb]; omega
 ·rename_i c
  rw [if_neg c] at h; exact absurd h c
theorem ZQ : ∀ n : Nat, (∀ l d key, (pv n l d key).1 = 0 → (pv n l d key).2.1.length + (pv n l d key).2.2.length ≤ l.length) ∧ (∀ l d ob, (pms n l d ob).1 = 0 → (pms n l d ob).2.1.length + (pms n l d ob).2.2.length ≤ l.length) ∧ (∀ l d ob keys, (pml n l d ob keys).1 = 0 → (pml n l d ob keys).2.1.length + (pml n l d ob keys).2.2.length ≤ l.length)
 | 0 => ⟨fun l d key h => by simp [pv] at h, fun l d ob h => by simp [pms] at h, fun l d ob keys h => by simp [pml] at h⟩
 | n + 1 => by
  obtain ⟨iv, im, il⟩ := ZQ n
  refine ⟨fun l d key h => ?_, fun l d ob h => ?_, fun l d ob keys h => ?_⟩
  ·have h0 := YU l
   rw [pv] at h ⊢
   by_cases c1 : hd l = 91
   ·rw [if_pos c1] at h ⊢
    by_cases c2 : 64 ≤ d
    ·rw [if_pos c2] at h; simp at h
    ·rw [if_neg c2] at h ⊢
     have := im _ _ _ h
     have hne : (sk l).length ≠ 0 := fun e => XC (l := l) (by omega) (xbg e)
     rw [Zbb] at this
     simp only [Xbd]; omega
   ·rw [if_neg c1] at h ⊢
    by_cases c3 : hd l = 123
    ·rw [if_pos c3] at h ⊢
     by_cases c2 : 64 ≤ d
     ·rw [if_pos c2] at h; simp at h
     ·rw [if_neg c2] at h ⊢
      have := im _ _ _ h
      have hne : (sk l).length ≠ 0 := fun e => XC (l := l) (by omega) (xbg e)
      rw [Zbb] at this
      simp only [Xbd]; omega
    ·rw [if_neg c3] at h ⊢
     by_cases c4 : hd l = 34
     ·rw [if_pos c4] at h ⊢
      by_cases c5 : (rq (sk l)).2.2 = 0
      ·rw [if_pos c5]
       have := rq_len (sk l) c5 (XC (by omega))
       simp only [Xbh]; omega
      ·rw [if_neg c5] at h; exact absurd h c5
     ·rw [if_neg c4] at h ⊢
      split at h
      ·rename_i c6
       rw [if_pos c6]
       split at h
       ·rename_i c7
        rw [if_pos c7]
        have := zaV _ c7
        have h9 := Xaq (sk l)
        simp only [Zbb, Xbh]; omega
       ·simp at h
      ·rename_i c6
       rw [if_neg c6]
       have := wd_len (sk l) d key h
       omega
  ·rw [pms] at h ⊢
   have h1 := Yv l (en ob)
   split at h
   ·rename_i c
    rw [if_pos c]
    simp only [Xbg]; omega
   ·rename_i c
    rw [if_neg c]
    have := il _ _ _ _ h
    omega
  ·rw [pml] at h ⊢
   cases ob with
   | true =>
    rw [if_pos rfl] at h ⊢
    split at h
    ·rename_i c
     rw [if_pos c]
     have h1 := Z5 l keys c
     have := pma_len _ _ true (pk l keys).2.1.length (iv _ _ _) (fun x _ => il x _ _ _) h
     omega
    ·rename_i c; exact absurd h c
   | false =>
    rw [if_neg (by decide)] at h ⊢
    exact pma_len _ _ false l.length (iv _ _ _) (fun x _ => il x _ _ _) h
end Go.Proofs.NGiv
namespace Go.Proofs.NGiv
open Go.RowKit
theorem dig8 (d : Nat) (h : d < 10) : (UInt8.ofNat (48 + d)).toNat = 48 + d := by simp; omega
theorem yaV (u : Nat) (h : ¬ u < 10) : Lib.decDigits u = Lib.decDigits (u / 10) ++ [UInt8.ofNat (48 + u % 10)] := by
 rw [Lib.decDigits, dif_neg h]
theorem yaf (n : Nat) : ∀ x ∈ Lib.decDigits n, 48 ≤ x.toNat ∧ x.toNat ≤ 57 := by
 induction n using Nat.strongRecOn with
 | _ u ih =>
  intro x hx
  by_cases h : u < 10
  ·rw [Lib.decDigits_one h] at hx
   obtain rfl := Zbm.1 hx
   rw [dig8 u h]; omega
  ·rw [yaV u h] at hx
   rcases Xbp.1 hx with hx | hx
   ·exact ih (u / 10) (by omega) x hx
   ·obtain rfl := Zbm.1 hx
    rw [dig8 _ (by omega)]; omega
theorem zT (n : Nat) : Lib.decDigits n ≠ [] := by
 intro e
 have := congrArg List.length e
 rw [Lib.decDigits_length] at this
 have h2 := Lib.nDigits_pos n
 simp at this; omega
theorem nd_le : ∀ (k u : Nat), u < 10 ^ (k + 1) → Lib.nDigits u ≤ k + 1
 | 0, u, h => by rw [Lib.nDigits_small (by simpa using h)]; omega
 | k + 1, u, h => by
  by_cases c : u < 10
  ·rw [Lib.nDigits_small c]; omega
  ·rw [Nat.pow_succ] at h
   rw [Lib.nDigits_big c]
   have := nd_le k (u / 10) (by omega)
   omega
theorem parse_dec (u : Nat) : u < 18446744073709551616 → ∀ r, Lib.parseUint10 0 (Lib.decDigits u ++ r) = Lib.parseUint10 u r := by
 induction u using Nat.strongRecOn with
 | _ u ih =>
  intro hu r
  by_cases h : u < 10
  ·rw [Lib.decDigits_one h, Zbl, Xbi, Lib.parseUint10, dig8 u h, if_pos (by omega), if_neg (by omega), if_neg (by omega)]
   congr 1; omega
  ·rw [yaV u h, xbj, ih (u / 10) (by omega) (by omega), Zbl, Xbi, Lib.parseUint10, dig8 _ (by omega), if_pos (by omega), if_neg (by omega), if_neg (by omega)]
   congr 1; omega
theorem mag_dec (u : Nat) (h : u < 18446744073709551616) : Lib.parseMag (Lib.decDigits u) = .ok u := by
 unfold Lib.parseMag
 rw [if_neg (zT u)]
 have := parse_dec u h []
 rw [ybk] at this
 rw [this]; rfl
theorem atoi_itoa (n : Int) (h : -9223372036854775808 ≤ n ∧ n ≤ 9223372036854775807) : Lib.atoiAll (Lib.itoa n) = .ok n := by
 unfold Lib.itoa
 by_cases c : n < 0
 ·rw [if_pos c, Lib.atoiAll_minus, mag_dec _ (by omega)]
  simp only [Lib.signed]
  rw [if_neg (by omega)]
  congr 1; omega
 ·rw [if_neg c]
  obtain ⟨x, r, hx⟩ : ∃ x r, Lib.decDigits n.toNat = x :: r := by
   cases hd : Lib.decDigits n.toNat with
   | nil => exact absurd hd (zT _)
   | cons x r => exact ⟨x, r, rfl⟩
  have := yaf n.toNat x (by rw [hx]; exact ybm)
  have hm := mag_dec n.toNat (by omega)
  rw [hx] at hm ⊢
  rw [Lib.atoiAll_plain x r (by omega) (by omega), hm]
  simp only [Lib.signless]
  rw [if_neg (by omega)]
  congr 1; omega
theorem Zaz (n : Int) (h : -9223372036854775808 ≤ n ∧ n ≤ 9223372036854775807) : (Lib.itoa n).length ≤ 20 := by
 unfold Lib.itoa
 split
 ·rw [Xbd, Lib.decDigits_length]
  have := nd_le 18 n.natAbs (by omega)
  omega
 ·rw [Lib.decDigits_length]
  have := nd_le 18 n.toNat (by omega)
  omega
theorem Za5 (n : Int) (h : -9223372036854775808 ≤ n ∧ n ≤ 9223372036854775807) : Yu (Yy n) = (n, true) := by
 unfold Yu
 have h1 := Zaz n h
 have h2 : (Yy n).size = (Lib.itoa n).length := by show (Lib.itoa n).toArray.size = _; rw [Ybo]
 rw [if_neg (by omega)]
 rw [show (Yy n).data.toList = Lib.itoa n from rfl, atoi_itoa n h]
 simp only [if_true]
theorem ZaM (s : ByteArray) (h : (Yu s).2 = true) : Yy (Yu s).1 = s ∧ -9223372036854775808 ≤ (Yu s).1 ∧ (Yu s).1 ≤ 9223372036854775807 := by
 unfold Yu at h ⊢
 split at h
 ·simp at h
 ·rename_i c
  rw [if_neg c]
  split at h
  ·rename_i v hv
   split at h
   ·rename_i c2
    rw [if_pos c2]
    exact ⟨c2, Lib.atoiAll_bounds hv⟩
   ·simp at h
  ·simp at h
end Go.Proofs.NGiv
namespace Go.Proofs.NGiv
open Go.RowKit Go.Proofs.Wa Go.Proofs.Wb Go.Proofs.Wc
open Go.Proofs.NU1 Go.Proofs.NQ1 Go.Proofs.NJ0 Go.Proofs.NJ1
inductive Node | v (d : Nat) (key : ByteArray) | m (d : Nat) (ob : Bool) (keys : List ByteArray) (fst : Bool)
abbrev I64 (n : Int) : Prop := -9223372036854775808 ≤ n ∧ n ≤ 9223372036854775807
def sepa (fst : Bool) : B := if fst then [] else [44]
inductive JV : Node → List S40 → B → Prop
 | null (d key) : JV (.v d key) [row d 1 key e0 0] [110, 117, 108, 108]
 | fls (d key) : JV (.v d key) [row d 2 key e0 0] [102, 97, 108, 115, 101]
 | tru (d key) : JV (.v d key) [row d 3 key e0 0] [116, 114, 117, 101]
 | num (d key) (n : Int) (h : I64 n) : JV (.v d key) [row d 4 key e0 n] (Lib.itoa n)
 | str (d key) (t : ByteArray) (h : Lib.validD t.data.toList = true) : JV (.v d key) [row d 5 key t 0] (YG t.data.toList)
 | arr (d key) (rows : List S40) (t : B) (h : d < 64) (hm : JV (.m (d + 1) false [] true) rows t) : JV (.v d key) (row d 6 key e0 0 :: rows) (91 :: (t ++ [93]))
 | obj (d key) (rows : List S40) (t : B) (h : d < 64) (hm : JV (.m (d + 1) true [] true) rows t) : JV (.v d key) (row d 7 key e0 0 :: rows) (123 :: (t ++ [125]))
 | none (d ob keys fst) : JV (.m d ob keys fst) [] []
 | elem (d keys fst) (rows : List S40) (t : B) (rows' : List S40) (t' : B) (hv : JV (.v d e0) rows t) (hm : JV (.m d false keys false) rows' t') : JV (.m d false keys fst) (rows ++ rows') (sepa fst ++ (t ++ t'))
 | memb (d keys fst) (key : ByteArray) (hk : Lib.validD key.data.toList = true) (hn : key ∉ keys) (rows : List S40) (t : B) (rows' : List S40) (t' : B) (hv : JV (.v d key) rows t) (hm : JV (.m d true (keys ++ [key]) false) rows' t') : JV (.m d true keys fst) (rows ++ rows') (sepa fst ++ (YG key.data.toList ++ (58 :: (t ++ t'))))
def starts (n : Nat) : Prop := n = 110 ∨ n = 102 ∨ n = 116 ∨ n = 45 ∨ (48 ≤ n ∧ n ≤ 57) ∨ n = 34 ∨ n = 91 ∨ n = 123
theorem Ya5 (n : Int) : ∃ c r, Lib.itoa n = c :: r ∧ starts c.toNat ∧ (c.toNat = 45 ∨ (48 ≤ c.toNat ∧ c.toNat ≤ 57)) := by
 unfold Lib.itoa
 split
 ·exact ⟨45, _, rfl, by unfold starts; decide, Or.inl rfl⟩
 ·cases h : Lib.decDigits n.toNat with
  | nil => exact absurd h (zT _)
  | cons c r =>
   have := yaf n.toNat c (by rw [h]; exact ybm)
   exact ⟨c, r, rfl, by unfold starts; omega, Or.inr this⟩
theorem Xa5 (c : UInt8) : 1 ≤ (yN c.toNat).length := (ZaU c.toNat (UInt8.toNat_lt _)).2.2
theorem xaV : ∀ a : B, a.length ≤ (inner a).length
 | [] => Xbc _
 | c :: a => by
  have := xaV a
  have := Xa5 c
  rw [inner, Xbb, Xbd]; omega
theorem escL_err (l : B) : (escL l).2.2 = 0 ∨ (escL l).2.2 = 73 := by
 unfold escL
 repeat' split
 all_goals simp
theorem za6 (l : B) : (yQ l).2.2 = 0 ∨ (yQ l).2.2 = 74 := by
 unfold yQ
 split <;> simp
theorem oneL_err (l : B) : (oneL l).2.2 = 0 ∨ (oneL l).2.2 = 73 ∨ (oneL l).2.2 = 74 := by
 unfold oneL
 split
 ·rcases escL_err l with h | h <;> simp [h]
 ·rcases za6 l with h | h <;> simp [h]
def errs (e : Int) : Prop := e = 0 ∨ e = 71 ∨ e = 72 ∨ e = 73 ∨ e = 74
theorem YaM : ∀ (n : Nat) (l : B) (r : B × Int × Int), Xy n l = some r → errs r.2.2
 | 0, l, r, h => by simp [Xy] at h
 | n + 1, l, r, h => by
  rw [Xy] at h
  split at h
  ·cases h; exact Or.inr (Or.inl rfl)
  ·split at h
   ·cases h; exact Or.inl rfl
   ·split at h
    ·cases h; exact Or.inr (Or.inr (Or.inl rfl))
    ·split at h
     ·obtain ⟨q, hq, h⟩ := xbh.1 h
      have := YaM n _ q hq
      split at h
      ·cases h; exact Or.inl rfl
      ·cases h; exact this
     ·cases h
      rcases oneL_err l with e | e | e
      ·exact Or.inl e
      ·exact Or.inr (Or.inr (Or.inr (Or.inl e)))
      ·exact Or.inr (Or.inr (Or.inr (Or.inr e)))
theorem rq_err (l : B) : errs (rq l).2.2 := by
 unfold rq
 split
 ·rename_i q hq
  have := YaM _ _ _ hq
  split
  ·exact Or.inl rfl
  ·exact this
 ·exact Or.inr (Or.inl rfl)
theorem pk_err (l : B) (keys : List ByteArray) : errs (pk l keys).2.2 ∨ (pk l keys).2.2 = 80 ∨ (pk l keys).2.2 = 82 := by
 unfold pk
 split
 ·split
  ·split
   ·exact Or.inr (Or.inr rfl)
   ·split
    ·exact Or.inl (Or.inl rfl)
    ·exact Or.inr (Or.inl rfl)
  ·exact Or.inl (rq_err _)
 ·exact Or.inr (Or.inl rfl)
theorem wd_err (l : B) (d : Nat) (key : ByteArray) : (wd l d key).1 = 0 ∨ (wd l d key).1 = 80 := by
 unfold wd
 repeat' split
 all_goals simp
theorem errs_ne {e : Int} (h : errs e) : e ≠ -1 := by unfold errs at h; omega
theorem ya6 (L : B → Int × B × List S40) (l : B) (ob : Bool) (hL : ∀ x, x.length < l.length → (L x).1 ≠ -1) : (cont L l ob).1 ≠ -1 := by
 unfold cont
 have h1 := Yv l (en ob)
 have h2 := Yv (tk1 l (en ob)).2 44
 split
 ·simp
 ·split
  ·rename_i c; have := h2.2 c; exact hL _ (by omega)
  ·simp
theorem XaM (L : B → Int × B × List S40) (V : Int × B × List S40) (ob : Bool) (m : Nat) (hV : V.1 ≠ -1) (hm : V.1 = 0 → V.2.1.length ≤ m) (hL : ∀ x, x.length < m → (L x).1 ≠ -1) : (pma L V ob).1 ≠ -1 := by
 unfold pma
 split
 ·rename_i c
  exact ya6 L V.2.1 ob (fun x hx => hL x (by have := hm c; omega))
 ·exact hV
theorem p_total : ∀ n : Nat, (∀ l d key, 3 * l.length + 1 ≤ n → (pv n l d key).1 ≠ -1) ∧ (∀ l d ob, 3 * l.length + 3 ≤ n → (pms n l d ob).1 ≠ -1) ∧ (∀ l d ob keys, 3 * l.length + 2 ≤ n → (pml n l d ob keys).1 ≠ -1)
 | 0 => ⟨fun l d key h => by omega, fun l d ob h => by omega, fun l d ob keys h => by omega⟩
 | n + 1 => by
  obtain ⟨iv, im, il⟩ := p_total n
  refine ⟨fun l d key h => ?_, fun l d ob h => ?_, fun l d ob keys h => ?_⟩
  ·have h0 := YU l
   rw [pv]
   by_cases c1 : hd l = 91
   ·rw [if_pos c1]
    split
    ·simp
    ·have hne : (sk l).length ≠ 0 := fun e => XC (l := l) (by omega) (xbg e)
     exact im _ _ _ (by rw [Zbb]; omega)
   ·rw [if_neg c1]
    by_cases c2 : hd l = 123
    ·rw [if_pos c2]
     split
     ·simp
     ·have hne : (sk l).length ≠ 0 := fun e => XC (l := l) (by omega) (xbg e)
      exact im _ _ _ (by rw [Zbb]; omega)
    ·rw [if_neg c2]
     split
     ·split
      ·simp
      ·exact errs_ne (rq_err _)
     ·split
      ·split <;> simp
      ·rcases wd_err (sk l) d key with e | e <;> rw [e] <;> decide
  ·rw [pms]
   have h1 := Yv l (en ob)
   split
   ·simp
   ·exact il _ _ _ _ (by omega)
  ·rw [pml]
   split
   ·split
    ·rename_i c
     have h1 := Z5 l keys c
     exact XaM _ _ _ (pk l keys).2.1.length (iv _ _ _ (by omega)) (fun e => by have := (ZQ n).1 _ _ _ e; omega) (fun x hx => il _ _ _ _ (by omega))
    ·rename_i c
     rcases pk_err l keys with e | e | e
     ·exact errs_ne e
     ·rw [e]; decide
     ·rw [e]; decide
   ·refine XaM _ _ _ l.length (iv _ _ _ (by omega)) (fun e => by have := (ZQ n).1 _ _ _ e; omega) (fun x hx => il _ _ _ _ (by omega))
theorem ZaV (l : B) (h : (rq l).2.2 = 0) : Lib.validD (rq l).1 = true := by
 unfold rq at h ⊢
 cases hq : Xy (l.length + 1) (l.drop 1) with
 | none => rw [hq] at h; simp at h
 | some q =>
  rw [hq] at h
  simp only at h ⊢
  by_cases c : q.2.2 = 0
  ·rw [if_pos c]
   obtain ⟨_, _, xs, h1, h2⟩ := ZU _ _ _ hq c
   simp only
   rw [h2, xaB _ _ (Xbc _)]
   have := xaM [] xs h1
   rw [ybk] at this
   rw [this, lets_nil]; rfl
  ·rw [if_neg c] at h; exact absurd h c
theorem pk_valid (l : B) (keys : List ByteArray) (h : (pk l keys).2.2 = 0) : Lib.validD (pk l keys).1.data.toList = true ∧ (pk l keys).1 ∉ keys := by
 unfold pk at h ⊢
 split at h
 ·rename_i c1
  rw [if_pos c1]
  split at h
  ·rename_i c2
   rw [if_pos c2]
   split at h
   ·simp at h
   ·rename_i c3
    rw [if_neg c3]
    split at h
    ·rename_i c4
     rw [if_pos c4]
     exact ⟨ZaV _ c2, fun e => c3 ((xay _ _).2 e)⟩
    ·simp at h
  ·rename_i c2
   simp only at h; exact absurd h c2
 ·simp at h
theorem p_sound : ∀ n : Nat, (∀ l d key, d ≤ 64 → (pv n l d key).1 = 0 → ∃ t, JV (.v d key) (pv n l d key).2.2 t) ∧ (∀ l d ob, d < 64 → (pms n l d ob).1 = 0 → ∃ t, JV (.m (d + 1) ob [] true) (pms n l d ob).2.2 t) ∧ (∀ l d ob keys fst, d < 64 → (pml n l d ob keys).1 = 0 → ∃ t, JV (.m (d + 1) ob keys fst) (pml n l d ob keys).2.2 t)
 | 0 => ⟨fun l d key _ h => by simp [pv] at h, fun l d ob _ h => by simp [pms] at h, fun l d ob keys fst _ h => by simp [pml] at h⟩
 | n + 1 => by
  obtain ⟨iv, im, il⟩ := p_sound n
  have ic : ∀ l d ob keys, d < 64 → (cont (fun x => pml n x d ob keys) l ob).1 = 0 → ∃ t, JV (.m (d + 1) ob keys false) (cont (fun x => pml n x d ob keys) l ob).2.2 t := by
   intro l d ob keys hd' h
   unfold cont at h ⊢
   split at h
   ·rename_i c
    rw [if_pos c]
    exact ⟨_, JV.none _ _ _ _⟩
   ·rename_i c
    rw [if_neg c]
    split at h
    ·rename_i c2
     rw [if_pos c2]
     exact il _ _ _ _ _ hd' h
    ·simp at h
  refine ⟨fun l d key hd' h => ?_, fun l d ob hd' h => ?_, fun l d ob keys fst hd' h => ?_⟩
  ·rw [pv] at h ⊢
   by_cases c1 : hd l = 91
   ·rw [if_pos c1] at h ⊢
    by_cases c2 : 64 ≤ d
    ·rw [if_pos c2] at h; simp at h
    ·rw [if_neg c2] at h ⊢
     obtain ⟨t, ht⟩ := im _ _ _ (by omega) h
     exact ⟨_, JV.arr d key _ t (by omega) ht⟩
   ·rw [if_neg c1] at h ⊢
    by_cases c3 : hd l = 123
    ·rw [if_pos c3] at h ⊢
     by_cases c2 : 64 ≤ d
     ·rw [if_pos c2] at h; simp at h
     ·rw [if_neg c2] at h ⊢
      obtain ⟨t, ht⟩ := im _ _ _ (by omega) h
      exact ⟨_, JV.obj d key _ t (by omega) ht⟩
    ·rw [if_neg c3] at h ⊢
     by_cases c4 : hd l = 34
     ·rw [if_pos c4] at h ⊢
      by_cases c5 : (rq (sk l)).2.2 = 0
      ·rw [if_pos c5]
       exact ⟨_, JV.str d key _ (ZaV _ c5)⟩
      ·rw [if_neg c5] at h; exact absurd h c5
     ·rw [if_neg c4] at h ⊢
      split at h
      ·rename_i c6
       rw [if_pos c6]
       split at h
       ·rename_i c7
        rw [if_pos c7]
        exact ⟨_, JV.num d key _ (ZaM _ c7).2⟩
       ·simp at h
      ·rename_i c6
       rw [if_neg c6]
       unfold wd at h ⊢
       split at h
       ·rename_i c; rw [if_pos c]; exact ⟨_, JV.null _ _⟩
       ·rename_i c; rw [if_neg c]
        split at h
        ·rename_i c; rw [if_pos c]; exact ⟨_, JV.fls _ _⟩
        ·rename_i c; rw [if_neg c]
         split at h
         ·rename_i c; rw [if_pos c]; exact ⟨_, JV.tru _ _⟩
         ·simp at h
  ·rw [pms] at h ⊢
   split at h
   ·rename_i c
    rw [if_pos c]
    exact ⟨_, JV.none _ _ _ _⟩
   ·rename_i c
    rw [if_neg c]
    exact il _ _ _ _ _ hd' h
  ·rw [pml] at h ⊢
   cases ob with
   | true =>
    rw [if_pos rfl] at h ⊢
    split at h
    ·rename_i c
     rw [if_pos c]
     unfold pma at h ⊢
     split at h
     ·rename_i c2
      rw [if_pos c2]
      obtain ⟨t, ht⟩ := iv _ _ _ (by omega) c2
      obtain ⟨t', ht'⟩ := ic _ _ _ _ hd' h
      obtain ⟨k1, k2⟩ := pk_valid l keys c
      exact ⟨_, JV.memb (d + 1) keys fst _ k1 k2 _ t _ t' ht ht'⟩
     ·rename_i c2; exact absurd h c2
    ·rename_i c; exact absurd h c
   | false =>
    rw [if_neg (by decide)] at h ⊢
    unfold pma at h ⊢
    split at h
    ·rename_i c2
     rw [if_pos c2]
     obtain ⟨t, ht⟩ := iv _ _ _ (by omega) c2
     obtain ⟨t', ht'⟩ := ic _ _ _ _ hd' h
     exact ⟨_, JV.elem (d + 1) keys fst _ t _ t' ht ht'⟩
    ·rename_i c2; exact absurd h c2
abbrev Lv (W : World) (g : Nat) (kind : Int) (kv : Value) : Prop := W.heap[g]? = some (.cells #[.int .i64 kind, kv] 71 (0, 0))
abbrev Keys (w0 W : World) (g : Nat) (kv : Value) (keys : List ByteArray) : Prop := Kd.R Kd.string 9 W w0.heap.size (fun j => j ≠ g) kv keys
structure LvLeft (w0 W W' : World) (g : Nat) (kind : Int) (kv : Value) (keys' : List ByteArray) : Prop where
 left : ∃ kv', Lv W' g kind kv' ∧ Keys w0 W' g kv' keys' ∧ (kv'.ownBlock = kv.ownBlock ∨ ∃ b, kv'.ownBlock = some b ∧ W.heap.size ≤ b)
 below : Below w0.heap.size w0 W'
 keep : KeepBut W W' g kv.ownBlock
theorem LvLeft.pre {w0 W w1 W' : World} {g : Nat} {kind : Int} {kv : Value} {keys : List ByteArray} (hk : KeepBut W w1 g none) (h : LvLeft w0 w1 W' g kind kv keys) : LvLeft w0 W W' g kind kv keys :=
 ⟨by obtain ⟨v', a, b, c⟩ := h.left; exact ⟨v', a, b, c.imp id (fun ⟨k, e, hk2⟩ => ⟨k, e, Ybg hk.1 hk2⟩)⟩, h.below, (zC hk).trans h.keep (.inl rfl)⟩
theorem xaf {W : World} {g : Nat} {kind : Int} {kv : Value} (h : Lv W g kind kv) : W.cell? ⟨g, 0, none⟩ = some (.int .i64 kind) := (zb h 0).trans rfl
theorem yE {W : World} {g : Nat} {kind : Int} {kv : Value} (h : Lv W g kind kv) : W.cell? ⟨g, 1, none⟩ = some kv := (zb h 1).trans rfl
theorem Zx {W W' : World} {g : Nat} {kind : Int} {kv : Value} (h : Lv W g kind kv) (hb : Below W.heap.size W W') : Lv W' g kind kv := (hb.block g (Yg h)).trans h
theorem xD {W : World} {b : Nat} {x : S40} (h : Itm W b x) : W.cell? ⟨b, 2, none⟩ = some (.string x.f2) := (zb h 2).trans rfl
theorem keep_key {w1 : World} {g b : Nat} {kind : Int} {kv : Value} {x : S40} (hR : Lv w1 g kind kv) (hI : Itm w1 b x) (o : Obj) : (w1.drew.alloc o).cell? ⟨g, 1, none⟩ = some kv ∧ (w1.drew.alloc o).cell? ⟨b, 2, none⟩ = some (.string x.f2) := by
 have h1 : g < w1.drew.heap.size := Yg hR
 have h2 : b < w1.drew.heap.size := Yg hI
 exact ⟨(World.cell?_alloc_lt w1.drew o ⟨g, 1, none⟩ h1).trans (yE hR), (World.cell?_alloc_lt w1.drew o ⟨b, 2, none⟩ h2).trans (xD hI)⟩
theorem push_key {ops : Array Oper} {o : Oper} {a : Act} {Kc : Act → World → Prop} {Q : Exit → Act → World → Prop} (sl xl : Operand) {w0 W : World} {g : Nat} {kind : Int} {kv : Value} {keys : List ByteArray} {t : ByteArray}
  (hw : Region.wanted o (yielded ops a.tmps) = true) (ho : o.op = .call { callee := .builtin .append, args := #[sl, xl], argTypes := #[69, 69] }) (hs : a.eval sl = kv) (hx : a.eval xl = .slice (some ⟨W.heap.size, 0, none⟩) 1 1)
  (hR : Lv W g kind kv) (hO : Keys w0 W g kv keys) (hB : Below w0.heap.size w0 W) (hg : w0.heap.size ≤ g) (hl : (keys.length + 1) * 16 ≤ 140737488355328)
  (h : ∀ (As : Option Addr) (N2 cc : Nat) (w2 : World), Lv w2 g kind kv → LvLeft w0 W (w2.setCell ⟨g, 1, none⟩ (.slice As N2 cc)) g kind kv (keys ++ [t]) → Kc (a.put o.dst (.slice As N2 cc)) w2) :
  if Region.wanted o (yielded ops a.tmps) = true then Oper.wp Tryz.prog o a (W.drew.alloc (.cells #[.string t] 9)) Kc Q else Kc (a.put o.dst undef) (W.drew.alloc (.cells #[.string t] 9)) := by
 have h1 := Yg hR
 have hO' : Kd.R Kd.string 9 W.drew w0.heap.size (fun j => j ≠ g) kv keys := Kd.R_move hO (fun _ _ => rfl)
 refine Kd.R_append_step Kd.string (w0 := w0) (W := W.drew) w0.heap.size hw sl xl 69 9 (.string ⟨#[]⟩) 16 ho Tryz.underlying69 info9 rfl (by decide) (by decide) kv keys t [.string t] (fun j => j ≠ g) (fun _ => False) hs hx rfl (fun _ h => h.elim) (fun k hk => ?_) hO' (Xa hB) hB.size hl ?_
 ·have hk3 : W.heap.size ≤ k := hk
  omega
 intro v2 w2 hO2 hB2 hG2 hA2
 obtain ⟨As, cc, hv2⟩ := Kd.R_slice hO2
 subst hv2
 have hR2 : Lv w2 g kind kv := (hG2.block g h1 (fun e => hO.1 g e.symm rfl)).trans hR
 exact h _ _ _ _ hR2 ⟨⟨_, zq hR2 1 _, Kd.R_far hO2 (fun _ h => h) _, hA2⟩, Yj hB2 hg, KeepBut.set_ (KeepBut.of_grown (w := W) ⟨hG2.os, hG2.tape, hG2.output, hG2.size, hG2.block⟩ g) 1 _⟩
theorem member_no (w0 W : World) (g : Nat) (kind : Int) (A : Option Addr) (c : Nat) (keys : List ByteArray) (x : S40) (hR : Lv W g kind (.slice A keys.length c)) (hO : Keys w0 W g (.slice A keys.length c) keys) (hB : Below w0.heap.size w0 W) (hg : w0.heap.size ≤ g) (hj : Tabs w0) (hk : kind ≠ 7) :
  Calls Tryz.prog 31 #[.pointer (some ⟨g, 0, none⟩), Yh x] W fun e W' => e = .returned (.bool x.f2.toList.isEmpty) ∧ LvLeft w0 W W' g kind (.slice A keys.length c) keys := by
 have HR := Aside0.mk hR
 have HO := Aside0.mk hO
 have HB := Aside0.mk hB
 have HG := Aside0.mk hg
 have JT := Aside0.mk hj
 have n1 : (kind == 7) = false := Ybb.mpr hk
 have n2 : (kind != 7) = true := Zbh.mpr hk
 clear hR hO hB hg hj hk
 have hgW := Yg HR.out
 have HA : Aside0 (Below W.heap.size W (W.alloc (.cells #[.int .i64 x.f0, .int .i64 x.f1, .string x.f2, .string x.f3, .int .i64 x.f4] 40))) := ⟨Za (ybd _ _) _⟩
 have HR := Aside0.mk (Zx HR.out HA.out)
 have HO := Aside0.mk (Kd.R_below HO.out HA.out)
 have HK := Aside0.mk (KeepBut.of_below HA.out g none)
 have HB := Aside0.mk (Ze HB.out HA.out)
 have HI : Aside0 (Itm (W.alloc (.cells #[.int .i64 x.f0, .int .i64 x.f1, .string x.f2, .string x.f3, .int .i64 x.f4] 40)) W.heap.size x) := ⟨ybi _ _⟩
 have hc0 := xaf HR.out
 unfold Yh
 go_enter Tryz.func31, Tryz.ntmps31
 go_wp2_with fail
 obtain ⟨b, hb⟩ : ∃ b, W.heap.size = b := ⟨_, rfl⟩
 have hne1 : ¬ b = g := by omega
 rw [hb] at HI
 rw [hb]
 clear hc0
 generalize W.alloc (.cells #[.int .i64 x.f0, .int .i64 x.f1, .string x.f2, .string x.f3, .int .i64 x.f4] 40) = w1 at HA HI HR HO HK HB ⊢
 clear HA hb
 go_ret
 exact ⟨rfl, LvLeft.pre HK.out ⟨⟨_, HR.out, HO.out, .inl rfl⟩, HB.out, KeepBut.refl _ _ _⟩⟩
theorem xa6 (w0 W : World) (g : Nat) (kind : Int) (A : Option Addr) (c : Nat) (keys : List ByteArray) (x : S40) (hR : Lv W g kind (.slice A keys.length c)) (hO : Keys w0 W g (.slice A keys.length c) keys) (hB : Below w0.heap.size w0 W) (hg : w0.heap.size ≤ g) (hj : Tabs w0) (hk : kind = 7) (hv : zo.f x.f2 = some false) :
  Calls Tryz.prog 31 #[.pointer (some ⟨g, 0, none⟩), Yh x] W fun e W' => e = .returned (.bool false) ∧ LvLeft w0 W W' g kind (.slice A keys.length c) keys := by
 have HR := Aside0.mk hR
 have HO := Aside0.mk hO
 have HB := Aside0.mk hB
 have HG := Aside0.mk hg
 have JT := Aside0.mk hj
 subst hk
 have n1 : ((7 : Int) == 7) = true := rfl
 have FV := Aside0.mk hv
 clear hR hO hB hg hj hv
 have hgW := Yg HR.out
 have HA : Aside0 (Below W.heap.size W (W.alloc (.cells #[.int .i64 x.f0, .int .i64 x.f1, .string x.f2, .string x.f3, .int .i64 x.f4] 40))) := ⟨Za (ybd _ _) _⟩
 have HR := Aside0.mk (Zx HR.out HA.out)
 have HO := Aside0.mk (Kd.R_below HO.out HA.out)
 have HK := Aside0.mk (KeepBut.of_below HA.out g none)
 have HB := Aside0.mk (Ze HB.out HA.out)
 have HI : Aside0 (Itm (W.alloc (.cells #[.int .i64 x.f0, .int .i64 x.f1, .string x.f2, .string x.f3, .int .i64 x.f4] 40)) W.heap.size x) := ⟨ybi _ _⟩
 have hc0 := xaf HR.out
 unfold Yh
 go_enter Tryz.func31, Tryz.ntmps31
 go_wp2_with fail
 obtain ⟨b, hb⟩ : ∃ b, W.heap.size = b := ⟨_, rfl⟩
 have hne1 : ¬ b = g := by omega
 rw [hb] at HI
 rw [hb]
 clear hc0
 generalize W.alloc (.cells #[.int .i64 x.f0, .int .i64 x.f1, .string x.f2, .string x.f3, .int .i64 x.f4] 40) = w1 at HA HI HR HO HK HB ⊢
 clear HA hb
 refine wp_region_held_drew (S := fun w' => w'.cell? ⟨g, 1, none⟩ = some (.slice A keys.length c) ∧ w'.cell? ⟨b, 2, none⟩ = some (.string x.f2) ∧ Lv w' g 7 (.slice A keys.length c) ∧ Itm w' b x ∧ Keys w0 w' g (.slice A keys.length c) keys ∧ Below w0.heap.size w0 w' ∧ KeepBut w1 w' g none) (by kernel_rfl) ⟨yE HR.out, xD HI.out, HR.out, HI.out, Kd.R_move HO.out (fun _ _ => rfl), Xa HB.out, KeepBut.refl _ _ _⟩ (fun hHeld => ?_)
 refine tA 0 13 (v := ?_) rfl (.inl ⟨by rfl, ?_⟩) ?_
 rotate_left
 ·intro w hSw
  (try dsimp only at hSw)
  have hl0 := hSw.1
  have hl1 := hSw.2.1
  clear hSw
  go_simp
  (try with_reducible rfl)
 (try simp only [Act.put, qA, qB, qC])
 refine tA 1 14 (v := ?_) rfl (.inl ⟨by rfl, ?_⟩) ?_
 rotate_left
 ·intro w hSw
  (try dsimp only at hSw)
  have hl0 := hSw.1
  have hl1 := hSw.2.1
  clear hSw
  go_simp
  (try with_reducible rfl)
 (try simp only [Act.put, qA, qB, qC])
 refine wpAnyH_ready (rs := [2]) (by kernel_rfl) (by simp) ?_
 refine tB 15 rfl (fun K hK => ?_) AllReadyH.nil
 go_simp
 (go_at_call 30; refine (zo.calls x.f2 _ _ FV.out (JT.out.step hHeld.2.2.2.2.2.1)).mono ?_; rintro e w2 ⟨rfl, hbv⟩); go_wp2_with fail
 refine hK.out _ _ ?_ (fun hHeld => ?_)
 ·exact ⟨yE (Zx hHeld.2.2.1 hbv), xD ((hbv.block b (Yg hHeld.2.2.2.1)).trans hHeld.2.2.2.1), Zx hHeld.2.2.1 hbv, (hbv.block b (Yg hHeld.2.2.2.1)).trans hHeld.2.2.2.1, Kd.R_below hHeld.2.2.2.2.1 hbv, hHeld.2.2.2.2.2.1.trans (hbv.mono hHeld.2.2.2.2.2.1.size), hHeld.2.2.2.2.2.2.trans (KeepBut.of_below hbv g none) (.inl rfl)⟩
 clear hK K
 (try simp only [Act.put, qA, qB, qC])
 refine tA 3 16 (v := ?_) rfl (.inl ⟨by rfl, ?_⟩) ?_
 rotate_left
 ·intro w hSw
  (try dsimp only at hSw)
  have hl0 := hSw.1
  have hl1 := hSw.2.1
  clear hSw
  go_simp
  (try with_reducible rfl)
 (try simp only [Act.put, qA, qB, qC])
 refine tA 4 17 (v := ?_) rfl (.inl ⟨by rfl, ?_⟩) ?_
 rotate_left
 ·intro w hSw
  (try dsimp only at hSw)
  have hl0 := hSw.1
  have hl1 := hSw.2.1
  clear hSw
  go_simp
  (try with_reducible rfl)
 (try simp only [Act.put, qA, qB, qC])
 refine tA 5 18 (v := undef) rfl (.inr ⟨by rfl, rfl⟩) ?_
 (try simp only [Act.put, qA, qB, qC])
 refine tA 6 19 (v := undef) rfl (.inr ⟨by rfl, rfl⟩) ?_
 (try simp only [Act.put, qA, qB, qC])
 refine tA 7 20 (v := undef) rfl (.inr ⟨by rfl, rfl⟩) ?_
 (try simp only [Act.put, qA, qB, qC])
 refine tA 8 21 (v := undef) rfl (.inr ⟨by rfl, rfl⟩) ?_
 (try simp only [Act.put, qA, qB, qC])
 refine tA 9 22 (v := undef) rfl (.inr ⟨by rfl, rfl⟩) ?_
 (try simp only [Act.put, qA, qB, qC])
 refine tA 10 23 (v := undef) rfl (.inr ⟨by rfl, rfl⟩) ?_
 (try simp only [Act.put, qA, qB, qC])
 refine tA 11 24 (v := undef) rfl (.inr ⟨by rfl, rfl⟩) ?_
 (try simp only [Act.put, qA, qB, qC])
 refine tA 12 25 (v := ?_) rfl (.inl ⟨by rfl, ?_⟩) ?_
 rotate_left
 ·intro w hSw
  (try dsimp only at hSw)
  have hl0 := hSw.1
  have hl1 := hSw.2.1
  clear hSw
  go_simp
  (try with_reducible rfl)
 (try simp only [Act.put, qA, qB, qC])
 refine wpAnyH_done (by kernel_rfl) ?_ _
 have HL := Aside0.mk hHeld
 clear hHeld
 go_wp2_with fail
 go_ret
 exact ⟨rfl, LvLeft.pre (HK.out.trans HL.out.2.2.2.2.2.2 (.inl rfl)) ⟨⟨_, HL.out.2.2.1, HL.out.2.2.2.2.1, .inl rfl⟩, HL.out.2.2.2.2.2.1, KeepBut.refl _ _ _⟩⟩
theorem YaV (w0 W : World) (g : Nat) (kind : Int) (A : Option Addr) (c : Nat) (keys : List ByteArray) (x : S40) (hR : Lv W g kind (.slice A keys.length c)) (hO : Keys w0 W g (.slice A keys.length c) keys) (hB : Below w0.heap.size w0 W) (hg : w0.heap.size ≤ g) (hj : Tabs w0) (hk : kind = 7) (hv : zo.f x.f2 = some true) (hh : hasB x.f2 keys = true) :
  Calls Tryz.prog 31 #[.pointer (some ⟨g, 0, none⟩), Yh x] W fun e W' => e = .returned (.bool false) ∧ LvLeft w0 W W' g kind (.slice A keys.length c) keys := by
 have HR := Aside0.mk hR
 have HO := Aside0.mk hO
 have HB := Aside0.mk hB
 have HG := Aside0.mk hg
 have JT := Aside0.mk hj
 subst hk
 have n1 : ((7 : Int) == 7) = true := rfl
 have FV := Aside0.mk hv
 have HC := Aside0.mk (Kd.R_reads' hO).2.1
 have HLn := (Kd.R_reads' hO).2.2.2.1
 have FC : Aside0 (Zh.f (keys.length + 1) keys x.f2 = some true) := ⟨by rw [xU _ _ _ (by omega) HLn, hh]⟩
 clear hh HLn
 clear hR hO hB hg hj hv
 have hgW := Yg HR.out
 have HA : Aside0 (Below W.heap.size W (W.alloc (.cells #[.int .i64 x.f0, .int .i64 x.f1, .string x.f2, .string x.f3, .int .i64 x.f4] 40))) := ⟨Za (ybd _ _) _⟩
 have HR := Aside0.mk (Zx HR.out HA.out)
 have HO := Aside0.mk (Kd.R_below HO.out HA.out)
 have HK := Aside0.mk (KeepBut.of_below HA.out g none)
 have HB := Aside0.mk (Ze HB.out HA.out)
 have HI : Aside0 (Itm (W.alloc (.cells #[.int .i64 x.f0, .int .i64 x.f1, .string x.f2, .string x.f3, .int .i64 x.f4] 40)) W.heap.size x) := ⟨ybi _ _⟩
 have hc0 := xaf HR.out
 unfold Yh
 go_enter Tryz.func31, Tryz.ntmps31
 go_wp2_with fail
 obtain ⟨b, hb⟩ : ∃ b, W.heap.size = b := ⟨_, rfl⟩
 have hne1 : ¬ b = g := by omega
 rw [hb] at HI
 rw [hb]
 clear hc0
 generalize W.alloc (.cells #[.int .i64 x.f0, .int .i64 x.f1, .string x.f2, .string x.f3, .int .i64 x.f4] 40) = w1 at HA HI HR HO HK HB ⊢
 clear HA hb
 refine wp_region_held_drew (S := fun w' => w'.cell? ⟨g, 1, none⟩ = some (.slice A keys.length c) ∧ w'.cell? ⟨b, 2, none⟩ = some (.string x.f2) ∧ Lv w' g 7 (.slice A keys.length c) ∧ Itm w' b x ∧ Keys w0 w' g (.slice A keys.length c) keys ∧ Below w0.heap.size w0 w' ∧ KeepBut w1 w' g none) (by kernel_rfl) ⟨yE HR.out, xD HI.out, HR.out, HI.out, Kd.R_move HO.out (fun _ _ => rfl), Xa HB.out, KeepBut.refl _ _ _⟩ (fun hHeld => ?_)
 refine tA 0 13 (v := ?_) rfl (.inl ⟨by rfl, ?_⟩) ?_
 rotate_left
 ·intro w hSw
  (try dsimp only at hSw)
  have hl0 := hSw.1
  have hl1 := hSw.2.1
  clear hSw
  go_simp
  (try with_reducible rfl)
 (try simp only [Act.put, qA, qB, qC])
 refine tA 1 14 (v := ?_) rfl (.inl ⟨by rfl, ?_⟩) ?_
 rotate_left
 ·intro w hSw
  (try dsimp only at hSw)
  have hl0 := hSw.1
  have hl1 := hSw.2.1
  clear hSw
  go_simp
  (try with_reducible rfl)
 (try simp only [Act.put, qA, qB, qC])
 refine wpAnyH_ready (rs := [2]) (by kernel_rfl) (by simp) ?_
 refine tB 15 rfl (fun K hK => ?_) AllReadyH.nil
 go_simp
 (go_at_call 30; refine (zo.calls x.f2 _ _ FV.out (JT.out.step hHeld.2.2.2.2.2.1)).mono ?_; rintro e w2 ⟨rfl, hbv⟩); go_wp2_with fail
 refine hK.out _ _ ?_ (fun hHeld => ?_)
 ·exact ⟨yE (Zx hHeld.2.2.1 hbv), xD ((hbv.block b (Yg hHeld.2.2.2.1)).trans hHeld.2.2.2.1), Zx hHeld.2.2.1 hbv, (hbv.block b (Yg hHeld.2.2.2.1)).trans hHeld.2.2.2.1, Kd.R_below hHeld.2.2.2.2.1 hbv, hHeld.2.2.2.2.2.1.trans (hbv.mono hHeld.2.2.2.2.2.1.size), hHeld.2.2.2.2.2.2.trans (KeepBut.of_below hbv g none) (.inl rfl)⟩
 clear hK K
 (try simp only [Act.put, qA, qB, qC])
 refine tA 3 16 (v := ?_) rfl (.inl ⟨by rfl, ?_⟩) ?_
 rotate_left
 ·intro w hSw
  (try dsimp only at hSw)
  have hl0 := hSw.1
  have hl1 := hSw.2.1
  clear hSw
  go_simp
  (try with_reducible rfl)
 (try simp only [Act.put, qA, qB, qC])
 refine tA 4 17 (v := ?_) rfl (.inl ⟨by rfl, ?_⟩) ?_
 rotate_left
 ·intro w hSw
  (try dsimp only at hSw)
  have hl0 := hSw.1
  have hl1 := hSw.2.1
  clear hSw
  go_simp
  (try with_reducible rfl)
 (try simp only [Act.put, qA, qB, qC])
 refine tA 5 18 (v := ?_) rfl (.inl ⟨by rfl, ?_⟩) ?_
 rotate_left
 ·intro w hSw
  (try dsimp only at hSw)
  have hl0 := hSw.1
  have hl1 := hSw.2.1
  clear hSw
  go_simp
  (try with_reducible rfl)
 (try simp only [Act.put, qA, qB, qC])
 refine tA 6 19 (v := ?_) rfl (.inl ⟨by rfl, ?_⟩) ?_
 rotate_left
 ·intro w hSw
  (try dsimp only at hSw)
  have hl0 := hSw.1
  have hl1 := hSw.2.1
  clear hSw
  go_simp
  (try with_reducible rfl)
 (try simp only [Act.put, qA, qB, qC])
 refine tA 7 20 (v := ?_) rfl (.inl ⟨by rfl, ?_⟩) ?_
 rotate_left
 ·intro w hSw
  (try dsimp only at hSw)
  have hl0 := hSw.1
  have hl1 := hSw.2.1
  clear hSw
  go_simp
  (try with_reducible rfl)
 (try simp only [Act.put, qA, qB, qC])
 refine tA 8 21 (v := ?_) rfl (.inl ⟨by rfl, ?_⟩) ?_
 rotate_left
 ·intro w hSw
  (try dsimp only at hSw)
  have hl0 := hSw.1
  have hl1 := hSw.2.1
  clear hSw
  go_simp
  (try with_reducible rfl)
 (try simp only [Act.put, qA, qB, qC])
 refine tA 9 22 (v := ?_) rfl (.inl ⟨by rfl, ?_⟩) ?_
 rotate_left
 ·intro w hSw
  (try dsimp only at hSw)
  have hl0 := hSw.1
  have hl1 := hSw.2.1
  clear hSw
  go_simp
  (try with_reducible rfl)
 (try simp only [Act.put, qA, qB, qC])
 refine tA 10 23 (v := ?_) rfl (.inl ⟨by rfl, ?_⟩) ?_
 rotate_left
 ·intro w hSw
  (try dsimp only at hSw)
  have hl0 := hSw.1
  have hl1 := hSw.2.1
  clear hSw
  go_simp
  (try with_reducible rfl)
 (try simp only [Act.put, qA, qB, qC])
 refine wpAnyH_ready (rs := [11]) (by kernel_rfl) (by simp) ?_
 refine tB 24 rfl (fun K hK => ?_) AllReadyH.nil
 go_simp
 (go_at_call 53; refine (Zh.calls (keys.length + 1) A c keys x.f2 _ _ (Kd.R_reads' hHeld.2.2.2.2.1).2.2 HC.out FC.out).mono ?_; rintro e w3 ⟨rfl, ⟨nd, rfl⟩⟩; have hbv := Ya (ybd w2.heap.size w2) nd); go_wp2_with fail
 refine hK.out _ _ ?_ (fun hHeld => ?_)
 ·exact ⟨yE (Zx hHeld.2.2.1 hbv), xD ((hbv.block b (Yg hHeld.2.2.2.1)).trans hHeld.2.2.2.1), Zx hHeld.2.2.1 hbv, (hbv.block b (Yg hHeld.2.2.2.1)).trans hHeld.2.2.2.1, Kd.R_below hHeld.2.2.2.2.1 hbv, hHeld.2.2.2.2.2.1.trans (hbv.mono hHeld.2.2.2.2.2.1.size), hHeld.2.2.2.2.2.2.trans (KeepBut.of_below hbv g none) (.inl rfl)⟩
 clear hK K
 (try simp only [Act.put, qA, qB, qC])
 refine tA 12 25 (v := ?_) rfl (.inl ⟨by rfl, ?_⟩) ?_
 rotate_left
 ·intro w hSw
  (try dsimp only at hSw)
  have hl0 := hSw.1
  have hl1 := hSw.2.1
  clear hSw
  go_simp
  (try with_reducible rfl)
 (try simp only [Act.put, qA, qB, qC])
 refine wpAnyH_done (by kernel_rfl) ?_ _
 have HL := Aside0.mk hHeld
 clear hHeld
 go_wp2_with fail
 go_ret
 exact ⟨rfl, LvLeft.pre (HK.out.trans HL.out.2.2.2.2.2.2 (.inl rfl)) ⟨⟨_, HL.out.2.2.1, HL.out.2.2.2.2.1, .inl rfl⟩, HL.out.2.2.2.2.2.1, KeepBut.refl _ _ _⟩⟩
theorem Ya6 (w0 W : World) (g : Nat) (kind : Int) (A : Option Addr) (c : Nat) (keys : List ByteArray) (x : S40) (hR : Lv W g kind (.slice A keys.length c)) (hO : Keys w0 W g (.slice A keys.length c) keys) (hB : Below w0.heap.size w0 W) (hg : w0.heap.size ≤ g) (hj : Tabs w0) (hk : kind = 7) (hv : zo.f x.f2 = some true) (hh : hasB x.f2 keys = false) (hl : (keys.length + 1) * 16 ≤ 140737488355328) :
  Calls Tryz.prog 31 #[.pointer (some ⟨g, 0, none⟩), Yh x] W fun e W' => e = .returned (.bool true) ∧ LvLeft w0 W W' g kind (.slice A keys.length c) (keys ++ [x.f2]) := by
 have HR := Aside0.mk hR
 have HO := Aside0.mk hO
 have HB := Aside0.mk hB
 have HG := Aside0.mk hg
 have JT := Aside0.mk hj
 subst hk
 have n1 : ((7 : Int) == 7) = true := rfl
 have FV := Aside0.mk hv
 have HKL := Aside0.mk hl
 have HC := Aside0.mk (Kd.R_reads' hO).2.1
 have HLn := (Kd.R_reads' hO).2.2.2.1
 have FC : Aside0 (Zh.f (keys.length + 1) keys x.f2 = some false) := ⟨by rw [xU _ _ _ (by omega) HLn, hh]⟩
 clear hh HLn
 clear hR hO hB hg hj hv hl
 have hgW := Yg HR.out
 have HA : Aside0 (Below W.heap.size W (W.alloc (.cells #[.int .i64 x.f0, .int .i64 x.f1, .string x.f2, .string x.f3, .int .i64 x.f4] 40))) := ⟨Za (ybd _ _) _⟩
 have HR := Aside0.mk (Zx HR.out HA.out)
 have HO := Aside0.mk (Kd.R_below HO.out HA.out)
 have HK := Aside0.mk (KeepBut.of_below HA.out g none)
 have HB := Aside0.mk (Ze HB.out HA.out)
 have HI : Aside0 (Itm (W.alloc (.cells #[.int .i64 x.f0, .int .i64 x.f1, .string x.f2, .string x.f3, .int .i64 x.f4] 40)) W.heap.size x) := ⟨ybi _ _⟩
 have hc0 := xaf HR.out
 unfold Yh
 go_enter Tryz.func31, Tryz.ntmps31
 go_wp2_with fail
 obtain ⟨b, hb⟩ : ∃ b, W.heap.size = b := ⟨_, rfl⟩
 have hne1 : ¬ b = g := by omega
 rw [hb] at HI
 rw [hb]
 clear hc0
 generalize W.alloc (.cells #[.int .i64 x.f0, .int .i64 x.f1, .string x.f2, .string x.f3, .int .i64 x.f4] 40) = w1 at HA HI HR HO HK HB ⊢
 clear HA hb
 refine wp_region_held_drew (S := fun w' => w'.cell? ⟨g, 1, none⟩ = some (.slice A keys.length c) ∧ w'.cell? ⟨b, 2, none⟩ = some (.string x.f2) ∧ Lv w' g 7 (.slice A keys.length c) ∧ Itm w' b x ∧ Keys w0 w' g (.slice A keys.length c) keys ∧ Below w0.heap.size w0 w' ∧ KeepBut w1 w' g none) (by kernel_rfl) ⟨yE HR.out, xD HI.out, HR.out, HI.out, Kd.R_move HO.out (fun _ _ => rfl), Xa HB.out, KeepBut.refl _ _ _⟩ (fun hHeld => ?_)
 refine tA 0 13 (v := ?_) rfl (.inl ⟨by rfl, ?_⟩) ?_
 rotate_left
 ·intro w hSw
  (try dsimp only at hSw)
  have hl0 := hSw.1
  have hl1 := hSw.2.1
  clear hSw
  go_simp
  (try with_reducible rfl)
 (try simp only [Act.put, qA, qB, qC])
 refine tA 1 14 (v := ?_) rfl (.inl ⟨by rfl, ?_⟩) ?_
 rotate_left
 ·intro w hSw
  (try dsimp only at hSw)
  have hl0 := hSw.1
  have hl1 := hSw.2.1
  clear hSw
  go_simp
  (try with_reducible rfl)
 (try simp only [Act.put, qA, qB, qC])
 refine wpAnyH_ready (rs := [2]) (by kernel_rfl) (by simp) ?_
 refine tB 15 rfl (fun K hK => ?_) AllReadyH.nil
 go_simp
 (go_at_call 30; refine (zo.calls x.f2 _ _ FV.out (JT.out.step hHeld.2.2.2.2.2.1)).mono ?_; rintro e w2 ⟨rfl, hbv⟩); go_wp2_with fail
 refine hK.out _ _ ?_ (fun hHeld => ?_)
 ·exact ⟨yE (Zx hHeld.2.2.1 hbv), xD ((hbv.block b (Yg hHeld.2.2.2.1)).trans hHeld.2.2.2.1), Zx hHeld.2.2.1 hbv, (hbv.block b (Yg hHeld.2.2.2.1)).trans hHeld.2.2.2.1, Kd.R_below hHeld.2.2.2.2.1 hbv, hHeld.2.2.2.2.2.1.trans (hbv.mono hHeld.2.2.2.2.2.1.size), hHeld.2.2.2.2.2.2.trans (KeepBut.of_below hbv g none) (.inl rfl)⟩
 clear hK K
 (try simp only [Act.put, qA, qB, qC])
 refine tA 3 16 (v := ?_) rfl (.inl ⟨by rfl, ?_⟩) ?_
 rotate_left
 ·intro w hSw
  (try dsimp only at hSw)
  have hl0 := hSw.1
  have hl1 := hSw.2.1
  clear hSw
  go_simp
  (try with_reducible rfl)
 (try simp only [Act.put, qA, qB, qC])
 refine tA 4 17 (v := ?_) rfl (.inl ⟨by rfl, ?_⟩) ?_
 rotate_left
 ·intro w hSw
  (try dsimp only at hSw)
  have hl0 := hSw.1
  have hl1 := hSw.2.1
  clear hSw
  go_simp
  (try with_reducible rfl)
 (try simp only [Act.put, qA, qB, qC])
 refine tA 5 18 (v := ?_) rfl (.inl ⟨by rfl, ?_⟩) ?_
 rotate_left
 ·intro w hSw
  (try dsimp only at hSw)
  have hl0 := hSw.1
  have hl1 := hSw.2.1
  clear hSw
  go_simp
  (try with_reducible rfl)
 (try simp only [Act.put, qA, qB, qC])
 refine tA 6 19 (v := ?_) rfl (.inl ⟨by rfl, ?_⟩) ?_
 rotate_left
 ·intro w hSw
  (try dsimp only at hSw)
  have hl0 := hSw.1
  have hl1 := hSw.2.1
  clear hSw
  go_simp
  (try with_reducible rfl)
 (try simp only [Act.put, qA, qB, qC])
 refine tA 7 20 (v := ?_) rfl (.inl ⟨by rfl, ?_⟩) ?_
 rotate_left
 ·intro w hSw
  (try dsimp only at hSw)
  have hl0 := hSw.1
  have hl1 := hSw.2.1
  clear hSw
  go_simp
  (try with_reducible rfl)
 (try simp only [Act.put, qA, qB, qC])
 refine tA 8 21 (v := ?_) rfl (.inl ⟨by rfl, ?_⟩) ?_
 rotate_left
 ·intro w hSw
  (try dsimp only at hSw)
  have hl0 := hSw.1
  have hl1 := hSw.2.1
  clear hSw
  go_simp
  (try with_reducible rfl)
 (try simp only [Act.put, qA, qB, qC])
 refine tA 9 22 (v := ?_) rfl (.inl ⟨by rfl, ?_⟩) ?_
 rotate_left
 ·intro w hSw
  (try dsimp only at hSw)
  have hl0 := hSw.1
  have hl1 := hSw.2.1
  clear hSw
  go_simp
  (try with_reducible rfl)
 (try simp only [Act.put, qA, qB, qC])
 refine tA 10 23 (v := ?_) rfl (.inl ⟨by rfl, ?_⟩) ?_
 rotate_left
 ·intro w hSw
  (try dsimp only at hSw)
  have hl0 := hSw.1
  have hl1 := hSw.2.1
  clear hSw
  go_simp
  (try with_reducible rfl)
 (try simp only [Act.put, qA, qB, qC])
 refine wpAnyH_ready (rs := [11]) (by kernel_rfl) (by simp) ?_
 refine tB 24 rfl (fun K hK => ?_) AllReadyH.nil
 go_simp
 (go_at_call 53; refine (Zh.calls (keys.length + 1) A c keys x.f2 _ _ (Kd.R_reads' hHeld.2.2.2.2.1).2.2 HC.out FC.out).mono ?_; rintro e w3 ⟨rfl, ⟨nd, rfl⟩⟩; have hbv := Ya (ybd w2.heap.size w2) nd); go_wp2_with fail
 refine hK.out _ _ ?_ (fun hHeld => ?_)
 ·exact ⟨yE (Zx hHeld.2.2.1 hbv), xD ((hbv.block b (Yg hHeld.2.2.2.1)).trans hHeld.2.2.2.1), Zx hHeld.2.2.1 hbv, (hbv.block b (Yg hHeld.2.2.2.1)).trans hHeld.2.2.2.1, Kd.R_below hHeld.2.2.2.2.1 hbv, hHeld.2.2.2.2.2.1.trans (hbv.mono hHeld.2.2.2.2.2.1.size), hHeld.2.2.2.2.2.2.trans (KeepBut.of_below hbv g none) (.inl rfl)⟩
 clear hK K
 (try simp only [Act.put, qA, qB, qC])
 refine tA 12 25 (v := ?_) rfl (.inl ⟨by rfl, ?_⟩) ?_
 rotate_left
 ·intro w hSw
  (try dsimp only at hSw)
  have hl0 := hSw.1
  have hl1 := hSw.2.1
  clear hSw
  go_simp
  (try with_reducible rfl)
 (try simp only [Act.put, qA, qB, qC])
 refine wpAnyH_done (by kernel_rfl) ?_ _
 have HL := Aside0.mk hHeld
 clear hHeld
 go_wp2_with fail
 generalize w2.drewN nd = w4 at HL ⊢
 refine ZG (n := 12) (S := fun w' => w'.cell? ⟨g, 1, none⟩ = some (.slice A keys.length c) ∧ w'.cell? ⟨b, 2, none⟩ = some (.string x.f2)) (ds := [8, 11]) #[false, false, false, false, false, false, false, false, false, false, false, false] (by kernel_rfl) rfl rfl ⟨yE HL.out.2.2.1, xD HL.out.2.2.2.1⟩ (fun hHeld => ?_)
 refine pq 0 26 (v := ?_) (a' := ?_) #[true, false, false, false, false, false, false, false, false, false, false, false] rfl (by kernel_rfl) (.inl ⟨by rfl, ?_⟩) ?_ ?_
 rotate_left
 ·intro w'
  go_simp
  (try with_reducible rfl)
 rotate_left
 ·simp only [Act.put, qA, qB, qC]
  rfl
 refine pq 1 27 (v := ?_) (a' := ?_) #[true, true, false, false, false, false, false, false, false, false, false, false] rfl (by kernel_rfl) (.inl ⟨by rfl, ?_⟩) ?_ ?_
 rotate_left
 ·intro w'
  go_simp
  (try with_reducible rfl)
 rotate_left
 ·simp only [Act.put, qA, qB, qC]
  rfl
 refine pq 2 28 (v := ?_) (a' := ?_) #[true, true, true, false, false, false, false, false, false, false, false, false] rfl (by kernel_rfl) (.inl ⟨by rfl, ?_⟩) ?_ ?_
 rotate_left
 ·intro w'
  go_simp
  (try with_reducible rfl)
 rotate_left
 ·simp only [Act.put, qA, qB, qC]
  rfl
 refine pq 3 29 (v := ?_) (a' := ?_) #[true, true, true, true, false, false, false, false, false, false, false, false] rfl (by kernel_rfl) (.inl ⟨by rfl, ?_⟩) ?_ ?_
 rotate_left
 ·intro w'
  go_simp
  (try with_reducible rfl)
 rotate_left
 ·simp only [Act.put, qA, qB, qC]
  rfl
 refine tq 4 30 (v := ?_) (a' := ?_) #[true, true, true, true, true, false, false, false, false, false, false, false] rfl (by kernel_rfl) (.inl ⟨by rfl, ?_⟩) (by assumption) ?_ ?_
 rotate_left
 ·intro w hSw
  obtain ⟨hl0, hl1⟩ := hSw
  go_simp
  (try with_reducible rfl)
 rotate_left
 ·simp only [Act.put, qA, qB, qC]
  rfl
 refine pq 5 31 (v := ?_) (a' := ?_) #[true, true, true, true, true, true, false, false, false, false, false, false] rfl (by kernel_rfl) (.inl ⟨by rfl, ?_⟩) ?_ ?_
 rotate_left
 ·intro w'
  go_simp
  (try with_reducible rfl)
 rotate_left
 ·simp only [Act.put, qA, qB, qC]
  rfl
 refine tq 6 32 (v := ?_) (a' := ?_) #[true, true, true, true, true, true, true, false, false, false, false, false] rfl (by kernel_rfl) (.inl ⟨by rfl, ?_⟩) (by assumption) ?_ ?_
 rotate_left
 ·intro w hSw
  obtain ⟨hl0, hl1⟩ := hSw
  go_simp
  (try with_reducible rfl)
 rotate_left
 ·simp only [Act.put, qA, qB, qC]
  rfl
 refine one_ (i := 7) (N := some 33) #[true, true, true, true, true, true, true, true, false, false, false, false] rfl rfl (by kernel_rfl) (by decide) (fun K hK => ?_)
 refine ZB (W := w4.drew) (v := .slice (some ⟨w4.heap.size, 0, none⟩) 1 1) (w1 := w4.drew.alloc (.cells #[.string x.f2] 9)) (by rfl) (by kernel_rfl) ?_
 refine hK.out _ _ ?_ (fun hHeld => ?_)
 ·exact keep_key HL.out.2.2.1 HL.out.2.2.2.1 _
 clear hK K
 (try simp only [Act.put, qA, qB, qC])
 refine ZA (i := 8) (N := some 34) #[true, true, true, true, true, true, true, true, true, false, false, false] rfl rfl (by kernel_rfl) (by decide) (fun K hK => ?_)
 refine push_key (.tmp 30) (.tmp 33) (by rfl) rfl rfl rfl HL.out.2.2.1 HL.out.2.2.2.2.1 HL.out.2.2.2.2.2.1 HG.out HKL.out ?_
 intro As N2 cc w2 hR2 hP2
 have hc2 := yE hR2
 have hf2 := zg hR2 1
 have HP := Aside0.mk hP2
 clear hR2 hP2
 refine hK.out _ _ ?_
 clear hK K
 (try simp only [Act.put, qA, qB, qC])
 refine pq 9 35 (v := ?_) (a' := ?_) #[true, true, true, true, true, true, true, true, true, true, false, false] rfl (by kernel_rfl) (.inl ⟨by rfl, ?_⟩) ?_ ?_
 rotate_left
 ·intro w'
  go_simp
  (try with_reducible rfl)
 rotate_left
 ·simp only [Act.put, qA, qB, qC]
  rfl
 refine pq 10 36 (v := ?_) (a' := ?_) #[true, true, true, true, true, true, true, true, true, true, true, false] rfl (by kernel_rfl) (.inl ⟨by rfl, ?_⟩) ?_ ?_
 rotate_left
 ·intro w'
  go_simp
  (try with_reducible rfl)
 rotate_left
 ·simp only [Act.put, qA, qB, qC]
  rfl
 refine ZA (i := 11) (N := none) #[true, true, true, true, true, true, true, true, true, true, true, true] rfl rfl (by kernel_rfl) (by decide) (fun K hK => ?_)
 go_simp
 refine hK.out _ _ ?_
 clear hK K
 (try simp only [Act.put, qA, qB, qC])
 refine xL (by kernel_rfl) ?_
 go_wp2_with fail
 go_ret
 exact ⟨rfl, LvLeft.pre (HK.out.trans HL.out.2.2.2.2.2.2 (.inl rfl)) HP.out⟩
def YV (kind : Int) (keys : List ByteArray) (x : S40) : Option (Bool × List ByteArray) :=
 if kind = 7 then (zo.f x.f2).bind fun ok => if ok = true then (if hasB x.f2 keys = true then some (false, keys) else if (keys.length + 1) * 16 ≤ 140737488355328 then some (true, keys ++ [x.f2]) else none) else some (false, keys)
 else some (x.f2.toList.isEmpty, keys)
theorem XaV (w0 W : World) (g : Nat) (kind : Int) (kv : Value) (keys : List ByteArray) (x : S40) (r : Bool × List ByteArray) (h : YV kind keys x = some r) (hR : Lv W g kind kv) (hO : Keys w0 W g kv keys) (hB : Below w0.heap.size w0 W) (hg : w0.heap.size ≤ g) (hj : Tabs w0) :
  Calls Tryz.prog 31 #[.pointer (some ⟨g, 0, none⟩), Yh x] W fun e W' => e = .returned (.bool r.1) ∧ LvLeft w0 W W' g kind kv r.2 := by
 obtain ⟨A, c, rfl⟩ := Kd.R_slice hO
 unfold YV at h
 by_cases hk : kind = 7
 ·rw [if_pos hk] at h
  obtain ⟨ok, hv, h⟩ := Ybe.1 h
  cases ok with
  | true =>
   rw [if_pos rfl] at h
   by_cases hh : hasB x.f2 keys = true
   ·rw [if_pos hh] at h
    cases h
    exact YaV w0 W g kind A c _ x hR hO hB hg hj hk hv hh
   ·rw [if_neg hh] at h
    by_cases hl : (keys.length + 1) * 16 ≤ 140737488355328
    ·rw [if_pos hl] at h
     cases h
     exact Ya6 w0 W g kind A c keys x hR hO hB hg hj hk hv (ybh.2 hh) hl
    ·rw [if_neg hl] at h; cases h
  | false =>
   rw [if_neg (by decide)] at h
   cases h
   exact xa6 w0 W g kind A c _ x hR hO hB hg hj hk hv
 ·rw [if_neg hk] at h
  cases h
  exact member_no w0 W g kind A c _ x hR hO hB hg hj hk
end Go.Proofs.NGiv
