/- What the proof of JsonPrints stands on, part 4: cut and merged by a program out of this session's texts. -/
import Derived.Test.YthhmmaihbjhhgaaGreatDoorKZ3
set_option linter.unusedVariables false
set_option linter.unusedSimpArgs false
namespace Go.Proofs.YthhmmaihbjhhgaaGreatDoor.Giv
open Go.RowKit Go.Proofs.YthhmmaihbjhhgaaGreatDoorW.PrintWords Go.Proofs.YthhmmaihbjhhgaaGreatDoorW.PrintLast Go.Proofs.YthhmmaihbjhhgaaGreatDoorW.PrintMore
open Go.Proofs.YthhmmaihbjhhgaaGreatDoor.U1 Go.Proofs.YthhmmaihbjhhgaaGreatDoor.Q1 Go.Proofs.YthhmmaihbjhhgaaGreatDoor.J0 Go.Proofs.YthhmmaihbjhhgaaGreatDoor.J1
set_option linter.unusedSimpArgs false
def wordF (s : ByteArray) (p : Nat) (out : List S40) (x : S40) : Int × Nat × List S40 :=
 if [110, 117, 108, 108] <+: s.data.toList.drop p then (0, p + 4, out ++ [⟨x.f0, 1, x.f2, x.f3, x.f4⟩])
 else if [102, 97, 108, 115, 101] <+: s.data.toList.drop p then (0, p + 5, out ++ [⟨x.f0, 2, x.f2, x.f3, x.f4⟩])
 else if [116, 114, 117, 101] <+: s.data.toList.drop p then (0, p + 4, out ++ [⟨x.f0, 3, x.f2, x.f3, x.f4⟩])
 else (80, p, out)
theorem word_calls (w0 W : World) (g : Nat) (s : ByteArray) (p : Nat) (v : Value) (out : List S40) (x : S40) (hR : Rd W g s p v) (hO : Out w0 W g v out) (hB : Below w0.heap.size w0 W) (hg : w0.heap.size ≤ g) (hp : p ≤ s.size) (hs : s.size ≤ 4611686018427387904) (hl : (out.length + 1) * 56 ≤ 140737488355328) :
  Calls Tryz.prog 43 #[.pointer (some ⟨g, 0, none⟩), itemV x] W fun e W' => e = .returned (.int .i64 (wordF s p out x).1) ∧ Left w0 W W' g s (wordF s p out x).2.1 v (wordF s p out x).2.2 := by
 have len : ∀ t : List UInt8, decide (t <+: s.data.toList.drop p) = true → p + t.length ≤ s.size := by
  intro t h
  have := List.IsPrefix.length_le (of_decide_eq_true h)
  rw [List.length_drop, data_length] at this
  omega
 have h := word_walk w0 W g s p v out x hR hO hB hg hp hs hl _ _ _ (prefix_f s p [110, 117, 108, 108]) (prefix_f s p [102, 97, 108, 115, 101]) (prefix_f s p [116, 114, 117, 101]) (len _) (len _) (len _)
 unfold wordF
 by_cases a : [110, 117, 108, 108] <+: s.data.toList.drop p
 ·rw [decide_eq_true a] at h; rw [if_pos a]; exact h
 ·rw [decide_eq_false a] at h; rw [if_neg a]
  by_cases b : [102, 97, 108, 115, 101] <+: s.data.toList.drop p
  ·rw [decide_eq_true b] at h; rw [if_pos b]; exact h
  ·rw [decide_eq_false b] at h; rw [if_neg b]
   by_cases c : [116, 114, 117, 101] <+: s.data.toList.drop p
   ·rw [decide_eq_true c] at h; rw [if_pos c]; exact h
   ·rw [decide_eq_false c] at h; rw [if_neg c]; exact h
theorem Left.comp {w0 w1 wf W' : World} {g q : Nat} {s : ByteArray} {v v' : Value} {out : List S40} (hA : v'.ownBlock = v.ownBlock ∨ ∃ b, v'.ownBlock = some b ∧ w1.heap.size ≤ b) (hK : KeepBut w1 wf g v.ownBlock) (h : Left w0 wf W' g s q v' out) : Left w0 w1 W' g s q v out := by
 refine ⟨?_, h.below, hK.trans h.keep hA⟩
 obtain ⟨v2, a, b, c⟩ := h.left
 refine ⟨v2, a, b, ?_⟩
 rcases c with c | ⟨k, c1, c2⟩
 ·rw [c]; exact hA
 ·exact .inr ⟨k, c1, Nat.le_trans hK.1 c2⟩
set_option maxHeartbeats 8000000 in
set_option maxRecDepth 100000 in
theorem value_word1 (w0 W : World) (g : Nat) (s : ByteArray) (p : Nat) (v : Value) (out : List S40) (x : S40) (hR : Rd W g s p v) (hO : Out w0 W g v out) (hB : Below w0.heap.size w0 W) (hg : w0.heap.size ≤ g) (hp : p ≤ s.size) (hs : s.size ≤ 4611686018427387904) (hj : JTabs w0) (hl : (out.length + 1) * 56 ≤ 140737488355328) (_h91 : nextC s p ≠ 91) (_h123 : nextC s p ≠ 123) (h34 : nextC s p ≠ 34) (h45 : nextC s p ≠ 45) (h48 : nextC s p < 48) :
  Calls Tryz.prog 22 #[.pointer (some ⟨g, 0, none⟩), itemV x] W fun e W' => e = .returned (.int .i64 (wordF s (skipP s p) out x).1) ∧ Left w0 W W' g s (wordF s (skipP s p) out x).2.1 v (wordF s (skipP s p) out x).2.2 := by
 have HR := Aside0.mk hR
 have HO := Aside0.mk hO
 have HB := Aside0.mk hB
 have HG := Aside0.mk hg
 have HS := Aside0.mk hs
 have HP := Aside0.mk hp
 have JT := Aside0.mk hj
 have HP1 := Aside0.mk (skip_le s p hp)
 have HL := Aside0.mk hl
 have c91 : ((nextC s p : Int) == 91) = false := beq_eq_false_iff_ne.mpr (by omega)
 have c123 : ((nextC s p : Int) == 123) = false := beq_eq_false_iff_ne.mpr (by omega)
 have c34 : ((nextC s p : Int) == 34) = false := beq_eq_false_iff_ne.mpr (by omega)
 have c45 : ((nextC s p : Int) == 45) = false := beq_eq_false_iff_ne.mpr (by omega)
 have d48 : decide (48 ≤ (nextC s p : Int)) = false := decide_eq_false (by omega)
 clear hR hB hg hs hO hp hj hl h34 h45 h48
 unfold itemV
 go_enter Tryz.func22, Tryz.ntmps22
 go_wp2_with fail
 obtain ⟨b, hb⟩ : ∃ b, W.heap.size = b := ⟨_, rfl⟩
 have hgW := blk_lt HR.out
 have HA : Aside0 (Below W.heap.size W (W.alloc (.cells #[.int .i64 x.f0, .int .i64 x.f1, .string x.f2, .string x.f3, .int .i64 x.f4] 40))) := ⟨below_alloc (Below.refl _ _) _⟩
 have HI : Aside0 (Itm (W.alloc (.cells #[.int .i64 x.f0, .int .i64 x.f1, .string x.f2, .string x.f3, .int .i64 x.f4] 40)) b x) := ⟨by rw [← hb]; exact heap_alloc_new _ _⟩
 have HR := Aside0.mk (rd_below HR.out HA.out)
 have HO : Aside0 (Kd.R k40 40 (W.alloc (.cells #[.int .i64 x.f0, .int .i64 x.f1, .string x.f2, .string x.f3, .int .i64 x.f4] 40)) w0.heap.size (fun j => j ≠ g ∧ j ≠ b) v out) := ⟨Kd.R_below (Kd.R_mono (Kd.R_bound HO.out) (fun k hk => ⟨hk.1, by have := hk.2.2.1; omega⟩)) HA.out⟩
 have HK := Aside0.mk (KeepBut.of_below HA.out g none)
 have HBo := HB
 have HB := Aside0.mk (below_step HB.out HA.out)
 have HB0 : Aside0 (w0.heap.size ≤ W.heap.size) := ⟨HBo.out.size⟩
 have HBG : Aside0 (W.heap.size ≤ b) := ⟨by omega⟩
 have hne1 : ¬ b = g := by omega
 have hne2 : ¬ g = b := by omega
 rw [hb]
 generalize W.alloc (.cells #[.int .i64 x.f0, .int .i64 x.f1, .string x.f2, .string x.f3, .int .i64 x.f4] 40) = W1 at HA HI HR HO HK HB ⊢
 clear HA hb
 go_wp2_with (first
  | (go_at_call 23; refine (next_calls w0 W1 g s p v HR.out HB.out HG.out HP.out HS.out).mono ?_; rintro e w2 ⟨rfl, hR2, hB2, hK2⟩; have HI := Aside0.mk ((hK2.2 b (blk_lt HI.out) hne1 (by simp)).trans HI.out); have HR := Aside0.mk hR2; have HO := Aside0.mk (Kd.R_keep HO.out hK2 (fun _ h => h.1)) ; have HK := Aside0.mk (HK.out.trans hK2 (.inl rfl)); have HB := Aside0.mk hB2; clear hR2 hB2 hK2; have hm0 : w2.cell? ⟨b, 0, none⟩ = some (.int .i64 x.f0) := (blk_cell HI.out 0).trans rfl; have hm1 : w2.cell? ⟨b, 1, none⟩ = some (.int .i64 x.f1) := (blk_cell HI.out 1).trans rfl; have hm2 : w2.cell? ⟨b, 2, none⟩ = some (.string x.f2) := (blk_cell HI.out 2).trans rfl; have hm3 : w2.cell? ⟨b, 3, none⟩ = some (.string x.f3) := (blk_cell HI.out 3).trans rfl; have hm4 : w2.cell? ⟨b, 4, none⟩ = some (.int .i64 x.f4) := (blk_cell HI.out 4).trans rfl)
  | (go_at_call 43; refine (word_calls w0 w2 g s (skipP s p) v out x HR.out (Kd.R_mono HO.out (fun _ h => h.1)) HB.out HG.out HP1.out HS.out HL.out).mono ?_; rintro e w3 ⟨rfl, hL⟩; have HL3 := Aside0.mk hL; clear hL))
 go_ret
 exact ⟨rfl, Left.pre HK.out HL3.out⟩
set_option maxHeartbeats 8000000 in
set_option maxRecDepth 100000 in
theorem value_word2 (w0 W : World) (g : Nat) (s : ByteArray) (p : Nat) (v : Value) (out : List S40) (x : S40) (hR : Rd W g s p v) (hO : Out w0 W g v out) (hB : Below w0.heap.size w0 W) (hg : w0.heap.size ≤ g) (hp : p ≤ s.size) (hs : s.size ≤ 4611686018427387904) (hj : JTabs w0) (hl : (out.length + 1) * 56 ≤ 140737488355328) (h91 : nextC s p ≠ 91) (h123 : nextC s p ≠ 123) (h34 : nextC s p ≠ 34) (h45 : nextC s p ≠ 45) (h48 : 57 < nextC s p) :
  Calls Tryz.prog 22 #[.pointer (some ⟨g, 0, none⟩), itemV x] W fun e W' => e = .returned (.int .i64 (wordF s (skipP s p) out x).1) ∧ Left w0 W W' g s (wordF s (skipP s p) out x).2.1 v (wordF s (skipP s p) out x).2.2 := by
 have HR := Aside0.mk hR
 have HO := Aside0.mk hO
 have HB := Aside0.mk hB
 have HG := Aside0.mk hg
 have HS := Aside0.mk hs
 have HP := Aside0.mk hp
 have JT := Aside0.mk hj
 have HP1 := Aside0.mk (skip_le s p hp)
 have HL := Aside0.mk hl
 have c91 : ((nextC s p : Int) == 91) = false := beq_eq_false_iff_ne.mpr (by omega)
 have c123 : ((nextC s p : Int) == 123) = false := beq_eq_false_iff_ne.mpr (by omega)
 have c34 : ((nextC s p : Int) == 34) = false := beq_eq_false_iff_ne.mpr (by omega)
 have c45 : ((nextC s p : Int) == 45) = false := beq_eq_false_iff_ne.mpr (by omega)
 have d48 : decide (48 ≤ (nextC s p : Int)) = true := decide_eq_true (by omega)
 have d57 : decide ((nextC s p : Int) ≤ 57) = false := decide_eq_false (by omega)
 clear hR hB hg hs hO hp hj hl h91 h123 h34 h45 h48
 unfold itemV
 go_enter Tryz.func22, Tryz.ntmps22
 go_wp2_with fail
 obtain ⟨b, hb⟩ : ∃ b, W.heap.size = b := ⟨_, rfl⟩
 have hgW := blk_lt HR.out
 have HA : Aside0 (Below W.heap.size W (W.alloc (.cells #[.int .i64 x.f0, .int .i64 x.f1, .string x.f2, .string x.f3, .int .i64 x.f4] 40))) := ⟨below_alloc (Below.refl _ _) _⟩
 have HI : Aside0 (Itm (W.alloc (.cells #[.int .i64 x.f0, .int .i64 x.f1, .string x.f2, .string x.f3, .int .i64 x.f4] 40)) b x) := ⟨by rw [← hb]; exact heap_alloc_new _ _⟩
 have HR := Aside0.mk (rd_below HR.out HA.out)
 have HO : Aside0 (Kd.R k40 40 (W.alloc (.cells #[.int .i64 x.f0, .int .i64 x.f1, .string x.f2, .string x.f3, .int .i64 x.f4] 40)) w0.heap.size (fun j => j ≠ g ∧ j ≠ b) v out) := ⟨Kd.R_below (Kd.R_mono (Kd.R_bound HO.out) (fun k hk => ⟨hk.1, by have := hk.2.2.1; omega⟩)) HA.out⟩
 have HK := Aside0.mk (KeepBut.of_below HA.out g none)
 have HBo := HB
 have HB := Aside0.mk (below_step HB.out HA.out)
 have HB0 : Aside0 (w0.heap.size ≤ W.heap.size) := ⟨HBo.out.size⟩
 have HBG : Aside0 (W.heap.size ≤ b) := ⟨by omega⟩
 have hne1 : ¬ b = g := by omega
 have hne2 : ¬ g = b := by omega
 rw [hb]
 generalize W.alloc (.cells #[.int .i64 x.f0, .int .i64 x.f1, .string x.f2, .string x.f3, .int .i64 x.f4] 40) = W1 at HA HI HR HO HK HB ⊢
 clear HA hb
 go_wp2_with (first
  | (go_at_call 23; refine (next_calls w0 W1 g s p v HR.out HB.out HG.out HP.out HS.out).mono ?_; rintro e w2 ⟨rfl, hR2, hB2, hK2⟩; have HI := Aside0.mk ((hK2.2 b (blk_lt HI.out) hne1 (by simp)).trans HI.out); have HR := Aside0.mk hR2; have HO := Aside0.mk (Kd.R_keep HO.out hK2 (fun _ h => h.1)) ; have HK := Aside0.mk (HK.out.trans hK2 (.inl rfl)); have HB := Aside0.mk hB2; clear hR2 hB2 hK2; have hm0 : w2.cell? ⟨b, 0, none⟩ = some (.int .i64 x.f0) := (blk_cell HI.out 0).trans rfl; have hm1 : w2.cell? ⟨b, 1, none⟩ = some (.int .i64 x.f1) := (blk_cell HI.out 1).trans rfl; have hm2 : w2.cell? ⟨b, 2, none⟩ = some (.string x.f2) := (blk_cell HI.out 2).trans rfl; have hm3 : w2.cell? ⟨b, 3, none⟩ = some (.string x.f3) := (blk_cell HI.out 3).trans rfl; have hm4 : w2.cell? ⟨b, 4, none⟩ = some (.int .i64 x.f4) := (blk_cell HI.out 4).trans rfl)
  | (go_at_call 43; refine (word_calls w0 w2 g s (skipP s p) v out x HR.out (Kd.R_mono HO.out (fun _ h => h.1)) HB.out HG.out HP1.out HS.out HL.out).mono ?_; rintro e w3 ⟨rfl, hL⟩; have HL3 := Aside0.mk hL; clear hL))
 go_ret
 exact ⟨rfl, Left.pre HK.out HL3.out⟩
set_option maxHeartbeats 8000000 in
set_option maxRecDepth 100000 in
theorem value_text_err (w0 W : World) (g : Nat) (s : ByteArray) (p : Nat) (v : Value) (out : List S40) (x : S40) (hR : Rd W g s p v) (hO : Out w0 W g v out) (hB : Below w0.heap.size w0 W) (hg : w0.heap.size ≤ g) (hp : p ≤ s.size) (hs : s.size ≤ 4611686018427387904) (hj : JTabs w0) (k : Nat) (t : ByteArray) (m : Nat) (er : Int) (h34 : nextC s p = 34) (hr : quote_Read.f k (s.extract (skipP s p) s.size) = some (t, (m : Int), er)) (hm : skipP s p + m ≤ s.size) (he : er ≠ 0) :
  Calls Tryz.prog 22 #[.pointer (some ⟨g, 0, none⟩), itemV x] W fun e W' => e = .returned (.int .i64 er) ∧ Left w0 W W' g s (skipP s p + m) v out := by
 have HR := Aside0.mk hR
 have HO := Aside0.mk hO
 have HB := Aside0.mk hB
 have HG := Aside0.mk hg
 have HS := Aside0.mk hs
 have HP := Aside0.mk hp
 have JT := Aside0.mk hj
 have HP1 := Aside0.mk (skip_le s p hp)
 have c91 : ((nextC s p : Int) == 91) = false := beq_eq_false_iff_ne.mpr (by omega)
 have c123 : ((nextC s p : Int) == 123) = false := beq_eq_false_iff_ne.mpr (by omega)
 have c34 : ((nextC s p : Int) == 34) = true := beq_iff_eq.mpr (by omega)
 have c45 : ((nextC s p : Int) == 45) = false := beq_eq_false_iff_ne.mpr (by omega)
 have FR := Aside0.mk hr
 have HM := Aside0.mk hm
 have n1 : (er == 0) = false := beq_eq_false_iff_ne.mpr he
 have n2 : (er != 0) = true := bne_iff_ne.mpr he
 clear hR hB hg hs hO hp hj h34 hr hm he
 unfold itemV
 go_enter Tryz.func22, Tryz.ntmps22
 go_wp2_with fail
 obtain ⟨b, hb⟩ : ∃ b, W.heap.size = b := ⟨_, rfl⟩
 have hgW := blk_lt HR.out
 have HA : Aside0 (Below W.heap.size W (W.alloc (.cells #[.int .i64 x.f0, .int .i64 x.f1, .string x.f2, .string x.f3, .int .i64 x.f4] 40))) := ⟨below_alloc (Below.refl _ _) _⟩
 have HI : Aside0 (Itm (W.alloc (.cells #[.int .i64 x.f0, .int .i64 x.f1, .string x.f2, .string x.f3, .int .i64 x.f4] 40)) b x) := ⟨by rw [← hb]; exact heap_alloc_new _ _⟩
 have HR := Aside0.mk (rd_below HR.out HA.out)
 have HO : Aside0 (Kd.R k40 40 (W.alloc (.cells #[.int .i64 x.f0, .int .i64 x.f1, .string x.f2, .string x.f3, .int .i64 x.f4] 40)) w0.heap.size (fun j => j ≠ g ∧ j ≠ b) v out) := ⟨Kd.R_below (Kd.R_mono (Kd.R_bound HO.out) (fun k hk => ⟨hk.1, by have := hk.2.2.1; omega⟩)) HA.out⟩
 have HK := Aside0.mk (KeepBut.of_below HA.out g none)
 have HBo := HB
 have HB := Aside0.mk (below_step HB.out HA.out)
 have HB0 : Aside0 (w0.heap.size ≤ W.heap.size) := ⟨HBo.out.size⟩
 have HBG : Aside0 (W.heap.size ≤ b) := ⟨by omega⟩
 have hne1 : ¬ b = g := by omega
 have hne2 : ¬ g = b := by omega
 rw [hb]
 generalize W.alloc (.cells #[.int .i64 x.f0, .int .i64 x.f1, .string x.f2, .string x.f3, .int .i64 x.f4] 40) = W1 at HA HI HR HO HK HB ⊢
 clear HA hb
 go_wp2_with (first
  | (go_at_call 23; refine (next_calls w0 W1 g s p v HR.out HB.out HG.out HP.out HS.out).mono ?_; rintro e w2 ⟨rfl, hR2, hB2, hK2⟩; have HI := Aside0.mk ((hK2.2 b (blk_lt HI.out) hne1 (by simp)).trans HI.out); have HR := Aside0.mk hR2; have HO := Aside0.mk (Kd.R_keep HO.out hK2 (fun _ h => h.1)) ; have HK := Aside0.mk (HK.out.trans hK2 (.inl rfl)); have HB := Aside0.mk hB2; clear hR2 hB2 hK2; have hm1 : w2.cell? ⟨b, 1, none⟩ = some (.int .i64 x.f1) := (blk_cell HI.out 1).trans rfl; have hfm1 := blk_frozen HI.out 1)
  | (go_at_call 41; have hRx : Rd (w2.setCell ⟨b, 1, none⟩ (.int .i64 5)) g s (skipP s p) v := blk_far HR.out (p := ⟨b, 1, none⟩) hne2 _; have hIx : Itm (w2.setCell ⟨b, 1, none⟩ (.int .i64 5)) b (⟨x.f0, 5, x.f2, x.f3, x.f4⟩ : S40) := blk_set HI.out 1 _; have hBx := below_set (j := 1) (v := .int .i64 5) (g := b) HB.out (Nat.le_trans HB0.out HBG.out); have hOx := Kd.R_far HO.out (p := ⟨b, 1, none⟩) (fun _ h => h.2) (.int .i64 5); have hKx := keep_far HK.out (p := ⟨b, 1, none⟩) HBG.out (.int .i64 5); refine (text_calls k w0 _ g s (skipP s p) v t m _ hRx hBx HG.out HP1.out HS.out JT.out FR.out HM.out).mono ?_; rintro e w3 ⟨rfl, hR3, hB3, hK3⟩; have HI3 := Aside0.mk ((hK3.2 b (blk_lt hIx) hne1 (by simp)).trans hIx); have HR3 := Aside0.mk hR3; have HO3 := Aside0.mk (Kd.R_keep hOx hK3 (fun _ h => h.1)); have HK3 := Aside0.mk (hKx.trans hK3 (.inl rfl)); have HB3 := Aside0.mk hB3; clear hR3 hB3 hK3 hRx hIx hBx hOx hKx; have hfn := blk_frozen HI3.out 3; have hmn : w3.cell? ⟨b, 3, none⟩ = some (.string x.f3) := (blk_cell HI3.out 3).trans rfl))
 go_ret
 exact ⟨rfl, ⟨v, blk_far HR3.out (p := ⟨b, 3, none⟩) hne2 _, Kd.R_mono (Kd.R_far HO3.out (p := ⟨b, 3, none⟩) (fun _ h => h.2) _) (fun _ h => h.1), .inl rfl⟩, below_set HB3.out (Nat.le_trans HB0.out HBG.out), keep_wide (keep_far HK3.out (p := ⟨b, 3, none⟩) HBG.out _)⟩
set_option maxHeartbeats 8000000 in
set_option maxRecDepth 100000 in
theorem value_text (w0 W : World) (g : Nat) (s : ByteArray) (p : Nat) (v : Value) (out : List S40) (x : S40) (hR : Rd W g s p v) (hO : Out w0 W g v out) (hB : Below w0.heap.size w0 W) (hg : w0.heap.size ≤ g) (hp : p ≤ s.size) (hs : s.size ≤ 4611686018427387904) (hj : JTabs w0) (hl : (out.length + 1) * 56 ≤ 140737488355328) (k : Nat) (t : ByteArray) (m : Nat)  (h34 : nextC s p = 34) (hr : quote_Read.f k (s.extract (skipP s p) s.size) = some (t, (m : Int), 0)) (hm : skipP s p + m ≤ s.size) :
  Calls Tryz.prog 22 #[.pointer (some ⟨g, 0, none⟩), itemV x] W fun e W' => e = .returned (.int .i64 0) ∧ Left w0 W W' g s (skipP s p + m) v (out ++ [(⟨x.f0, 5, x.f2, t, x.f4⟩ : S40)]) := by
 have HR := Aside0.mk hR
 have HO := Aside0.mk hO
 have HB := Aside0.mk hB
 have HG := Aside0.mk hg
 have HS := Aside0.mk hs
 have HP := Aside0.mk hp
 have JT := Aside0.mk hj
 have HP1 := Aside0.mk (skip_le s p hp)
 have HL := Aside0.mk hl
 have c91 : ((nextC s p : Int) == 91) = false := beq_eq_false_iff_ne.mpr (by omega)
 have c123 : ((nextC s p : Int) == 123) = false := beq_eq_false_iff_ne.mpr (by omega)
 have c34 : ((nextC s p : Int) == 34) = true := beq_iff_eq.mpr (by omega)
 have c45 : ((nextC s p : Int) == 45) = false := beq_eq_false_iff_ne.mpr (by omega)
 have FR := Aside0.mk hr
 have HM := Aside0.mk hm
 clear hR hB hg hs hO hp hj hl h34 hr hm
 unfold itemV
 go_enter Tryz.func22, Tryz.ntmps22
 go_wp2_with fail
 obtain ⟨b, hb⟩ : ∃ b, W.heap.size = b := ⟨_, rfl⟩
 have hgW := blk_lt HR.out
 have HA : Aside0 (Below W.heap.size W (W.alloc (.cells #[.int .i64 x.f0, .int .i64 x.f1, .string x.f2, .string x.f3, .int .i64 x.f4] 40))) := ⟨below_alloc (Below.refl _ _) _⟩
 have HI : Aside0 (Itm (W.alloc (.cells #[.int .i64 x.f0, .int .i64 x.f1, .string x.f2, .string x.f3, .int .i64 x.f4] 40)) b x) := ⟨by rw [← hb]; exact heap_alloc_new _ _⟩
 have HR := Aside0.mk (rd_below HR.out HA.out)
 have HO : Aside0 (Kd.R k40 40 (W.alloc (.cells #[.int .i64 x.f0, .int .i64 x.f1, .string x.f2, .string x.f3, .int .i64 x.f4] 40)) w0.heap.size (fun j => j ≠ g ∧ j ≠ b) v out) := ⟨Kd.R_below (Kd.R_mono (Kd.R_bound HO.out) (fun k hk => ⟨hk.1, by have := hk.2.2.1; omega⟩)) HA.out⟩
 have HK := Aside0.mk (KeepBut.of_below HA.out g none)
 have HBo := HB
 have HB := Aside0.mk (below_step HB.out HA.out)
 have HB0 : Aside0 (w0.heap.size ≤ W.heap.size) := ⟨HBo.out.size⟩
 have HBG : Aside0 (W.heap.size ≤ b) := ⟨by omega⟩
 have hne1 : ¬ b = g := by omega
 have hne2 : ¬ g = b := by omega
 rw [hb]
 generalize W.alloc (.cells #[.int .i64 x.f0, .int .i64 x.f1, .string x.f2, .string x.f3, .int .i64 x.f4] 40) = W1 at HA HI HR HO HK HB ⊢
 clear HA hb
 go_wp2_with (first
  | (go_at_call 23; refine (next_calls w0 W1 g s p v HR.out HB.out HG.out HP.out HS.out).mono ?_; rintro e w2 ⟨rfl, hR2, hB2, hK2⟩; have HI := Aside0.mk ((hK2.2 b (blk_lt HI.out) hne1 (by simp)).trans HI.out); have HR := Aside0.mk hR2; have HO := Aside0.mk (Kd.R_keep HO.out hK2 (fun _ h => h.1)) ; have HK := Aside0.mk (HK.out.trans hK2 (.inl rfl)); have HB := Aside0.mk hB2; clear hR2 hB2 hK2; have hm1 : w2.cell? ⟨b, 1, none⟩ = some (.int .i64 x.f1) := (blk_cell HI.out 1).trans rfl; have hfm1 := blk_frozen HI.out 1)
  | (go_at_call 41; have hRx : Rd (w2.setCell ⟨b, 1, none⟩ (.int .i64 5)) g s (skipP s p) v := blk_far HR.out (p := ⟨b, 1, none⟩) hne2 _; have hIx : Itm (w2.setCell ⟨b, 1, none⟩ (.int .i64 5)) b (⟨x.f0, 5, x.f2, x.f3, x.f4⟩ : S40) := blk_set HI.out 1 _; have hBx := below_set (j := 1) (v := .int .i64 5) (g := b) HB.out (Nat.le_trans HB0.out HBG.out); have hOx := Kd.R_far HO.out (p := ⟨b, 1, none⟩) (fun _ h => h.2) (.int .i64 5); have hKx := keep_far HK.out (p := ⟨b, 1, none⟩) HBG.out (.int .i64 5); refine (text_calls k w0 _ g s (skipP s p) v t m _ hRx hBx HG.out HP1.out HS.out JT.out FR.out HM.out).mono ?_; rintro e w3 ⟨rfl, hR3, hB3, hK3⟩; have HI3 := Aside0.mk ((hK3.2 b (blk_lt hIx) hne1 (by simp)).trans hIx); have HR3 := Aside0.mk hR3; have HO3 := Aside0.mk (Kd.R_keep hOx hK3 (fun _ h => h.1)); have HK3 := Aside0.mk (hKx.trans hK3 (.inl rfl)); have HB3 := Aside0.mk hB3; clear hR3 hB3 hK3 hRx hIx hBx hOx hKx; have hfn := blk_frozen HI3.out 3; have hmn : w3.cell? ⟨b, 3, none⟩ = some (.string x.f3) := (blk_cell HI3.out 3).trans rfl))
 have HRa : Aside0 (Rd (w3.setCell ⟨b, 3, none⟩ (.string t)) g s (skipP s p + m) v) := ⟨blk_far HR3.out (p := ⟨b, 3, none⟩) hne2 _⟩
 have HIa : Aside0 (Itm (w3.setCell ⟨b, 3, none⟩ (.string t)) b (⟨x.f0, 5, x.f2, t, x.f4⟩ : S40)) := ⟨blk_set HI3.out 3 _⟩
 have HOa := Aside0.mk (Kd.R_far HO3.out (p := ⟨b, 3, none⟩) (fun _ h => h.2) (.string t))
 have HKa := Aside0.mk (keep_far HK3.out (p := ⟨b, 3, none⟩) HBG.out (.string t))
 have HBa := Aside0.mk (below_set (j := 3) (v := .string t) (g := b) HB3.out (Nat.le_trans HB0.out HBG.out))
 clear hfn hmn
 generalize w3.setCell ⟨b, 3, none⟩ (.string t) = w1 at HRa HIa HOa HKa HBa ⊢
 refine start_ (n := 11) (S := fun w' => w'.cell? ⟨g, 2, none⟩ = some v ∧ w'.heap[b]? = some (.cells #[.int .i64 ((⟨x.f0, 5, x.f2, t, x.f4⟩ : S40)).f0, .int .i64 ((⟨x.f0, 5, x.f2, t, x.f4⟩ : S40)).f1, .string ((⟨x.f0, 5, x.f2, t, x.f4⟩ : S40)).f2, .string ((⟨x.f0, 5, x.f2, t, x.f4⟩ : S40)).f3, .int .i64 ((⟨x.f0, 5, x.f2, t, x.f4⟩ : S40)).f4] 40 (0, 0))) (ds := [7, 10]) #[false, false, false, false, false, false, false, false, false, false, false] (by kernel_rfl) rfl rfl ⟨rd_cell2 HRa.out, HIa.out⟩ (fun hHeld => ?_)
 refine pure_ (i := 0) (N := some 79) (v := ?_) (a' := ?_) #[true, false, false, false, false, false, false, false, false, false, false] rfl rfl (by kernel_rfl) (fun _ _ _ h => h) (Or.inl ⟨by rfl, ?_⟩) ?_ ?_
 rotate_left
 ·intro w'
  go_simp
  (try with_reducible rfl)
 rotate_left
 ·simp only [Act.put, qA, qB, qC]
  rfl
 refine pure_ (i := 1) (N := some 80) (v := ?_) (a' := ?_) #[true, true, false, false, false, false, false, false, false, false, false] rfl rfl (by kernel_rfl) (fun _ _ _ h => h) (Or.inl ⟨by rfl, ?_⟩) ?_ ?_
 rotate_left
 ·intro w'
  go_simp
  (try with_reducible rfl)
 rotate_left
 ·simp only [Act.put, qA, qB, qC]
  rfl
 refine pure_ (i := 2) (N := some 81) (v := ?_) (a' := ?_) #[true, true, true, false, false, false, false, false, false, false, false] rfl rfl (by kernel_rfl) (fun _ _ _ h => h) (Or.inl ⟨by rfl, ?_⟩) ?_ ?_
 rotate_left
 ·intro w'
  go_simp
  (try with_reducible rfl)
 rotate_left
 ·simp only [Act.put, qA, qB, qC]
  rfl
 refine pure_ (i := 3) (N := some 82) (v := ?_) (a' := ?_) #[true, true, true, true, false, false, false, false, false, false, false] rfl rfl (by kernel_rfl) (fun _ _ _ h => h) (Or.inl ⟨by rfl, ?_⟩) ?_ ?_
 rotate_left
 ·intro w'
  go_simp
  (try with_reducible rfl)
 rotate_left
 ·simp only [Act.put, qA, qB, qC]
  rfl
 refine take_ (i := 4) (N := some 83) (v := ?_) (a' := ?_) #[true, true, true, true, true, false, false, false, false, false, false] rfl rfl (by kernel_rfl) (fun _ _ _ h => h) (Or.inl ⟨by rfl, ?_⟩) (by assumption) ?_ ?_
 rotate_left
 ·intro w hSw
  obtain ⟨hl0, hl1⟩ := hSw
  go_simp
  (try with_reducible rfl)
 rotate_left
 ·simp only [Act.put, qA, qB, qC]
  rfl
 refine take_ (i := 5) (N := some 84) (v := ?_) (a' := ?_) #[true, true, true, true, true, true, false, false, false, false, false] rfl rfl (by kernel_rfl) (fun _ _ _ h => h) (Or.inl ⟨by rfl, ?_⟩) (by assumption) ?_ ?_
 rotate_left
 ·intro w hSw
  obtain ⟨hl0, hl1⟩ := hSw
  have hm0 : w.cell? ⟨b, 0, none⟩ = some (.int .i64 ((⟨x.f0, 5, x.f2, t, x.f4⟩ : S40)).f0) := (blk_cell hl1 0).trans rfl
  have hm1 : w.cell? ⟨b, 1, none⟩ = some (.int .i64 ((⟨x.f0, 5, x.f2, t, x.f4⟩ : S40)).f1) := (blk_cell hl1 1).trans rfl
  have hm2 : w.cell? ⟨b, 2, none⟩ = some (.string ((⟨x.f0, 5, x.f2, t, x.f4⟩ : S40)).f2) := (blk_cell hl1 2).trans rfl
  have hm3 : w.cell? ⟨b, 3, none⟩ = some (.string ((⟨x.f0, 5, x.f2, t, x.f4⟩ : S40)).f3) := (blk_cell hl1 3).trans rfl
  have hm4 : w.cell? ⟨b, 4, none⟩ = some (.int .i64 ((⟨x.f0, 5, x.f2, t, x.f4⟩ : S40)).f4) := (blk_cell hl1 4).trans rfl
  clear hl1
  go_simp
  (try with_reducible rfl)
 rotate_left
 ·simp only [Act.put, qA, qB, qC]
  rfl
 refine one_ (i := 6) (N := some 85) #[true, true, true, true, true, true, true, false, false, false, false] rfl rfl (by kernel_rfl) (by decide) (fun K hK => ?_)
 refine event_step (W := w1.drew) (v := .slice (some ⟨w1.heap.size, 0, none⟩) 1 1) (w1 := w1.drew.alloc (.cells #[.int .i64 ((⟨x.f0, 5, x.f2, t, x.f4⟩ : S40)).f0, .int .i64 ((⟨x.f0, 5, x.f2, t, x.f4⟩ : S40)).f1, .string ((⟨x.f0, 5, x.f2, t, x.f4⟩ : S40)).f2, .string ((⟨x.f0, 5, x.f2, t, x.f4⟩ : S40)).f3, .int .i64 ((⟨x.f0, 5, x.f2, t, x.f4⟩ : S40)).f4] 40)) (by rfl) (by kernel_rfl) ?_
 refine hK.out _ _ ?_ (fun hHeld => ?_)
 ·exact keep_push HRa.out HIa.out _
 clear hK K
 (try simp only [Act.put, qA, qB, qC])
 refine last_ (i := 7) (N := some 86) #[true, true, true, true, true, true, true, true, false, false, false] rfl rfl (by kernel_rfl) (by decide) (fun K hK => ?_)
 refine push_append (.tmp 83) (.tmp 85) (by rfl) rfl rfl rfl HRa.out HIa.out HOa.out HBa.out HG.out HL.out ?_
 intro As N2 cc w2 hR2 hP2
 have hc2a := rd_cell2 hR2
 have hf2a := blk_frozen hR2 2
 have HPa := Aside0.mk hP2
 clear hR2 hP2
 refine hK.out _ _ ?_
 clear hK K
 (try simp only [Act.put, qA, qB, qC])
 refine pure_ (i := 8) (N := some 87) (v := ?_) (a' := ?_) #[true, true, true, true, true, true, true, true, true, false, false] rfl rfl (by kernel_rfl) (fun _ _ _ h => h) (Or.inl ⟨by rfl, ?_⟩) ?_ ?_
 rotate_left
 ·intro w'
  go_simp
  (try with_reducible rfl)
 rotate_left
 ·simp only [Act.put, qA, qB, qC]
  rfl
 refine pure_ (i := 9) (N := some 88) (v := ?_) (a' := ?_) #[true, true, true, true, true, true, true, true, true, true, false] rfl rfl (by kernel_rfl) (fun _ _ _ h => h) (Or.inl ⟨by rfl, ?_⟩) ?_ ?_
 rotate_left
 ·intro w'
  go_simp
  (try with_reducible rfl)
 rotate_left
 ·simp only [Act.put, qA, qB, qC]
  rfl
 refine last_ (i := 10) (N := none) #[true, true, true, true, true, true, true, true, true, true, true] rfl rfl (by kernel_rfl) (by decide) (fun K hK => ?_)
 go_simp
 refine hK.out _ _ ?_
 clear hK K
 (try simp only [Act.put, qA, qB, qC])
 refine done_ (by kernel_rfl) ?_
 go_wp2_with fail
 go_ret
 exact ⟨rfl, Left.pre HKa.out HPa.out⟩
set_option maxHeartbeats 8000000 in
set_option maxRecDepth 100000 in
theorem value_num_err_a (w0 W : World) (g : Nat) (s : ByteArray) (p : Nat) (v : Value) (out : List S40) (x : S40) (hR : Rd W g s p v) (hO : Out w0 W g v out) (hB : Below w0.heap.size w0 W) (hg : w0.heap.size ≤ g) (hp : p ≤ s.size) (hs : s.size ≤ 4611686018427387904) (hj : JTabs w0) (n er : Int) (q : Nat) (hn : nextC s p = 45) (hr : numberS s (skipP s p) = (n, er, q)) (he : er ≠ 0) :
  Calls Tryz.prog 22 #[.pointer (some ⟨g, 0, none⟩), itemV x] W fun e W' => e = .returned (.int .i64 er) ∧ Left w0 W W' g s q v out := by
 have HR := Aside0.mk hR
 have HO := Aside0.mk hO
 have HB := Aside0.mk hB
 have HG := Aside0.mk hg
 have HS := Aside0.mk hs
 have HP := Aside0.mk hp
 have JT := Aside0.mk hj
 have HP1 := Aside0.mk (skip_le s p hp)
 have c91 : ((nextC s p : Int) == 91) = false := beq_eq_false_iff_ne.mpr (by omega)
 have c123 : ((nextC s p : Int) == 123) = false := beq_eq_false_iff_ne.mpr (by omega)
 have c34 : ((nextC s p : Int) == 34) = false := beq_eq_false_iff_ne.mpr (by omega)
 have c45 : ((nextC s p : Int) == 45) = true := beq_iff_eq.mpr (by omega)
 have FR := Aside0.mk hr
 have n1 : (er == 0) = false := beq_eq_false_iff_ne.mpr he
 have n2 : (er != 0) = true := bne_iff_ne.mpr he
 clear hR hB hg hs hO hp hj hr hn he
 unfold itemV
 go_enter Tryz.func22, Tryz.ntmps22
 go_wp2_with fail
 obtain ⟨b, hb⟩ : ∃ b, W.heap.size = b := ⟨_, rfl⟩
 have hgW := blk_lt HR.out
 have HA : Aside0 (Below W.heap.size W (W.alloc (.cells #[.int .i64 x.f0, .int .i64 x.f1, .string x.f2, .string x.f3, .int .i64 x.f4] 40))) := ⟨below_alloc (Below.refl _ _) _⟩
 have HI : Aside0 (Itm (W.alloc (.cells #[.int .i64 x.f0, .int .i64 x.f1, .string x.f2, .string x.f3, .int .i64 x.f4] 40)) b x) := ⟨by rw [← hb]; exact heap_alloc_new _ _⟩
 have HR := Aside0.mk (rd_below HR.out HA.out)
 have HO : Aside0 (Kd.R k40 40 (W.alloc (.cells #[.int .i64 x.f0, .int .i64 x.f1, .string x.f2, .string x.f3, .int .i64 x.f4] 40)) w0.heap.size (fun j => j ≠ g ∧ j ≠ b) v out) := ⟨Kd.R_below (Kd.R_mono (Kd.R_bound HO.out) (fun k hk => ⟨hk.1, by have := hk.2.2.1; omega⟩)) HA.out⟩
 have HK := Aside0.mk (KeepBut.of_below HA.out g none)
 have HBo := HB
 have HB := Aside0.mk (below_step HB.out HA.out)
 have HB0 : Aside0 (w0.heap.size ≤ W.heap.size) := ⟨HBo.out.size⟩
 have HBG : Aside0 (W.heap.size ≤ b) := ⟨by omega⟩
 have hne1 : ¬ b = g := by omega
 have hne2 : ¬ g = b := by omega
 rw [hb]
 generalize W.alloc (.cells #[.int .i64 x.f0, .int .i64 x.f1, .string x.f2, .string x.f3, .int .i64 x.f4] 40) = W1 at HA HI HR HO HK HB ⊢
 clear HA hb
 go_wp2_with (first
  | (go_at_call 23; refine (next_calls w0 W1 g s p v HR.out HB.out HG.out HP.out HS.out).mono ?_; rintro e w2 ⟨rfl, hR2, hB2, hK2⟩; have HI := Aside0.mk ((hK2.2 b (blk_lt HI.out) hne1 (by simp)).trans HI.out); have HR := Aside0.mk hR2; have HO := Aside0.mk (Kd.R_keep HO.out hK2 (fun _ h => h.1)) ; have HK := Aside0.mk (HK.out.trans hK2 (.inl rfl)); have HB := Aside0.mk hB2; clear hR2 hB2 hK2; have hm1 : w2.cell? ⟨b, 1, none⟩ = some (.int .i64 x.f1) := (blk_cell HI.out 1).trans rfl; have hfm1 := blk_frozen HI.out 1)
  | (go_at_call 42; have hRx : Rd (w2.setCell ⟨b, 1, none⟩ (.int .i64 4)) g s (skipP s p) v := blk_far HR.out (p := ⟨b, 1, none⟩) hne2 _; have hIx : Itm (w2.setCell ⟨b, 1, none⟩ (.int .i64 4)) b (⟨x.f0, 4, x.f2, x.f3, x.f4⟩ : S40) := blk_set HI.out 1 _; have hBx := below_set (j := 1) (v := .int .i64 4) (g := b) HB.out (Nat.le_trans HB0.out HBG.out); have hOx := Kd.R_far HO.out (p := ⟨b, 1, none⟩) (fun _ h => h.2) (.int .i64 4); have hKx := keep_far HK.out (p := ⟨b, 1, none⟩) HBG.out (.int .i64 4); refine (number_calls w0 _ g s (skipP s p) v hRx hBx HG.out HP1.out HS.out JT.out).mono ?_; rw [FR.out]; rintro e w3 ⟨rfl, hR3, hB3, hK3⟩; have HI3 := Aside0.mk ((hK3.2 b (blk_lt hIx) hne1 (by simp)).trans hIx); have HR3 := Aside0.mk hR3; have HO3 := Aside0.mk (Kd.R_keep hOx hK3 (fun _ h => h.1)); have HK3 := Aside0.mk (hKx.trans hK3 (.inl rfl)); have HB3 := Aside0.mk hB3; clear hR3 hB3 hK3 hRx hIx hBx hOx hKx; have hfn := blk_frozen HI3.out 4; have hmn : w3.cell? ⟨b, 4, none⟩ = some (.int .i64 x.f4) := (blk_cell HI3.out 4).trans rfl))
 go_ret
 exact ⟨rfl, ⟨v, blk_far HR3.out (p := ⟨b, 4, none⟩) hne2 _, Kd.R_mono (Kd.R_far HO3.out (p := ⟨b, 4, none⟩) (fun _ h => h.2) _) (fun _ h => h.1), .inl rfl⟩, below_set HB3.out (Nat.le_trans HB0.out HBG.out), keep_wide (keep_far HK3.out (p := ⟨b, 4, none⟩) HBG.out _)⟩
set_option maxHeartbeats 8000000 in
set_option maxRecDepth 100000 in
theorem value_num_a (w0 W : World) (g : Nat) (s : ByteArray) (p : Nat) (v : Value) (out : List S40) (x : S40) (hR : Rd W g s p v) (hO : Out w0 W g v out) (hB : Below w0.heap.size w0 W) (hg : w0.heap.size ≤ g) (hp : p ≤ s.size) (hs : s.size ≤ 4611686018427387904) (hj : JTabs w0) (hl : (out.length + 1) * 56 ≤ 140737488355328) (n : Int) (q : Nat) (hn : nextC s p = 45) (hr : numberS s (skipP s p) = (n, 0, q)) :
  Calls Tryz.prog 22 #[.pointer (some ⟨g, 0, none⟩), itemV x] W fun e W' => e = .returned (.int .i64 0) ∧ Left w0 W W' g s q v (out ++ [(⟨x.f0, 4, x.f2, x.f3, n⟩ : S40)]) := by
 have HR := Aside0.mk hR
 have HO := Aside0.mk hO
 have HB := Aside0.mk hB
 have HG := Aside0.mk hg
 have HS := Aside0.mk hs
 have HP := Aside0.mk hp
 have JT := Aside0.mk hj
 have HP1 := Aside0.mk (skip_le s p hp)
 have HL := Aside0.mk hl
 have c91 : ((nextC s p : Int) == 91) = false := beq_eq_false_iff_ne.mpr (by omega)
 have c123 : ((nextC s p : Int) == 123) = false := beq_eq_false_iff_ne.mpr (by omega)
 have c34 : ((nextC s p : Int) == 34) = false := beq_eq_false_iff_ne.mpr (by omega)
 have c45 : ((nextC s p : Int) == 45) = true := beq_iff_eq.mpr (by omega)
 have FR := Aside0.mk hr
 clear hR hB hg hs hO hp hj hl hr hn
 unfold itemV
 go_enter Tryz.func22, Tryz.ntmps22
 go_wp2_with fail
 obtain ⟨b, hb⟩ : ∃ b, W.heap.size = b := ⟨_, rfl⟩
 have hgW := blk_lt HR.out
 have HA : Aside0 (Below W.heap.size W (W.alloc (.cells #[.int .i64 x.f0, .int .i64 x.f1, .string x.f2, .string x.f3, .int .i64 x.f4] 40))) := ⟨below_alloc (Below.refl _ _) _⟩
 have HI : Aside0 (Itm (W.alloc (.cells #[.int .i64 x.f0, .int .i64 x.f1, .string x.f2, .string x.f3, .int .i64 x.f4] 40)) b x) := ⟨by rw [← hb]; exact heap_alloc_new _ _⟩
 have HR := Aside0.mk (rd_below HR.out HA.out)
 have HO : Aside0 (Kd.R k40 40 (W.alloc (.cells #[.int .i64 x.f0, .int .i64 x.f1, .string x.f2, .string x.f3, .int .i64 x.f4] 40)) w0.heap.size (fun j => j ≠ g ∧ j ≠ b) v out) := ⟨Kd.R_below (Kd.R_mono (Kd.R_bound HO.out) (fun k hk => ⟨hk.1, by have := hk.2.2.1; omega⟩)) HA.out⟩
 have HK := Aside0.mk (KeepBut.of_below HA.out g none)
 have HBo := HB
 have HB := Aside0.mk (below_step HB.out HA.out)
 have HB0 : Aside0 (w0.heap.size ≤ W.heap.size) := ⟨HBo.out.size⟩
 have HBG : Aside0 (W.heap.size ≤ b) := ⟨by omega⟩
 have hne1 : ¬ b = g := by omega
 have hne2 : ¬ g = b := by omega
 rw [hb]
 generalize W.alloc (.cells #[.int .i64 x.f0, .int .i64 x.f1, .string x.f2, .string x.f3, .int .i64 x.f4] 40) = W1 at HA HI HR HO HK HB ⊢
 clear HA hb
 go_wp2_with (first
  | (go_at_call 23; refine (next_calls w0 W1 g s p v HR.out HB.out HG.out HP.out HS.out).mono ?_; rintro e w2 ⟨rfl, hR2, hB2, hK2⟩; have HI := Aside0.mk ((hK2.2 b (blk_lt HI.out) hne1 (by simp)).trans HI.out); have HR := Aside0.mk hR2; have HO := Aside0.mk (Kd.R_keep HO.out hK2 (fun _ h => h.1)) ; have HK := Aside0.mk (HK.out.trans hK2 (.inl rfl)); have HB := Aside0.mk hB2; clear hR2 hB2 hK2; have hm1 : w2.cell? ⟨b, 1, none⟩ = some (.int .i64 x.f1) := (blk_cell HI.out 1).trans rfl; have hfm1 := blk_frozen HI.out 1)
  | (go_at_call 42; have hRx : Rd (w2.setCell ⟨b, 1, none⟩ (.int .i64 4)) g s (skipP s p) v := blk_far HR.out (p := ⟨b, 1, none⟩) hne2 _; have hIx : Itm (w2.setCell ⟨b, 1, none⟩ (.int .i64 4)) b (⟨x.f0, 4, x.f2, x.f3, x.f4⟩ : S40) := blk_set HI.out 1 _; have hBx := below_set (j := 1) (v := .int .i64 4) (g := b) HB.out (Nat.le_trans HB0.out HBG.out); have hOx := Kd.R_far HO.out (p := ⟨b, 1, none⟩) (fun _ h => h.2) (.int .i64 4); have hKx := keep_far HK.out (p := ⟨b, 1, none⟩) HBG.out (.int .i64 4); refine (number_calls w0 _ g s (skipP s p) v hRx hBx HG.out HP1.out HS.out JT.out).mono ?_; rw [FR.out]; rintro e w3 ⟨rfl, hR3, hB3, hK3⟩; have HI3 := Aside0.mk ((hK3.2 b (blk_lt hIx) hne1 (by simp)).trans hIx); have HR3 := Aside0.mk hR3; have HO3 := Aside0.mk (Kd.R_keep hOx hK3 (fun _ h => h.1)); have HK3 := Aside0.mk (hKx.trans hK3 (.inl rfl)); have HB3 := Aside0.mk hB3; clear hR3 hB3 hK3 hRx hIx hBx hOx hKx; have hfn := blk_frozen HI3.out 4; have hmn : w3.cell? ⟨b, 4, none⟩ = some (.int .i64 x.f4) := (blk_cell HI3.out 4).trans rfl))
 have HRa : Aside0 (Rd (w3.setCell ⟨b, 4, none⟩ (.int .i64 n)) g s q v) := ⟨blk_far HR3.out (p := ⟨b, 4, none⟩) hne2 _⟩
 have HIa : Aside0 (Itm (w3.setCell ⟨b, 4, none⟩ (.int .i64 n)) b (⟨x.f0, 4, x.f2, x.f3, n⟩ : S40)) := ⟨blk_set HI3.out 4 _⟩
 have HOa := Aside0.mk (Kd.R_far HO3.out (p := ⟨b, 4, none⟩) (fun _ h => h.2) (.int .i64 n))
 have HKa := Aside0.mk (keep_far HK3.out (p := ⟨b, 4, none⟩) HBG.out (.int .i64 n))
 have HBa := Aside0.mk (below_set (j := 4) (v := .int .i64 n) (g := b) HB3.out (Nat.le_trans HB0.out HBG.out))
 clear hfn hmn
 generalize w3.setCell ⟨b, 4, none⟩ (.int .i64 n) = w1 at HRa HIa HOa HKa HBa ⊢
 refine start_ (n := 11) (S := fun w' => w'.cell? ⟨g, 2, none⟩ = some v ∧ w'.heap[b]? = some (.cells #[.int .i64 ((⟨x.f0, 4, x.f2, x.f3, n⟩ : S40)).f0, .int .i64 ((⟨x.f0, 4, x.f2, x.f3, n⟩ : S40)).f1, .string ((⟨x.f0, 4, x.f2, x.f3, n⟩ : S40)).f2, .string ((⟨x.f0, 4, x.f2, x.f3, n⟩ : S40)).f3, .int .i64 ((⟨x.f0, 4, x.f2, x.f3, n⟩ : S40)).f4] 40 (0, 0))) (ds := [7, 10]) #[false, false, false, false, false, false, false, false, false, false, false] (by kernel_rfl) rfl rfl ⟨rd_cell2 HRa.out, HIa.out⟩ (fun hHeld => ?_)
 refine pure_ (i := 0) (N := some 79) (v := ?_) (a' := ?_) #[true, false, false, false, false, false, false, false, false, false, false] rfl rfl (by kernel_rfl) (fun _ _ _ h => h) (Or.inl ⟨by rfl, ?_⟩) ?_ ?_
 rotate_left
 ·intro w'
  go_simp
  (try with_reducible rfl)
 rotate_left
 ·simp only [Act.put, qA, qB, qC]
  rfl
 refine pure_ (i := 1) (N := some 80) (v := ?_) (a' := ?_) #[true, true, false, false, false, false, false, false, false, false, false] rfl rfl (by kernel_rfl) (fun _ _ _ h => h) (Or.inl ⟨by rfl, ?_⟩) ?_ ?_
 rotate_left
 ·intro w'
  go_simp
  (try with_reducible rfl)
 rotate_left
 ·simp only [Act.put, qA, qB, qC]
  rfl
 refine pure_ (i := 2) (N := some 81) (v := ?_) (a' := ?_) #[true, true, true, false, false, false, false, false, false, false, false] rfl rfl (by kernel_rfl) (fun _ _ _ h => h) (Or.inl ⟨by rfl, ?_⟩) ?_ ?_
 rotate_left
 ·intro w'
  go_simp
  (try with_reducible rfl)
 rotate_left
 ·simp only [Act.put, qA, qB, qC]
  rfl
 refine pure_ (i := 3) (N := some 82) (v := ?_) (a' := ?_) #[true, true, true, true, false, false, false, false, false, false, false] rfl rfl (by kernel_rfl) (fun _ _ _ h => h) (Or.inl ⟨by rfl, ?_⟩) ?_ ?_
 rotate_left
 ·intro w'
  go_simp
  (try with_reducible rfl)
 rotate_left
 ·simp only [Act.put, qA, qB, qC]
  rfl
 refine take_ (i := 4) (N := some 83) (v := ?_) (a' := ?_) #[true, true, true, true, true, false, false, false, false, false, false] rfl rfl (by kernel_rfl) (fun _ _ _ h => h) (Or.inl ⟨by rfl, ?_⟩) (by assumption) ?_ ?_
 rotate_left
 ·intro w hSw
  obtain ⟨hl0, hl1⟩ := hSw
  go_simp
  (try with_reducible rfl)
 rotate_left
 ·simp only [Act.put, qA, qB, qC]
  rfl
 refine take_ (i := 5) (N := some 84) (v := ?_) (a' := ?_) #[true, true, true, true, true, true, false, false, false, false, false] rfl rfl (by kernel_rfl) (fun _ _ _ h => h) (Or.inl ⟨by rfl, ?_⟩) (by assumption) ?_ ?_
 rotate_left
 ·intro w hSw
  obtain ⟨hl0, hl1⟩ := hSw
  have hm0 : w.cell? ⟨b, 0, none⟩ = some (.int .i64 ((⟨x.f0, 4, x.f2, x.f3, n⟩ : S40)).f0) := (blk_cell hl1 0).trans rfl
  have hm1 : w.cell? ⟨b, 1, none⟩ = some (.int .i64 ((⟨x.f0, 4, x.f2, x.f3, n⟩ : S40)).f1) := (blk_cell hl1 1).trans rfl
  have hm2 : w.cell? ⟨b, 2, none⟩ = some (.string ((⟨x.f0, 4, x.f2, x.f3, n⟩ : S40)).f2) := (blk_cell hl1 2).trans rfl
  have hm3 : w.cell? ⟨b, 3, none⟩ = some (.string ((⟨x.f0, 4, x.f2, x.f3, n⟩ : S40)).f3) := (blk_cell hl1 3).trans rfl
  have hm4 : w.cell? ⟨b, 4, none⟩ = some (.int .i64 ((⟨x.f0, 4, x.f2, x.f3, n⟩ : S40)).f4) := (blk_cell hl1 4).trans rfl
  clear hl1
  go_simp
  (try with_reducible rfl)
 rotate_left
 ·simp only [Act.put, qA, qB, qC]
  rfl
 refine one_ (i := 6) (N := some 85) #[true, true, true, true, true, true, true, false, false, false, false] rfl rfl (by kernel_rfl) (by decide) (fun K hK => ?_)
 refine event_step (W := w1.drew) (v := .slice (some ⟨w1.heap.size, 0, none⟩) 1 1) (w1 := w1.drew.alloc (.cells #[.int .i64 ((⟨x.f0, 4, x.f2, x.f3, n⟩ : S40)).f0, .int .i64 ((⟨x.f0, 4, x.f2, x.f3, n⟩ : S40)).f1, .string ((⟨x.f0, 4, x.f2, x.f3, n⟩ : S40)).f2, .string ((⟨x.f0, 4, x.f2, x.f3, n⟩ : S40)).f3, .int .i64 ((⟨x.f0, 4, x.f2, x.f3, n⟩ : S40)).f4] 40)) (by rfl) (by kernel_rfl) ?_
 refine hK.out _ _ ?_ (fun hHeld => ?_)
 ·exact keep_push HRa.out HIa.out _
 clear hK K
 (try simp only [Act.put, qA, qB, qC])
 refine last_ (i := 7) (N := some 86) #[true, true, true, true, true, true, true, true, false, false, false] rfl rfl (by kernel_rfl) (by decide) (fun K hK => ?_)
 refine push_append (.tmp 83) (.tmp 85) (by rfl) rfl rfl rfl HRa.out HIa.out HOa.out HBa.out HG.out HL.out ?_
 intro As N2 cc w2 hR2 hP2
 have hc2a := rd_cell2 hR2
 have hf2a := blk_frozen hR2 2
 have HPa := Aside0.mk hP2
 clear hR2 hP2
 refine hK.out _ _ ?_
 clear hK K
 (try simp only [Act.put, qA, qB, qC])
 refine pure_ (i := 8) (N := some 87) (v := ?_) (a' := ?_) #[true, true, true, true, true, true, true, true, true, false, false] rfl rfl (by kernel_rfl) (fun _ _ _ h => h) (Or.inl ⟨by rfl, ?_⟩) ?_ ?_
 rotate_left
 ·intro w'
  go_simp
  (try with_reducible rfl)
 rotate_left
 ·simp only [Act.put, qA, qB, qC]
  rfl
 refine pure_ (i := 9) (N := some 88) (v := ?_) (a' := ?_) #[true, true, true, true, true, true, true, true, true, true, false] rfl rfl (by kernel_rfl) (fun _ _ _ h => h) (Or.inl ⟨by rfl, ?_⟩) ?_ ?_
 rotate_left
 ·intro w'
  go_simp
  (try with_reducible rfl)
 rotate_left
 ·simp only [Act.put, qA, qB, qC]
  rfl
 refine last_ (i := 10) (N := none) #[true, true, true, true, true, true, true, true, true, true, true] rfl rfl (by kernel_rfl) (by decide) (fun K hK => ?_)
 go_simp
 refine hK.out _ _ ?_
 clear hK K
 (try simp only [Act.put, qA, qB, qC])
 refine done_ (by kernel_rfl) ?_
 go_wp2_with fail
 go_ret
 exact ⟨rfl, Left.pre HKa.out HPa.out⟩
set_option maxHeartbeats 8000000 in
set_option maxRecDepth 100000 in
theorem value_num_err_b (w0 W : World) (g : Nat) (s : ByteArray) (p : Nat) (v : Value) (out : List S40) (x : S40) (hR : Rd W g s p v) (hO : Out w0 W g v out) (hB : Below w0.heap.size w0 W) (hg : w0.heap.size ≤ g) (hp : p ≤ s.size) (hs : s.size ≤ 4611686018427387904) (hj : JTabs w0) (n er : Int) (q : Nat) (hn : 48 ≤ nextC s p ∧ nextC s p ≤ 57) (hr : numberS s (skipP s p) = (n, er, q)) (he : er ≠ 0) :
  Calls Tryz.prog 22 #[.pointer (some ⟨g, 0, none⟩), itemV x] W fun e W' => e = .returned (.int .i64 er) ∧ Left w0 W W' g s q v out := by
 have HR := Aside0.mk hR
 have HO := Aside0.mk hO
 have HB := Aside0.mk hB
 have HG := Aside0.mk hg
 have HS := Aside0.mk hs
 have HP := Aside0.mk hp
 have JT := Aside0.mk hj
 have HP1 := Aside0.mk (skip_le s p hp)
 have c91 : ((nextC s p : Int) == 91) = false := beq_eq_false_iff_ne.mpr (by omega)
 have c123 : ((nextC s p : Int) == 123) = false := beq_eq_false_iff_ne.mpr (by omega)
 have c34 : ((nextC s p : Int) == 34) = false := beq_eq_false_iff_ne.mpr (by omega)
 have c45 : ((nextC s p : Int) == 45) = false := beq_eq_false_iff_ne.mpr (by omega)
 have d48 : decide (48 ≤ (nextC s p : Int)) = true := decide_eq_true (by omega)
 have d57 : decide ((nextC s p : Int) ≤ 57) = true := decide_eq_true (by omega)
 have FR := Aside0.mk hr
 have n1 : (er == 0) = false := beq_eq_false_iff_ne.mpr he
 have n2 : (er != 0) = true := bne_iff_ne.mpr he
 clear hR hB hg hs hO hp hj hr hn he
 unfold itemV
 go_enter Tryz.func22, Tryz.ntmps22
 go_wp2_with fail
 obtain ⟨b, hb⟩ : ∃ b, W.heap.size = b := ⟨_, rfl⟩
 have hgW := blk_lt HR.out
 have HA : Aside0 (Below W.heap.size W (W.alloc (.cells #[.int .i64 x.f0, .int .i64 x.f1, .string x.f2, .string x.f3, .int .i64 x.f4] 40))) := ⟨below_alloc (Below.refl _ _) _⟩
 have HI : Aside0 (Itm (W.alloc (.cells #[.int .i64 x.f0, .int .i64 x.f1, .string x.f2, .string x.f3, .int .i64 x.f4] 40)) b x) := ⟨by rw [← hb]; exact heap_alloc_new _ _⟩
 have HR := Aside0.mk (rd_below HR.out HA.out)
 have HO : Aside0 (Kd.R k40 40 (W.alloc (.cells #[.int .i64 x.f0, .int .i64 x.f1, .string x.f2, .string x.f3, .int .i64 x.f4] 40)) w0.heap.size (fun j => j ≠ g ∧ j ≠ b) v out) := ⟨Kd.R_below (Kd.R_mono (Kd.R_bound HO.out) (fun k hk => ⟨hk.1, by have := hk.2.2.1; omega⟩)) HA.out⟩
 have HK := Aside0.mk (KeepBut.of_below HA.out g none)
 have HBo := HB
 have HB := Aside0.mk (below_step HB.out HA.out)
 have HB0 : Aside0 (w0.heap.size ≤ W.heap.size) := ⟨HBo.out.size⟩
 have HBG : Aside0 (W.heap.size ≤ b) := ⟨by omega⟩
 have hne1 : ¬ b = g := by omega
 have hne2 : ¬ g = b := by omega
 rw [hb]
 generalize W.alloc (.cells #[.int .i64 x.f0, .int .i64 x.f1, .string x.f2, .string x.f3, .int .i64 x.f4] 40) = W1 at HA HI HR HO HK HB ⊢
 clear HA hb
 go_wp2_with (first
  | (go_at_call 23; refine (next_calls w0 W1 g s p v HR.out HB.out HG.out HP.out HS.out).mono ?_; rintro e w2 ⟨rfl, hR2, hB2, hK2⟩; have HI := Aside0.mk ((hK2.2 b (blk_lt HI.out) hne1 (by simp)).trans HI.out); have HR := Aside0.mk hR2; have HO := Aside0.mk (Kd.R_keep HO.out hK2 (fun _ h => h.1)) ; have HK := Aside0.mk (HK.out.trans hK2 (.inl rfl)); have HB := Aside0.mk hB2; clear hR2 hB2 hK2; have hm1 : w2.cell? ⟨b, 1, none⟩ = some (.int .i64 x.f1) := (blk_cell HI.out 1).trans rfl; have hfm1 := blk_frozen HI.out 1)
  | (go_at_call 42; have hRx : Rd (w2.setCell ⟨b, 1, none⟩ (.int .i64 4)) g s (skipP s p) v := blk_far HR.out (p := ⟨b, 1, none⟩) hne2 _; have hIx : Itm (w2.setCell ⟨b, 1, none⟩ (.int .i64 4)) b (⟨x.f0, 4, x.f2, x.f3, x.f4⟩ : S40) := blk_set HI.out 1 _; have hBx := below_set (j := 1) (v := .int .i64 4) (g := b) HB.out (Nat.le_trans HB0.out HBG.out); have hOx := Kd.R_far HO.out (p := ⟨b, 1, none⟩) (fun _ h => h.2) (.int .i64 4); have hKx := keep_far HK.out (p := ⟨b, 1, none⟩) HBG.out (.int .i64 4); refine (number_calls w0 _ g s (skipP s p) v hRx hBx HG.out HP1.out HS.out JT.out).mono ?_; rw [FR.out]; rintro e w3 ⟨rfl, hR3, hB3, hK3⟩; have HI3 := Aside0.mk ((hK3.2 b (blk_lt hIx) hne1 (by simp)).trans hIx); have HR3 := Aside0.mk hR3; have HO3 := Aside0.mk (Kd.R_keep hOx hK3 (fun _ h => h.1)); have HK3 := Aside0.mk (hKx.trans hK3 (.inl rfl)); have HB3 := Aside0.mk hB3; clear hR3 hB3 hK3 hRx hIx hBx hOx hKx; have hfn := blk_frozen HI3.out 4; have hmn : w3.cell? ⟨b, 4, none⟩ = some (.int .i64 x.f4) := (blk_cell HI3.out 4).trans rfl))
 go_ret
 exact ⟨rfl, ⟨v, blk_far HR3.out (p := ⟨b, 4, none⟩) hne2 _, Kd.R_mono (Kd.R_far HO3.out (p := ⟨b, 4, none⟩) (fun _ h => h.2) _) (fun _ h => h.1), .inl rfl⟩, below_set HB3.out (Nat.le_trans HB0.out HBG.out), keep_wide (keep_far HK3.out (p := ⟨b, 4, none⟩) HBG.out _)⟩
set_option maxHeartbeats 8000000 in
set_option maxRecDepth 100000 in
theorem value_num_b (w0 W : World) (g : Nat) (s : ByteArray) (p : Nat) (v : Value) (out : List S40) (x : S40) (hR : Rd W g s p v) (hO : Out w0 W g v out) (hB : Below w0.heap.size w0 W) (hg : w0.heap.size ≤ g) (hp : p ≤ s.size) (hs : s.size ≤ 4611686018427387904) (hj : JTabs w0) (hl : (out.length + 1) * 56 ≤ 140737488355328) (n : Int) (q : Nat) (hn : 48 ≤ nextC s p ∧ nextC s p ≤ 57) (hr : numberS s (skipP s p) = (n, 0, q)) :
  Calls Tryz.prog 22 #[.pointer (some ⟨g, 0, none⟩), itemV x] W fun e W' => e = .returned (.int .i64 0) ∧ Left w0 W W' g s q v (out ++ [(⟨x.f0, 4, x.f2, x.f3, n⟩ : S40)]) := by
 have HR := Aside0.mk hR
 have HO := Aside0.mk hO
 have HB := Aside0.mk hB
 have HG := Aside0.mk hg
 have HS := Aside0.mk hs
 have HP := Aside0.mk hp
 have JT := Aside0.mk hj
 have HP1 := Aside0.mk (skip_le s p hp)
 have HL := Aside0.mk hl
 have c91 : ((nextC s p : Int) == 91) = false := beq_eq_false_iff_ne.mpr (by omega)
 have c123 : ((nextC s p : Int) == 123) = false := beq_eq_false_iff_ne.mpr (by omega)
 have c34 : ((nextC s p : Int) == 34) = false := beq_eq_false_iff_ne.mpr (by omega)
 have c45 : ((nextC s p : Int) == 45) = false := beq_eq_false_iff_ne.mpr (by omega)
 have d48 : decide (48 ≤ (nextC s p : Int)) = true := decide_eq_true (by omega)
 have d57 : decide ((nextC s p : Int) ≤ 57) = true := decide_eq_true (by omega)
 have FR := Aside0.mk hr
 clear hR hB hg hs hO hp hj hl hr hn
 unfold itemV
 go_enter Tryz.func22, Tryz.ntmps22
 go_wp2_with fail
 obtain ⟨b, hb⟩ : ∃ b, W.heap.size = b := ⟨_, rfl⟩
 have hgW := blk_lt HR.out
 have HA : Aside0 (Below W.heap.size W (W.alloc (.cells #[.int .i64 x.f0, .int .i64 x.f1, .string x.f2, .string x.f3, .int .i64 x.f4] 40))) := ⟨below_alloc (Below.refl _ _) _⟩
 have HI : Aside0 (Itm (W.alloc (.cells #[.int .i64 x.f0, .int .i64 x.f1, .string x.f2, .string x.f3, .int .i64 x.f4] 40)) b x) := ⟨by rw [← hb]; exact heap_alloc_new _ _⟩
 have HR := Aside0.mk (rd_below HR.out HA.out)
 have HO : Aside0 (Kd.R k40 40 (W.alloc (.cells #[.int .i64 x.f0, .int .i64 x.f1, .string x.f2, .string x.f3, .int .i64 x.f4] 40)) w0.heap.size (fun j => j ≠ g ∧ j ≠ b) v out) := ⟨Kd.R_below (Kd.R_mono (Kd.R_bound HO.out) (fun k hk => ⟨hk.1, by have := hk.2.2.1; omega⟩)) HA.out⟩
 have HK := Aside0.mk (KeepBut.of_below HA.out g none)
 have HBo := HB
 have HB := Aside0.mk (below_step HB.out HA.out)
 have HB0 : Aside0 (w0.heap.size ≤ W.heap.size) := ⟨HBo.out.size⟩
 have HBG : Aside0 (W.heap.size ≤ b) := ⟨by omega⟩
 have hne1 : ¬ b = g := by omega
 have hne2 : ¬ g = b := by omega
 rw [hb]
 generalize W.alloc (.cells #[.int .i64 x.f0, .int .i64 x.f1, .string x.f2, .string x.f3, .int .i64 x.f4] 40) = W1 at HA HI HR HO HK HB ⊢
 clear HA hb
 go_wp2_with (first
  | (go_at_call 23; refine (next_calls w0 W1 g s p v HR.out HB.out HG.out HP.out HS.out).mono ?_; rintro e w2 ⟨rfl, hR2, hB2, hK2⟩; have HI := Aside0.mk ((hK2.2 b (blk_lt HI.out) hne1 (by simp)).trans HI.out); have HR := Aside0.mk hR2; have HO := Aside0.mk (Kd.R_keep HO.out hK2 (fun _ h => h.1)) ; have HK := Aside0.mk (HK.out.trans hK2 (.inl rfl)); have HB := Aside0.mk hB2; clear hR2 hB2 hK2; have hm1 : w2.cell? ⟨b, 1, none⟩ = some (.int .i64 x.f1) := (blk_cell HI.out 1).trans rfl; have hfm1 := blk_frozen HI.out 1)
  | (go_at_call 42; have hRx : Rd (w2.setCell ⟨b, 1, none⟩ (.int .i64 4)) g s (skipP s p) v := blk_far HR.out (p := ⟨b, 1, none⟩) hne2 _; have hIx : Itm (w2.setCell ⟨b, 1, none⟩ (.int .i64 4)) b (⟨x.f0, 4, x.f2, x.f3, x.f4⟩ : S40) := blk_set HI.out 1 _; have hBx := below_set (j := 1) (v := .int .i64 4) (g := b) HB.out (Nat.le_trans HB0.out HBG.out); have hOx := Kd.R_far HO.out (p := ⟨b, 1, none⟩) (fun _ h => h.2) (.int .i64 4); have hKx := keep_far HK.out (p := ⟨b, 1, none⟩) HBG.out (.int .i64 4); refine (number_calls w0 _ g s (skipP s p) v hRx hBx HG.out HP1.out HS.out JT.out).mono ?_; rw [FR.out]; rintro e w3 ⟨rfl, hR3, hB3, hK3⟩; have HI3 := Aside0.mk ((hK3.2 b (blk_lt hIx) hne1 (by simp)).trans hIx); have HR3 := Aside0.mk hR3; have HO3 := Aside0.mk (Kd.R_keep hOx hK3 (fun _ h => h.1)); have HK3 := Aside0.mk (hKx.trans hK3 (.inl rfl)); have HB3 := Aside0.mk hB3; clear hR3 hB3 hK3 hRx hIx hBx hOx hKx; have hfn := blk_frozen HI3.out 4; have hmn : w3.cell? ⟨b, 4, none⟩ = some (.int .i64 x.f4) := (blk_cell HI3.out 4).trans rfl))
 have HRa : Aside0 (Rd (w3.setCell ⟨b, 4, none⟩ (.int .i64 n)) g s q v) := ⟨blk_far HR3.out (p := ⟨b, 4, none⟩) hne2 _⟩
 have HIa : Aside0 (Itm (w3.setCell ⟨b, 4, none⟩ (.int .i64 n)) b (⟨x.f0, 4, x.f2, x.f3, n⟩ : S40)) := ⟨blk_set HI3.out 4 _⟩
 have HOa := Aside0.mk (Kd.R_far HO3.out (p := ⟨b, 4, none⟩) (fun _ h => h.2) (.int .i64 n))
 have HKa := Aside0.mk (keep_far HK3.out (p := ⟨b, 4, none⟩) HBG.out (.int .i64 n))
 have HBa := Aside0.mk (below_set (j := 4) (v := .int .i64 n) (g := b) HB3.out (Nat.le_trans HB0.out HBG.out))
 clear hfn hmn
 generalize w3.setCell ⟨b, 4, none⟩ (.int .i64 n) = w1 at HRa HIa HOa HKa HBa ⊢
 refine start_ (n := 11) (S := fun w' => w'.cell? ⟨g, 2, none⟩ = some v ∧ w'.heap[b]? = some (.cells #[.int .i64 ((⟨x.f0, 4, x.f2, x.f3, n⟩ : S40)).f0, .int .i64 ((⟨x.f0, 4, x.f2, x.f3, n⟩ : S40)).f1, .string ((⟨x.f0, 4, x.f2, x.f3, n⟩ : S40)).f2, .string ((⟨x.f0, 4, x.f2, x.f3, n⟩ : S40)).f3, .int .i64 ((⟨x.f0, 4, x.f2, x.f3, n⟩ : S40)).f4] 40 (0, 0))) (ds := [7, 10]) #[false, false, false, false, false, false, false, false, false, false, false] (by kernel_rfl) rfl rfl ⟨rd_cell2 HRa.out, HIa.out⟩ (fun hHeld => ?_)
 refine pure_ (i := 0) (N := some 79) (v := ?_) (a' := ?_) #[true, false, false, false, false, false, false, false, false, false, false] rfl rfl (by kernel_rfl) (fun _ _ _ h => h) (Or.inl ⟨by rfl, ?_⟩) ?_ ?_
 rotate_left
 ·intro w'
  go_simp
  (try with_reducible rfl)
 rotate_left
 ·simp only [Act.put, qA, qB, qC]
  rfl
 refine pure_ (i := 1) (N := some 80) (v := ?_) (a' := ?_) #[true, true, false, false, false, false, false, false, false, false, false] rfl rfl (by kernel_rfl) (fun _ _ _ h => h) (Or.inl ⟨by rfl, ?_⟩) ?_ ?_
 rotate_left
 ·intro w'
  go_simp
  (try with_reducible rfl)
 rotate_left
 ·simp only [Act.put, qA, qB, qC]
  rfl
 refine pure_ (i := 2) (N := some 81) (v := ?_) (a' := ?_) #[true, true, true, false, false, false, false, false, false, false, false] rfl rfl (by kernel_rfl) (fun _ _ _ h => h) (Or.inl ⟨by rfl, ?_⟩) ?_ ?_
 rotate_left
 ·intro w'
  go_simp
  (try with_reducible rfl)
 rotate_left
 ·simp only [Act.put, qA, qB, qC]
  rfl
 refine pure_ (i := 3) (N := some 82) (v := ?_) (a' := ?_) #[true, true, true, true, false, false, false, false, false, false, false] rfl rfl (by kernel_rfl) (fun _ _ _ h => h) (Or.inl ⟨by rfl, ?_⟩) ?_ ?_
 rotate_left
 ·intro w'
  go_simp
  (try with_reducible rfl)
 rotate_left
 ·simp only [Act.put, qA, qB, qC]
  rfl
 refine take_ (i := 4) (N := some 83) (v := ?_) (a' := ?_) #[true, true, true, true, true, false, false, false, false, false, false] rfl rfl (by kernel_rfl) (fun _ _ _ h => h) (Or.inl ⟨by rfl, ?_⟩) (by assumption) ?_ ?_
 rotate_left
 ·intro w hSw
  obtain ⟨hl0, hl1⟩ := hSw
  go_simp
  (try with_reducible rfl)
 rotate_left
 ·simp only [Act.put, qA, qB, qC]
  rfl
 refine take_ (i := 5) (N := some 84) (v := ?_) (a' := ?_) #[true, true, true, true, true, true, false, false, false, false, false] rfl rfl (by kernel_rfl) (fun _ _ _ h => h) (Or.inl ⟨by rfl, ?_⟩) (by assumption) ?_ ?_
 rotate_left
 ·intro w hSw
  obtain ⟨hl0, hl1⟩ := hSw
  have hm0 : w.cell? ⟨b, 0, none⟩ = some (.int .i64 ((⟨x.f0, 4, x.f2, x.f3, n⟩ : S40)).f0) := (blk_cell hl1 0).trans rfl
  have hm1 : w.cell? ⟨b, 1, none⟩ = some (.int .i64 ((⟨x.f0, 4, x.f2, x.f3, n⟩ : S40)).f1) := (blk_cell hl1 1).trans rfl
  have hm2 : w.cell? ⟨b, 2, none⟩ = some (.string ((⟨x.f0, 4, x.f2, x.f3, n⟩ : S40)).f2) := (blk_cell hl1 2).trans rfl
  have hm3 : w.cell? ⟨b, 3, none⟩ = some (.string ((⟨x.f0, 4, x.f2, x.f3, n⟩ : S40)).f3) := (blk_cell hl1 3).trans rfl
  have hm4 : w.cell? ⟨b, 4, none⟩ = some (.int .i64 ((⟨x.f0, 4, x.f2, x.f3, n⟩ : S40)).f4) := (blk_cell hl1 4).trans rfl
  clear hl1
  go_simp
  (try with_reducible rfl)
 rotate_left
 ·simp only [Act.put, qA, qB, qC]
  rfl
 refine one_ (i := 6) (N := some 85) #[true, true, true, true, true, true, true, false, false, false, false] rfl rfl (by kernel_rfl) (by decide) (fun K hK => ?_)
 refine event_step (W := w1.drew) (v := .slice (some ⟨w1.heap.size, 0, none⟩) 1 1) (w1 := w1.drew.alloc (.cells #[.int .i64 ((⟨x.f0, 4, x.f2, x.f3, n⟩ : S40)).f0, .int .i64 ((⟨x.f0, 4, x.f2, x.f3, n⟩ : S40)).f1, .string ((⟨x.f0, 4, x.f2, x.f3, n⟩ : S40)).f2, .string ((⟨x.f0, 4, x.f2, x.f3, n⟩ : S40)).f3, .int .i64 ((⟨x.f0, 4, x.f2, x.f3, n⟩ : S40)).f4] 40)) (by rfl) (by kernel_rfl) ?_
 refine hK.out _ _ ?_ (fun hHeld => ?_)
 ·exact keep_push HRa.out HIa.out _
 clear hK K
 (try simp only [Act.put, qA, qB, qC])
 refine last_ (i := 7) (N := some 86) #[true, true, true, true, true, true, true, true, false, false, false] rfl rfl (by kernel_rfl) (by decide) (fun K hK => ?_)
 refine push_append (.tmp 83) (.tmp 85) (by rfl) rfl rfl rfl HRa.out HIa.out HOa.out HBa.out HG.out HL.out ?_
 intro As N2 cc w2 hR2 hP2
 have hc2a := rd_cell2 hR2
 have hf2a := blk_frozen hR2 2
 have HPa := Aside0.mk hP2
 clear hR2 hP2
 refine hK.out _ _ ?_
 clear hK K
 (try simp only [Act.put, qA, qB, qC])
 refine pure_ (i := 8) (N := some 87) (v := ?_) (a' := ?_) #[true, true, true, true, true, true, true, true, true, false, false] rfl rfl (by kernel_rfl) (fun _ _ _ h => h) (Or.inl ⟨by rfl, ?_⟩) ?_ ?_
 rotate_left
 ·intro w'
  go_simp
  (try with_reducible rfl)
 rotate_left
 ·simp only [Act.put, qA, qB, qC]
  rfl
 refine pure_ (i := 9) (N := some 88) (v := ?_) (a' := ?_) #[true, true, true, true, true, true, true, true, true, true, false] rfl rfl (by kernel_rfl) (fun _ _ _ h => h) (Or.inl ⟨by rfl, ?_⟩) ?_ ?_
 rotate_left
 ·intro w'
  go_simp
  (try with_reducible rfl)
 rotate_left
 ·simp only [Act.put, qA, qB, qC]
  rfl
 refine last_ (i := 10) (N := none) #[true, true, true, true, true, true, true, true, true, true, true] rfl rfl (by kernel_rfl) (by decide) (fun K hK => ?_)
 go_simp
 refine hK.out _ _ ?_
 clear hK K
 (try simp only [Act.put, qA, qB, qC])
 refine done_ (by kernel_rfl) ?_
 go_wp2_with fail
 go_ret
 exact ⟨rfl, Left.pre HKa.out HPa.out⟩
set_option maxHeartbeats 8000000 in
set_option maxRecDepth 100000 in
theorem value_deep91 (w0 W : World) (g : Nat) (s : ByteArray) (p : Nat) (v : Value) (out : List S40) (x : S40) (hR : Rd W g s p v) (hO : Out w0 W g v out) (hB : Below w0.heap.size w0 W) (hg : w0.heap.size ≤ g) (hp : p ≤ s.size) (hs : s.size ≤ 4611686018427387904) (hj : JTabs w0) (hc : nextC s p = 91) (hd : 64 ≤ x.f0) :
  Calls Tryz.prog 22 #[.pointer (some ⟨g, 0, none⟩), itemV x] W fun e W' => e = .returned (.int .i64 81) ∧ Left w0 W W' g s (skipP s p) v out := by
 have HR := Aside0.mk hR
 have HO := Aside0.mk hO
 have HB := Aside0.mk hB
 have HG := Aside0.mk hg
 have HS := Aside0.mk hs
 have HP := Aside0.mk hp
 have JT := Aside0.mk hj
 have HP1 := Aside0.mk (skip_le s p hp)
 have c91 : ((nextC s p : Int) == 91) = true := beq_iff_eq.mpr (by omega)
 have c123 : ((nextC s p : Int) == 123) = false := beq_eq_false_iff_ne.mpr (by omega)
 have HC : Aside0 ((nextC s p : Int) = 91) := ⟨by omega⟩
 have d64 : decide (64 ≤ x.f0) = true := decide_eq_true (by omega)
 clear hR hB hg hs hO hp hj hc hd
 unfold itemV
 go_enter Tryz.func22, Tryz.ntmps22
 go_wp2_with fail
 obtain ⟨b, hb⟩ : ∃ b, W.heap.size = b := ⟨_, rfl⟩
 have hgW := blk_lt HR.out
 have HA : Aside0 (Below W.heap.size W (W.alloc (.cells #[.int .i64 x.f0, .int .i64 x.f1, .string x.f2, .string x.f3, .int .i64 x.f4] 40))) := ⟨below_alloc (Below.refl _ _) _⟩
 have HI : Aside0 (Itm (W.alloc (.cells #[.int .i64 x.f0, .int .i64 x.f1, .string x.f2, .string x.f3, .int .i64 x.f4] 40)) b x) := ⟨by rw [← hb]; exact heap_alloc_new _ _⟩
 have HR := Aside0.mk (rd_below HR.out HA.out)
 have HO : Aside0 (Kd.R k40 40 (W.alloc (.cells #[.int .i64 x.f0, .int .i64 x.f1, .string x.f2, .string x.f3, .int .i64 x.f4] 40)) w0.heap.size (fun j => j ≠ g ∧ j ≠ b) v out) := ⟨Kd.R_below (Kd.R_mono (Kd.R_bound HO.out) (fun k hk => ⟨hk.1, by have := hk.2.2.1; omega⟩)) HA.out⟩
 have HK := Aside0.mk (KeepBut.of_below HA.out g none)
 have HBo := HB
 have HB := Aside0.mk (below_step HB.out HA.out)
 have HB0 : Aside0 (w0.heap.size ≤ W.heap.size) := ⟨HBo.out.size⟩
 have HBG : Aside0 (W.heap.size ≤ b) := ⟨by omega⟩
 have hne1 : ¬ b = g := by omega
 have hne2 : ¬ g = b := by omega
 rw [hb]
 generalize W.alloc (.cells #[.int .i64 x.f0, .int .i64 x.f1, .string x.f2, .string x.f3, .int .i64 x.f4] 40) = W1 at HA HI HR HO HK HB ⊢
 clear HA hb
 go_wp2_with (go_at_call 23; refine (next_calls w0 W1 g s p v HR.out HB.out HG.out HP.out HS.out).mono ?_; rintro e w2 ⟨rfl, hR2, hB2, hK2⟩; have HI := Aside0.mk ((hK2.2 b (blk_lt HI.out) hne1 (by simp)).trans HI.out); have HR := Aside0.mk hR2; have HO := Aside0.mk (Kd.R_keep HO.out hK2 (fun _ h => h.1)) ; have HK := Aside0.mk (HK.out.trans hK2 (.inl rfl)); have HB := Aside0.mk hB2; clear hR2 hB2 hK2; have hm0 : w2.cell? ⟨b, 0, none⟩ = some (.int .i64 x.f0) := (blk_cell HI.out 0).trans rfl; have hm1 : w2.cell? ⟨b, 1, none⟩ = some (.int .i64 x.f1) := (blk_cell HI.out 1).trans rfl; have hfm1 := blk_frozen HI.out 1; have hcc1 := rd_cell1 HR.out; have hcf1 := blk_frozen HR.out 1)
 go_ret
 exact ⟨rfl, ⟨v, blk_far HR.out (p := ⟨b, 1, none⟩) hne2 _, Kd.R_mono (Kd.R_far HO.out (p := ⟨b, 1, none⟩) (fun _ h => h.2) (.int .i64 6)) (fun _ h => h.1), .inl rfl⟩, below_set (j := 1) (v := .int .i64 6) (g := b) HB.out (Nat.le_trans HB0.out HBG.out), keep_wide (keep_far HK.out (p := ⟨b, 1, none⟩) HBG.out (.int .i64 6))⟩
set_option maxHeartbeats 8000000 in
set_option maxRecDepth 100000 in
theorem value_open91 (w0 W : World) (g : Nat) (s : ByteArray) (p : Nat) (v : Value) (out : List S40) (x : S40) (hR : Rd W g s p v) (hO : Out w0 W g v out) (hB : Below w0.heap.size w0 W) (hg : w0.heap.size ≤ g) (hp : p ≤ s.size) (hs : s.size ≤ 4611686018427387904) (hj : JTabs w0) (hc : nextC s p = 91) (hd : x.f0 < 64) (hl : (out.length + 1) * 56 ≤ 140737488355328) (hq : skipP s p < s.size) (er : Int) (q : Nat) (out' : List S40) (hM : ∀ (W1 : World) (v1 : Value), Rd W1 g s (skipP s p + 1) v1 → Out w0 W1 g v1 (out ++ [(⟨x.f0, 6, x.f2, x.f3, x.f4⟩ : S40)]) → Below w0.heap.size w0 W1 → Calls Tryz.prog 40 #[.pointer (some ⟨g, 0, none⟩), itemV (⟨x.f0, 6, x.f2, x.f3, x.f4⟩ : S40), .int .u8 93] W1 fun e W' => e = .returned (.int .i64 er) ∧ Left w0 W1 W' g s q v1 out') :
  Calls Tryz.prog 22 #[.pointer (some ⟨g, 0, none⟩), itemV x] W fun e W' => e = .returned (.int .i64 er) ∧ Left w0 W W' g s q v out' := by
 have HR := Aside0.mk hR
 have HO := Aside0.mk hO
 have HB := Aside0.mk hB
 have HG := Aside0.mk hg
 have HS := Aside0.mk hs
 have HP := Aside0.mk hp
 have JT := Aside0.mk hj
 have HP1 := Aside0.mk (skip_le s p hp)
 have c91 : ((nextC s p : Int) == 91) = true := beq_iff_eq.mpr (by omega)
 have c123 : ((nextC s p : Int) == 123) = false := beq_eq_false_iff_ne.mpr (by omega)
 have HC : Aside0 ((nextC s p : Int) = 91) := ⟨by omega⟩
 have d64 : decide (64 ≤ x.f0) = false := decide_eq_false (by omega)
 have HL := Aside0.mk hl
 have HM := Aside0.mk hM
 have HW : Aside0 (wrap64 ((skipP s p : Int) + 1) = ((skipP s p + 1 : Nat) : Int)) := ⟨by unfold wrap64; omega⟩
 have hu : IntKind.u8.wrap ((nextC s p : Int) + 2) = 93 := by rw [HC.out]; rfl
 have hu2 : ((nextC s p : Int) + 2) % 256 = 93 := by rw [HC.out]; rfl
 clear hR hB hg hs hO hp hj hc hd hl hM hq
 unfold itemV
 go_enter Tryz.func22, Tryz.ntmps22
 go_wp2_with fail
 obtain ⟨b, hb⟩ : ∃ b, W.heap.size = b := ⟨_, rfl⟩
 have hgW := blk_lt HR.out
 have HA : Aside0 (Below W.heap.size W (W.alloc (.cells #[.int .i64 x.f0, .int .i64 x.f1, .string x.f2, .string x.f3, .int .i64 x.f4] 40))) := ⟨below_alloc (Below.refl _ _) _⟩
 have HI : Aside0 (Itm (W.alloc (.cells #[.int .i64 x.f0, .int .i64 x.f1, .string x.f2, .string x.f3, .int .i64 x.f4] 40)) b x) := ⟨by rw [← hb]; exact heap_alloc_new _ _⟩
 have HR := Aside0.mk (rd_below HR.out HA.out)
 have HO : Aside0 (Kd.R k40 40 (W.alloc (.cells #[.int .i64 x.f0, .int .i64 x.f1, .string x.f2, .string x.f3, .int .i64 x.f4] 40)) w0.heap.size (fun j => j ≠ g ∧ j ≠ b) v out) := ⟨Kd.R_below (Kd.R_mono (Kd.R_bound HO.out) (fun k hk => ⟨hk.1, by have := hk.2.2.1; omega⟩)) HA.out⟩
 have HK := Aside0.mk (KeepBut.of_below HA.out g none)
 have HBo := HB
 have HB := Aside0.mk (below_step HB.out HA.out)
 have HB0 : Aside0 (w0.heap.size ≤ W.heap.size) := ⟨HBo.out.size⟩
 have HBG : Aside0 (W.heap.size ≤ b) := ⟨by omega⟩
 have hne1 : ¬ b = g := by omega
 have hne2 : ¬ g = b := by omega
 rw [hb]
 generalize W.alloc (.cells #[.int .i64 x.f0, .int .i64 x.f1, .string x.f2, .string x.f3, .int .i64 x.f4] 40) = W1 at HA HI HR HO HK HB ⊢
 clear HA hb
 go_wp2_with (go_at_call 23; refine (next_calls w0 W1 g s p v HR.out HB.out HG.out HP.out HS.out).mono ?_; rintro e w2 ⟨rfl, hR2, hB2, hK2⟩; have HI := Aside0.mk ((hK2.2 b (blk_lt HI.out) hne1 (by simp)).trans HI.out); have HR := Aside0.mk hR2; have HO := Aside0.mk (Kd.R_keep HO.out hK2 (fun _ h => h.1)) ; have HK := Aside0.mk (HK.out.trans hK2 (.inl rfl)); have HB := Aside0.mk hB2; clear hR2 hB2 hK2; have hm0 : w2.cell? ⟨b, 0, none⟩ = some (.int .i64 x.f0) := (blk_cell HI.out 0).trans rfl; have hm1 : w2.cell? ⟨b, 1, none⟩ = some (.int .i64 x.f1) := (blk_cell HI.out 1).trans rfl; have hfm1 := blk_frozen HI.out 1; have hcc1 := rd_cell1 HR.out; have hcf1 := blk_frozen HR.out 1)
 have HRb : Aside0 (Rd (w2.setCell ⟨b, 1, none⟩ (.int .i64 6)) g s (skipP s p) v) := ⟨blk_far HR.out (p := ⟨b, 1, none⟩) hne2 _⟩
 have HIb : Aside0 (Itm (w2.setCell ⟨b, 1, none⟩ (.int .i64 6)) b (⟨x.f0, 6, x.f2, x.f3, x.f4⟩ : S40)) := ⟨blk_set HI.out 1 _⟩
 have HOb := Aside0.mk (Kd.R_far HO.out (p := ⟨b, 1, none⟩) (fun _ h => h.2) (.int .i64 6))
 have HKb := Aside0.mk (keep_far HK.out (p := ⟨b, 1, none⟩) HBG.out (.int .i64 6))
 have HBb := Aside0.mk (below_set (j := 1) (v := .int .i64 6) (g := b) HB.out (Nat.le_trans HB0.out HBG.out))
 have HRa : Aside0 (Rd ((w2.setCell ⟨b, 1, none⟩ (.int .i64 6)).setCell ⟨g, 1, none⟩ (.int .i64 (wrap64 ((skipP s p : Int) + 1)))) g s (skipP s p + 1) v) := ⟨rd_set1 HRb.out HW.out⟩
 have HIa : Aside0 (Itm ((w2.setCell ⟨b, 1, none⟩ (.int .i64 6)).setCell ⟨g, 1, none⟩ (.int .i64 (wrap64 ((skipP s p : Int) + 1)))) b (⟨x.f0, 6, x.f2, x.f3, x.f4⟩ : S40)) := ⟨blk_far HIb.out (p := ⟨g, 1, none⟩) hne1 _⟩
 have HOa := Aside0.mk (Kd.R_far HOb.out (p := ⟨g, 1, none⟩) (fun _ h => h.1) (.int .i64 (wrap64 ((skipP s p : Int) + 1))))
 have HKa := Aside0.mk (KeepBut.set_ HKb.out 1 (.int .i64 (wrap64 ((skipP s p : Int) + 1))))
 have HBa := Aside0.mk (below_set (j := 1) (v := .int .i64 (wrap64 ((skipP s p : Int) + 1))) HBb.out HG.out)
 clear HRb HIb HOb HKb HBb hcc1 hcf1 hm0 hm1 hfm1
 generalize (w2.setCell ⟨b, 1, none⟩ (.int .i64 6)).setCell ⟨g, 1, none⟩ (.int .i64 (wrap64 ((skipP s p : Int) + 1))) = w1 at HRa HIa HOa HKa HBa ⊢
 refine start_ (n := 11) (S := fun w' => w'.cell? ⟨g, 2, none⟩ = some v ∧ w'.heap[b]? = some (.cells #[.int .i64 ((⟨x.f0, 6, x.f2, x.f3, x.f4⟩ : S40)).f0, .int .i64 ((⟨x.f0, 6, x.f2, x.f3, x.f4⟩ : S40)).f1, .string ((⟨x.f0, 6, x.f2, x.f3, x.f4⟩ : S40)).f2, .string ((⟨x.f0, 6, x.f2, x.f3, x.f4⟩ : S40)).f3, .int .i64 ((⟨x.f0, 6, x.f2, x.f3, x.f4⟩ : S40)).f4] 40 (0, 0))) (ds := [7, 10]) #[false, false, false, false, false, false, false, false, false, false, false] (by kernel_rfl) rfl rfl ⟨rd_cell2 HRa.out, HIa.out⟩ (fun hHeld => ?_)
 refine pure_ (i := 0) (N := some 33) (v := ?_) (a' := ?_) #[true, false, false, false, false, false, false, false, false, false, false] rfl rfl (by kernel_rfl) (fun _ _ _ h => h) (Or.inl ⟨by rfl, ?_⟩) ?_ ?_
 rotate_left
 ·intro w'
  go_simp
  (try with_reducible rfl)
 rotate_left
 ·simp only [Act.put, qA, qB, qC]
  rfl
 refine pure_ (i := 1) (N := some 34) (v := ?_) (a' := ?_) #[true, true, false, false, false, false, false, false, false, false, false] rfl rfl (by kernel_rfl) (fun _ _ _ h => h) (Or.inl ⟨by rfl, ?_⟩) ?_ ?_
 rotate_left
 ·intro w'
  go_simp
  (try with_reducible rfl)
 rotate_left
 ·simp only [Act.put, qA, qB, qC]
  rfl
 refine pure_ (i := 2) (N := some 35) (v := ?_) (a' := ?_) #[true, true, true, false, false, false, false, false, false, false, false] rfl rfl (by kernel_rfl) (fun _ _ _ h => h) (Or.inl ⟨by rfl, ?_⟩) ?_ ?_
 rotate_left
 ·intro w'
  go_simp
  (try with_reducible rfl)
 rotate_left
 ·simp only [Act.put, qA, qB, qC]
  rfl
 refine pure_ (i := 3) (N := some 36) (v := ?_) (a' := ?_) #[true, true, true, true, false, false, false, false, false, false, false] rfl rfl (by kernel_rfl) (fun _ _ _ h => h) (Or.inl ⟨by rfl, ?_⟩) ?_ ?_
 rotate_left
 ·intro w'
  go_simp
  (try with_reducible rfl)
 rotate_left
 ·simp only [Act.put, qA, qB, qC]
  rfl
 refine take_ (i := 4) (N := some 37) (v := ?_) (a' := ?_) #[true, true, true, true, true, false, false, false, false, false, false] rfl rfl (by kernel_rfl) (fun _ _ _ h => h) (Or.inl ⟨by rfl, ?_⟩) (by assumption) ?_ ?_
 rotate_left
 ·intro w hSw
  obtain ⟨hl0, hl1⟩ := hSw
  go_simp
  (try with_reducible rfl)
 rotate_left
 ·simp only [Act.put, qA, qB, qC]
  rfl
 refine take_ (i := 5) (N := some 38) (v := ?_) (a' := ?_) #[true, true, true, true, true, true, false, false, false, false, false] rfl rfl (by kernel_rfl) (fun _ _ _ h => h) (Or.inl ⟨by rfl, ?_⟩) (by assumption) ?_ ?_
 rotate_left
 ·intro w hSw
  obtain ⟨hl0, hl1⟩ := hSw
  have hm0 : w.cell? ⟨b, 0, none⟩ = some (.int .i64 ((⟨x.f0, 6, x.f2, x.f3, x.f4⟩ : S40)).f0) := (blk_cell hl1 0).trans rfl
  have hm1 : w.cell? ⟨b, 1, none⟩ = some (.int .i64 ((⟨x.f0, 6, x.f2, x.f3, x.f4⟩ : S40)).f1) := (blk_cell hl1 1).trans rfl
  have hm2 : w.cell? ⟨b, 2, none⟩ = some (.string ((⟨x.f0, 6, x.f2, x.f3, x.f4⟩ : S40)).f2) := (blk_cell hl1 2).trans rfl
  have hm3 : w.cell? ⟨b, 3, none⟩ = some (.string ((⟨x.f0, 6, x.f2, x.f3, x.f4⟩ : S40)).f3) := (blk_cell hl1 3).trans rfl
  have hm4 : w.cell? ⟨b, 4, none⟩ = some (.int .i64 ((⟨x.f0, 6, x.f2, x.f3, x.f4⟩ : S40)).f4) := (blk_cell hl1 4).trans rfl
  clear hl1
  go_simp
  (try with_reducible rfl)
 rotate_left
 ·simp only [Act.put, qA, qB, qC]
  rfl
 refine one_ (i := 6) (N := some 39) #[true, true, true, true, true, true, true, false, false, false, false] rfl rfl (by kernel_rfl) (by decide) (fun K hK => ?_)
 refine event_step (W := w1.drew) (v := .slice (some ⟨w1.heap.size, 0, none⟩) 1 1) (w1 := w1.drew.alloc (.cells #[.int .i64 ((⟨x.f0, 6, x.f2, x.f3, x.f4⟩ : S40)).f0, .int .i64 ((⟨x.f0, 6, x.f2, x.f3, x.f4⟩ : S40)).f1, .string ((⟨x.f0, 6, x.f2, x.f3, x.f4⟩ : S40)).f2, .string ((⟨x.f0, 6, x.f2, x.f3, x.f4⟩ : S40)).f3, .int .i64 ((⟨x.f0, 6, x.f2, x.f3, x.f4⟩ : S40)).f4] 40)) (by rfl) (by kernel_rfl) ?_
 refine hK.out _ _ ?_ (fun hHeld => ?_)
 ·exact keep_push HRa.out HIa.out _
 clear hK K
 (try simp only [Act.put, qA, qB, qC])
 refine last_ (i := 7) (N := some 40) #[true, true, true, true, true, true, true, true, false, false, false] rfl rfl (by kernel_rfl) (by decide) (fun K hK => ?_)
 refine push_append (.tmp 37) (.tmp 39) (by rfl) rfl rfl rfl HRa.out HIa.out HOa.out HBa.out HG.out HL.out ?_
 intro As N2 cc w2 hR2 hP2
 have hc2a := rd_cell2 hR2
 have hf2a := blk_frozen hR2 2
 have HPa := Aside0.mk hP2
 clear hR2 hP2
 refine hK.out _ _ ?_
 clear hK K
 (try simp only [Act.put, qA, qB, qC])
 refine pure_ (i := 8) (N := some 41) (v := ?_) (a' := ?_) #[true, true, true, true, true, true, true, true, true, false, false] rfl rfl (by kernel_rfl) (fun _ _ _ h => h) (Or.inl ⟨by rfl, ?_⟩) ?_ ?_
 rotate_left
 ·intro w'
  go_simp
  (try with_reducible rfl)
 rotate_left
 ·simp only [Act.put, qA, qB, qC]
  rfl
 refine pure_ (i := 9) (N := some 42) (v := ?_) (a' := ?_) #[true, true, true, true, true, true, true, true, true, true, false] rfl rfl (by kernel_rfl) (fun _ _ _ h => h) (Or.inl ⟨by rfl, ?_⟩) ?_ ?_
 rotate_left
 ·intro w'
  go_simp
  (try with_reducible rfl)
 rotate_left
 ·simp only [Act.put, qA, qB, qC]
  rfl
 refine last_ (i := 10) (N := none) #[true, true, true, true, true, true, true, true, true, true, true] rfl rfl (by kernel_rfl) (by decide) (fun K hK => ?_)
 go_simp
 refine hK.out _ _ ?_
 clear hK K
 (try simp only [Act.put, qA, qB, qC])
 refine done_ (by kernel_rfl) ?_
 clear hc2a hf2a
 generalize w2.setCell ⟨g, 2, none⟩ (.slice As N2 cc) = wf at HPa ⊢
 obtain ⟨⟨v', hR', hO', hA'⟩, hB', hK'⟩ := HPa.out
 have HIf : Aside0 (Itm wf b (⟨x.f0, 6, x.f2, x.f3, x.f4⟩ : S40)) := ⟨(hK'.2 b (blk_lt HIa.out) hne1 (fun e => (HOa.out.1 b e.symm).2 rfl)).trans HIa.out⟩
 have hm0 : wf.cell? ⟨b, 0, none⟩ = some (.int .i64 x.f0) := (blk_cell HIf.out 0).trans rfl
 have hm1 : wf.cell? ⟨b, 1, none⟩ = some (.int .i64 6) := (blk_cell HIf.out 1).trans rfl
 have hm2 : wf.cell? ⟨b, 2, none⟩ = some (.string x.f2) := (blk_cell HIf.out 2).trans rfl
 have hm3 : wf.cell? ⟨b, 3, none⟩ = some (.string x.f3) := (blk_cell HIf.out 3).trans rfl
 have hm4 : wf.cell? ⟨b, 4, none⟩ = some (.int .i64 x.f4) := (blk_cell HIf.out 4).trans rfl
 have HR' := Aside0.mk hR'
 have HO' := Aside0.mk hO'
 have HB' := Aside0.mk hB'
 have HA' := Aside0.mk hA'
 have HK' := Aside0.mk hK'
 clear hR' hO' hB' hA' hK'
 go_wp2_with (go_at_call 40; refine (HM.out wf v' HR'.out HO'.out HB'.out).mono ?_; rintro e w4 ⟨rfl, hL⟩; have HL4 := Aside0.mk hL; clear hL)
 go_ret
 exact ⟨rfl, Left.pre HKa.out (Left.comp HA'.out HK'.out HL4.out)⟩
set_option maxHeartbeats 8000000 in
set_option maxRecDepth 100000 in
theorem value_deep123 (w0 W : World) (g : Nat) (s : ByteArray) (p : Nat) (v : Value) (out : List S40) (x : S40) (hR : Rd W g s p v) (hO : Out w0 W g v out) (hB : Below w0.heap.size w0 W) (hg : w0.heap.size ≤ g) (hp : p ≤ s.size) (hs : s.size ≤ 4611686018427387904) (hj : JTabs w0) (hc : nextC s p = 123) (hd : 64 ≤ x.f0) :
  Calls Tryz.prog 22 #[.pointer (some ⟨g, 0, none⟩), itemV x] W fun e W' => e = .returned (.int .i64 81) ∧ Left w0 W W' g s (skipP s p) v out := by
 have HR := Aside0.mk hR
 have HO := Aside0.mk hO
 have HB := Aside0.mk hB
 have HG := Aside0.mk hg
 have HS := Aside0.mk hs
 have HP := Aside0.mk hp
 have JT := Aside0.mk hj
 have HP1 := Aside0.mk (skip_le s p hp)
 have c91 : ((nextC s p : Int) == 91) = false := beq_eq_false_iff_ne.mpr (by omega)
 have c123 : ((nextC s p : Int) == 123) = true := beq_iff_eq.mpr (by omega)
 have HC : Aside0 ((nextC s p : Int) = 123) := ⟨by omega⟩
 have d64 : decide (64 ≤ x.f0) = true := decide_eq_true (by omega)
 clear hR hB hg hs hO hp hj hc hd
 unfold itemV
 go_enter Tryz.func22, Tryz.ntmps22
 go_wp2_with fail
 obtain ⟨b, hb⟩ : ∃ b, W.heap.size = b := ⟨_, rfl⟩
 have hgW := blk_lt HR.out
 have HA : Aside0 (Below W.heap.size W (W.alloc (.cells #[.int .i64 x.f0, .int .i64 x.f1, .string x.f2, .string x.f3, .int .i64 x.f4] 40))) := ⟨below_alloc (Below.refl _ _) _⟩
 have HI : Aside0 (Itm (W.alloc (.cells #[.int .i64 x.f0, .int .i64 x.f1, .string x.f2, .string x.f3, .int .i64 x.f4] 40)) b x) := ⟨by rw [← hb]; exact heap_alloc_new _ _⟩
 have HR := Aside0.mk (rd_below HR.out HA.out)
 have HO : Aside0 (Kd.R k40 40 (W.alloc (.cells #[.int .i64 x.f0, .int .i64 x.f1, .string x.f2, .string x.f3, .int .i64 x.f4] 40)) w0.heap.size (fun j => j ≠ g ∧ j ≠ b) v out) := ⟨Kd.R_below (Kd.R_mono (Kd.R_bound HO.out) (fun k hk => ⟨hk.1, by have := hk.2.2.1; omega⟩)) HA.out⟩
 have HK := Aside0.mk (KeepBut.of_below HA.out g none)
 have HBo := HB
 have HB := Aside0.mk (below_step HB.out HA.out)
 have HB0 : Aside0 (w0.heap.size ≤ W.heap.size) := ⟨HBo.out.size⟩
 have HBG : Aside0 (W.heap.size ≤ b) := ⟨by omega⟩
 have hne1 : ¬ b = g := by omega
 have hne2 : ¬ g = b := by omega
 rw [hb]
 generalize W.alloc (.cells #[.int .i64 x.f0, .int .i64 x.f1, .string x.f2, .string x.f3, .int .i64 x.f4] 40) = W1 at HA HI HR HO HK HB ⊢
 clear HA hb
 go_wp2_with (go_at_call 23; refine (next_calls w0 W1 g s p v HR.out HB.out HG.out HP.out HS.out).mono ?_; rintro e w2 ⟨rfl, hR2, hB2, hK2⟩; have HI := Aside0.mk ((hK2.2 b (blk_lt HI.out) hne1 (by simp)).trans HI.out); have HR := Aside0.mk hR2; have HO := Aside0.mk (Kd.R_keep HO.out hK2 (fun _ h => h.1)) ; have HK := Aside0.mk (HK.out.trans hK2 (.inl rfl)); have HB := Aside0.mk hB2; clear hR2 hB2 hK2; have hm0 : w2.cell? ⟨b, 0, none⟩ = some (.int .i64 x.f0) := (blk_cell HI.out 0).trans rfl; have hm1 : w2.cell? ⟨b, 1, none⟩ = some (.int .i64 x.f1) := (blk_cell HI.out 1).trans rfl; have hfm1 := blk_frozen HI.out 1; have hcc1 := rd_cell1 HR.out; have hcf1 := blk_frozen HR.out 1)
 go_ret
 exact ⟨rfl, ⟨v, blk_far (blk_far HR.out (p := ⟨b, 1, none⟩) hne2 (.int .i64 6)) (p := ⟨b, 1, none⟩) hne2 _, Kd.R_mono (Kd.R_far (Kd.R_far HO.out (p := ⟨b, 1, none⟩) (fun _ h => h.2) (.int .i64 6)) (p := ⟨b, 1, none⟩) (fun _ h => h.2) (.int .i64 7)) (fun _ h => h.1), .inl rfl⟩, below_set (j := 1) (v := .int .i64 7) (g := b) (below_set (j := 1) (v := .int .i64 6) (g := b) HB.out (Nat.le_trans HB0.out HBG.out)) (Nat.le_trans HB0.out HBG.out), keep_wide (keep_far (keep_far HK.out (p := ⟨b, 1, none⟩) HBG.out (.int .i64 6)) (p := ⟨b, 1, none⟩) HBG.out (.int .i64 7))⟩
set_option maxHeartbeats 8000000 in
set_option maxRecDepth 100000 in
theorem value_open123 (w0 W : World) (g : Nat) (s : ByteArray) (p : Nat) (v : Value) (out : List S40) (x : S40) (hR : Rd W g s p v) (hO : Out w0 W g v out) (hB : Below w0.heap.size w0 W) (hg : w0.heap.size ≤ g) (hp : p ≤ s.size) (hs : s.size ≤ 4611686018427387904) (hj : JTabs w0) (hc : nextC s p = 123) (hd : x.f0 < 64) (hl : (out.length + 1) * 56 ≤ 140737488355328) (hq : skipP s p < s.size) (er : Int) (q : Nat) (out' : List S40) (hM : ∀ (W1 : World) (v1 : Value), Rd W1 g s (skipP s p + 1) v1 → Out w0 W1 g v1 (out ++ [(⟨x.f0, 7, x.f2, x.f3, x.f4⟩ : S40)]) → Below w0.heap.size w0 W1 → Calls Tryz.prog 40 #[.pointer (some ⟨g, 0, none⟩), itemV (⟨x.f0, 7, x.f2, x.f3, x.f4⟩ : S40), .int .u8 125] W1 fun e W' => e = .returned (.int .i64 er) ∧ Left w0 W1 W' g s q v1 out') :
  Calls Tryz.prog 22 #[.pointer (some ⟨g, 0, none⟩), itemV x] W fun e W' => e = .returned (.int .i64 er) ∧ Left w0 W W' g s q v out' := by
 have HR := Aside0.mk hR
 have HO := Aside0.mk hO
 have HB := Aside0.mk hB
 have HG := Aside0.mk hg
 have HS := Aside0.mk hs
 have HP := Aside0.mk hp
 have JT := Aside0.mk hj
 have HP1 := Aside0.mk (skip_le s p hp)
 have c91 : ((nextC s p : Int) == 91) = false := beq_eq_false_iff_ne.mpr (by omega)
 have c123 : ((nextC s p : Int) == 123) = true := beq_iff_eq.mpr (by omega)
 have HC : Aside0 ((nextC s p : Int) = 123) := ⟨by omega⟩
 have d64 : decide (64 ≤ x.f0) = false := decide_eq_false (by omega)
 have HL := Aside0.mk hl
 have HM := Aside0.mk hM
 have HW : Aside0 (wrap64 ((skipP s p : Int) + 1) = ((skipP s p + 1 : Nat) : Int)) := ⟨by unfold wrap64; omega⟩
 have hu : IntKind.u8.wrap ((nextC s p : Int) + 2) = 125 := by rw [HC.out]; rfl
 have hu2 : ((nextC s p : Int) + 2) % 256 = 125 := by rw [HC.out]; rfl
 clear hR hB hg hs hO hp hj hc hd hl hM hq
 unfold itemV
 go_enter Tryz.func22, Tryz.ntmps22
 go_wp2_with fail
 obtain ⟨b, hb⟩ : ∃ b, W.heap.size = b := ⟨_, rfl⟩
 have hgW := blk_lt HR.out
 have HA : Aside0 (Below W.heap.size W (W.alloc (.cells #[.int .i64 x.f0, .int .i64 x.f1, .string x.f2, .string x.f3, .int .i64 x.f4] 40))) := ⟨below_alloc (Below.refl _ _) _⟩
 have HI : Aside0 (Itm (W.alloc (.cells #[.int .i64 x.f0, .int .i64 x.f1, .string x.f2, .string x.f3, .int .i64 x.f4] 40)) b x) := ⟨by rw [← hb]; exact heap_alloc_new _ _⟩
 have HR := Aside0.mk (rd_below HR.out HA.out)
 have HO : Aside0 (Kd.R k40 40 (W.alloc (.cells #[.int .i64 x.f0, .int .i64 x.f1, .string x.f2, .string x.f3, .int .i64 x.f4] 40)) w0.heap.size (fun j => j ≠ g ∧ j ≠ b) v out) := ⟨Kd.R_below (Kd.R_mono (Kd.R_bound HO.out) (fun k hk => ⟨hk.1, by have := hk.2.2.1; omega⟩)) HA.out⟩
 have HK := Aside0.mk (KeepBut.of_below HA.out g none)
 have HBo := HB
 have HB := Aside0.mk (below_step HB.out HA.out)
 have HB0 : Aside0 (w0.heap.size ≤ W.heap.size) := ⟨HBo.out.size⟩
 have HBG : Aside0 (W.heap.size ≤ b) := ⟨by omega⟩
 have hne1 : ¬ b = g := by omega
 have hne2 : ¬ g = b := by omega
 rw [hb]
 generalize W.alloc (.cells #[.int .i64 x.f0, .int .i64 x.f1, .string x.f2, .string x.f3, .int .i64 x.f4] 40) = W1 at HA HI HR HO HK HB ⊢
 clear HA hb
 go_wp2_with (go_at_call 23; refine (next_calls w0 W1 g s p v HR.out HB.out HG.out HP.out HS.out).mono ?_; rintro e w2 ⟨rfl, hR2, hB2, hK2⟩; have HI := Aside0.mk ((hK2.2 b (blk_lt HI.out) hne1 (by simp)).trans HI.out); have HR := Aside0.mk hR2; have HO := Aside0.mk (Kd.R_keep HO.out hK2 (fun _ h => h.1)) ; have HK := Aside0.mk (HK.out.trans hK2 (.inl rfl)); have HB := Aside0.mk hB2; clear hR2 hB2 hK2; have hm0 : w2.cell? ⟨b, 0, none⟩ = some (.int .i64 x.f0) := (blk_cell HI.out 0).trans rfl; have hm1 : w2.cell? ⟨b, 1, none⟩ = some (.int .i64 x.f1) := (blk_cell HI.out 1).trans rfl; have hfm1 := blk_frozen HI.out 1; have hcc1 := rd_cell1 HR.out; have hcf1 := blk_frozen HR.out 1)
 have HRb : Aside0 (Rd ((w2.setCell ⟨b, 1, none⟩ (.int .i64 6)).setCell ⟨b, 1, none⟩ (.int .i64 7)) g s (skipP s p) v) := ⟨blk_far (blk_far HR.out (p := ⟨b, 1, none⟩) hne2 (.int .i64 6)) (p := ⟨b, 1, none⟩) hne2 _⟩
 have HIb : Aside0 (Itm ((w2.setCell ⟨b, 1, none⟩ (.int .i64 6)).setCell ⟨b, 1, none⟩ (.int .i64 7)) b (⟨x.f0, 7, x.f2, x.f3, x.f4⟩ : S40)) := ⟨blk_set (blk_set HI.out 1 (.int .i64 6)) 1 _⟩
 have HOb := Aside0.mk (Kd.R_far (Kd.R_far HO.out (p := ⟨b, 1, none⟩) (fun _ h => h.2) (.int .i64 6)) (p := ⟨b, 1, none⟩) (fun _ h => h.2) (.int .i64 7))
 have HKb := Aside0.mk (keep_far (keep_far HK.out (p := ⟨b, 1, none⟩) HBG.out (.int .i64 6)) (p := ⟨b, 1, none⟩) HBG.out (.int .i64 7))
 have HBb := Aside0.mk (below_set (j := 1) (v := .int .i64 7) (g := b) (below_set (j := 1) (v := .int .i64 6) (g := b) HB.out (Nat.le_trans HB0.out HBG.out)) (Nat.le_trans HB0.out HBG.out))
 have HRa : Aside0 (Rd (((w2.setCell ⟨b, 1, none⟩ (.int .i64 6)).setCell ⟨b, 1, none⟩ (.int .i64 7)).setCell ⟨g, 1, none⟩ (.int .i64 (wrap64 ((skipP s p : Int) + 1)))) g s (skipP s p + 1) v) := ⟨rd_set1 HRb.out HW.out⟩
 have HIa : Aside0 (Itm (((w2.setCell ⟨b, 1, none⟩ (.int .i64 6)).setCell ⟨b, 1, none⟩ (.int .i64 7)).setCell ⟨g, 1, none⟩ (.int .i64 (wrap64 ((skipP s p : Int) + 1)))) b (⟨x.f0, 7, x.f2, x.f3, x.f4⟩ : S40)) := ⟨blk_far HIb.out (p := ⟨g, 1, none⟩) hne1 _⟩
 have HOa := Aside0.mk (Kd.R_far HOb.out (p := ⟨g, 1, none⟩) (fun _ h => h.1) (.int .i64 (wrap64 ((skipP s p : Int) + 1))))
 have HKa := Aside0.mk (KeepBut.set_ HKb.out 1 (.int .i64 (wrap64 ((skipP s p : Int) + 1))))
 have HBa := Aside0.mk (below_set (j := 1) (v := .int .i64 (wrap64 ((skipP s p : Int) + 1))) HBb.out HG.out)
 clear HRb HIb HOb HKb HBb hcc1 hcf1 hm0 hm1 hfm1
 generalize ((w2.setCell ⟨b, 1, none⟩ (.int .i64 6)).setCell ⟨b, 1, none⟩ (.int .i64 7)).setCell ⟨g, 1, none⟩ (.int .i64 (wrap64 ((skipP s p : Int) + 1))) = w1 at HRa HIa HOa HKa HBa ⊢
 refine start_ (n := 11) (S := fun w' => w'.cell? ⟨g, 2, none⟩ = some v ∧ w'.heap[b]? = some (.cells #[.int .i64 ((⟨x.f0, 7, x.f2, x.f3, x.f4⟩ : S40)).f0, .int .i64 ((⟨x.f0, 7, x.f2, x.f3, x.f4⟩ : S40)).f1, .string ((⟨x.f0, 7, x.f2, x.f3, x.f4⟩ : S40)).f2, .string ((⟨x.f0, 7, x.f2, x.f3, x.f4⟩ : S40)).f3, .int .i64 ((⟨x.f0, 7, x.f2, x.f3, x.f4⟩ : S40)).f4] 40 (0, 0))) (ds := [7, 10]) #[false, false, false, false, false, false, false, false, false, false, false] (by kernel_rfl) rfl rfl ⟨rd_cell2 HRa.out, HIa.out⟩ (fun hHeld => ?_)
 refine pure_ (i := 0) (N := some 33) (v := ?_) (a' := ?_) #[true, false, false, false, false, false, false, false, false, false, false] rfl rfl (by kernel_rfl) (fun _ _ _ h => h) (Or.inl ⟨by rfl, ?_⟩) ?_ ?_
 rotate_left
 ·intro w'
  go_simp
  (try with_reducible rfl)
 rotate_left
 ·simp only [Act.put, qA, qB, qC]
  rfl
 refine pure_ (i := 1) (N := some 34) (v := ?_) (a' := ?_) #[true, true, false, false, false, false, false, false, false, false, false] rfl rfl (by kernel_rfl) (fun _ _ _ h => h) (Or.inl ⟨by rfl, ?_⟩) ?_ ?_
 rotate_left
 ·intro w'
  go_simp
  (try with_reducible rfl)
 rotate_left
 ·simp only [Act.put, qA, qB, qC]
  rfl
 refine pure_ (i := 2) (N := some 35) (v := ?_) (a' := ?_) #[true, true, true, false, false, false, false, false, false, false, false] rfl rfl (by kernel_rfl) (fun _ _ _ h => h) (Or.inl ⟨by rfl, ?_⟩) ?_ ?_
 rotate_left
 ·intro w'
  go_simp
  (try with_reducible rfl)
 rotate_left
 ·simp only [Act.put, qA, qB, qC]
  rfl
 refine pure_ (i := 3) (N := some 36) (v := ?_) (a' := ?_) #[true, true, true, true, false, false, false, false, false, false, false] rfl rfl (by kernel_rfl) (fun _ _ _ h => h) (Or.inl ⟨by rfl, ?_⟩) ?_ ?_
 rotate_left
 ·intro w'
  go_simp
  (try with_reducible rfl)
 rotate_left
 ·simp only [Act.put, qA, qB, qC]
  rfl
 refine take_ (i := 4) (N := some 37) (v := ?_) (a' := ?_) #[true, true, true, true, true, false, false, false, false, false, false] rfl rfl (by kernel_rfl) (fun _ _ _ h => h) (Or.inl ⟨by rfl, ?_⟩) (by assumption) ?_ ?_
 rotate_left
 ·intro w hSw
  obtain ⟨hl0, hl1⟩ := hSw
  go_simp
  (try with_reducible rfl)
 rotate_left
 ·simp only [Act.put, qA, qB, qC]
  rfl
 refine take_ (i := 5) (N := some 38) (v := ?_) (a' := ?_) #[true, true, true, true, true, true, false, false, false, false, false] rfl rfl (by kernel_rfl) (fun _ _ _ h => h) (Or.inl ⟨by rfl, ?_⟩) (by assumption) ?_ ?_
 rotate_left
 ·intro w hSw
  obtain ⟨hl0, hl1⟩ := hSw
  have hm0 : w.cell? ⟨b, 0, none⟩ = some (.int .i64 ((⟨x.f0, 7, x.f2, x.f3, x.f4⟩ : S40)).f0) := (blk_cell hl1 0).trans rfl
  have hm1 : w.cell? ⟨b, 1, none⟩ = some (.int .i64 ((⟨x.f0, 7, x.f2, x.f3, x.f4⟩ : S40)).f1) := (blk_cell hl1 1).trans rfl
  have hm2 : w.cell? ⟨b, 2, none⟩ = some (.string ((⟨x.f0, 7, x.f2, x.f3, x.f4⟩ : S40)).f2) := (blk_cell hl1 2).trans rfl
  have hm3 : w.cell? ⟨b, 3, none⟩ = some (.string ((⟨x.f0, 7, x.f2, x.f3, x.f4⟩ : S40)).f3) := (blk_cell hl1 3).trans rfl
  have hm4 : w.cell? ⟨b, 4, none⟩ = some (.int .i64 ((⟨x.f0, 7, x.f2, x.f3, x.f4⟩ : S40)).f4) := (blk_cell hl1 4).trans rfl
  clear hl1
  go_simp
  (try with_reducible rfl)
 rotate_left
 ·simp only [Act.put, qA, qB, qC]
  rfl
 refine one_ (i := 6) (N := some 39) #[true, true, true, true, true, true, true, false, false, false, false] rfl rfl (by kernel_rfl) (by decide) (fun K hK => ?_)
 refine event_step (W := w1.drew) (v := .slice (some ⟨w1.heap.size, 0, none⟩) 1 1) (w1 := w1.drew.alloc (.cells #[.int .i64 ((⟨x.f0, 7, x.f2, x.f3, x.f4⟩ : S40)).f0, .int .i64 ((⟨x.f0, 7, x.f2, x.f3, x.f4⟩ : S40)).f1, .string ((⟨x.f0, 7, x.f2, x.f3, x.f4⟩ : S40)).f2, .string ((⟨x.f0, 7, x.f2, x.f3, x.f4⟩ : S40)).f3, .int .i64 ((⟨x.f0, 7, x.f2, x.f3, x.f4⟩ : S40)).f4] 40)) (by rfl) (by kernel_rfl) ?_
 refine hK.out _ _ ?_ (fun hHeld => ?_)
 ·exact keep_push HRa.out HIa.out _
 clear hK K
 (try simp only [Act.put, qA, qB, qC])
 refine last_ (i := 7) (N := some 40) #[true, true, true, true, true, true, true, true, false, false, false] rfl rfl (by kernel_rfl) (by decide) (fun K hK => ?_)
 refine push_append (.tmp 37) (.tmp 39) (by rfl) rfl rfl rfl HRa.out HIa.out HOa.out HBa.out HG.out HL.out ?_
 intro As N2 cc w2 hR2 hP2
 have hc2a := rd_cell2 hR2
 have hf2a := blk_frozen hR2 2
 have HPa := Aside0.mk hP2
 clear hR2 hP2
 refine hK.out _ _ ?_
 clear hK K
 (try simp only [Act.put, qA, qB, qC])
 refine pure_ (i := 8) (N := some 41) (v := ?_) (a' := ?_) #[true, true, true, true, true, true, true, true, true, false, false] rfl rfl (by kernel_rfl) (fun _ _ _ h => h) (Or.inl ⟨by rfl, ?_⟩) ?_ ?_
 rotate_left
 ·intro w'
  go_simp
  (try with_reducible rfl)
 rotate_left
 ·simp only [Act.put, qA, qB, qC]
  rfl
 refine pure_ (i := 9) (N := some 42) (v := ?_) (a' := ?_) #[true, true, true, true, true, true, true, true, true, true, false] rfl rfl (by kernel_rfl) (fun _ _ _ h => h) (Or.inl ⟨by rfl, ?_⟩) ?_ ?_
 rotate_left
 ·intro w'
  go_simp
  (try with_reducible rfl)
 rotate_left
 ·simp only [Act.put, qA, qB, qC]
  rfl
 refine last_ (i := 10) (N := none) #[true, true, true, true, true, true, true, true, true, true, true] rfl rfl (by kernel_rfl) (by decide) (fun K hK => ?_)
 go_simp
 refine hK.out _ _ ?_
 clear hK K
 (try simp only [Act.put, qA, qB, qC])
 refine done_ (by kernel_rfl) ?_
 clear hc2a hf2a
 generalize w2.setCell ⟨g, 2, none⟩ (.slice As N2 cc) = wf at HPa ⊢
 obtain ⟨⟨v', hR', hO', hA'⟩, hB', hK'⟩ := HPa.out
 have HIf : Aside0 (Itm wf b (⟨x.f0, 7, x.f2, x.f3, x.f4⟩ : S40)) := ⟨(hK'.2 b (blk_lt HIa.out) hne1 (fun e => (HOa.out.1 b e.symm).2 rfl)).trans HIa.out⟩
 have hm0 : wf.cell? ⟨b, 0, none⟩ = some (.int .i64 x.f0) := (blk_cell HIf.out 0).trans rfl
 have hm1 : wf.cell? ⟨b, 1, none⟩ = some (.int .i64 7) := (blk_cell HIf.out 1).trans rfl
 have hm2 : wf.cell? ⟨b, 2, none⟩ = some (.string x.f2) := (blk_cell HIf.out 2).trans rfl
 have hm3 : wf.cell? ⟨b, 3, none⟩ = some (.string x.f3) := (blk_cell HIf.out 3).trans rfl
 have hm4 : wf.cell? ⟨b, 4, none⟩ = some (.int .i64 x.f4) := (blk_cell HIf.out 4).trans rfl
 have HR' := Aside0.mk hR'
 have HO' := Aside0.mk hO'
 have HB' := Aside0.mk hB'
 have HA' := Aside0.mk hA'
 have HK' := Aside0.mk hK'
 clear hR' hO' hB' hA' hK'
 go_wp2_with (go_at_call 40; refine (HM.out wf v' HR'.out HO'.out HB'.out).mono ?_; rintro e w4 ⟨rfl, hL⟩; have HL4 := Aside0.mk hL; clear hL)
 go_ret
 exact ⟨rfl, Left.pre HKa.out (Left.comp HA'.out HK'.out HL4.out)⟩
end Go.Proofs.YthhmmaihbjhhgaaGreatDoor.Giv
namespace Go.Proofs.YthhmmaihbjhhgaaGreatDoor.Giv
open Go.RowKit Go.Proofs.YthhmmaihbjhhgaaGreatDoorW.PrintWords Go.Proofs.YthhmmaihbjhhgaaGreatDoorW.PrintLast Go.Proofs.YthhmmaihbjhhgaaGreatDoorW.PrintMore
open Go.Proofs.YthhmmaihbjhhgaaGreatDoor.U1 Go.Proofs.YthhmmaihbjhhgaaGreatDoor.Q1 Go.Proofs.YthhmmaihbjhhgaaGreatDoor.J0 Go.Proofs.YthhmmaihbjhhgaaGreatDoor.J1
set_option linter.unusedSimpArgs false
theorem info9 : (Tryz.prog.info? 9).map (fun i => (i.zero, i.size, i.bytes)) = some (some (.string ⟨#[]⟩), 1, 16) := by kernel_rfl
abbrev Res := Int × Nat × List S40
def afterKey (V : Nat → List S40 → S40 → Option Res) (L : Nat → List S40 → List ByteArray → Option Res) (s : ByteArray) (x : S40) (e : Nat) (p : Nat) (out : List S40) (keys : List ByteArray) (key : ByteArray) : Option Res :=
 (V p out ⟨x.f0 + 1, 0, key, ⟨#[]⟩, 0⟩).bind fun r => if r.2.1 ≤ s.size then
  (if r.1 = 0 then (if (takesP s r.2.1 e).1 = true then some (0, (takesP s r.2.1 e).2, r.2.2) else if (takesP s (takesP s r.2.1 e).2 44).1 = true then L (takesP s (takesP s r.2.1 e).2 44).2 r.2.2 keys else some (80, (takesP s (takesP s r.2.1 e).2 44).2, r.2.2)) else some r) else none
mutual
def valueF : Nat → ByteArray → Nat → List S40 → S40 → Option Res
 | 0, _, _, _, _ => none
 | k + 1, s, p, out, x =>
  if nextC s p = 91 then (if 64 ≤ x.f0 then some (81, skipP s p, out) else if (out.length + 1) * 56 ≤ 140737488355328 ∧ skipP s p < s.size then membersF k s (skipP s p + 1) (out ++ [⟨x.f0, 6, x.f2, x.f3, x.f4⟩]) ⟨x.f0, 6, x.f2, x.f3, x.f4⟩ 93 else none)
  else if nextC s p = 123 then (if 64 ≤ x.f0 then some (81, skipP s p, out) else if (out.length + 1) * 56 ≤ 140737488355328 ∧ skipP s p < s.size then membersF k s (skipP s p + 1) (out ++ [⟨x.f0, 7, x.f2, x.f3, x.f4⟩]) ⟨x.f0, 7, x.f2, x.f3, x.f4⟩ 125 else none)
  else if nextC s p = 34 then (quote_Read.f k (s.extract (skipP s p) s.size)).bind fun r => if 0 ≤ r.2.1 ∧ (skipP s p : Int) + r.2.1 ≤ s.size ∧ (out.length + 1) * 56 ≤ 140737488355328 then (if r.2.2 = 0 then some (0, skipP s p + r.2.1.toNat, out ++ [⟨x.f0, 5, x.f2, r.1, x.f4⟩]) else some (r.2.2, skipP s p + r.2.1.toNat, out)) else none
  else if (out.length + 1) * 56 ≤ 140737488355328 then
   (if nextC s p = 45 ∨ (48 ≤ nextC s p ∧ nextC s p ≤ 57) then (if (numberS s (skipP s p)).2.1 = 0 then some (0, (numberS s (skipP s p)).2.2, out ++ [⟨x.f0, 4, x.f2, x.f3, (numberS s (skipP s p)).1⟩]) else some ((numberS s (skipP s p)).2.1, (numberS s (skipP s p)).2.2, out))
   else some (wordF s (skipP s p) out x)) else none
def membersF : Nat → ByteArray → Nat → List S40 → S40 → Nat → Option Res
 | 0, _, _, _, _, _ => none
 | k + 1, s, p, out, x, e => if (takesP s p e).1 = true then some (0, (takesP s p e).2, out) else membersL k s (takesP s p e).2 out x e []
def membersL : Nat → ByteArray → Nat → List S40 → S40 → Nat → List ByteArray → Option Res
 | 0, _, _, _, _, _, _ => none
 | k + 1, s, p, out, x, e, keys => if 0 ≤ x.f0 ∧ x.f0 < 64 then
  (if x.f1 = 7 then (if (keys.length + 1) * 16 ≤ 140737488355328 then (keyF k s p keys).bind fun r => if r.2.2 ≤ s.size then (if r.2.1 = 0 then afterKey (fun p o y => valueF k s p o y) (fun p o ks => membersL k s p o x e ks) s x e r.2.2 out (keys ++ [r.1]) r.1 else some (r.2.1, r.2.2, out)) else none else none)
  else afterKey (fun p o y => valueF k s p o y) (fun p o ks => membersL k s p o x e ks) s x e p out keys ⟨#[]⟩) else none
end
theorem out_flat {w0 W : World} {v : Value} {out : List S40} {ok ok' : Nat → Prop} (h : Kd.R k40 40 W w0.heap.size ok v out) (hok : ∀ k, v.ownBlock = some k → ok k → ok' k) : Kd.R k40 40 W w0.heap.size ok' v out := Kd.R_flat (fun h => h) h hok
theorem keys_flat {w0 W : World} {v : Value} {keys : List ByteArray} {ok ok' : Nat → Prop} (h : Kd.R Kd.string 9 W w0.heap.size ok v keys) (hok : ∀ k, v.ownBlock = some k → ok k → ok' k) : Kd.R Kd.string 9 W w0.heap.size ok' v keys := Kd.R_flat (fun h => h) h hok
structure MS (w0 W : World) (g b : Nat) (s : ByteArray) (x : S40) (v0 kv v : Value) (p : Nat) (out : List S40) (keys : List ByteArray) (w : World) : Prop where
 rd : Rd w g s p v
 out : Out w0 w g v out
 keys : Kd.R Kd.string 9 w w0.heap.size (fun j => j ≠ g) kv keys
 dis : ∀ j, v.ownBlock = some j → kv.ownBlock ≠ some j ∧ j ≠ b
 kb : kv.ownBlock ≠ some b
 kn : ∀ j, kv.ownBlock = some j → W.heap.size ≤ j
 itm : Itm w b x
 bg : b ≠ g
 keep : KeepBut W w g v0.ownBlock
 own : v.ownBlock = v0.ownBlock ∨ ∃ j, v.ownBlock = some j ∧ W.heap.size ≤ j
 below : Below w0.heap.size w0 w
 base : w0.heap.size ≤ g
theorem out_lt {w0 W : World} {ok : Nat → Prop} {v : Value} {out : List S40} (h : Kd.R k40 40 W w0.heap.size ok v out) {j : Nat} (e : v.ownBlock = some j) : j < W.heap.size := ((Kd.R_bound h).1 j e).2.2.1
theorem keys_lt {w0 W : World} {ok : Nat → Prop} {v : Value} {keys : List ByteArray} (h : Kd.R Kd.string 9 W w0.heap.size ok v keys) {j : Nat} (e : v.ownBlock = some j) : j < W.heap.size := ((Kd.R_bound h).1 j e).2.2.1
section
variable {w0 W : World} {g b : Nat} {s : ByteArray} {x : S40} {v0 kv v : Value} {p : Nat} {out : List S40} {keys : List ByteArray} {w : World}
theorem MS.quiet (h : MS w0 W g b s x v0 kv v p out keys w) {w2 : World} {p2 : Nat} (hR : Rd w2 g s p2 v) (hB : Below w0.heap.size w0 w2) (hK : KeepBut w w2 g none) : MS w0 W g b s x v0 kv v p2 out keys w2 where
 rd := hR
 out := Kd.R_keep h.out hK (fun _ h => h)
 keys := Kd.R_keep h.keys hK (fun _ h => h)
 dis := h.dis
 kb := h.kb
 kn := h.kn
 itm := (hK.2 b (blk_lt h.itm) h.bg (by simp)).trans h.itm
 bg := h.bg
 keep := h.keep.trans (keep_wide hK) (.inl rfl)
 own := h.own
 below := hB
 base := h.base
theorem MS.value (h : MS w0 W g b s x v0 kv v p out keys w) {w4 : World} {q : Nat} {out2 : List S40} (hL : Left w0 w w4 g s q v out2) : ∃ v4, MS w0 W g b s x v0 kv v4 q out2 keys w4 := by
 obtain ⟨⟨v4, hR, hO, hA⟩, hB, hK⟩ := hL
 have hvb : some b ≠ v.ownBlock := fun e => (h.dis b e.symm).2 rfl
 refine ⟨v4, hR, hO, ?_, ?_, h.kb, h.kn, (hK.2 b (blk_lt h.itm) h.bg hvb).trans h.itm, h.bg, h.keep.trans hK h.own, ?_, hB, h.base⟩
 ·refine keys_flat (Kd.R_step (keys_flat h.keys (ok' := fun j => j ≠ g ∧ some j ≠ v.ownBlock) (fun j hj hg => ⟨hg, fun e => (h.dis j e.symm).1 hj⟩)) (fun j hj hlt => hK.2 j hlt hj.1 hj.2)) (fun _ _ h => h.1)
 ·intro j hj
  rcases hA with e | ⟨k, e, hk⟩
  ·exact h.dis j (e ▸ hj)
  ·have : k = j := Option.some.inj (e.symm.trans hj)
   subst this
   refine ⟨fun e2 => ?_, fun e2 => ?_⟩
   ·have := keys_lt h.keys e2; omega
   ·have := blk_lt h.itm; omega
 ·rcases hA with e | ⟨k, e, hk⟩
  ·rw [e]; exact h.own
  ·exact .inr ⟨k, e, Nat.le_trans h.keep.1 hk⟩
theorem MS.append (h : MS w0 W g b s x v0 kv v p out keys w) {w3 : World} {kv1 : Value} {keys1 : List ByteArray} (hO : Kd.R Kd.string 9 w3 w0.heap.size (fun j => j ≠ g) kv1 keys1) (hB : Below w0.heap.size w0 w3) (hg : w.grownBy w3 kv.ownBlock)
  (hA : kv1.ownBlock = kv.ownBlock ∨ ∃ j, kv1.ownBlock = some j ∧ w.heap.size ≤ j) : MS w0 W g b s x v0 kv1 v p out keys1 w3 := by
 have hgk : some g ≠ kv.ownBlock := fun e => h.keys.1 g e.symm rfl
 have hbk : some b ≠ kv.ownBlock := fun e => h.kb e.symm
 refine ⟨blk_grown h.rd hg hgk, ?_, hO, ?_, ?_, ?_, blk_grown h.itm hg hbk, h.bg, ?_, h.own, hB, h.base⟩
 ·exact out_flat (Kd.R_grown (out_flat h.out (ok' := fun j => j ≠ g ∧ some j ≠ kv.ownBlock) (fun j hj hg => ⟨hg, fun e => (h.dis j hj).1 e.symm⟩)) hg (fun _ h => h.2)) (fun _ _ h => h.1)
 ·intro j hj
  refine ⟨fun e => ?_, (h.dis j hj).2⟩
  rcases hA with e2 | ⟨k, e2, hk⟩
  ·exact (h.dis j hj).1 (e2 ▸ e)
  ·have : k = j := Option.some.inj (e2.symm.trans e)
   have := out_lt h.out hj
   omega
 ·intro e
  rcases hA with e2 | ⟨k, e2, hk⟩
  ·exact h.kb (e2 ▸ e)
  ·have : k = b := Option.some.inj (e2.symm.trans e)
   have := blk_lt h.itm
   omega
 ·intro j e
  rcases hA with e2 | ⟨k, e2, hk⟩
  ·exact h.kn j (e2 ▸ e)
  ·have : k = j := Option.some.inj (e2.symm.trans e)
   have := h.keep.1
   omega
 ·cases hk : kv.ownBlock with
  | none => rw [hk] at hg; exact h.keep.trans (keep_wide (KeepBut.of_grown hg g)) (.inl rfl)
  | some j => rw [hk] at hg; exact h.keep.trans (KeepBut.of_grown hg g) (.inr ⟨j, rfl, h.kn j hk⟩)
theorem MS.left (h : MS w0 W g b s x v0 kv v p out keys w) : Left w0 W w g s p v0 out := ⟨⟨v, h.rd, h.out, h.own⟩, h.below, h.keep⟩
theorem MS.start (W1 : World) (hR : Rd W g s p v) (hO : Out w0 W g v out) (hB : Below w0.heap.size w0 W) (hg : w0.heap.size ≤ g) (hb : W.heap.size = b) (h1 : W1 = W.alloc (.cells #[.int .i64 x.f0, .int .i64 x.f1, .string x.f2, .string x.f3, .int .i64 x.f4] 40)) : MS w0 W g b s x v (.slice none 0 0) v p out [] W1 := by
 subst h1
 have hA : Below W.heap.size W (W.alloc (.cells #[.int .i64 x.f0, .int .i64 x.f1, .string x.f2, .string x.f3, .int .i64 x.f4] 40)) := below_alloc (Below.refl _ _) _
 have hgl := blk_lt hR
 refine ⟨rd_below hR hA, Kd.R_below hO hA, Kd.R_nil _ _ _ _ _, ?_, by simp [Value.ownBlock], by simp [Value.ownBlock], by rw [← hb]; exact heap_alloc_new _ _, by omega, keep_wide (KeepBut.of_below hA g none), .inl rfl, below_step hB hA, hg⟩
 intro j hj
 have := out_lt hO hj
 exact ⟨by simp [Value.ownBlock], by omega⟩
end
def VC (w0 : World) (g : Nat) (s : ByteArray) (k : Nat) : Prop := ∀ (W : World) (p : Nat) (v : Value) (out : List S40) (y : S40) (r : Res), valueF k s p out y = some r → Rd W g s p v → Out w0 W g v out → Below w0.heap.size w0 W → p ≤ s.size →
 Calls Tryz.prog 22 #[.pointer (some ⟨g, 0, none⟩), itemV y] W fun e W' => e = .returned (.int .i64 r.1) ∧ Left w0 W W' g s r.2.1 v r.2.2
theorem after_cases {V : Nat → List S40 → S40 → Option Res} {L : Nat → List S40 → List ByteArray → Option Res} {s : ByteArray} {x : S40} {e p : Nat} {out : List S40} {keys : List ByteArray} {key : ByteArray} {r : Res} (h : afterKey V L s x e p out keys key = some r) :
  ∃ r1 : Res, V p out ⟨x.f0 + 1, 0, key, ⟨#[]⟩, 0⟩ = some r1 ∧ r1.2.1 ≤ s.size ∧ ((r1.1 ≠ 0 ∧ r = r1) ∨ (r1.1 = 0 ∧ (takesP s r1.2.1 e).1 = true ∧ r = (0, (takesP s r1.2.1 e).2, r1.2.2))
   ∨ (r1.1 = 0 ∧ (takesP s r1.2.1 e).1 = false ∧ (takesP s (takesP s r1.2.1 e).2 44).1 = true ∧ L (takesP s (takesP s r1.2.1 e).2 44).2 r1.2.2 keys = some r)
   ∨ (r1.1 = 0 ∧ (takesP s r1.2.1 e).1 = false ∧ (takesP s (takesP s r1.2.1 e).2 44).1 = false ∧ r = (80, (takesP s (takesP s r1.2.1 e).2 44).2, r1.2.2))) := by
 unfold afterKey at h
 obtain ⟨r1, hV, h⟩ := Option.bind_eq_some_iff.1 h
 refine ⟨r1, hV, ?_⟩
 by_cases a : r1.2.1 ≤ s.size
 ·rw [if_pos a] at h
  refine ⟨a, ?_⟩
  by_cases c : r1.1 = 0
  ·rw [if_pos c] at h
   by_cases d : (takesP s r1.2.1 e).1 = true
   ·rw [if_pos d] at h
    exact .inr (.inl ⟨c, d, (Option.some.inj h).symm⟩)
   ·rw [if_neg d] at h
    by_cases f : (takesP s (takesP s r1.2.1 e).2 44).1 = true
    ·rw [if_pos f] at h
     exact .inr (.inr (.inl ⟨c, Bool.eq_false_iff.2 d, f, h⟩))
    ·rw [if_neg f] at h
     exact .inr (.inr (.inr ⟨c, Bool.eq_false_iff.2 d, Bool.eq_false_iff.2 f, (Option.some.inj h).symm⟩))
  ·rw [if_neg c] at h
   exact .inl ⟨c, (Option.some.inj h).symm⟩
 ·rw [if_neg a] at h; cases h
set_option maxHeartbeats 16000000 in
set_option maxRecDepth 100000 in
theorem members_loop (w0 W : World) (g : Nat) (s : ByteArray) (p : Nat) (v : Value) (out : List S40) (x : S40) (e k : Nat) (r : Res) (hR : Rd W g s p v) (hO : Out w0 W g v out) (hB : Below w0.heap.size w0 W) (hg : w0.heap.size ≤ g) (hp : p ≤ s.size) (hs : s.size ≤ 4611686018427387904) (hj : JTabs w0)
  (hIH : ∀ j, j < k → VC w0 g s j) (ht : (takesP s p e).1 = false) (h : membersL k s (takesP s p e).2 out x e [] = some r) :
  Calls Tryz.prog 40 #[.pointer (some ⟨g, 0, none⟩), itemV x, .int .u8 (e : Int)] W fun ev W' => ev = .returned (.int .i64 r.1) ∧ Left w0 W W' g s r.2.1 v r.2.2 := by
 have HR := Aside0.mk hR
 have HO := Aside0.mk hO
 have HB := Aside0.mk hB
 have HG := Aside0.mk hg
 have HS := Aside0.mk hs
 have JT := Aside0.mk hj
 have IH := Aside0.mk hIH
 have HL := Aside0.mk h
 have HPs := Aside0.mk hp
 have HPt := Aside0.mk (takes_le s p e hp)
 clear hR hB hg hs hO hj hIH h hp
 unfold itemV
 go_enter Tryz.func40, Tryz.ntmps40
 go_wp2_with fail
 obtain ⟨b, hb⟩ : ∃ b, W.heap.size = b := ⟨_, rfl⟩
 have HM := Aside0.mk (MS.start (x := x) (W.alloc (.cells #[.int .i64 x.f0, .int .i64 x.f1, .string x.f2, .string x.f3, .int .i64 x.f4] 40)) HR.out HO.out HB.out HG.out hb rfl)
 rw [hb]
 generalize W.alloc (.cells #[.int .i64 x.f0, .int .i64 x.f1, .string x.f2, .string x.f3, .int .i64 x.f4] 40) = W1 at HM ⊢
 clear hb HR HO HB
 go_wp2_with (go_at_call 60; refine (takes_calls w0 W1 g s p v e HM.out.rd HM.out.below HG.out HPs.out HS.out).mono ?_; rintro ev w1 ⟨rfl, hR1, hB1, hK1⟩; have HM1 := Aside0.mk (HM.out.quiet hR1 hB1 hK1); clear hR1 hB1 hK1)
 go_loopg [7] k (fun kq v7 wr => ∃ (p : Nat) (out : List S40) (keys : List ByteArray) (vq : Value), Aside0 (membersL kq s p out x e keys = some r) ∧ Aside0 (kq ≤ k) ∧ Aside0 (p ≤ s.size) ∧ Aside0 (MS w0 W g b s x v v7 vq p out keys wr))
 case atStart => exact ⟨_, out, [], v, HL, ⟨Nat.le_refl _⟩, HPt, HM1⟩
 case round =>
  clear HPs HPt HL HM HM1
  obtain ⟨p, out, keys, vq, HL, HKK, HP, HM⟩ := hrel
  cases gk with
  | zero => exact absurd HL.out (by simp [membersL])
  | succ k1 =>
   have H := HL.out
   rw [membersL] at H
   by_cases hx : 0 ≤ x.f0 ∧ x.f0 < 64
   ·rw [if_pos hx] at H
    obtain ⟨hx0, hx1⟩ := hx
    have hm0 : wr.cell? ⟨b, 0, none⟩ = some (.int .i64 x.f0) := (blk_cell HM.out.itm 0).trans rfl
    have hm1 : wr.cell? ⟨b, 1, none⟩ = some (.int .i64 x.f1) := (blk_cell HM.out.itm 1).trans rfl
    by_cases h7 : x.f1 = 7
    ·rw [if_pos h7] at H
     have d7 : (x.f1 == 7) = true := beq_iff_eq.mpr h7
     clear h7
     by_cases hlk : (keys.length + 1) * 16 ≤ 140737488355328
     ·rw [if_pos hlk] at H
      have HLK := Aside0.mk hlk
      clear hlk
      obtain ⟨⟨t, erk, q⟩, hK, H⟩ := Option.bind_eq_some_iff.1 H
      have FK := Aside0.mk hK
      clear hK
      simp only at H
      obtain ⟨A, c, rfl⟩ := Kd.R_slice HM.out.keys
      by_cases hqs : q ≤ s.size
      ·rw [if_pos hqs] at H
       have HPk := Aside0.mk hqs
       clear hqs
       by_cases hek : erk = 0
       ·rw [if_pos hek] at H
        subst hek
        obtain ⟨⟨er1, q1, out1⟩, hV, hq1, hcase⟩ := after_cases H
        have FV := Aside0.mk hV
        have HPq := Aside0.mk hq1
        clear H hV hq1
        simp only at hcase
        rcases hcase with ⟨hc, hr⟩ | ⟨rfl, ht1, hr⟩ | ⟨rfl, ht1, ht2, hr⟩ | ⟨rfl, ht1, ht2, hr⟩
        ·have n1 : (er1 == 0) = false := beq_eq_false_iff_ne.mpr hc
         have n2 : (er1 != 0) = true := bne_iff_ne.mpr hc
         have HRR := Aside0.mk hr
         clear hc hr
         go_wp2_with (first
              | (go_at_call 61; with_reducible refine (key_calls w0 wr g s p vq k1 keys t _ q A c FK.out HM.out.rd HM.out.below HG.out HP.out HS.out JT.out HM.out.keys).mono ?_; rintro ev w2 ⟨rfl, hR2, hB2, hK2⟩; have HM2 := Aside0.mk (HM.out.quiet hR2 hB2 hK2); clear hR2 hB2 hK2; have hm02 : w2.cell? ⟨b, 0, none⟩ = some (.int .i64 x.f0) := (blk_cell HM2.out.itm 0).trans rfl)
              | (at_builtin; refine Kd.R_append Kd.string (w0 := w0) (W := w2) w0.heap.size rfl (.tmp 28) (.tmp 30) 69 9 (.string ⟨#[]⟩) 16 rfl Tryz.underlying69 info9 rfl (by decide) (by decide) (.slice A keys.length c) keys t [.string t] (fun j => j ≠ g) (fun _ => False) rfl rfl rfl (fun _ h => h.elim) (fun k hk => by have := blk_lt HM2.out.rd; omega) HM2.out.keys HM2.out.below HM2.out.below.size HLK.out ?_; intro v1 w3 hO3 hB3 hg3 hA3; obtain ⟨A1, c1, hv1⟩ := Kd.R_slice hO3; obtain ⟨N1, hN1⟩ : ∃ N1, (keys ++ [t]).length = N1 := ⟨_, rfl⟩; rw [hN1] at hv1; clear hN1; subst hv1; have HM3 := Aside0.mk (HM2.out.append hO3 hB3 hg3 hA3); clear hO3 hB3 hg3 hA3; have hm03 : w3.cell? ⟨b, 0, none⟩ = some (.int .i64 x.f0) := (blk_cell HM3.out.itm 0).trans rfl)
              | (go_at_call 22; refine (IH.out k1 (by have := HKK.out; omega) w3 q vq out ⟨x.f0 + 1, 0, t, ⟨#[]⟩, 0⟩ _ FV.out HM3.out.rd HM3.out.out HM3.out.below HPk.out).mono ?_; rintro ev w4 ⟨rfl, hL4⟩; obtain ⟨v4, hM4⟩ := HM3.out.value hL4; have HM4 := Aside0.mk hM4; clear hL4 hM4))
         go_ret
         rw [HRR.out]
         exact ⟨rfl, HM4.out.left⟩
        ·have HRR := Aside0.mk hr
         clear hr
         go_wp2_with (first
              | (go_at_call 61; with_reducible refine (key_calls w0 wr g s p vq k1 keys t _ q A c FK.out HM.out.rd HM.out.below HG.out HP.out HS.out JT.out HM.out.keys).mono ?_; rintro ev w2 ⟨rfl, hR2, hB2, hK2⟩; have HM2 := Aside0.mk (HM.out.quiet hR2 hB2 hK2); clear hR2 hB2 hK2; have hm02 : w2.cell? ⟨b, 0, none⟩ = some (.int .i64 x.f0) := (blk_cell HM2.out.itm 0).trans rfl)
              | (at_builtin; refine Kd.R_append Kd.string (w0 := w0) (W := w2) w0.heap.size rfl (.tmp 28) (.tmp 30) 69 9 (.string ⟨#[]⟩) 16 rfl Tryz.underlying69 info9 rfl (by decide) (by decide) (.slice A keys.length c) keys t [.string t] (fun j => j ≠ g) (fun _ => False) rfl rfl rfl (fun _ h => h.elim) (fun k hk => by have := blk_lt HM2.out.rd; omega) HM2.out.keys HM2.out.below HM2.out.below.size HLK.out ?_; intro v1 w3 hO3 hB3 hg3 hA3; obtain ⟨A1, c1, hv1⟩ := Kd.R_slice hO3; obtain ⟨N1, hN1⟩ : ∃ N1, (keys ++ [t]).length = N1 := ⟨_, rfl⟩; rw [hN1] at hv1; clear hN1; subst hv1; have HM3 := Aside0.mk (HM2.out.append hO3 hB3 hg3 hA3); clear hO3 hB3 hg3 hA3; have hm03 : w3.cell? ⟨b, 0, none⟩ = some (.int .i64 x.f0) := (blk_cell HM3.out.itm 0).trans rfl)
              | (go_at_call 22; refine (IH.out k1 (by have := HKK.out; omega) w3 q vq out ⟨x.f0 + 1, 0, t, ⟨#[]⟩, 0⟩ _ FV.out HM3.out.rd HM3.out.out HM3.out.below HPk.out).mono ?_; rintro ev w4 ⟨rfl, hL4⟩; obtain ⟨v4, hM4⟩ := HM3.out.value hL4; have HM4 := Aside0.mk hM4; clear hL4 hM4)
              | (go_at_call 60; with_reducible refine (takes_calls w0 w4 g s q1 v4 e HM4.out.rd HM4.out.below HG.out HPq.out HS.out).mono ?_; rintro ev w5 ⟨rfl, hR5, hB5, hK5⟩; have HM5 := Aside0.mk (HM4.out.quiet hR5 hB5 hK5); clear hR5 hB5 hK5))
         go_ret
         rw [HRR.out]
         exact ⟨rfl, HM5.out.left⟩
        ·have HRR := Aside0.mk hr
         clear hr
         go_wp2_with (first
              | (go_at_call 61; with_reducible refine (key_calls w0 wr g s p vq k1 keys t _ q A c FK.out HM.out.rd HM.out.below HG.out HP.out HS.out JT.out HM.out.keys).mono ?_; rintro ev w2 ⟨rfl, hR2, hB2, hK2⟩; have HM2 := Aside0.mk (HM.out.quiet hR2 hB2 hK2); clear hR2 hB2 hK2; have hm02 : w2.cell? ⟨b, 0, none⟩ = some (.int .i64 x.f0) := (blk_cell HM2.out.itm 0).trans rfl)
              | (at_builtin; refine Kd.R_append Kd.string (w0 := w0) (W := w2) w0.heap.size rfl (.tmp 28) (.tmp 30) 69 9 (.string ⟨#[]⟩) 16 rfl Tryz.underlying69 info9 rfl (by decide) (by decide) (.slice A keys.length c) keys t [.string t] (fun j => j ≠ g) (fun _ => False) rfl rfl rfl (fun _ h => h.elim) (fun k hk => by have := blk_lt HM2.out.rd; omega) HM2.out.keys HM2.out.below HM2.out.below.size HLK.out ?_; intro v1 w3 hO3 hB3 hg3 hA3; obtain ⟨A1, c1, hv1⟩ := Kd.R_slice hO3; obtain ⟨N1, hN1⟩ : ∃ N1, (keys ++ [t]).length = N1 := ⟨_, rfl⟩; rw [hN1] at hv1; clear hN1; subst hv1; have HM3 := Aside0.mk (HM2.out.append hO3 hB3 hg3 hA3); clear hO3 hB3 hg3 hA3; have hm03 : w3.cell? ⟨b, 0, none⟩ = some (.int .i64 x.f0) := (blk_cell HM3.out.itm 0).trans rfl)
              | (go_at_call 22; refine (IH.out k1 (by have := HKK.out; omega) w3 q vq out ⟨x.f0 + 1, 0, t, ⟨#[]⟩, 0⟩ _ FV.out HM3.out.rd HM3.out.out HM3.out.below HPk.out).mono ?_; rintro ev w4 ⟨rfl, hL4⟩; obtain ⟨v4, hM4⟩ := HM3.out.value hL4; have HM4 := Aside0.mk hM4; clear hL4 hM4)
              | (go_at_call 60; with_reducible refine (takes_calls w0 w4 g s q1 v4 e HM4.out.rd HM4.out.below HG.out HPq.out HS.out).mono ?_; rintro ev w5 ⟨rfl, hR5, hB5, hK5⟩; have HM5 := Aside0.mk (HM4.out.quiet hR5 hB5 hK5); clear hR5 hB5 hK5)
              | (go_at_call 60; refine (takes_calls w0 w5 g s (takesP s q1 e).2 v4 44 HM5.out.rd HM5.out.below HG.out (takes_le s q1 e HPq.out) HS.out).mono ?_; rintro ev w6 ⟨rfl, hR6, hB6, hK6⟩; have HM6 := Aside0.mk (HM5.out.quiet hR6 hB6 hK6); clear hR6 hB6 hK6))
         go_roundg k1
         case measure => omega
         case rel => exact ⟨_, out1, (keys ++ [t]), v4, HRR, ⟨by have := HKK.out; omega⟩, ⟨takes_le s _ 44 (takes_le s q1 e HPq.out)⟩, HM6⟩
        ·have HRR := Aside0.mk hr
         clear hr
         go_wp2_with (first
              | (go_at_call 61; with_reducible refine (key_calls w0 wr g s p vq k1 keys t _ q A c FK.out HM.out.rd HM.out.below HG.out HP.out HS.out JT.out HM.out.keys).mono ?_; rintro ev w2 ⟨rfl, hR2, hB2, hK2⟩; have HM2 := Aside0.mk (HM.out.quiet hR2 hB2 hK2); clear hR2 hB2 hK2; have hm02 : w2.cell? ⟨b, 0, none⟩ = some (.int .i64 x.f0) := (blk_cell HM2.out.itm 0).trans rfl)
              | (at_builtin; refine Kd.R_append Kd.string (w0 := w0) (W := w2) w0.heap.size rfl (.tmp 28) (.tmp 30) 69 9 (.string ⟨#[]⟩) 16 rfl Tryz.underlying69 info9 rfl (by decide) (by decide) (.slice A keys.length c) keys t [.string t] (fun j => j ≠ g) (fun _ => False) rfl rfl rfl (fun _ h => h.elim) (fun k hk => by have := blk_lt HM2.out.rd; omega) HM2.out.keys HM2.out.below HM2.out.below.size HLK.out ?_; intro v1 w3 hO3 hB3 hg3 hA3; obtain ⟨A1, c1, hv1⟩ := Kd.R_slice hO3; obtain ⟨N1, hN1⟩ : ∃ N1, (keys ++ [t]).length = N1 := ⟨_, rfl⟩; rw [hN1] at hv1; clear hN1; subst hv1; have HM3 := Aside0.mk (HM2.out.append hO3 hB3 hg3 hA3); clear hO3 hB3 hg3 hA3; have hm03 : w3.cell? ⟨b, 0, none⟩ = some (.int .i64 x.f0) := (blk_cell HM3.out.itm 0).trans rfl)
              | (go_at_call 22; refine (IH.out k1 (by have := HKK.out; omega) w3 q vq out ⟨x.f0 + 1, 0, t, ⟨#[]⟩, 0⟩ _ FV.out HM3.out.rd HM3.out.out HM3.out.below HPk.out).mono ?_; rintro ev w4 ⟨rfl, hL4⟩; obtain ⟨v4, hM4⟩ := HM3.out.value hL4; have HM4 := Aside0.mk hM4; clear hL4 hM4)
              | (go_at_call 60; with_reducible refine (takes_calls w0 w4 g s q1 v4 e HM4.out.rd HM4.out.below HG.out HPq.out HS.out).mono ?_; rintro ev w5 ⟨rfl, hR5, hB5, hK5⟩; have HM5 := Aside0.mk (HM4.out.quiet hR5 hB5 hK5); clear hR5 hB5 hK5)
              | (go_at_call 60; refine (takes_calls w0 w5 g s (takesP s q1 e).2 v4 44 HM5.out.rd HM5.out.below HG.out (takes_le s q1 e HPq.out) HS.out).mono ?_; rintro ev w6 ⟨rfl, hR6, hB6, hK6⟩; have HM6 := Aside0.mk (HM5.out.quiet hR6 hB6 hK6); clear hR6 hB6 hK6))
         go_ret
         rw [HRR.out]
         exact ⟨rfl, HM6.out.left⟩
       ·rw [if_neg hek] at H
        have n1 : (erk == 0) = false := beq_eq_false_iff_ne.mpr hek
        have n2 : (erk != 0) = true := bne_iff_ne.mpr hek
        have HRR := Aside0.mk (Option.some.inj H)
        clear H hek
        go_wp2_with (go_at_call 61; with_reducible refine (key_calls w0 wr g s p vq k1 keys t _ q A c FK.out HM.out.rd HM.out.below HG.out HP.out HS.out JT.out HM.out.keys).mono ?_; rintro ev w2 ⟨rfl, hR2, hB2, hK2⟩; have HM2 := Aside0.mk (HM.out.quiet hR2 hB2 hK2); clear hR2 hB2 hK2; have hm02 : w2.cell? ⟨b, 0, none⟩ = some (.int .i64 x.f0) := (blk_cell HM2.out.itm 0).trans rfl)
        go_ret
        rw [← HRR.out]
        exact ⟨rfl, HM2.out.left⟩
      ·rw [if_neg hqs] at H; cases H
     ·rw [if_neg hlk] at H; cases H
    ·rw [if_neg h7] at H
     have d7 : (x.f1 == 7) = false := beq_eq_false_iff_ne.mpr h7
     obtain ⟨⟨er1, q1, out1⟩, hV, hq1, hcase⟩ := after_cases H
     have FV := Aside0.mk hV
     have HPq := Aside0.mk hq1
     clear H hV hq1
     simp only at hcase
     rcases hcase with ⟨hc, hr⟩ | ⟨rfl, ht1, hr⟩ | ⟨rfl, ht1, ht2, hr⟩ | ⟨rfl, ht1, ht2, hr⟩
     ·have n1 : (er1 == 0) = false := beq_eq_false_iff_ne.mpr hc
      have n2 : (er1 != 0) = true := bne_iff_ne.mpr hc
      have HRR := Aside0.mk hr
      clear hc hr
      go_wp2_with (first
           | (go_at_call 22; refine (IH.out k1 (by have := HKK.out; omega) wr p vq out ⟨x.f0 + 1, 0, ⟨#[]⟩, ⟨#[]⟩, 0⟩ _ FV.out HM.out.rd HM.out.out HM.out.below HP.out).mono ?_; rintro ev w4 ⟨rfl, hL4⟩; obtain ⟨v4, hM4⟩ := HM.out.value hL4; have HM4 := Aside0.mk hM4; clear hL4 hM4))
      go_ret
      rw [HRR.out]
      exact ⟨rfl, HM4.out.left⟩
     ·have HRR := Aside0.mk hr
      clear hr
      go_wp2_with (first
           | (go_at_call 22; refine (IH.out k1 (by have := HKK.out; omega) wr p vq out ⟨x.f0 + 1, 0, ⟨#[]⟩, ⟨#[]⟩, 0⟩ _ FV.out HM.out.rd HM.out.out HM.out.below HP.out).mono ?_; rintro ev w4 ⟨rfl, hL4⟩; obtain ⟨v4, hM4⟩ := HM.out.value hL4; have HM4 := Aside0.mk hM4; clear hL4 hM4)
           | (go_at_call 60; with_reducible refine (takes_calls w0 w4 g s q1 v4 e HM4.out.rd HM4.out.below HG.out HPq.out HS.out).mono ?_; rintro ev w5 ⟨rfl, hR5, hB5, hK5⟩; have HM5 := Aside0.mk (HM4.out.quiet hR5 hB5 hK5); clear hR5 hB5 hK5))
      go_ret
      rw [HRR.out]
      exact ⟨rfl, HM5.out.left⟩
     ·have HRR := Aside0.mk hr
      clear hr
      go_wp2_with (first
           | (go_at_call 22; refine (IH.out k1 (by have := HKK.out; omega) wr p vq out ⟨x.f0 + 1, 0, ⟨#[]⟩, ⟨#[]⟩, 0⟩ _ FV.out HM.out.rd HM.out.out HM.out.below HP.out).mono ?_; rintro ev w4 ⟨rfl, hL4⟩; obtain ⟨v4, hM4⟩ := HM.out.value hL4; have HM4 := Aside0.mk hM4; clear hL4 hM4)
           | (go_at_call 60; with_reducible refine (takes_calls w0 w4 g s q1 v4 e HM4.out.rd HM4.out.below HG.out HPq.out HS.out).mono ?_; rintro ev w5 ⟨rfl, hR5, hB5, hK5⟩; have HM5 := Aside0.mk (HM4.out.quiet hR5 hB5 hK5); clear hR5 hB5 hK5)
           | (go_at_call 60; refine (takes_calls w0 w5 g s (takesP s q1 e).2 v4 44 HM5.out.rd HM5.out.below HG.out (takes_le s q1 e HPq.out) HS.out).mono ?_; rintro ev w6 ⟨rfl, hR6, hB6, hK6⟩; have HM6 := Aside0.mk (HM5.out.quiet hR6 hB6 hK6); clear hR6 hB6 hK6))
      go_roundg k1
      case measure => omega
      case rel => exact ⟨_, out1, keys, v4, HRR, ⟨by have := HKK.out; omega⟩, ⟨takes_le s _ 44 (takes_le s q1 e HPq.out)⟩, HM6⟩
     ·have HRR := Aside0.mk hr
      clear hr
      go_wp2_with (first
           | (go_at_call 22; refine (IH.out k1 (by have := HKK.out; omega) wr p vq out ⟨x.f0 + 1, 0, ⟨#[]⟩, ⟨#[]⟩, 0⟩ _ FV.out HM.out.rd HM.out.out HM.out.below HP.out).mono ?_; rintro ev w4 ⟨rfl, hL4⟩; obtain ⟨v4, hM4⟩ := HM.out.value hL4; have HM4 := Aside0.mk hM4; clear hL4 hM4)
           | (go_at_call 60; with_reducible refine (takes_calls w0 w4 g s q1 v4 e HM4.out.rd HM4.out.below HG.out HPq.out HS.out).mono ?_; rintro ev w5 ⟨rfl, hR5, hB5, hK5⟩; have HM5 := Aside0.mk (HM4.out.quiet hR5 hB5 hK5); clear hR5 hB5 hK5)
           | (go_at_call 60; refine (takes_calls w0 w5 g s (takesP s q1 e).2 v4 44 HM5.out.rd HM5.out.below HG.out (takes_le s q1 e HPq.out) HS.out).mono ?_; rintro ev w6 ⟨rfl, hR6, hB6, hK6⟩; have HM6 := Aside0.mk (HM5.out.quiet hR6 hB6 hK6); clear hR6 hB6 hK6))
      go_ret
      rw [HRR.out]
      exact ⟨rfl, HM6.out.left⟩
   ·rw [if_neg hx] at H; cases H
end Go.Proofs.YthhmmaihbjhhgaaGreatDoor.Giv
namespace Go.Proofs.YthhmmaihbjhhgaaGreatDoor.Giv
open Go.RowKit Go.Proofs.YthhmmaihbjhhgaaGreatDoorW.PrintWords Go.Proofs.YthhmmaihbjhhgaaGreatDoorW.PrintLast Go.Proofs.YthhmmaihbjhhgaaGreatDoorW.PrintMore
open Go.Proofs.YthhmmaihbjhhgaaGreatDoor.U1 Go.Proofs.YthhmmaihbjhhgaaGreatDoor.Q1 Go.Proofs.YthhmmaihbjhhgaaGreatDoor.J0 Go.Proofs.YthhmmaihbjhhgaaGreatDoor.J1
set_option maxHeartbeats 8000000 in
set_option maxRecDepth 100000 in
theorem members_shut (w0 W : World) (g : Nat) (s : ByteArray) (p : Nat) (v : Value) (out : List S40) (x : S40) (e : Nat) (hR : Rd W g s p v) (hO : Out w0 W g v out) (hB : Below w0.heap.size w0 W) (hg : w0.heap.size ≤ g) (hp : p ≤ s.size) (hs : s.size ≤ 4611686018427387904)
  (ht : (takesP s p e).1 = true) :
  Calls Tryz.prog 40 #[.pointer (some ⟨g, 0, none⟩), itemV x, .int .u8 (e : Int)] W fun ev W' => ev = .returned (.int .i64 0) ∧ Left w0 W W' g s (takesP s p e).2 v out := by
 have HR := Aside0.mk hR
 have HO := Aside0.mk hO
 have HB := Aside0.mk hB
 have HG := Aside0.mk hg
 have HS := Aside0.mk hs
 have HPs := Aside0.mk hp
 clear hR hB hg hs hO hp
 unfold itemV
 go_enter Tryz.func40, Tryz.ntmps40
 go_wp2_with fail
 obtain ⟨b, hb⟩ : ∃ b, W.heap.size = b := ⟨_, rfl⟩
 have HM := Aside0.mk (MS.start (x := x) (W.alloc (.cells #[.int .i64 x.f0, .int .i64 x.f1, .string x.f2, .string x.f3, .int .i64 x.f4] 40)) HR.out HO.out HB.out HG.out hb rfl)
 rw [hb]
 generalize W.alloc (.cells #[.int .i64 x.f0, .int .i64 x.f1, .string x.f2, .string x.f3, .int .i64 x.f4] 40) = W1 at HM ⊢
 clear hb HR HO HB
 go_wp2_with (go_at_call 60; refine (takes_calls w0 W1 g s p v e HM.out.rd HM.out.below HG.out HPs.out HS.out).mono ?_; rintro ev w1 ⟨rfl, hR1, hB1, hK1⟩; have HM1 := Aside0.mk (HM.out.quiet hR1 hB1 hK1); clear hR1 hB1 hK1)
 go_ret
 exact ⟨rfl, HM1.out.left⟩
theorem members_calls (w0 : World) (g : Nat) (s : ByteArray) (k : Nat) (hg : w0.heap.size ≤ g) (hs : s.size ≤ 4611686018427387904) (hj : JTabs w0) (hIH : ∀ j, j < k → VC w0 g s j)
  (W : World) (p : Nat) (v : Value) (out : List S40) (x : S40) (e : Nat) (r : Res) (h : membersF k s p out x e = some r) (hR : Rd W g s p v) (hO : Out w0 W g v out) (hB : Below w0.heap.size w0 W) (hp : p ≤ s.size) :
  Calls Tryz.prog 40 #[.pointer (some ⟨g, 0, none⟩), itemV x, .int .u8 (e : Int)] W fun ev W' => ev = .returned (.int .i64 r.1) ∧ Left w0 W W' g s r.2.1 v r.2.2 := by
 cases k with
 | zero => simp [membersF] at h
 | succ k =>
  rw [membersF] at h
  by_cases ht : (takesP s p e).1 = true
  ·rw [if_pos ht] at h
   cases h
   exact members_shut w0 W g s p v _ x e hR hO hB hg hp hs ht
  ·rw [if_neg ht] at h
   exact members_loop w0 W g s p v out x e k r hR hO hB hg hp hs hj (fun j hjk => hIH j (by omega)) (Bool.eq_false_iff.2 ht) h
theorem value_calls (w0 : World) (g : Nat) (s : ByteArray) (hg : w0.heap.size ≤ g) (hs : s.size ≤ 4611686018427387904) (hj : JTabs w0) : ∀ k, VC w0 g s k := by
 intro k
 induction k using Nat.strongRecOn with
 | _ k ih =>
  intro W p v out x r h hR hO hB hp
  cases k with
  | zero => simp [valueF] at h
  | succ k =>
   have hM := fun (W1 : World) (p1 : Nat) (v1 : Value) (o1 : List S40) (y : S40) (e : Nat) (r1 : Res) (h1 : membersF k s p1 o1 y e = some r1) (hR1 : Rd W1 g s p1 v1) (hO1 : Out w0 W1 g v1 o1) (hB1 : Below w0.heap.size w0 W1) (hp1 : p1 ≤ s.size) =>
    members_calls w0 g s k hg hs hj (fun j hjk => ih j (by omega)) W1 p1 v1 o1 y e r1 h1 hR1 hO1 hB1 hp1
   rw [valueF] at h
   by_cases h91 : nextC s p = 91
   ·rw [if_pos h91] at h
    by_cases hd : 64 ≤ x.f0
    ·rw [if_pos hd] at h
     cases h
     exact value_deep91 w0 W g s p v _ x hR hO hB hg hp hs hj h91 hd
    ·rw [if_neg hd] at h
     by_cases hl : (out.length + 1) * 56 ≤ 140737488355328 ∧ skipP s p < s.size
     ·rw [if_pos hl] at h
      exact value_open91 w0 W g s p v out x hR hO hB hg hp hs hj h91 (by omega) hl.1 hl.2 r.1 r.2.1 r.2.2 (fun W1 v1 a b c => hM W1 _ v1 _ _ 93 r h a b c (by omega))
     ·rw [if_neg hl] at h; cases h
   ·rw [if_neg h91] at h
    by_cases h123 : nextC s p = 123
    ·rw [if_pos h123] at h
     by_cases hd : 64 ≤ x.f0
     ·rw [if_pos hd] at h
      cases h
      exact value_deep123 w0 W g s p v _ x hR hO hB hg hp hs hj h123 hd
     ·rw [if_neg hd] at h
      by_cases hl : (out.length + 1) * 56 ≤ 140737488355328 ∧ skipP s p < s.size
      ·rw [if_pos hl] at h
       exact value_open123 w0 W g s p v out x hR hO hB hg hp hs hj h123 (by omega) hl.1 hl.2 r.1 r.2.1 r.2.2 (fun W1 v1 a b c => hM W1 _ v1 _ _ 125 r h a b c (by omega))
      ·rw [if_neg hl] at h; cases h
    ·rw [if_neg h123] at h
     by_cases h34 : nextC s p = 34
     ·rw [if_pos h34] at h
      obtain ⟨⟨t, m1, er⟩, hq, h⟩ := Option.bind_eq_some_iff.1 h
      simp only at h
      by_cases hl : 0 ≤ m1 ∧ (skipP s p : Int) + m1 ≤ s.size ∧ (out.length + 1) * 56 ≤ 140737488355328
      ·rw [if_pos hl] at h
       obtain ⟨m, rfl⟩ : ∃ m : Nat, m1 = m := ⟨m1.toNat, by omega⟩
       rw [Int.toNat_natCast] at h
       by_cases he : er = 0
       ·rw [if_pos he] at h
        subst he
        cases h
        exact value_text w0 W g s p v out x hR hO hB hg hp hs hj hl.2.2 k t m h34 hq (by omega)
       ·rw [if_neg he] at h
        cases h
        exact value_text_err w0 W g s p v _ x hR hO hB hg hp hs hj k t m er h34 hq (by omega) he
      ·rw [if_neg hl] at h; cases h
     ·rw [if_neg h34] at h
      by_cases hl : (out.length + 1) * 56 ≤ 140737488355328
      ·rw [if_pos hl] at h
       by_cases hn : nextC s p = 45 ∨ (48 ≤ nextC s p ∧ nextC s p ≤ 57)
       ·rw [if_pos hn] at h
        obtain ⟨⟨n, er, q⟩, hN⟩ : ∃ y, numberS s (skipP s p) = y := ⟨_, rfl⟩
        rw [hN] at h
        simp only at h
        by_cases he : er = 0
        ·rw [if_pos he] at h
         subst he
         cases h
         rcases hn with hn | hn
         ·exact value_num_a w0 W g s p v out x hR hO hB hg hp hs hj hl n q hn hN
         ·exact value_num_b w0 W g s p v out x hR hO hB hg hp hs hj hl n q hn hN
        ·rw [if_neg he] at h
         cases h
         rcases hn with hn | hn
         ·exact value_num_err_a w0 W g s p v _ x hR hO hB hg hp hs hj n er q hn hN he
         ·exact value_num_err_b w0 W g s p v _ x hR hO hB hg hp hs hj n er q hn hN he
       ·rw [if_neg hn] at h
        cases h
        by_cases h48 : nextC s p < 48
        ·exact value_word1 w0 W g s p v out x hR hO hB hg hp hs hj hl h91 h123 h34 (by omega) h48
        ·exact value_word2 w0 W g s p v out x hR hO hB hg hp hs hj hl h91 h123 h34 (by omega) (by omega)
      ·rw [if_neg hl] at h; cases h
def z0 : S40 := ⟨0, 0, ⟨#[]⟩, ⟨#[]⟩, 0⟩
def json_Parse.f (k : Nat) (s : ByteArray) : Option (List S40 × Int) := if s.size ≤ 4611686018427387904 then (valueF k s 0 [] z0).bind fun r => if r.2.1 ≤ s.size then (if r.1 = 0 then (if skipP s r.2.1 < s.size then some ([], 80) else some (r.2.2, 0)) else some ([], r.1)) else none else none
set_option maxHeartbeats 8000000 in
set_option maxRecDepth 100000 in
theorem parse_err (k : Nat) (s : ByteArray) (er : Int) (q : Nat) (out : List S40) (w : World) (ht : JTabs w) (hs : s.size ≤ 4611686018427387904) (h : valueF k s 0 [] z0 = some (er, q, out)) (he : er ≠ 0) :
  Calls Tryz.prog 10 #[.string s] w fun e w' => ∃ v0_ : Value, e = .returned (.tuple #[v0_, .int .i64 er]) ∧ Kd.R k40 40 w' w.heap.size (fun _ => True) v0_ [] ∧ Below w.heap.size w w' := by
 have JT := Aside0.mk ht
 have HS := Aside0.mk hs
 have FV := Aside0.mk h
 have hmf : ∀ (fn : Fn) (first cap : Array Value) (w : World), (Instr.makeFunc fn first cap).run Tryz.prog w = .ok (.func fn first cap) w := fun _ _ _ _ => rfl
 have n1 : (er == 0) = false := beq_eq_false_iff_ne.mpr he
 have n2 : (er != 0) = true := bne_iff_ne.mpr he
 clear he h hs ht
 go_enter Tryz.func10, Tryz.ntmps10
 go_wp2_with fail
 have HR : Aside0 (Rd (w.alloc (.cells #[.string s, .int .i64 0, .slice none 0 0] 58)) w.heap.size s 0 (.slice none 0 0)) := ⟨heap_alloc_new _ _⟩
 have HB : Aside0 (Below w.heap.size w (w.alloc (.cells #[.string s, .int .i64 0, .slice none 0 0] 58))) := ⟨below_alloc (Below.refl _ _) _⟩
 obtain ⟨g, hg⟩ : ∃ g, w.heap.size = g := ⟨_, rfl⟩
 have HG : Aside0 (w.heap.size ≤ g) := ⟨by omega⟩
 generalize w.alloc (.cells #[.string s, .int .i64 0, .slice none 0 0] 58) = w1 at HR HB ⊢
 have HR : Aside0 (Rd w1 g s 0 (.slice none 0 0)) := ⟨by rw [← hg]; exact HR.out⟩
 rw [show (({ block := w.heap.size, off := 0 } : Addr)) = { block := g, off := 0 } by rw [hg]]
 clear hg
 go_wp2_with (first
  | (go_at_call 22; refine (value_calls w g s HG.out HS.out JT.out k w1 0 (.slice none 0 0) [] z0 _ FV.out HR.out (Kd.R_nil _ _ _ _ _) HB.out (Nat.zero_le _)).mono ?_; rintro e w2 ⟨rfl, ⟨v2, hR2, hO2, hA2⟩, hB2, hK2⟩; obtain ⟨A2, c2, rfl⟩ := Kd.R_slice hO2; have HR2 := Aside0.mk hR2; have HO2 := Aside0.mk hO2; have HB2 := Aside0.mk hB2; clear hR2 hO2 hA2 hB2 hK2))
 go_ret2
 exact ⟨_, rfl, Kd.R_nil _ _ _ _ _, HB2.out⟩
set_option maxHeartbeats 8000000 in
set_option maxRecDepth 100000 in
theorem parse_more (k : Nat) (s : ByteArray) (er : Int) (q : Nat) (out : List S40) (w : World) (ht : JTabs w) (hs : s.size ≤ 4611686018427387904) (h : valueF k s 0 [] z0 = some (er, q, out)) (hq : q ≤ s.size) (he : er = 0) (hm : skipP s q < s.size) :
  Calls Tryz.prog 10 #[.string s] w fun e w' => ∃ v0_ : Value, e = .returned (.tuple #[v0_, .int .i64 80]) ∧ Kd.R k40 40 w' w.heap.size (fun _ => True) v0_ [] ∧ Below w.heap.size w w' := by
 have JT := Aside0.mk ht
 have HS := Aside0.mk hs
 have FV := Aside0.mk h
 have hmf : ∀ (fn : Fn) (first cap : Array Value) (w : World), (Instr.makeFunc fn first cap).run Tryz.prog w = .ok (.func fn first cap) w := fun _ _ _ _ => rfl
 subst he
 have HQ := Aside0.mk hq
 have n1 : decide ((skipP s q : Int) < (s.size : Int)) = true := decide_eq_true (by omega)
 have n2 : (skipP s q < s.size) = True := eq_true hm
 clear h hs ht hq hm
 go_enter Tryz.func10, Tryz.ntmps10
 go_wp2_with fail
 have HR : Aside0 (Rd (w.alloc (.cells #[.string s, .int .i64 0, .slice none 0 0] 58)) w.heap.size s 0 (.slice none 0 0)) := ⟨heap_alloc_new _ _⟩
 have HB : Aside0 (Below w.heap.size w (w.alloc (.cells #[.string s, .int .i64 0, .slice none 0 0] 58))) := ⟨below_alloc (Below.refl _ _) _⟩
 obtain ⟨g, hg⟩ : ∃ g, w.heap.size = g := ⟨_, rfl⟩
 have HG : Aside0 (w.heap.size ≤ g) := ⟨by omega⟩
 generalize w.alloc (.cells #[.string s, .int .i64 0, .slice none 0 0] 58) = w1 at HR HB ⊢
 have HR : Aside0 (Rd w1 g s 0 (.slice none 0 0)) := ⟨by rw [← hg]; exact HR.out⟩
 rw [show (({ block := w.heap.size, off := 0 } : Addr)) = { block := g, off := 0 } by rw [hg]]
 clear hg
 go_wp2_with (first
  | (go_at_call 22; refine (value_calls w g s HG.out HS.out JT.out k w1 0 (.slice none 0 0) [] z0 _ FV.out HR.out (Kd.R_nil _ _ _ _ _) HB.out (Nat.zero_le _)).mono ?_; rintro e w2 ⟨rfl, ⟨v2, hR2, hO2, hA2⟩, hB2, hK2⟩; obtain ⟨A2, c2, rfl⟩ := Kd.R_slice hO2; have HR2 := Aside0.mk hR2; have HO2 := Aside0.mk hO2; have HB2 := Aside0.mk hB2; clear hR2 hO2 hA2 hB2 hK2)
  | (go_at_call 23; refine (next_calls w w2 g s q _ HR2.out HB2.out HG.out HQ.out HS.out).mono ?_; rintro e w3 ⟨rfl, hR3, hB3, hK3⟩; have HR3 := Aside0.mk hR3; have HB3 := Aside0.mk hB3; have HO3 := Aside0.mk (Kd.R_keep HO2.out hK3 (fun _ h => h)); have hd1 := rd_cell1 hR3; have hd2 := rd_cell2 hR3; clear hR3 hB3 hK3))
 go_ret2
 exact ⟨_, rfl, Kd.R_nil _ _ _ _ _, HB3.out⟩
set_option maxHeartbeats 8000000 in
set_option maxRecDepth 100000 in
theorem parse_ok (k : Nat) (s : ByteArray) (er : Int) (q : Nat) (out : List S40) (w : World) (ht : JTabs w) (hs : s.size ≤ 4611686018427387904) (h : valueF k s 0 [] z0 = some (er, q, out)) (hq : q ≤ s.size) (he : er = 0) (hm : ¬ skipP s q < s.size) :
  Calls Tryz.prog 10 #[.string s] w fun e w' => ∃ v0_ : Value, e = .returned (.tuple #[v0_, .int .i64 0]) ∧ Kd.R k40 40 w' w.heap.size (fun _ => True) v0_ out ∧ Below w.heap.size w w' := by
 have JT := Aside0.mk ht
 have HS := Aside0.mk hs
 have FV := Aside0.mk h
 have hmf : ∀ (fn : Fn) (first cap : Array Value) (w : World), (Instr.makeFunc fn first cap).run Tryz.prog w = .ok (.func fn first cap) w := fun _ _ _ _ => rfl
 subst he
 have HQ := Aside0.mk hq
 have n1 : decide ((skipP s q : Int) < (s.size : Int)) = false := decide_eq_false (by omega)
 have n2 : (skipP s q < s.size) = False := eq_false hm
 clear h hs ht hq hm
 go_enter Tryz.func10, Tryz.ntmps10
 go_wp2_with fail
 have HR : Aside0 (Rd (w.alloc (.cells #[.string s, .int .i64 0, .slice none 0 0] 58)) w.heap.size s 0 (.slice none 0 0)) := ⟨heap_alloc_new _ _⟩
 have HB : Aside0 (Below w.heap.size w (w.alloc (.cells #[.string s, .int .i64 0, .slice none 0 0] 58))) := ⟨below_alloc (Below.refl _ _) _⟩
 obtain ⟨g, hg⟩ : ∃ g, w.heap.size = g := ⟨_, rfl⟩
 have HG : Aside0 (w.heap.size ≤ g) := ⟨by omega⟩
 generalize w.alloc (.cells #[.string s, .int .i64 0, .slice none 0 0] 58) = w1 at HR HB ⊢
 have HR : Aside0 (Rd w1 g s 0 (.slice none 0 0)) := ⟨by rw [← hg]; exact HR.out⟩
 rw [show (({ block := w.heap.size, off := 0 } : Addr)) = { block := g, off := 0 } by rw [hg]]
 clear hg
 go_wp2_with (first
  | (go_at_call 22; refine (value_calls w g s HG.out HS.out JT.out k w1 0 (.slice none 0 0) [] z0 _ FV.out HR.out (Kd.R_nil _ _ _ _ _) HB.out (Nat.zero_le _)).mono ?_; rintro e w2 ⟨rfl, ⟨v2, hR2, hO2, hA2⟩, hB2, hK2⟩; obtain ⟨A2, c2, rfl⟩ := Kd.R_slice hO2; have HR2 := Aside0.mk hR2; have HO2 := Aside0.mk hO2; have HB2 := Aside0.mk hB2; clear hR2 hO2 hA2 hB2 hK2)
  | (go_at_call 23; refine (next_calls w w2 g s q _ HR2.out HB2.out HG.out HQ.out HS.out).mono ?_; rintro e w3 ⟨rfl, hR3, hB3, hK3⟩; have HR3 := Aside0.mk hR3; have HB3 := Aside0.mk hB3; have HO3 := Aside0.mk (Kd.R_keep HO2.out hK3 (fun _ h => h)); have hd1 := rd_cell1 hR3; have hd2 := rd_cell2 hR3; clear hR3 hB3 hK3))
 go_ret2
 exact ⟨_, rfl, Kd.R_mono HO3.out (fun _ _ => trivial), HB3.out⟩
theorem json_Parse.calls (k : Nat) (a0 : ByteArray) (r1 : List S40) (r2 : Int) (w : World) (h : json_Parse.f k a0 = some (r1, r2)) (ht : JTabs w := by first | assumption | (refine JTabs.step (by assumption) ?_; repeat (first | exact Aside0.out (by assumption) | apply below_alloc | apply pw_below_drewN | apply below_drew1 | exact Below.refl _ _))) :
  Calls Tryz.prog 10 #[.string a0] w fun e w' => ∃ v0_ : Value, e = .returned (.tuple #[v0_, .int .i64 r2]) ∧ Kd.R k40 40 w' w.heap.size (fun _ => True) v0_ r1 ∧ Below w.heap.size w w' := by
 unfold json_Parse.f at h
 by_cases hs : a0.size ≤ 4611686018427387904
 ·rw [if_pos hs] at h
  obtain ⟨⟨er, q, out⟩, hv, h⟩ := Option.bind_eq_some_iff.1 h
  simp only at h
  by_cases hq : q ≤ a0.size
  ·rw [if_pos hq] at h
   by_cases he : er = 0
   ·rw [if_pos he] at h
    by_cases hm : skipP a0 q < a0.size
    ·rw [if_pos hm] at h; cases h
     exact parse_more k a0 er q out w ht hs hv hq he hm
    ·rw [if_neg hm] at h; cases h
     exact parse_ok k a0 er q _ w ht hs hv hq he hm
   ·rw [if_neg he] at h; cases h
    exact parse_err k a0 _ q out w ht hs hv he
  ·rw [if_neg hq] at h; cases h
 ·rw [if_neg hs] at h; cases h
end Go.Proofs.YthhmmaihbjhhgaaGreatDoor.Giv
namespace Go.Proofs.YthhmmaihbjhhgaaGreatDoor.Giv
open Go.RowKit Go.Proofs.YthhmmaihbjhhgaaGreatDoorW.PrintWords Go.Proofs.YthhmmaihbjhhgaaGreatDoorW.PrintLast Go.Proofs.YthhmmaihbjhhgaaGreatDoorW.PrintMore
open Go.Proofs.YthhmmaihbjhhgaaGreatDoor.U1 Go.Proofs.YthhmmaihbjhhgaaGreatDoor.Q1
def shortI (n : Int) : Int := if n = 34 ∨ n = 92 then n else if n = 8 then 98 else if n = 9 then 116 else if n = 10 then 110 else if n = 12 then 102 else if n = 13 then 114 else 0
theorem short_f (k : Nat) (n : Int) (hk : 0 < k) : cracknelref07_short.f k n = some (shortI n) := by
 obtain ⟨k, rfl⟩ : ∃ m, k = m + 1 := ⟨k - 1, by omega⟩
 unfold cracknelref07_short.f shortI
 by_cases a : n = 34
 ·subst a; rfl
 ·rw [if_neg a, cracknelref07_short.j0]
  by_cases b : n = 92
  ·subst b; rfl
  ·rw [if_neg (show ¬ (n == 92) = true by simpa using b), if_neg (show ¬ (n = 34 ∨ n = 92) by omega)]
   repeat' split
   all_goals rfl
def sgn (a : Int) : Int := if a < 10 then (48 + a) % 256 else (87 + a) % 256
theorem sign_f (a : Int) : cracknelref07_sign.f a = some (sgn a) := by
 unfold cracknelref07_sign.f sgn; split <;> rfl
def pieceI (n : Int) : List Int := if shortI n = 0 then (if n < 32 then [92, 117, 48, 48, sgn (n / 16), sgn (n % 16)] else [n]) else [92, shortI n]
set_option maxRecDepth 100000 in
theorem piece_I : ∀ n : Nat, n < 256 → (pieceI (n : Int)).map (fun x => UInt8.ofNat x.toNat) = pieceN n := by decide +kernel
theorem pieceI_len (n : Int) : (pieceI n).length ≤ 6 := by unfold pieceI; repeat' split
                                                           all_goals simp
theorem refWrite_step (k : Nat) (s : ByteArray) (x : List Int) (i : Nat) (hk : 0 < k) (hi : i < s.size) (hs : s.size ≤ 1073741824) (hx : x.length ≤ 10737418240) :
  cracknelref07_Write.l0 (k + 1) s x (i : Int) = cracknelref07_Write.l0 k s (x ++ pieceI (bt s (i : Int))) ((i + 1 : Nat) : Int) := by
 have hb := bt_range s (i : Int)
 simp only [cracknelref07_Write.l0]
 rw [if_pos (by omega), if_pos (by omega), short_f k _ hk, Option.bind_some, Option.bind_some, w64 (by omega) (by omega), show ((i : Int) + 1) = ((i + 1 : Nat) : Int) by omega]
 unfold pieceI
 by_cases a : shortI (bt s (i : Int)) = 0
 ·rw [if_pos a, if_pos a]
  by_cases b : bt s (i : Int) < 32
  ·rw [if_pos b, if_pos b, sign_f, sign_f, Option.bind_some, Option.bind_some, Option.bind_some, Int.tdiv_eq_ediv_of_nonneg hb.1, Int.tmod_eq_emod_of_nonneg hb.1, show bt s (i : Int) / 16 % 256 = bt s (i : Int) / 16 by omega, if_pos (by simp; omega)]
  ·rw [if_neg b, if_neg b, if_pos (by omega)]
 ·rw [if_neg a, if_neg a, Option.bind_some, if_pos (by simp; omega)]
theorem byte_bt (s : ByteArray) (i : Nat) : bt s (i : Int) = (((s.data.toList.getD i 0).toNat : Nat) : Int) := btL s i
theorem drop_byte (s : ByteArray) (i : Nat) (hi : i < s.size) : s.data.toList.drop i = s.data.toList.getD i 0 :: s.data.toList.drop (i + 1) := by
 have hl : i < s.data.toList.length := by rw [data_length]; exact hi
 rw [List.drop_eq_getElem_cons hl]
 congr 1
 rw [List.getD_eq_getElem?_getD, List.getElem?_eq_getElem hl]; rfl
def toB (x : List Int) : List UInt8 := x.map fun n => UInt8.ofNat n.toNat
theorem toB_app (a b : List Int) : toB (a ++ b) = toB a ++ toB b := List.map_append ..
theorem toB_piece (s : ByteArray) (i : Nat) : toB (pieceI (bt s (i : Int))) = pieceN (s.data.toList.getD i 0).toNat := by
 rw [byte_bt s i]
 exact piece_I _ (UInt8.toNat_lt _)
theorem refWrite_l0 (s : ByteArray) (hs : s.size ≤ 1048576) : ∀ (n k i : Nat) (x : List Int), s.size - i = n → i ≤ s.size → n + 1 < k → x.length ≤ 6 * i + 1 →
  cracknelref07_Write.l0 k s x (i : Int) = some (⟨(toB x ++ inner (s.data.toList.drop i) ++ [34]).toArray⟩, true)
 | 0, k, i, x, h1, h2, h3, h4 => by
  obtain ⟨k, rfl⟩ : ∃ m, k = m + 1 := ⟨k - 1, by omega⟩
  have e : s.data.toList.drop i = [] := List.drop_eq_nil_of_le (by rw [data_length]; omega)
  simp only [cracknelref07_Write.l0]
  rw [if_neg (by omega), if_pos (by omega), e, inner, List.append_nil]
  congr 2
  apply ofList_eq
  rw [strOfNums_list]
  exact toB_app x [34]
 | n + 1, k, i, x, h1, h2, h3, h4 => by
  obtain ⟨k, rfl⟩ : ∃ m, k = m + 1 := ⟨k - 1, by omega⟩
  have hl := pieceI_len (bt s (i : Int))
  rw [refWrite_step k s x i (by omega) (by omega) (by omega) (by omega), refWrite_l0 s hs n k (i + 1) _ (by omega) (by omega) (by omega) (by rw [List.length_append]; omega)]
  rw [toB_app, toB_piece s i, drop_byte s i (by omega), inner]
  congr 3
  rw [List.append_assoc, List.append_assoc, List.append_assoc, List.append_assoc]
theorem refValid (k : Nat) (s : ByteArray) (hk : s.size + 12 < k) (hs : s.size ≤ 1073741824) : cracknelref05_Valid.f k s = some (Lib.validD s.data.toList) := by
 unfold cracknelref05_Valid.f
 rw [refRunes k s hk hs, Option.bind_some]
 unfold runesS
 by_cases h : Lib.validD s.data.toList = true
 ·rw [if_pos h, h]
 ·rw [if_neg h, Bool.eq_false_iff.2 h]
theorem refWrite (k : Nat) (s : ByteArray) (hk : s.size + 12 < k) (hs : s.size ≤ 1048576) : cracknelref07_Write.f k s = some (writeS s) := by
 unfold cracknelref07_Write.f writeS
 rw [refValid k s hk (by omega), Option.bind_some]
 by_cases h : Lib.validD s.data.toList = true
 ·rw [if_pos h, if_pos h, show (0 : Int) = ((0 : Nat) : Int) from rfl, refWrite_l0 s hs s.size k 0 [34] (by omega) (by omega) (by omega) (by simp), List.drop_zero]
  rfl
 ·rw [if_neg h, if_neg h]
def hv (n : Nat) : Int := if 48 ≤ n ∧ n ≤ 57 then (n : Int) - 48 else if 97 ≤ n ∧ n ≤ 102 then (n : Int) - 87 else if 65 ≤ n ∧ n ≤ 70 then (n : Int) - 55 else -1
theorem hv_bd (n : Nat) : -1 ≤ hv n ∧ hv n < 16 := by unfold hv; repeat' split
                                                      all_goals omega
def hexL : List UInt8 := [48, 49, 50, 51, 52, 53, 54, 55, 56, 57, 97, 98, 99, 100, 101, 102]
def hexU : List UInt8 := [48, 49, 50, 51, 52, 53, 54, 55, 56, 57, 65, 66, 67, 68, 69, 70]
set_option maxRecDepth 100000 in
theorem hv_index : ∀ n : Nat, n < 256 → (if Lib.indexByte hexL n.toUInt8 < 0 then Lib.indexByte hexU n.toUInt8 else Lib.indexByte hexL n.toUInt8) = hv n := by decide +kernel
theorem bits_or_i64_small (a b : Nat) (ha : a < 65536) (hb : b < 16) : Go.bits .or .i64 ((a : Int) * 16) (b : Int) = ((a * 16 + b : Nat) : Int) := by
 rw [show (a : Int) * 16 = ((a * 16 : Nat) : Int) by omega]
 have h1 : (BitVec.ofInt 64 ((a * 16 : Nat) : Int)).toNat = a * 16 := by
  rw [BitVec.ofInt_natCast, BitVec.toNat_ofNat]; exact Nat.mod_eq_of_lt (by omega)
 have h2 : (BitVec.ofInt 64 (b : Int)).toNat = b := by
  rw [BitVec.ofInt_natCast, BitVec.toNat_ofNat]; exact Nat.mod_eq_of_lt (by omega)
 have ho : a * 16 ||| b = a * 16 + b := by
  have := Nat.shiftLeft_add_eq_or_of_lt (i := 4) (b := b) (by omega) a
  rw [Nat.shiftLeft_eq] at this
  exact this.symm
 show IntKind.i64.wrap ((BitVec.ofInt 64 ((a * 16 : Nat) : Int) ||| BitVec.ofInt 64 (b : Int)).toNat : Int) = _
 rw [BitVec.toNat_or, h1, h2, ho]
 rw [i64_w]
 exact w64 (x := ((a * 16 + b : Nat) : Int)) (by omega) (by omega)
theorem digits_step (k : Nat) (s : ByteArray) (a i : Nat) (hi : i < 4) (hs : 4 ≤ s.size) (ha : a < 65536) :
  quote_digits.l0 (k + 1) s (a : Int) (i : Int) = if hv (s.data.toList.getD i 0).toNat < 0 then some (-1) else quote_digits.l0 k s (((a : Int) * 16 + hv (s.data.toList.getD i 0).toNat)) ((i + 1 : Nat) : Int) := by
 simp only [quote_digits.l0]
 have hn := UInt8.toNat_lt (s.data.toList.getD i 0)
 have hh := hv_index _ hn
 have hbd := hv_bd (s.data.toList.getD i 0).toNat
 rw [if_pos (by omega), if_pos (by omega), if_pos (by omega), byte_bt s i]
 generalize (s.data.toList.getD i 0).toNat = n at hn hh hbd ⊢
 unfold strings_IndexByte.f
 rw [Option.bind_some, Option.bind_some, Int.toNat_natCast, w64 (x := (i : Int) + 1) (by omega) (by omega), w64 (x := (a : Int) * 16) (by omega) (by omega), show ((i : Int) + 1) = ((i + 1 : Nat) : Int) by omega]
 show (if Lib.indexByte hexL n.toUInt8 < 0 then if Lib.indexByte hexU n.toUInt8 < 0 then some (-1) else quote_digits.l0 k s (Go.bits .or .i64 ((a : Int) * 16) (Lib.indexByte hexU n.toUInt8)) ((i + 1 : Nat) : Int) else quote_digits.l0 k s (Go.bits .or .i64 ((a : Int) * 16) (Lib.indexByte hexL n.toUInt8)) ((i + 1 : Nat) : Int)) = _
 by_cases c : Lib.indexByte hexL n.toUInt8 < 0
 ·rw [if_pos c] at hh
  rw [if_pos c, hh]
  by_cases d : hv n < 0
  ·rw [if_pos d, if_pos d]
  ·rw [if_neg d, if_neg d]
   obtain ⟨m, hm⟩ : ∃ m : Nat, hv n = m := ⟨(hv n).toNat, by omega⟩
   rw [hm, bits_or_i64_small a m ha (by omega)]
   congr 1
 ·rw [if_neg c] at hh
  rw [hh] at c
  rw [hh, if_neg c, if_neg c]
  obtain ⟨m, hm⟩ : ∃ m : Nat, hv n = m := ⟨(hv n).toNat, by omega⟩
  rw [hm, bits_or_i64_small a m ha (by omega)]
  congr 1
def digN (l : List UInt8) : Int :=
 if l.length < 4 then -1 else if hv (l.getD 0 0).toNat < 0 ∨ hv (l.getD 1 0).toNat < 0 ∨ hv (l.getD 2 0).toNat < 0 ∨ hv (l.getD 3 0).toNat < 0 then -1
 else ((hv (l.getD 0 0).toNat * 16 + hv (l.getD 1 0).toNat) * 16 + hv (l.getD 2 0).toNat) * 16 + hv (l.getD 3 0).toNat
theorem digN_bd (l : List UInt8) : -1 ≤ digN l ∧ digN l < 65536 := by
 have h0 := hv_bd (l.getD 0 0).toNat
 have h1 := hv_bd (l.getD 1 0).toNat
 have h2 := hv_bd (l.getD 2 0).toNat
 have h3 := hv_bd (l.getD 3 0).toNat
 unfold digN; repeat' split
 all_goals omega
theorem digits_f (k : Nat) (s : ByteArray) (hk : 4 < k) : quote_digits.f k s = some (digN s.data.toList) := by
 obtain ⟨k, rfl⟩ : ∃ m, k = m + 1 + 1 + 1 + 1 + 1 := ⟨k - 5, by omega⟩
 have hl : s.data.toList.length = s.size := data_length s
 have h0 := hv_bd (s.data.toList.getD 0 0).toNat
 have h1 := hv_bd (s.data.toList.getD 1 0).toNat
 have h2 := hv_bd (s.data.toList.getD 2 0).toNat
 have h3 := hv_bd (s.data.toList.getD 3 0).toNat
 unfold quote_digits.f digN
 by_cases c : s.size < 4
 ·rw [if_pos (by omega), if_pos (by omega)]
 ·rw [if_neg (by omega), if_neg (by omega)]
  have st : ∀ (k : Nat) (i : Nat) (a : Int), i < 4 → 0 ≤ a → a < 65536 → quote_digits.l0 (k + 1) s a (i : Int) = if hv (s.data.toList.getD i 0).toNat < 0 then some (-1) else quote_digits.l0 k s (a * 16 + hv (s.data.toList.getD i 0).toNat) ((i + 1 : Nat) : Int) := by
   intro k i a hi ha0 ha1
   obtain ⟨m, rfl⟩ : ∃ m : Nat, a = m := ⟨a.toNat, by omega⟩
   exact digits_step k s m i hi (by omega) (by omega)
  have e0 := st (k + 1 + 1 + 1 + 1) 0 0 (by omega) (by omega) (by omega)
  show quote_digits.l0 (k + 1 + 1 + 1 + 1 + 1) s 0 ((0 : Nat) : Int) = _
  rw [e0]
  by_cases d0 : hv (s.data.toList.getD 0 0).toNat < 0
  ·rw [if_pos d0, if_pos (by omega)]
  ·rw [if_neg d0, st _ 1 _ (by omega) (by omega) (by omega)]
   by_cases d1 : hv (s.data.toList.getD 1 0).toNat < 0
   ·rw [if_pos d1, if_pos (by omega)]
   ·rw [if_neg d1, st _ 2 _ (by omega) (by omega) (by omega)]
    by_cases d2 : hv (s.data.toList.getD 2 0).toNat < 0
    ·rw [if_pos d2, if_pos (by omega)]
    ·rw [if_neg d2, st _ 3 _ (by omega) (by omega) (by omega)]
     by_cases d3 : hv (s.data.toList.getD 3 0).toNat < 0
     ·rw [if_pos d3, if_pos (by omega)]
     ·rw [if_neg d3, if_neg (by omega)]
      simp only [quote_digits.l0]
      rw [if_neg (by omega)]
      congr 1
      omega
theorem extract_drop (s : ByteArray) (m : Nat) : (s.extract m s.size).data.toList = s.data.toList.drop m := by
 rw [ByteArray.data_extract, Array.toList_extract]
 simp
 rw [List.take_of_length_le (by rw [List.length_drop, data_length]; exact Nat.le_refl _)]
def numL (l : List UInt8) : Int × Int :=
 if digN l < 55296 ∨ 57344 ≤ digN l then (digN l, 4)
 else if 56320 ≤ digN l ∨ l.length < 6 ∨ (l.getD 4 0).toNat ≠ 92 ∨ (l.getD 5 0).toNat ≠ 117 then (-1, 0)
 else if digN (l.drop 6) < 56320 ∨ 57344 ≤ digN (l.drop 6) then (-1, 0)
 else (65536 + (digN l - 55296) * 1024 + digN (l.drop 6) - 56320, 10)
theorem numbered_f (k : Nat) (s : ByteArray) (hk : 8 < k) : quote_numbered.f k s = some (numL s.data.toList) := by
 obtain ⟨k, rfl⟩ : ∃ m, k = m + 1 + 1 := ⟨k - 2, by omega⟩
 have hl : s.data.toList.length = s.size := data_length s
 have hd := digN_bd s.data.toList
 have hd6 := digN_bd (s.data.toList.drop 6)
 unfold quote_numbered.f numL
 rw [digits_f _ s (by omega), Option.bind_some]
 generalize digN s.data.toList = n at hd ⊢
 by_cases a : n < 55296
 ·rw [if_pos a, if_pos (show n < 55296 ∨ 57344 ≤ n by omega), quote_numbered.j0, if_pos rfl]
 ·rw [if_neg a, quote_numbered.j0]
  by_cases b : 57344 ≤ n
  ·rw [if_pos (by simpa using b), if_pos (show n < 55296 ∨ 57344 ≤ n by omega)]
  ·rw [if_neg (by simpa using b), if_neg (show ¬ (n < 55296 ∨ 57344 ≤ n) by omega)]
   by_cases c : 56320 ≤ n
   ·rw [if_pos (show n ≥ 56320 from c), if_pos (show 56320 ≤ n ∨ s.data.toList.length < 6 ∨ (s.data.toList.getD 4 0).toNat ≠ 92 ∨ (s.data.toList.getD 5 0).toNat ≠ 117 by omega), quote_numbered.j1, if_pos rfl]
   ·rw [if_neg (show ¬ n ≥ 56320 from c)]
    by_cases d : s.size < 6
    ·rw [if_pos (show (s.size : Int) < 6 by omega), if_pos (show 56320 ≤ n ∨ s.data.toList.length < 6 ∨ (s.data.toList.getD 4 0).toNat ≠ 92 ∨ (s.data.toList.getD 5 0).toNat ≠ 117 by omega), quote_numbered.j1, if_pos rfl]
    ·rw [if_neg (show ¬ (s.size : Int) < 6 by omega), if_pos (show 4 < (s.size : Int) by omega), show (4 : Int) = ((4 : Nat) : Int) from rfl, show (5 : Int) = ((5 : Nat) : Int) from rfl, byte_bt, byte_bt]
     by_cases e : (s.data.toList.getD 4 0).toNat = 92
     ·rw [if_pos (show (((s.data.toList.getD 4 0).toNat : Nat) : Int) = 92 by omega), if_pos (show ((5 : Nat) : Int) < (s.size : Int) by omega), quote_numbered.j1]
      by_cases f : (s.data.toList.getD 5 0).toNat = 117
      ·rw [if_neg (show ¬ ((((s.data.toList.getD 5 0).toNat : Nat) : Int) != 117) = true by rw [bne_iff_ne]; omega), if_neg (show ¬ (56320 ≤ n ∨ s.data.toList.length < 6 ∨ (s.data.toList.getD 4 0).toNat ≠ 92 ∨ (s.data.toList.getD 5 0).toNat ≠ 117) by omega), if_pos (show 6 ≤ (s.size : Int) by omega), digits_f _ _ (by omega), Option.bind_some, extract_drop]
       generalize digN (s.data.toList.drop 6) = m at hd6 ⊢
       by_cases g : m < 56320
       ·rw [if_pos g, if_pos (show m < 56320 ∨ 57344 ≤ m by omega)]
       ·rw [if_neg g]
        by_cases g2 : 57344 ≤ m
        ·rw [if_pos (show m ≥ 57344 from g2), if_pos (show m < 56320 ∨ 57344 ≤ m by omega)]
        ·rw [if_neg (show ¬ m ≥ 57344 from g2), if_neg (show ¬ (m < 56320 ∨ 57344 ≤ m) by omega)]
         rw [w64 (x := n - 55296) (by omega) (by omega), w64 (x := (n - 55296) * 1024) (by omega) (by omega), w64 (x := 65536 + (n - 55296) * 1024) (by omega) (by omega), w64 (x := 65536 + (n - 55296) * 1024 + m) (by omega) (by omega), w64 (by omega) (by omega)]
      ·rw [if_pos (show ((((s.data.toList.getD 5 0).toNat : Nat) : Int) != 117) = true by rw [bne_iff_ne]; omega), if_pos (show 56320 ≤ n ∨ s.data.toList.length < 6 ∨ (s.data.toList.getD 4 0).toNat ≠ 92 ∨ (s.data.toList.getD 5 0).toNat ≠ 117 by omega)]
     ·rw [if_neg (show ¬ (((s.data.toList.getD 4 0).toNat : Nat) : Int) = 92 by omega), if_pos (show 56320 ≤ n ∨ s.data.toList.length < 6 ∨ (s.data.toList.getD 4 0).toNat ≠ 92 ∨ (s.data.toList.getD 5 0).toNat ≠ 117 by omega), quote_numbered.j1, if_pos rfl]
def meanB (n : Nat) : UInt8 := if n = 98 then 8 else if n = 116 then 9 else if n = 110 then 10 else if n = 102 then 12 else if n = 114 then 13 else 0
set_option maxRecDepth 100000 in
theorem mean_index : ∀ n : Nat, n < 256 → if 0 ≤ Lib.indexByte [98, 116, 110, 102, 114] n.toUInt8 then (Lib.indexByte [98, 116, 110, 102, 114] n.toUInt8 ≤ 4 ∧ meanB n ≠ 0 ∧ ((⟨#[8, 9, 10, 12, 13]⟩ : ByteArray).extract (Lib.indexByte [98, 116, 110, 102, 114] n.toUInt8).toNat (Lib.indexByte [98, 116, 110, 102, 114] n.toUInt8 + 1).toNat).data.toList = [meanB n]) else meanB n = 0 := by decide +kernel
def escL (l : List UInt8) : List UInt8 × Int × Int :=
 if l.length < 2 then ([], 0, 73)
 else if meanB (l.getD 1 0).toNat ≠ 0 then ([meanB (l.getD 1 0).toNat], 2, 0)
 else if (l.getD 1 0).toNat = 34 ∨ (l.getD 1 0).toNat = 92 ∨ (l.getD 1 0).toNat = 47 then ([l.getD 1 0], 2, 0)
 else if (l.getD 1 0).toNat = 117 then (if letterB (numL (l.drop 2)).1 = true then (enc (numL (l.drop 2)).1, 2 + (numL (l.drop 2)).2, 0) else ([], 0, 73))
 else ([], 0, 73)
def packR (r : List UInt8 × Int × Int) : ByteArray × Int × Int := (⟨r.1.toArray⟩, r.2.1, r.2.2)
theorem numL_bd (l : List UInt8) : (numL l).2 = 0 ∨ (numL l).2 = 4 ∨ (numL l).2 = 10 := by
 unfold numL; repeat' split
 all_goals simp
theorem esc_j0 (k : Nat) (s : ByteArray) (hk : 9 < k) (h2 : 2 ≤ s.size) (b : Bool) (hb : b = true ↔ ((s.data.toList.getD 1 0).toNat = 34 ∨ (s.data.toList.getD 1 0).toNat = 92 ∨ (s.data.toList.getD 1 0).toNat = 47)) (hm : meanB (s.data.toList.getD 1 0).toNat = 0) :
  quote_escape.j0 k s (((s.data.toList.getD 1 0).toNat : Nat) : Int) b = some (packR (escL s.data.toList)) := by
 obtain ⟨k, rfl⟩ : ∃ m, k = m + 1 := ⟨k - 1, by omega⟩
 have hl : s.data.toList.length = s.size := data_length s
 rw [quote_escape.j0]
 unfold escL
 rw [if_neg (show ¬ s.data.toList.length < 2 by omega), if_neg (show ¬ meanB (s.data.toList.getD 1 0).toNat ≠ 0 from fun h => h hm)]
 by_cases a : b = true
 ·rw [if_pos a, if_pos (by decide), if_pos (by omega), if_pos (hb.1 a)]
  congr 1
  unfold packR
  simp only
  congr 1
  apply ofList_eq
  have e := drop_byte s 1 (by omega)
  rw [ByteArray.data_extract, Array.toList_extract]
  simp only [List.extract, e]
  rfl
 ·rw [if_neg a, if_neg (fun h => a (hb.2 h))]
  by_cases c : (s.data.toList.getD 1 0).toNat = 117
  ·rw [if_pos (by omega), if_pos (by omega), if_pos c, numbered_f _ _ (by omega), extract_drop, Option.bind_some, put_S _ _ (by omega), Option.bind_some]
   have hn := numL_bd (s.data.toList.drop 2)
   unfold putS
   by_cases d : letterB (numL (s.data.toList.drop 2)).1 = true
   ·rw [if_pos d, if_pos d, if_pos rfl, w64 (by omega) (by omega)]; rfl
   ·rw [if_neg d, if_neg d, if_neg (by decide)]; rfl
  ·rw [if_neg (by omega), if_neg c]; rfl
theorem escape_f (k : Nat) (s : ByteArray) (hk : 9 < k) : quote_escape.f k s = some (packR (escL s.data.toList)) := by
 have hl : s.data.toList.length = s.size := data_length s
 unfold quote_escape.f
 by_cases a : s.size < 2
 ·rw [if_pos (by omega)]
  unfold escL
  rw [if_pos (show s.data.toList.length < 2 by omega)]; rfl
 ·rw [if_neg (by omega), if_pos (by omega), show (1 : Int) = ((1 : Nat) : Int) from rfl, byte_bt]
  have hn := UInt8.toNat_lt (s.data.toList.getD 1 0)
  have hm := mean_index _ hn
  have hj := esc_j0 k s hk (by omega)
  have hE : ¬ s.data.toList.length < 2 := by omega
  unfold strings_IndexByte.f
  rw [Option.bind_some, Int.toNat_natCast]
  show (if Lib.indexByte [98, 116, 110, 102, 114] (s.data.toList.getD 1 0).toNat.toUInt8 ≥ 0 then _ else _) = _
  by_cases b : 0 ≤ Lib.indexByte [98, 116, 110, 102, 114] (s.data.toList.getD 1 0).toNat.toUInt8
  ·rw [if_pos b] at hm
   rw [if_pos (show Lib.indexByte [98, 116, 110, 102, 114] (s.data.toList.getD 1 0).toNat.toUInt8 ≥ 0 from b)]
   show (if 0 ≤ Lib.indexByte [98, 116, 110, 102, 114] (s.data.toList.getD 1 0).toNat.toUInt8 then (if Lib.indexByte [98, 116, 110, 102, 114] (s.data.toList.getD 1 0).toNat.toUInt8 ≤ wrap64 (Lib.indexByte [98, 116, 110, 102, 114] (s.data.toList.getD 1 0).toNat.toUInt8 + 1) then (if wrap64 (Lib.indexByte [98, 116, 110, 102, 114] (s.data.toList.getD 1 0).toNat.toUInt8 + 1) ≤ 5 then some ((⟨#[8, 9, 10, 12, 13]⟩ : ByteArray).extract (Lib.indexByte [98, 116, 110, 102, 114] (s.data.toList.getD 1 0).toNat.toUInt8).toNat (wrap64 (Lib.indexByte [98, 116, 110, 102, 114] (s.data.toList.getD 1 0).toNat.toUInt8 + 1)).toNat, (2 : Int), (0 : Int)) else none) else none) else none) = _
   unfold escL
   rw [if_neg hE, if_pos hm.2.1]
   obtain ⟨h1, _, h3⟩ := hm
   generalize Lib.indexByte [98, 116, 110, 102, 114] (s.data.toList.getD 1 0).toNat.toUInt8 = t at b h1 h3 ⊢
   rw [w64 (x := t + 1) (by omega) (by omega), if_pos b, if_pos (by omega), if_pos (by omega)]
   congr 1
   unfold packR
   simp only
   congr 1
   apply ofList_eq
   rw [h3]
  ·rw [if_neg b] at hm
   rw [if_neg (show ¬ Lib.indexByte [98, 116, 110, 102, 114] (s.data.toList.getD 1 0).toNat.toUInt8 ≥ 0 from b)]
   by_cases c : (s.data.toList.getD 1 0).toNat = 34
   ·rw [if_pos (by omega)]
    exact hj _ (by rw [beq_iff_eq]; omega) hm
   ·rw [if_neg (by omega)]
    by_cases d : (s.data.toList.getD 1 0).toNat = 92
    ·rw [if_pos (by omega)]
     exact hj _ (by rw [beq_iff_eq]; omega) hm
    ·rw [if_neg (by omega)]
     exact hj _ (by rw [beq_iff_eq]; omega) hm
def plainL (l : List UInt8) : List UInt8 × Int × Int := match tk l with | none => ([], 0, 74) | some (_, n) => (l.take n, (n : Int), 0)
theorem plain_f (s : ByteArray) : quote_plain.f s = some (packR (plainL s.data.toList)) := by
 have hl : s.data.toList.length = s.size := data_length s
 unfold quote_plain.f plainL
 rw [take_S, Option.bind_some]
 unfold takeS
 cases ht : tk s.data.toList with
 | none => rfl
 | some d =>
  obtain ⟨r, n⟩ := d
  obtain ⟨_, _, h1, h2⟩ := tk_some ht
  simp only
  rw [if_pos trivial, if_pos (by omega), if_pos (by omega), Int.toNat_natCast]
  congr 1
  unfold packR
  simp only
  congr 1
  apply ofList_eq
  rw [ByteArray.data_extract, Array.toList_extract]; simp
def oneL (l : List UInt8) : List UInt8 × Int × Int := if (l.getD 0 0).toNat = 92 then escL l else plainL l
def readL : Nat → List UInt8 → Option (List UInt8 × Int × Int)
 | 0, _ => none
 | n + 1, l => if l = [] then some ([], 0, 71) else if (l.getD 0 0).toNat = 34 then some ([], 1, 0) else if (l.getD 0 0).toNat < 32 then some ([], 0, 72)
  else if (oneL l).2.2 = 0 then (readL n (l.drop (oneL l).2.1.toNat)).map fun q => if q.2.2 = 0 then ((oneL l).1 ++ q.1, (oneL l).2.1 + q.2.1, 0) else ([], 0, q.2.2) else some ([], 0, (oneL l).2.2)
theorem enc_len4 (r : Int) : (enc r).length ≤ 4 := by
 have := encs_len [r]
 rw [encs, List.length_append] at this
 simp at this; omega
theorem digN_len (l : List UInt8) (h : 0 ≤ digN l) : 4 ≤ l.length := by
 unfold digN at h
 by_cases c : l.length < 4
 ·rw [if_pos c] at h; omega
 ·omega
theorem numL_len (l : List UInt8) (h : letterB (numL l).1 = true) : 0 ≤ (numL l).2 ∧ (numL l).2 ≤ l.length := by
 obtain ⟨h0, _, _⟩ := (letter_iff _).1 h
 unfold numL at h0 ⊢
 split
 ·rename_i c
  rw [if_pos c] at h0
  have := digN_len l h0
  simp only; omega
 ·rename_i c
  rw [if_neg c] at h0
  split
  ·rename_i d; rw [if_pos d] at h0; simp only at h0; omega
  ·rename_i d
   rw [if_neg d] at h0
   split
   ·rename_i e; rw [if_pos e] at h0; simp only at h0; omega
   ·rename_i e
    have := digN_len (l.drop 6) (by omega)
    rw [List.length_drop] at this
    simp only; omega
theorem one_bd (l : List UInt8) (h : (oneL l).2.2 = 0) : 1 ≤ (oneL l).2.1 ∧ (oneL l).2.1 ≤ l.length ∧ (oneL l).1.length ≤ 4 := by
 unfold oneL at h ⊢
 split
 ·rename_i c
  rw [if_pos c] at h
  unfold escL at h ⊢
  by_cases a : l.length < 2
  ·rw [if_pos a] at h; simp at h
  ·rw [if_neg a] at h ⊢
   by_cases b : meanB (l.getD 1 0).toNat ≠ 0
   ·rw [if_pos b]; simp only [List.length_singleton]; omega
   ·rw [if_neg b] at h ⊢
    by_cases d : (l.getD 1 0).toNat = 34 ∨ (l.getD 1 0).toNat = 92 ∨ (l.getD 1 0).toNat = 47
    ·rw [if_pos d]; simp only [List.length_singleton]; omega
    ·rw [if_neg d] at h ⊢
     by_cases e : (l.getD 1 0).toNat = 117
     ·rw [if_pos e] at h ⊢
      by_cases f : letterB (numL (l.drop 2)).1 = true
      ·rw [if_pos f]
       have := numL_len _ f
       rw [List.length_drop] at this
       exact ⟨by simp only; omega, by simp only; omega, enc_len4 _⟩
      ·rw [if_neg f] at h; simp at h
     ·rw [if_neg e] at h; simp at h
 ·rename_i c
  rw [if_neg c] at h
  unfold plainL at h ⊢
  cases ht : tk l with
  | none => rw [ht] at h; simp at h
  | some d =>
   obtain ⟨r, n⟩ := d
   obtain ⟨_, he, h1, h2⟩ := tk_some ht
   simp only
   refine ⟨by omega, by omega, ?_⟩
   rw [← he]
   exact enc_len4 _
theorem getD_drop (l : List UInt8) (p : Nat) : (l.drop p).getD 0 0 = l.getD p 0 := by
 rw [List.getD_eq_getElem?_getD, List.getD_eq_getElem?_getD, List.getElem?_drop, Nat.add_zero]
theorem read_one (k : Nat) (s : ByteArray) (p : Nat) (hk : 9 < k) : quote_Read.one k s p = some (packR (oneL (s.data.toList.drop p))) := by
 unfold quote_Read.one oneL
 rw [byte_bt, getD_drop]
 by_cases c : (s.data.toList.getD p 0).toNat = 92
 ·rw [if_pos (by omega), if_pos c, escape_f k _ hk, extract_drop]
 ·rw [if_neg (by omega), if_neg c, plain_f, extract_drop]
def endR (o : ByteArray) (p : Nat) (r : List UInt8 × Int × Int) : ByteArray × Int × Int := if r.2.2 = 0 then (o ++ ⟨r.1.toArray⟩, (p : Int) + r.2.1, 0) else (⟨#[]⟩, 0, r.2.2)
theorem readL_some : ∀ (n : Nat) (l : List UInt8), l.length < n → ∃ r, readL n l = some r
 | 0, l, h => absurd h (Nat.not_lt_zero _)
 | n + 1, l, h => by
  rw [readL]
  by_cases e1 : l = []
  ·rw [if_pos e1]; exact ⟨_, rfl⟩
  ·rw [if_neg e1]
   by_cases e2 : (l.getD 0 0).toNat = 34
   ·rw [if_pos e2]; exact ⟨_, rfl⟩
   ·rw [if_neg e2]
    by_cases e3 : (l.getD 0 0).toNat < 32
    ·rw [if_pos e3]; exact ⟨_, rfl⟩
    ·rw [if_neg e3]
     by_cases e4 : (oneL l).2.2 = 0
     ·obtain ⟨b1, b2, _⟩ := one_bd l e4
      obtain ⟨q, hq⟩ := readL_some n (l.drop (oneL l).2.1.toNat) (by rw [List.length_drop]; omega)
      rw [if_pos e4, hq]; exact ⟨_, rfl⟩
     ·rw [if_neg e4]; exact ⟨_, rfl⟩
def readS (n : Nat) (s : ByteArray) : Option (ByteArray × Int × Int) :=
 if s.size = 0 then some (⟨#[]⟩, 0, 70) else if (s.data.toList.getD 0 0).toNat = 34 then (readL n (s.data.toList.drop 1)).map (endR ⟨#[]⟩ 1) else some (⟨#[]⟩, 0, 70)
end Go.Proofs.YthhmmaihbjhhgaaGreatDoor.Giv
namespace Go.Proofs.YthhmmaihbjhhgaaGreatDoor.Giv
open Go.RowKit Go.Proofs.YthhmmaihbjhhgaaGreatDoorW.PrintWords Go.Proofs.YthhmmaihbjhhgaaGreatDoorW.PrintLast Go.Proofs.YthhmmaihbjhhgaaGreatDoorW.PrintMore
open Go.Proofs.YthhmmaihbjhhgaaGreatDoor.U1 Go.Proofs.YthhmmaihbjhhgaaGreatDoor.Q1
def numU (l : List UInt8) : Int := if (l.getD 0 0).toNat = 117 then digN (l.drop 1) else -1
theorem getD_drops (l : List UInt8) (p j : Nat) : (l.drop p).getD j 0 = l.getD (p + j) 0 := by
 rw [List.getD_eq_getElem?_getD, List.getD_eq_getElem?_getD, List.getElem?_drop]
def escN (l : List UInt8) : Int × Int :=
 if numU (l.drop 1) < 0 ∨ (56320 ≤ numU (l.drop 1) ∧ numU (l.drop 1) ≤ 57343) then (0, 0)
 else if numU (l.drop 1) < 55296 ∨ 57343 < numU (l.drop 1) then (numU (l.drop 1), 6)
 else if l.length < 12 ∨ (l.getD 6 0).toNat ≠ 92 then (0, 0)
 else if numU (l.drop 7) < 56320 ∨ 57343 < numU (l.drop 7) then (0, 0)
 else (65536 + 1024 * (numU (l.drop 1) - 55296) + numU (l.drop 7) - 56320, 12)
theorem numU_bd (l : List UInt8) : -1 ≤ numU l ∧ numU l < 65536 := by
 unfold numU
 split
 ·exact digN_bd _
 ·omega
def escR (l : List UInt8) : Int × Int :=
 if l.length < 2 then (0, 0)
 else if (l.getD 1 0).toNat = 34 ∨ (l.getD 1 0).toNat = 92 ∨ (l.getD 1 0).toNat = 47 then (((l.getD 1 0).toNat : Int), 2)
 else if meanB (l.getD 1 0).toNat = 0 then escN l else (((meanB (l.getD 1 0).toNat).toNat : Int), 2)
theorem mean_bd (n : Nat) (h : meanB n ≠ 0) : 8 ≤ (meanB n).toNat ∧ (meanB n).toNat ≤ 13 := by
 unfold meanB at h ⊢
 repeat' split
 all_goals first | decide | simp_all
theorem enc_ascii (n : Nat) (h : n < 128) : enc (n : Int) = [n.toUInt8] ∧ letterB (n : Int) = true := by
 constructor
 ·unfold enc Lib.encodeRune
  rw [Lib.encodeRuneZ, if_pos (by omega)]
  simp
 ·rw [letter_iff]; omega
def ofR (r : Int × Int) : List UInt8 × Int × Int := if r.2 = 0 then ([], 0, 73) else (enc r.1, r.2, 0)
theorem escN_u (l : List UInt8) (h : (l.getD 1 0).toNat = 117) (hl : 2 ≤ l.length) : ofR (escN l) = if letterB (numL (l.drop 2)).1 = true then (enc (numL (l.drop 2)).1, 2 + (numL (l.drop 2)).2, 0) else ([], 0, 73) := by
 have hd := digN_bd (l.drop 2)
 have hd8 := digN_bd (l.drop 8)
 have h8 := digN_len (l.drop 8)
 rw [List.length_drop] at h8
 have e1 : numU (l.drop 1) = digN (l.drop 2) := by unfold numU; rw [getD_drops, if_pos h, List.drop_drop]
 have e7 : numU (l.drop 7) = if (l.getD 7 0).toNat = 117 then digN (l.drop 8) else -1 := by unfold numU; rw [getD_drop, List.drop_drop]
 unfold escN numL
 rw [e1, e7, getD_drops, getD_drops, List.drop_drop, List.length_drop]
 generalize digN (l.drop 2) = n at hd ⊢
 generalize digN (l.drop 8) = m at hd8 h8 ⊢
 have no : ∀ x : Int, ¬ (0 ≤ x ∧ x ≤ 1114111 ∧ (x < 55296 ∨ 57343 < x)) → ¬ letterB x = true := fun x hx h => hx ((letter_iff x).1 h)
 have yes : ∀ x : Int, (0 ≤ x ∧ x ≤ 1114111 ∧ (x < 55296 ∨ 57343 < x)) → letterB x = true := fun x hx => (letter_iff x).2 hx
 by_cases a : n < 0
 ·rw [if_pos (show n < 0 ∨ (56320 ≤ n ∧ n ≤ 57343) by omega), if_pos (show n < 55296 ∨ 57344 ≤ n by omega), if_neg (no _ (by simp only; omega))]; rfl
 ·by_cases b : n < 55296 ∨ 57344 ≤ n
  ·rw [if_neg (show ¬ (n < 0 ∨ (56320 ≤ n ∧ n ≤ 57343)) by omega), if_pos (show n < 55296 ∨ 57343 < n by omega), if_pos b, if_pos (yes _ (by simp only; omega))]; rfl
  ·rw [if_neg b]
   by_cases c : 56320 ≤ n
   ·rw [if_pos (show n < 0 ∨ (56320 ≤ n ∧ n ≤ 57343) by omega), if_pos (Or.inl c), if_neg (no _ (by simp only; omega))]; rfl
   ·rw [if_neg (show ¬ (n < 0 ∨ (56320 ≤ n ∧ n ≤ 57343)) by omega), if_neg (show ¬ (n < 55296 ∨ 57343 < n) by omega)]
    by_cases d : l.length - 2 < 6 ∨ (l.getD (2 + 4) 0).toNat ≠ 92 ∨ (l.getD (2 + 5) 0).toNat ≠ 117
    ·rw [if_pos (Or.inr d), if_neg (no (-1) (by omega))]
     by_cases e : l.length < 12 ∨ (l.getD 6 0).toNat ≠ 92
     ·rw [if_pos e]; rfl
     ·rw [if_neg e]
      have f : ¬ (l.getD 7 0).toNat = 117 := by intro f; rcases d with d | d | d; omega; exact e (Or.inr d); exact d f
      rw [if_neg f, if_pos (by omega)]; rfl
    ·have d6 : (l.getD 6 0).toNat = 92 := by have : ¬ (l.getD (2 + 4) 0).toNat ≠ 92 := fun h => d (Or.inr (Or.inl h)); exact Decidable.not_not.1 this
     have d7 : (l.getD 7 0).toNat = 117 := by have : ¬ (l.getD (2 + 5) 0).toNat ≠ 117 := fun h => d (Or.inr (Or.inr h)); exact Decidable.not_not.1 this
     have d8 : ¬ l.length - 2 < 6 := fun h => d (Or.inl h)
     rw [if_neg (show ¬ (56320 ≤ n ∨ l.length - 2 < 6 ∨ (l.getD (2 + 4) 0).toNat ≠ 92 ∨ (l.getD (2 + 5) 0).toNat ≠ 117) from fun h => h.elim c d), if_pos d7]
     by_cases e : m < 56320 ∨ 57344 ≤ m
     ·rw [show (if m < 56320 ∨ 57343 < m then ((0 : Int), (0 : Int)) else (65536 + 1024 * (n - 55296) + m - 56320, 12)) = (0, 0) from if_pos (by omega), if_pos e, if_neg (no (-1) (by omega))]
      split <;> rfl
     ·have h12 := h8 (by omega)
      rw [if_neg (show ¬ (l.length < 12 ∨ (l.getD 6 0).toNat ≠ 92) by omega), if_neg (show ¬ (m < 56320 ∨ 57343 < m) by omega), if_neg e, if_pos (yes _ (by simp only; omega))]
      unfold ofR
      rw [if_neg (show ¬ (12 : Int) = 0 by decide)]
      simp only
      rw [show 65536 + 1024 * (n - 55296) + m - 56320 = 65536 + (n - 55296) * 1024 + m - 56320 by omega]
      rfl
theorem escR_L (l : List UInt8) : ofR (escR l) = escL l := by
 unfold escR escL
 by_cases a : l.length < 2
 ·rw [if_pos a, if_pos a]; rfl
 ·rw [if_neg a, if_neg a]
  by_cases b : (l.getD 1 0).toNat = 34 ∨ (l.getD 1 0).toNat = 92 ∨ (l.getD 1 0).toNat = 47
  ·have hm : ¬ meanB (l.getD 1 0).toNat ≠ 0 := by
    rcases b with b | b | b <;> rw [b] <;> decide
   rw [if_pos b, if_neg hm, if_pos b]
   unfold ofR
   rw [if_neg (show ¬ (2 : Int) = 0 by decide)]
   simp only
   rw [(enc_ascii _ (by omega)).1]
   simp
  ·rw [if_neg b]
   by_cases c : meanB (l.getD 1 0).toNat = 0
   ·rw [if_pos c, if_neg (fun h => h c), if_neg b]
    by_cases d : (l.getD 1 0).toNat = 117
    ·rw [if_pos d, escN_u l d (by omega)]
    ·rw [if_neg d]
     have e1 : numU (l.drop 1) = -1 := by unfold numU; rw [getD_drops, if_neg d]
     unfold escN
     rw [e1, if_pos (by omega)]; rfl
   ·rw [if_neg c, if_pos c]
    have hb := mean_bd _ c
    unfold ofR
    rw [if_neg (show ¬ (2 : Int) = 0 by decide)]
    simp only
    rw [(enc_ascii _ (by omega)).1]
    simp
theorem escR_letter (l : List UInt8) (h : (escR l).2 ≠ 0) : letterB (escR l).1 = true := by
 have h1 := numU_bd (l.drop 1)
 have h7 := numU_bd (l.drop 7)
 unfold escR at h ⊢
 split
 ·rename_i a; rw [if_pos a] at h; exact absurd rfl h
 ·rename_i a
  rw [if_neg a] at h
  split
  ·exact (enc_ascii _ (by omega)).2
  ·rename_i b
   rw [if_neg b] at h
   split
   ·rename_i c
    rw [if_pos c] at h
    unfold escN at h ⊢
    generalize numU (l.drop 1) = n at h1 h ⊢
    generalize numU (l.drop 7) = m at h7 h ⊢
    rw [letter_iff]
    split
    ·rename_i d; rw [if_pos d] at h; exact absurd rfl h
    ·rename_i d
     rw [if_neg d] at h
     split
     ·simp only; omega
     ·rename_i e
      rw [if_neg e] at h
      split
      ·rename_i f; rw [if_pos f] at h; exact absurd rfl h
      ·rename_i f
       rw [if_neg f] at h
       split
       ·rename_i g; rw [if_pos g] at h; exact absurd rfl h
       ·simp only; omega
   ·rename_i c
    have hb := mean_bd _ c
    exact (enc_ascii _ (by omega)).2
theorem one_enc (l : List UInt8) (h : (oneL l).2.2 = 0) : ∃ r : Int, letterB r = true ∧ (oneL l).1 = enc r := by
 unfold oneL at h ⊢
 split
 ·rename_i c
  rw [if_pos c, ← escR_L] at h
  rw [← escR_L]
  unfold ofR at h ⊢
  by_cases d : (escR l).2 = 0
  ·rw [if_pos d] at h; simp at h
  ·rw [if_neg d]
   exact ⟨_, escR_letter l d, rfl⟩
 ·rename_i c
  rw [if_neg c] at h
  unfold plainL at h ⊢
  cases ht : tk l with
  | none => rw [ht] at h; simp at h
  | some d =>
   obtain ⟨r, n⟩ := d
   obtain ⟨hl, he, h1, h2⟩ := tk_some ht
   exact ⟨r, hl, he.symm⟩
theorem readL_good : ∀ (n : Nat) (l : List UInt8) (r : List UInt8 × Int × Int), readL n l = some r → r.2.2 = 0 → 1 ≤ r.2.1 ∧ r.2.1 ≤ l.length ∧ ∃ xs : List Int, (∀ x ∈ xs, letterB x = true) ∧ r.1 = encs xs
 | 0, l, r, h, he => by simp [readL] at h
 | n + 1, l, r, h, he => by
  rw [readL] at h
  by_cases e1 : l = []
  ·rw [if_pos e1] at h; cases h; simp at he
  ·rw [if_neg e1] at h
   have hlen : 1 ≤ l.length := by cases l with | nil => exact absurd rfl e1 | cons => simp
   by_cases e2 : (l.getD 0 0).toNat = 34
   ·rw [if_pos e2] at h; cases h
    exact ⟨by simp, by simp only; omega, [], by simp, rfl⟩
   ·rw [if_neg e2] at h
    by_cases e3 : (l.getD 0 0).toNat < 32
    ·rw [if_pos e3] at h; cases h; simp at he
    ·rw [if_neg e3] at h
     by_cases e4 : (oneL l).2.2 = 0
     ·rw [if_pos e4] at h
      obtain ⟨q, hq, hr⟩ := Option.map_eq_some_iff.1 h
      obtain ⟨b1, b2, _⟩ := one_bd l e4
      by_cases e5 : q.2.2 = 0
      ·rw [if_pos e5] at hr
       obtain ⟨c1, c2, xs, c3, c4⟩ := readL_good n _ q hq e5
       obtain ⟨x, d1, d2⟩ := one_enc l e4
       rw [List.length_drop] at c2
       subst hr
       refine ⟨by simp only; omega, by simp only; omega, x :: xs, ?_, ?_⟩
       ·intro y hy
        rcases List.mem_cons.1 hy with rfl | hy
        ·exact d1
        ·exact c3 y hy
       ·simp only
        rw [d2, c4, encs]
      ·rw [if_neg e5] at hr
       subst hr
       exact absurd he e5
     ·rw [if_neg e4] at h
      cases h
      exact absurd he e4
set_option maxRecDepth 100000 in
theorem hv_hexN : ∀ a : Nat, a < 16 → hv (hexN a).toNat = a := by decide +kernel
theorem one_plain (n : Nat) (h : letterB (n : Int) = true) (h92 : ((enc (n : Int)).getD 0 0).toNat ≠ 92) (x : List UInt8) : oneL (enc (n : Int) ++ x) = (enc (n : Int), ((enc (n : Int)).length : Int), 0) := by
 unfold oneL
 have hg : (enc (n : Int) ++ x).getD 0 0 = (enc (n : Int)).getD 0 0 := getD_app _ _ 0 (enc_len_pos _)
 rw [hg, if_neg h92]
 unfold plainL
 rw [tk_enc n h x]
 simp
theorem one_ascii (c : Nat) (hc : c < 128) (x : List UInt8) : oneL (pieceN c ++ x) = ([c.toUInt8], ((pieceN c).length : Int), 0) := by
 have he := enc_ascii c hc
 have short : ∀ (a : UInt8) (b : UInt8), meanB a.toNat = b → b ≠ 0 → oneL ([92, a] ++ x) = ([b], 2, 0) := by
  intro a b h1 h2
  unfold oneL escL
  rw [if_pos (by rfl), if_neg (by simp)]
  simp only [List.cons_append, List.nil_append, List.getD_cons_succ, List.getD_cons_zero]
  rw [h1, if_pos h2]
 unfold pieceN
 by_cases c8 : c = 8
 ·subst c8; exact short 98 8 (by decide) (by decide)
 ·rw [if_neg c8]
  by_cases c9 : c = 9
  ·subst c9; exact short 116 9 (by decide) (by decide)
  ·rw [if_neg c9]
   by_cases c10 : c = 10
   ·subst c10; exact short 110 10 (by decide) (by decide)
   ·rw [if_neg c10]
    by_cases c12 : c = 12
    ·subst c12; exact short 102 12 (by decide) (by decide)
    ·rw [if_neg c12]
     by_cases c13 : c = 13
     ·subst c13; exact short 114 13 (by decide) (by decide)
     ·rw [if_neg c13]
      by_cases cq : c = 34 ∨ c = 92
      ·rw [if_pos cq]
       unfold oneL escL
       rw [if_pos (by rfl), if_neg (by simp)]
       simp only [List.cons_append, List.nil_append, List.getD_cons_succ, List.getD_cons_zero]
       rw [u8 c (by omega)]
       rcases cq with rfl | rfl
       ·rw [if_neg (by decide), if_pos (by decide)]; rfl
       ·rw [if_neg (by decide), if_pos (by decide)]; rfl
      ·rw [if_neg cq]
       by_cases c32 : c < 32
       ·rw [if_pos c32]
        unfold oneL escL
        rw [if_pos (by rfl), if_neg (by simp)]
        simp only [List.cons_append, List.nil_append, List.getD_cons_succ, List.getD_cons_zero]
        rw [if_neg (by decide), if_neg (by decide), if_pos (by decide)]
        have hd : digN (48 :: 48 :: hexN (c / 16) :: hexN (c % 16) :: x) = (c : Int) := by
         unfold digN
         rw [if_neg (by simp)]
         simp only [List.getD_cons_succ, List.getD_cons_zero]
         rw [hv_hexN _ (by omega), hv_hexN _ (by omega), show hv (48 : UInt8).toNat = 0 by decide, if_neg (by omega)]
         omega
        have hn : numL (48 :: 48 :: hexN (c / 16) :: hexN (c % 16) :: x) = ((c : Int), 4) := by
         unfold numL
         rw [hd, if_pos (by omega)]
        simp only [List.drop_succ_cons, List.drop_zero]
        rw [hn]
        simp only
        rw [if_pos he.2, he.1]
        rfl
       ·rw [if_neg c32]
        have := one_plain c he.2 (by rw [he.1]; simp only [List.getD_cons_zero]; rw [u8 c (by omega)]; omega) x
        rw [he.1] at this
        exact this
theorem encN_high (n : Nat) (h : 128 ≤ n) : ∀ x ∈ encN n, 128 ≤ x := by
 unfold encN
 rw [if_neg (by omega)]
 split
 ·intro x hx; simp at hx; omega
 ·split
  ·intro x hx; simp at hx; omega
  ·intro x hx; simp at hx; omega
theorem enc_high (n : Nat) (h : letterB (n : Int) = true) (h8 : 128 ≤ n) : ∀ x ∈ enc (n : Int), 128 ≤ x.toNat := by
 obtain ⟨e, hb⟩ := enc_N n h
 intro x hx
 rw [e] at hx
 obtain ⟨y, hy, rfl⟩ := List.mem_map.1 hx
 rw [u8 y (hb y hy)]
 exact encN_high n h8 y hy
theorem pieceN_high (c : UInt8) (h : 128 ≤ c.toNat) : pieceN c.toNat = [c] := by
 unfold pieceN
 rw [if_neg (by omega), if_neg (by omega), if_neg (by omega), if_neg (by omega), if_neg (by omega), if_neg (by omega), if_neg (by omega)]
 congr 1
 exact UInt8.toNat_inj.1 (u8 _ (UInt8.toNat_lt _))
theorem inner_high : ∀ l : List UInt8, (∀ x ∈ l, 128 ≤ x.toNat) → inner l = l
 | [], _ => rfl
 | c :: l, h => by rw [inner, pieceN_high c (h c (List.mem_cons_self ..)), inner_high l (fun x hx => h x (List.mem_cons_of_mem _ hx))]; rfl
set_option maxRecDepth 100000 in
theorem pieceN_first : ∀ c : Nat, c < 256 → ((pieceN c).getD 0 0).toNat ≠ 34 ∧ 32 ≤ ((pieceN c).getD 0 0).toNat ∧ 1 ≤ (pieceN c).length := by decide +kernel
theorem one_letter (n : Nat) (h : letterB (n : Int) = true) (x : List UInt8) : oneL (inner (enc (n : Int)) ++ x) = (enc (n : Int), ((inner (enc (n : Int))).length : Int), 0)
  ∧ ((inner (enc (n : Int)) ++ x).getD 0 0).toNat ≠ 34 ∧ 32 ≤ ((inner (enc (n : Int)) ++ x).getD 0 0).toNat ∧ 1 ≤ (inner (enc (n : Int))).length := by
 by_cases c : n < 128
 ·have he := (enc_ascii n c).1
  have hi : inner (enc (n : Int)) = pieceN n := by rw [he, inner, inner, List.append_nil, u8 n (by omega)]
  obtain ⟨f1, f2, f3⟩ := pieceN_first n (by omega)
  rw [hi, getD_app _ _ 0 f3]
  refine ⟨?_, f1, f2, f3⟩
  rw [one_ascii n c x, he]
 ·have hh := enc_high n h (by omega)
  have hi := inner_high _ hh
  have hp := enc_len_pos (n : Int)
  have hm : (enc (n : Int)).getD 0 0 ∈ enc (n : Int) := by
   rw [List.getD_eq_getElem?_getD, List.getElem?_eq_getElem hp]
   exact List.getElem_mem hp
  have := hh _ hm
  rw [hi, getD_app _ _ 0 hp]
  exact ⟨one_plain n h (by omega) x, by omega, by omega, hp⟩
theorem inner_encs (r : Int) (xs : List Int) (x : List UInt8) : inner (encs (r :: xs)) ++ x = inner (enc r) ++ (inner (encs xs) ++ x) := by
 rw [encs, inner_app, List.append_assoc]
theorem readL_inner (x : List UInt8) : ∀ (xs : List Int) (n : Nat), (∀ y ∈ xs, letterB y = true) → xs.length < n → readL n (inner (encs xs) ++ 34 :: x) = some (encs xs, ((inner (encs xs)).length : Int) + 1, 0)
 | [], n, h, hn => by
  obtain ⟨n, rfl⟩ : ∃ m, n = m + 1 := ⟨n - 1, by omega⟩
  rw [readL]
  rfl
 | r :: xs, n, h, hn => by
  rw [List.length_cons] at hn
  obtain ⟨n, rfl⟩ : ∃ m, n = m + 1 := ⟨n - 1, by omega⟩
  have hr := h r (List.mem_cons_self ..)
  obtain ⟨h0, _, _⟩ := (letter_iff r).1 hr
  obtain ⟨c, rfl⟩ : ∃ m : Nat, r = m := ⟨r.toNat, by omega⟩
  obtain ⟨f0, f1, f2, f3⟩ := one_letter c hr (inner (encs xs) ++ 34 :: x)
  have ih := readL_inner x xs n (fun y hy => h y (List.mem_cons_of_mem _ hy)) (by omega)
  rw [inner_encs, readL, if_neg (fun e => by have := congrArg List.length e; rw [List.length_append, List.length_nil] at this; omega), if_neg f1, if_neg (by omega), f0]
  simp only
  rw [if_pos trivial, Int.toNat_natCast, List.drop_left, ih, Option.map_some]
  simp only
  rw [if_pos trivial, encs, inner_app, List.length_append]
  congr 3
theorem numL_pos (l : List UInt8) (h : letterB (numL l).1 = true) : 4 ≤ (numL l).2 := by
 obtain ⟨h0, _, _⟩ := (letter_iff _).1 h
 unfold numL at h0 ⊢
 split
 ·simp
 ·rename_i c
  rw [if_neg c] at h0
  split
  ·rename_i d; rw [if_pos d] at h0; simp at h0
  ·rename_i d
   rw [if_neg d] at h0
   split
   ·rename_i e; rw [if_pos e] at h0; simp at h0
   ·simp
theorem one_le (l : List UInt8) (h : (oneL l).2.2 = 0) : ((oneL l).1.length : Int) ≤ (oneL l).2.1 := by
 unfold oneL at h ⊢
 split
 ·rename_i c
  rw [if_pos c] at h
  unfold escL at h ⊢
  by_cases a : l.length < 2
  ·rw [if_pos a] at h; simp at h
  ·rw [if_neg a] at h ⊢
   by_cases b : meanB (l.getD 1 0).toNat ≠ 0
   ·rw [if_pos b]; simp
   ·rw [if_neg b] at h ⊢
    by_cases d : (l.getD 1 0).toNat = 34 ∨ (l.getD 1 0).toNat = 92 ∨ (l.getD 1 0).toNat = 47
    ·rw [if_pos d]; simp
    ·rw [if_neg d] at h ⊢
     by_cases e : (l.getD 1 0).toNat = 117
     ·rw [if_pos e] at h ⊢
      by_cases f : letterB (numL (l.drop 2)).1 = true
      ·rw [if_pos f]
       have h4 := enc_len4 (numL (l.drop 2)).1
       have h5 := numL_pos _ f
       simp only; omega
      ·rw [if_neg f] at h; simp at h
     ·rw [if_neg e] at h; simp at h
 ·rename_i c
  rw [if_neg c] at h
  unfold plainL at h ⊢
  cases ht : tk l with
  | none => rw [ht] at h; simp at h
  | some d =>
   obtain ⟨r, n⟩ := d
   simp only
   rw [List.length_take]
   omega
theorem read_l0s (s : ByteArray) : ∀ (n k : Nat) (o : ByteArray) (p : Nat) (r : List UInt8 × Int × Int), readL n (s.data.toList.drop p) = some r → p ≤ s.size → n + 10 < k → o.size + (s.size - p) ≤ 140737488355328 →
  quote_Read.l0 k s o p = some (endR o p r)
 | 0, k, o, p, r, h, hp, hk, ho => by simp [readL] at h
 | n + 1, k, o, p, r, h, hp, hk, ho => by
  obtain ⟨k, rfl⟩ : ∃ m, k = m + 1 := ⟨k - 1, by omega⟩
  have hl : (s.data.toList.drop p).length = s.size - p := by rw [List.length_drop, data_length]
  rw [readL] at h
  rw [quote_Read.l0]
  by_cases e1 : p = s.size
  ·have e : s.data.toList.drop p = [] := List.eq_nil_of_length_eq_zero (by omega)
   rw [if_pos e] at h
   rw [if_pos e1]
   cases h; rfl
  ·have e : s.data.toList.drop p ≠ [] := fun e => by rw [e] at hl; simp at hl; omega
   rw [if_neg e] at h
   rw [if_neg e1, if_neg (by omega), byte_bt]
   rw [getD_drop] at h
   by_cases e2 : (s.data.toList.getD p 0).toNat = 34
   ·rw [if_pos e2] at h
    rw [if_pos (by omega)]
    cases h
    unfold endR
    rw [if_pos rfl]
    congr 2
    apply ofList_eq
    rw [ByteArray.data_append, Array.toList_append]; simp
   ·rw [if_neg e2] at h
    rw [if_neg (by omega)]
    by_cases e3 : (s.data.toList.getD p 0).toNat < 32
    ·rw [if_pos e3] at h
     rw [if_pos (by omega)]
     cases h; rfl
    ·rw [if_neg e3] at h
     rw [if_neg (by omega), read_one k s p (by omega), Option.bind_some]
     by_cases e4 : (oneL (s.data.toList.drop p)).2.2 = 0
     ·rw [if_pos e4] at h
      obtain ⟨q, hq, hr⟩ := Option.map_eq_some_iff.1 h
      obtain ⟨b1, b2, b3⟩ := one_bd _ e4
      have b4 := one_le _ e4
      unfold packR
      simp only
      have hsz : (⟨(oneL (s.data.toList.drop p)).1.toArray⟩ : ByteArray).size = (oneL (s.data.toList.drop p)).1.length := by
       show ((oneL (s.data.toList.drop p)).1.toArray).size = _
       rw [List.size_toArray]
      rw [if_pos e4, if_pos (by omega), if_pos (by omega), if_pos (by omega)]
      rw [List.drop_drop] at hq
      rw [read_l0s s n k _ _ q hq (by omega) (by omega) (by rw [ByteArray.size_append]; omega)]
      congr 1
      subst hr
      unfold endR
      by_cases e5 : q.2.2 = 0
      ·rw [if_pos e5, if_pos e5, if_pos rfl]
       simp only [Prod.mk.injEq, and_true]
       refine ⟨?_, by omega⟩
       apply ofList_eq
       simp [ByteArray.data_append, Array.toList_append]
      ·rw [if_neg e5, if_neg e5, if_neg e5]
     ·rw [if_neg e4] at h
      unfold packR
      simp only
      rw [if_neg e4]
      cases h
      unfold endR
      rw [if_neg e4]
theorem read_any (k : Nat) (s : ByteArray) (hk : s.size + 20 < k) (hs : s.size ≤ 140737488355328) : ∃ r, readS (s.size + 1) s = some r ∧ quote_Read.f k s = some r := by
 unfold readS quote_Read.f
 rw [if_pos (show s.size ≤ 4611686018427387904 by omega)]
 by_cases e1 : s.size = 0
 ·rw [if_pos e1]; exact ⟨_, rfl, if_pos e1⟩
 ·rw [if_neg e1]
  have hb : bt s 0 = (((s.data.toList.getD 0 0).toNat : Nat) : Int) := byte_bt s 0
  rw [hb]
  by_cases e2 : (s.data.toList.getD 0 0).toNat = 34
  ·obtain ⟨q, hq⟩ := readL_some (s.size + 1) (s.data.toList.drop 1) (by rw [List.length_drop, data_length]; omega)
   rw [if_pos e2, if_pos (show (((s.data.toList.getD 0 0).toNat : Nat) : Int) = 34 by omega), hq, read_l0s s (s.size + 1) k ⟨#[]⟩ 1 q hq (by omega) (by omega) (by show 0 + _ ≤ _; omega)]
   exact ⟨_, rfl, if_neg e1⟩
  ·rw [if_neg e2, if_neg (show ¬ (((s.data.toList.getD 0 0).toNat : Nat) : Int) = 34 by omega)]
   exact ⟨_, rfl, if_neg e1⟩
theorem encs_ge : ∀ xs : List Int, xs.length ≤ (encs xs).length
 | [] => Nat.le_refl _
 | r :: xs => by
  have := encs_ge xs
  have := enc_len_pos r
  rw [encs, List.length_append, List.length_cons]; omega
theorem valid_xs (s : ByteArray) (h : Lib.validD s.data.toList = true) : ∃ xs : List Int, (∀ y ∈ xs, letterB y = true) ∧ encs xs = s.data.toList ∧ xs.length ≤ s.size := by
 rw [valid_lets _ _ (Nat.le_refl _)] at h
 obtain ⟨xs, hx⟩ := Option.isSome_iff_exists.1 h
 obtain ⟨a, b⟩ := of_lets _ _ xs (Nat.le_refl _) hx
 refine ⟨xs, a, b, ?_⟩
 have := encs_ge xs
 rw [b, data_length] at this
 exact this
theorem quoted_len (l : List UInt8) : (quoted l).length = (inner l).length + 2 := by
 unfold quoted; simp
theorem writeS_yes (s : ByteArray) (h : Lib.validD s.data.toList = true) : writeS s = (⟨(quoted s.data.toList).toArray⟩, true) := by unfold writeS; rw [if_pos h]
theorem inner_size (s : ByteArray) : (inner s.data.toList).length ≤ 6 * s.size := by
 have := inner_len s.data.toList
 rw [data_length] at this; exact this
end Go.Proofs.YthhmmaihbjhhgaaGreatDoor.Giv
namespace Go.Proofs.YthhmmaihbjhhgaaGreatDoor.Giv
open Go.RowKit Go.Proofs.YthhmmaihbjhhgaaGreatDoorW.PrintWords Go.Proofs.YthhmmaihbjhhgaaGreatDoorW.PrintLast Go.Proofs.YthhmmaihbjhhgaaGreatDoorW.PrintMore
open Go.Proofs.YthhmmaihbjhhgaaGreatDoor.U1 Go.Proofs.YthhmmaihbjhhgaaGreatDoor.Q1 Go.Proofs.YthhmmaihbjhhgaaGreatDoor.J0 Go.Proofs.YthhmmaihbjhhgaaGreatDoor.J1
abbrev B := List UInt8
def sk (l : B) : B := l.drop (skips l)
def hd (l : B) : Nat := ((sk l).getD 0 0).toNat
def tk1 (l : B) (c : Nat) : Bool × B := if hd l = c ∧ sk l ≠ [] then (true, (sk l).drop 1) else (false, sk l)
def rq (l : B) : B × B × Int := match readL (l.length + 1) (l.drop 1) with
 | some q => if q.2.2 = 0 then (q.1, l.drop (q.2.1.toNat + 1), 0) else ([], [], q.2.2)
 | none => ([], [], 71)
def rn (t : B) : Int × Bool := readN ⟨t.toArray⟩
def row (d : Nat) (k : Int) (key t : ByteArray) (n : Int) : S40 := ⟨(d : Int), k, key, t, n⟩
def e0 : ByteArray := ⟨#[]⟩
def en (ob : Bool) : Nat := if ob then 125 else 93
def pk (l : B) (keys : List ByteArray) : ByteArray × B × Int :=
 if hd l = 34 then (if (rq (sk l)).2.2 = 0 then (if hasB ⟨(rq (sk l)).1.toArray⟩ keys = true then (e0, [], 82) else if (tk1 (rq (sk l)).2.1 58).1 = true then (⟨(rq (sk l)).1.toArray⟩, (tk1 (rq (sk l)).2.1 58).2, 0) else (e0, [], 80)) else (e0, [], (rq (sk l)).2.2))
 else (e0, [], 80)
def wd (l : B) (d : Nat) (key : ByteArray) : Int × B × List S40 :=
 if [110, 117, 108, 108] <+: l then (0, l.drop 4, [row d 1 key e0 0])
 else if [102, 97, 108, 115, 101] <+: l then (0, l.drop 5, [row d 2 key e0 0])
 else if [116, 114, 117, 101] <+: l then (0, l.drop 4, [row d 3 key e0 0])
 else (80, [], [])
def cont (L : B → Int × B × List S40) (l : B) (ob : Bool) : Int × B × List S40 :=
 if (tk1 l (en ob)).1 = true then (0, (tk1 l (en ob)).2, []) else if (tk1 (tk1 l (en ob)).2 44).1 = true then L (tk1 (tk1 l (en ob)).2 44).2 else (80, [], [])
def pma (L : B → Int × B × List S40) (V : Int × B × List S40) (ob : Bool) : Int × B × List S40 :=
 if V.1 = 0 then ((cont L V.2.1 ob).1, (cont L V.2.1 ob).2.1, V.2.2 ++ (cont L V.2.1 ob).2.2) else (V.1, [], [])
def kindOf (ob : Bool) : Int := if ob then 7 else 6
mutual
def pv : Nat → B → Nat → ByteArray → Int × B × List S40
 | 0, _, _, _ => (-1, [], [])
 | n + 1, l, d, key =>
  if hd l = 91 then (if 64 ≤ d then (81, [], []) else ((pms n ((sk l).drop 1) d false).1, (pms n ((sk l).drop 1) d false).2.1, row d 6 key e0 0 :: (pms n ((sk l).drop 1) d false).2.2))
  else if hd l = 123 then (if 64 ≤ d then (81, [], []) else ((pms n ((sk l).drop 1) d true).1, (pms n ((sk l).drop 1) d true).2.1, row d 7 key e0 0 :: (pms n ((sk l).drop 1) d true).2.2))
  else if hd l = 34 then (if (rq (sk l)).2.2 = 0 then (0, (rq (sk l)).2.1, [row d 5 key ⟨(rq (sk l)).1.toArray⟩ 0]) else ((rq (sk l)).2.2, [], []))
  else if hd l = 45 ∨ (48 ≤ hd l ∧ hd l ≤ 57) then (if (rn ((sk l).take (numsL (sk l)))).2 = true then (0, (sk l).drop (numsL (sk l)), [row d 4 key e0 (rn ((sk l).take (numsL (sk l)))).1]) else (83, [], []))
  else wd (sk l) d key
def pms : Nat → B → Nat → Bool → Int × B × List S40
 | 0, _, _, _ => (-1, [], [])
 | n + 1, l, d, ob => if (tk1 l (en ob)).1 = true then (0, (tk1 l (en ob)).2, []) else pml n (tk1 l (en ob)).2 d ob []
def pml : Nat → B → Nat → Bool → List ByteArray → Int × B × List S40
 | 0, _, _, _, _ => (-1, [], [])
 | n + 1, l, d, ob, keys =>
  if ob = true then (if (pk l keys).2.2 = 0 then pma (fun x => pml n x d ob (keys ++ [(pk l keys).1])) (pv n (pk l keys).2.1 (d + 1) (pk l keys).1) ob else ((pk l keys).2.2, [], []))
  else pma (fun x => pml n x d ob keys) (pv n l (d + 1) e0) ob
end
theorem drop_sk (s : ByteArray) (p : Nat) (l : B) (h : s.data.toList.drop p = l) (hp : p ≤ s.size) : s.data.toList.drop (skipP s p) = sk l ∧ nextC s p = hd l ∧ skipP s p ≤ s.size ∧ (skipP s p < s.size ↔ sk l ≠ []) := by
 have h1 : s.data.toList.drop (skipP s p) = sk l := by
  unfold skipP sk
  rw [← List.drop_drop, h]
 have h2 := skip_le s p hp
 refine ⟨h1, ?_, h2, ?_⟩
 ·unfold nextC hd
  rw [← h1, getD_drops]; rfl
 ·rw [← h1]
  constructor
  ·intro hlt e
   have := congrArg List.length e
   rw [List.length_drop, data_length] at this
   simp at this; omega
  ·intro hne
   by_cases c : skipP s p < s.size
   ·exact c
   ·exact absurd (List.drop_eq_nil_of_le (by rw [data_length]; omega)) hne
theorem takes_sim (s : ByteArray) (p : Nat) (l : B) (c : Nat) (h : s.data.toList.drop p = l) (hp : p ≤ s.size) : (takesP s p c).1 = (tk1 l c).1 ∧ s.data.toList.drop (takesP s p c).2 = (tk1 l c).2 ∧ (takesP s p c).2 ≤ s.size := by
 obtain ⟨h1, h2, h3, h4⟩ := drop_sk s p l h hp
 refine ⟨?_, ?_, takes_le s p c hp⟩
 ·unfold takesP tk1
  rw [h2]
  by_cases c1 : hd l = c ∧ sk l ≠ []
  ·rw [if_pos c1, if_pos ⟨c1.1, h4.2 c1.2⟩]
  ·rw [if_neg c1, if_neg (fun x => c1 ⟨x.1, h4.1 x.2⟩)]
 ·unfold takesP tk1
  rw [h2]
  by_cases c1 : hd l = c ∧ sk l ≠ []
  ·rw [if_pos c1, if_pos ⟨c1.1, h4.2 c1.2⟩, ← h1, List.drop_drop]
  ·rw [if_neg c1, if_neg (fun x => c1 ⟨x.1, h4.1 x.2⟩)]; exact h1
theorem ext_list (s : ByteArray) (p : Nat) : (s.extract p s.size).data.toList = s.data.toList.drop p := by
 rw [ByteArray.data_extract, Array.toList_extract]
 simp
 rw [List.take_of_length_le (by rw [List.length_drop, data_length]; exact Nat.le_refl _)]
theorem rq_sim (s : ByteArray) (q : Nat) (l : B) (h : s.data.toList.drop q = l) (hq : q ≤ s.size) (hs : s.size ≤ 140737488355328) (h34 : (l.getD 0 0).toNat = 34) (k : Nat) (hk : s.size + 20 < k) :
  ∃ r, quote_Read.f k (s.extract q s.size) = some r ∧ r.2.2 = (rq l).2.2 ∧ 0 ≤ r.2.1 ∧ (q : Int) + r.2.1 ≤ s.size ∧ (r.2.2 = 0 → r.1 = ⟨(rq l).1.toArray⟩ ∧ s.data.toList.drop (q + r.2.1.toNat) = (rq l).2.1) := by
 have hS : (s.extract q s.size).data.toList = l := by rw [ext_list, h]
 have hz : (s.extract q s.size).size = l.length := by rw [← data_length, hS]
 have hlen : l.length + q = s.size := by rw [← h, List.length_drop, data_length]; omega
 obtain ⟨r, h1, h2⟩ := read_any k (s.extract q s.size) (by omega) (by omega)
 refine ⟨r, h2, ?_⟩
 have hne : l ≠ [] := by rintro rfl; simp at h34
 have hl0 : l.length ≠ 0 := fun e => hne (List.eq_nil_of_length_eq_zero e)
 unfold readS at h1
 rw [if_neg (by omega), hS, if_pos h34, hz] at h1
 obtain ⟨q0, h3, h4⟩ := Option.map_eq_some_iff.1 h1
 unfold rq
 rw [h3]
 unfold endR at h4
 by_cases c : q0.2.2 = 0
 ·rw [if_pos c] at h4
  have hg := readL_good _ _ _ h3 c
  rw [List.length_drop] at hg
  simp only [c, if_pos]
  rw [← h4]
  refine ⟨rfl, by simp only; omega, by simp only; omega, fun _ => ⟨?_, ?_⟩⟩
  ·simp only; exact ofList_eq (by simp [ByteArray.data_append])
  ·simp only
   rw [← h, List.drop_drop]
   congr 1
   omega
 ·rw [if_neg c] at h4
  simp only [c, if_false]
  rw [← h4]
  exact ⟨rfl, Int.le_refl _, by simp only; omega, fun e => absurd e c⟩
theorem num_sim (s : ByteArray) (q : Nat) (l : B) (h : s.data.toList.drop q = l) (_hq : q ≤ s.size) :
  numberS s q = (if (rn (l.take (numsL l))).2 = true then ((rn (l.take (numsL l))).1, 0, q + numsL l) else (0, 83, q)) := by
 have e : numP s q = q + numsL l := by unfold numP; rw [h]
 have e2 : s.extract q (numP s q) = ⟨(l.take (numsL l)).toArray⟩ := by
  apply ofList_eq
  rw [e, ByteArray.data_extract, Array.toList_extract, ← h]
  simp [List.take_drop]
 unfold numberS rn
 rw [e2, e]
theorem nums_le : ∀ l : B, numsL l ≤ l.length
 | [] => Nat.le_refl _
 | c :: l => by
  have := nums_le l
  unfold numsL; split
  ·simp only [List.length_cons]; omega
  ·simp only [List.length_cons]; omega
theorem word_sim (s : ByteArray) (q : Nat) (l : B) (h : s.data.toList.drop q = l) (hq : q ≤ s.size) (out : List S40) (d : Nat) (key : ByteArray) :
  ∃ p' o', wordF s q out ⟨d, 0, key, e0, 0⟩ = ((wd l d key).1, p', o') ∧ p' ≤ s.size ∧ ((wd l d key).1 = 0 → s.data.toList.drop p' = (wd l d key).2.1 ∧ o' = out ++ (wd l d key).2.2) := by
 have len : ∀ t : B, t <+: l → q + t.length ≤ s.size := by
  intro t ht
  have := ht.length_le
  rw [← h, List.length_drop, data_length] at this
  omega
 unfold wordF wd
 rw [h]
 by_cases c1 : [110, 117, 108, 108] <+: l
 ·rw [if_pos c1, if_pos c1]
  exact ⟨_, _, rfl, len _ c1, fun _ => ⟨by rw [← h, List.drop_drop], rfl⟩⟩
 ·rw [if_neg c1, if_neg c1]
  by_cases c2 : [102, 97, 108, 115, 101] <+: l
  ·rw [if_pos c2, if_pos c2]
   exact ⟨_, _, rfl, len _ c2, fun _ => ⟨by rw [← h, List.drop_drop], rfl⟩⟩
  ·rw [if_neg c2, if_neg c2]
   by_cases c3 : [116, 114, 117, 101] <+: l
   ·rw [if_pos c3, if_pos c3]
    exact ⟨_, _, rfl, len _ c3, fun _ => ⟨by rw [← h, List.drop_drop], rfl⟩⟩
   ·rw [if_neg c3, if_neg c3]
    exact ⟨_, _, rfl, hq, fun e => absurd e (by decide)⟩
theorem sk_len (l : B) : (sk l).length ≤ l.length := by unfold sk; rw [List.length_drop]; omega
theorem tk1_len (l : B) (c : Nat) : (tk1 l c).2.length ≤ l.length ∧ ((tk1 l c).1 = true → (tk1 l c).2.length < l.length) := by
 have h := sk_len l
 unfold tk1
 split
 ·rename_i c1
  have : (sk l).length ≠ 0 := fun e => c1.2 (List.eq_nil_of_length_eq_zero e)
  rw [List.length_drop]; exact ⟨by omega, fun _ => by omega⟩
 ·exact ⟨h, fun e => by cases e⟩
theorem rq_len (l : B) (h : (rq l).2.2 = 0) (hl : l ≠ []) : (rq l).2.1.length + 2 ≤ l.length := by
 unfold rq at h ⊢
 have hl0 : l.length ≠ 0 := fun e => hl (List.eq_nil_of_length_eq_zero e)
 cases hq : readL (l.length + 1) (l.drop 1) with
 | none => rw [hq] at h; simp at h
 | some q =>
  rw [hq] at h
  simp only at h ⊢
  by_cases c : q.2.2 = 0
  ·rw [if_pos c]
   have hg := readL_good _ _ _ hq c
   rw [List.length_drop] at hg
   simp only
   rw [List.length_drop]; omega
  ·rw [if_neg c] at h; exact absurd h c
theorem hd_ne {l : B} (h : hd l ≠ 0) : sk l ≠ [] := by
 intro e; apply h; unfold hd; rw [e]; rfl
theorem pk_len (l : B) (keys : List ByteArray) (h : (pk l keys).2.2 = 0) : (pk l keys).2.1.length < l.length := by
 unfold pk at h ⊢
 have h0 := sk_len l
 split at h
 ·rename_i c1
  rw [if_pos c1]
  split at h
  ·rename_i c2
   rw [if_pos c2]
   split at h
   ·simp at h
   ·rename_i c3
    rw [if_neg c3]
    split at h
    ·rename_i c4
     rw [if_pos c4]
     have h1 := rq_len (sk l) c2 (hd_ne (by omega))
     have h2 := (tk1_len (rq (sk l)).2.1 58).1
     simp only; omega
    ·simp at h
  ·rename_i c2
   simp only at h; exact absurd h c2
 ·simp at h
theorem wd_len (l : B) (d : Nat) (key : ByteArray) (h : (wd l d key).1 = 0) : (wd l d key).2.1.length + (wd l d key).2.2.length ≤ l.length ∧ (wd l d key).2.1.length < l.length := by
 unfold wd at h ⊢
 split
 ·rename_i c; have := c.length_le; simp at this; simp only [List.length_drop, List.length_singleton]; omega
 ·rename_i c1
  rw [if_neg c1] at h
  split
  ·rename_i c; have := c.length_le; simp at this; simp only [List.length_drop, List.length_singleton]; omega
  ·rename_i c2
   rw [if_neg c2] at h
   split
   ·rename_i c; have := c.length_le; simp at this; simp only [List.length_drop, List.length_singleton]; omega
   ·rename_i c3
    rw [if_neg c3] at h; simp at h
theorem nums_pos (l : B) (h : (rn (l.take (numsL l))).2 = true) : 0 < numsL l := by
 by_cases c : numsL l = 0
 ·rw [c, List.take_zero] at h; exact absurd h (by decide)
 ·omega
theorem cont_len (L : B → Int × B × List S40) (l : B) (ob : Bool) (hL : ∀ x, x.length < l.length → (L x).1 = 0 → (L x).2.1.length + (L x).2.2.length ≤ x.length) (h : (cont L l ob).1 = 0) : (cont L l ob).2.1.length + (cont L l ob).2.2.length < l.length := by
 unfold cont at h ⊢
 have h1 := tk1_len l (en ob)
 have h2 := tk1_len (tk1 l (en ob)).2 44
 split
 ·rename_i c; have := h1.2 c; simp only [List.length_nil]; omega
 ·rename_i c
  rw [if_neg c] at h
  split
  ·rename_i c2
   rw [if_pos c2] at h
   have := h2.2 c2
   have := hL _ (by omega) h
   omega
  ·rename_i c2
   rw [if_neg c2] at h; simp at h
theorem pma_len (L : B → Int × B × List S40) (V : Int × B × List S40) (ob : Bool) (m : Nat) (hV : V.1 = 0 → V.2.1.length + V.2.2.length ≤ m) (hL : ∀ x, x.length < m → (L x).1 = 0 → (L x).2.1.length + (L x).2.2.length ≤ x.length) (h : (pma L V ob).1 = 0) : (pma L V ob).2.1.length + (pma L V ob).2.2.length ≤ m := by
 unfold pma at h ⊢
 split
 ·rename_i c
  rw [if_pos c] at h
  have h1 := hV c
  have := cont_len L V.2.1 ob (fun x hx => hL x (by omega)) h
  simp only [List.length_append]; omega
 ·rename_i c
  rw [if_neg c] at h; exact absurd h c
theorem p_len : ∀ n : Nat, (∀ l d key, (pv n l d key).1 = 0 → (pv n l d key).2.1.length + (pv n l d key).2.2.length ≤ l.length) ∧ (∀ l d ob, (pms n l d ob).1 = 0 → (pms n l d ob).2.1.length + (pms n l d ob).2.2.length ≤ l.length) ∧ (∀ l d ob keys, (pml n l d ob keys).1 = 0 → (pml n l d ob keys).2.1.length + (pml n l d ob keys).2.2.length ≤ l.length)
 | 0 => ⟨fun l d key h => by simp [pv] at h, fun l d ob h => by simp [pms] at h, fun l d ob keys h => by simp [pml] at h⟩
 | n + 1 => by
  obtain ⟨iv, im, il⟩ := p_len n
  refine ⟨fun l d key h => ?_, fun l d ob h => ?_, fun l d ob keys h => ?_⟩
  ·have h0 := sk_len l
   rw [pv] at h ⊢
   by_cases c1 : hd l = 91
   ·rw [if_pos c1] at h ⊢
    by_cases c2 : 64 ≤ d
    ·rw [if_pos c2] at h; simp at h
    ·rw [if_neg c2] at h ⊢
     have := im _ _ _ h
     have hne : (sk l).length ≠ 0 := fun e => hd_ne (l := l) (by omega) (List.eq_nil_of_length_eq_zero e)
     rw [List.length_drop] at this
     simp only [List.length_cons]; omega
   ·rw [if_neg c1] at h ⊢
    by_cases c3 : hd l = 123
    ·rw [if_pos c3] at h ⊢
     by_cases c2 : 64 ≤ d
     ·rw [if_pos c2] at h; simp at h
     ·rw [if_neg c2] at h ⊢
      have := im _ _ _ h
      have hne : (sk l).length ≠ 0 := fun e => hd_ne (l := l) (by omega) (List.eq_nil_of_length_eq_zero e)
      rw [List.length_drop] at this
      simp only [List.length_cons]; omega
    ·rw [if_neg c3] at h ⊢
     by_cases c4 : hd l = 34
     ·rw [if_pos c4] at h ⊢
      by_cases c5 : (rq (sk l)).2.2 = 0
      ·rw [if_pos c5]
       have := rq_len (sk l) c5 (hd_ne (by omega))
       simp only [List.length_singleton]; omega
      ·rw [if_neg c5] at h; exact absurd h c5
     ·rw [if_neg c4] at h ⊢
      split at h
      ·rename_i c6
       rw [if_pos c6]
       split at h
       ·rename_i c7
        rw [if_pos c7]
        have := nums_pos _ c7
        have h9 := nums_le (sk l)
        simp only [List.length_drop, List.length_singleton]; omega
       ·simp at h
      ·rename_i c6
       rw [if_neg c6]
       have := wd_len (sk l) d key h
       omega
  ·rw [pms] at h ⊢
   have h1 := tk1_len l (en ob)
   split at h
   ·rename_i c
    rw [if_pos c]
    simp only [List.length_nil]; omega
   ·rename_i c
    rw [if_neg c]
    have := il _ _ _ _ h
    omega
  ·rw [pml] at h ⊢
   cases ob with
   | true =>
    rw [if_pos rfl] at h ⊢
    split at h
    ·rename_i c
     rw [if_pos c]
     have h1 := pk_len l keys c
     have := pma_len _ _ true (pk l keys).2.1.length (iv _ _ _) (fun x _ => il x _ _ _) h
     omega
    ·rename_i c; exact absurd h c
   | false =>
    rw [if_neg (by decide)] at h ⊢
    exact pma_len _ _ false l.length (iv _ _ _) (fun x _ => il x _ _ _) h
end Go.Proofs.YthhmmaihbjhhgaaGreatDoor.Giv
namespace Go.Proofs.YthhmmaihbjhhgaaGreatDoor.Giv
open Go.RowKit
theorem dig8 (d : Nat) (h : d < 10) : (UInt8.ofNat (48 + d)).toNat = 48 + d := by simp; omega
theorem dec_step (u : Nat) (h : ¬ u < 10) : Lib.decDigits u = Lib.decDigits (u / 10) ++ [UInt8.ofNat (48 + u % 10)] := by
 rw [Lib.decDigits, dif_neg h]
theorem digits_all (n : Nat) : ∀ x ∈ Lib.decDigits n, 48 ≤ x.toNat ∧ x.toNat ≤ 57 := by
 induction n using Nat.strongRecOn with
 | _ u ih =>
  intro x hx
  by_cases h : u < 10
  ·rw [Lib.decDigits_one h] at hx
   obtain rfl := List.mem_singleton.1 hx
   rw [dig8 u h]; omega
  ·rw [dec_step u h] at hx
   rcases List.mem_append.1 hx with hx | hx
   ·exact ih (u / 10) (by omega) x hx
   ·obtain rfl := List.mem_singleton.1 hx
    rw [dig8 _ (by omega)]; omega
theorem digits_ne (n : Nat) : Lib.decDigits n ≠ [] := by
 intro e
 have := congrArg List.length e
 rw [Lib.decDigits_length] at this
 have h2 := Lib.nDigits_pos n
 simp at this; omega
theorem nd_le : ∀ (k u : Nat), u < 10 ^ (k + 1) → Lib.nDigits u ≤ k + 1
 | 0, u, h => by rw [Lib.nDigits_small (by simpa using h)]; omega
 | k + 1, u, h => by
  by_cases c : u < 10
  ·rw [Lib.nDigits_small c]; omega
  ·rw [Nat.pow_succ] at h
   rw [Lib.nDigits_big c]
   have := nd_le k (u / 10) (by omega)
   omega
theorem parse_dec (u : Nat) : u < 18446744073709551616 → ∀ r, Lib.parseUint10 0 (Lib.decDigits u ++ r) = Lib.parseUint10 u r := by
 induction u using Nat.strongRecOn with
 | _ u ih =>
  intro hu r
  by_cases h : u < 10
  ·rw [Lib.decDigits_one h, List.cons_append, List.nil_append, Lib.parseUint10, dig8 u h, if_pos (by omega), if_neg (by omega), if_neg (by omega)]
   congr 1; omega
  ·rw [dec_step u h, List.append_assoc, ih (u / 10) (by omega) (by omega), List.cons_append, List.nil_append, Lib.parseUint10, dig8 _ (by omega), if_pos (by omega), if_neg (by omega), if_neg (by omega)]
   congr 1; omega
theorem mag_dec (u : Nat) (h : u < 18446744073709551616) : Lib.parseMag (Lib.decDigits u) = .ok u := by
 unfold Lib.parseMag
 rw [if_neg (digits_ne u)]
 have := parse_dec u h []
 rw [List.append_nil] at this
 rw [this]; rfl
theorem atoi_itoa (n : Int) (h : -9223372036854775808 ≤ n ∧ n ≤ 9223372036854775807) : Lib.atoiAll (Lib.itoa n) = .ok n := by
 unfold Lib.itoa
 by_cases c : n < 0
 ·rw [if_pos c, Lib.atoiAll_minus, mag_dec _ (by omega)]
  simp only [Lib.signed]
  rw [if_neg (by omega)]
  congr 1; omega
 ·rw [if_neg c]
  obtain ⟨x, r, hx⟩ : ∃ x r, Lib.decDigits n.toNat = x :: r := by
   cases hd : Lib.decDigits n.toNat with
   | nil => exact absurd hd (digits_ne _)
   | cons x r => exact ⟨x, r, rfl⟩
  have := digits_all n.toNat x (by rw [hx]; exact List.mem_cons_self)
  have hm := mag_dec n.toNat (by omega)
  rw [hx] at hm ⊢
  rw [Lib.atoiAll_plain x r (by omega) (by omega), hm]
  simp only [Lib.signless]
  rw [if_neg (by omega)]
  congr 1; omega
theorem itoa_len (n : Int) (h : -9223372036854775808 ≤ n ∧ n ≤ 9223372036854775807) : (Lib.itoa n).length ≤ 20 := by
 unfold Lib.itoa
 split
 ·rw [List.length_cons, Lib.decDigits_length]
  have := nd_le 18 n.natAbs (by omega)
  omega
 ·rw [Lib.decDigits_length]
  have := nd_le 18 n.toNat (by omega)
  omega
theorem readN_itoa (n : Int) (h : -9223372036854775808 ≤ n ∧ n ≤ 9223372036854775807) : readN (itoaS n) = (n, true) := by
 unfold readN
 have h1 := itoa_len n h
 have h2 : (itoaS n).size = (Lib.itoa n).length := by show (Lib.itoa n).toArray.size = _; rw [List.size_toArray]
 rw [if_neg (by omega)]
 rw [show (itoaS n).data.toList = Lib.itoa n from rfl, atoi_itoa n h]
 simp only [if_true]
end Go.Proofs.YthhmmaihbjhhgaaGreatDoor.Giv
namespace Go.Proofs.YthhmmaihbjhhgaaGreatDoor.Giv
open Go.RowKit Go.Proofs.YthhmmaihbjhhgaaGreatDoorW.PrintWords Go.Proofs.YthhmmaihbjhhgaaGreatDoorW.PrintLast Go.Proofs.YthhmmaihbjhhgaaGreatDoorW.PrintMore
open Go.Proofs.YthhmmaihbjhhgaaGreatDoor.U1 Go.Proofs.YthhmmaihbjhhgaaGreatDoor.Q1 Go.Proofs.YthhmmaihbjhhgaaGreatDoor.J0 Go.Proofs.YthhmmaihbjhhgaaGreatDoor.J1
inductive Node | v (d : Nat) (key : ByteArray) | m (d : Nat) (ob : Bool) (keys : List ByteArray) (fst : Bool)
abbrev I64 (n : Int) : Prop := -9223372036854775808 ≤ n ∧ n ≤ 9223372036854775807
def sepa (fst : Bool) : B := if fst then [] else [44]
inductive JV : Node → List S40 → B → Prop
 | null (d key) : JV (.v d key) [row d 1 key e0 0] [110, 117, 108, 108]
 | fls (d key) : JV (.v d key) [row d 2 key e0 0] [102, 97, 108, 115, 101]
 | tru (d key) : JV (.v d key) [row d 3 key e0 0] [116, 114, 117, 101]
 | num (d key) (n : Int) (h : I64 n) : JV (.v d key) [row d 4 key e0 n] (Lib.itoa n)
 | str (d key) (t : ByteArray) (h : Lib.validD t.data.toList = true) : JV (.v d key) [row d 5 key t 0] (quoted t.data.toList)
 | arr (d key) (rows : List S40) (t : B) (h : d < 64) (hm : JV (.m (d + 1) false [] true) rows t) : JV (.v d key) (row d 6 key e0 0 :: rows) (91 :: (t ++ [93]))
 | obj (d key) (rows : List S40) (t : B) (h : d < 64) (hm : JV (.m (d + 1) true [] true) rows t) : JV (.v d key) (row d 7 key e0 0 :: rows) (123 :: (t ++ [125]))
 | none (d ob keys fst) : JV (.m d ob keys fst) [] []
 | elem (d keys fst) (rows : List S40) (t : B) (rows' : List S40) (t' : B) (hv : JV (.v d e0) rows t) (hm : JV (.m d false keys false) rows' t') : JV (.m d false keys fst) (rows ++ rows') (sepa fst ++ (t ++ t'))
 | memb (d keys fst) (key : ByteArray) (hk : Lib.validD key.data.toList = true) (hn : key ∉ keys) (rows : List S40) (t : B) (rows' : List S40) (t' : B) (hv : JV (.v d key) rows t) (hm : JV (.m d true (keys ++ [key]) false) rows' t') : JV (.m d true keys fst) (rows ++ rows') (sepa fst ++ (quoted key.data.toList ++ (58 :: (t ++ t'))))
def notblank (l : B) : Prop := blank (l.getD 0 0).toNat = false
theorem sk_id {l : B} (h : notblank l) : sk l = l := by
 unfold sk
 cases l with
 | nil => rfl
 | cons c l =>
  have h2 : blank c.toNat = false := h
  rw [skips, if_neg (by rw [h2]; decide)]; rfl
theorem hd_id {l : B} (h : notblank l) : hd l = (l.getD 0 0).toNat := by unfold hd; rw [sk_id h]
theorem tk1_yes (c : UInt8) (l : B) (h : blank c.toNat = false) : tk1 (c :: l) c.toNat = (true, l) := by
 have hn : notblank (c :: l) := h
 unfold tk1
 rw [hd_id hn, sk_id hn, if_pos ⟨rfl, List.cons_ne_nil _ _⟩]; rfl
theorem tk1_no (l : B) (c : Nat) (h : notblank l) (hc : (l.getD 0 0).toNat ≠ c) : tk1 l c = (false, l) := by
 unfold tk1
 rw [hd_id h, sk_id h, if_neg (fun x => hc x.1)]
def starts (n : Nat) : Prop := n = 110 ∨ n = 102 ∨ n = 116 ∨ n = 45 ∨ (48 ≤ n ∧ n ≤ 57) ∨ n = 34 ∨ n = 91 ∨ n = 123
theorem starts_not {n : Nat} (h : starts n) : blank n = false ∧ n ≠ 93 ∧ n ≠ 125 ∧ n ≠ 44 := by
 unfold starts at h
 refine ⟨?_, by omega, by omega, by omega⟩
 unfold blank
 simp; omega
theorem itoa_first (n : Int) : ∃ c r, Lib.itoa n = c :: r ∧ starts c.toNat ∧ (c.toNat = 45 ∨ (48 ≤ c.toNat ∧ c.toNat ≤ 57)) := by
 unfold Lib.itoa
 split
 ·exact ⟨45, _, rfl, by unfold starts; decide, Or.inl rfl⟩
 ·cases h : Lib.decDigits n.toNat with
  | nil => exact absurd h (digits_ne _)
  | cons c r =>
   have := digits_all n.toNat c (by rw [h]; exact List.mem_cons_self)
   exact ⟨c, r, rfl, by unfold starts; omega, Or.inr this⟩
theorem itoa_numB (n : Int) : ∀ x ∈ Lib.itoa n, numB x.toNat = true := by
 intro x hx
 unfold Lib.itoa at hx
 have key : ∀ m : Nat, x ∈ Lib.decDigits m → numB x.toNat = true := by
  intro m hm
  have := digits_all m x hm
  unfold numB; simp; omega
 split at hx
 ·rcases List.mem_cons.1 hx with rfl | hx
  ·decide
  ·exact key _ hx
 ·exact key _ hx
theorem nums_all : ∀ (a : B) (x : B), (∀ y ∈ a, numB y.toNat = true) → numB (x.getD 0 0).toNat = false → numsL (a ++ x) = a.length
 | [], [], _, _ => rfl
 | [], c :: x, _, h => by
  have h2 : numB c.toNat = false := h
  rw [List.nil_append, numsL, if_neg (by rw [h2]; decide)]; rfl
 | c :: a, x, ha, h => by
  rw [List.cons_append, numsL, if_pos (ha c List.mem_cons_self), nums_all a x (fun y hy => ha y (List.mem_cons_of_mem _ hy)) h]; rfl
theorem rn_itoa (n : Int) (h : I64 n) : rn (Lib.itoa n) = (n, true) := readN_itoa n h
theorem JV.first {K : Node} {rows : List S40} {t : B} (h : JV K rows t) : match K with
  | .v _ _ => ∃ c r, t = c :: r ∧ starts c.toNat
  | .m _ _ _ fst => t = [] ∨ (fst = false ∧ ∃ r, t = 44 :: r) ∨ (fst = true ∧ ∃ c r, t = c :: r ∧ starts c.toNat) := by
 induction h with
 | null => exact ⟨_, _, rfl, by unfold starts; decide⟩
 | fls => exact ⟨_, _, rfl, by unfold starts; decide⟩
 | tru => exact ⟨_, _, rfl, by unfold starts; decide⟩
 | num d key n h => obtain ⟨c, r, h1, h2, _⟩ := itoa_first n; exact ⟨c, r, h1, h2⟩
 | str d key t h => exact ⟨34, _, rfl, by unfold starts; decide⟩
 | arr => exact ⟨_, _, rfl, by unfold starts; decide⟩
 | obj => exact ⟨_, _, rfl, by unfold starts; decide⟩
 | none => exact Or.inl rfl
 | elem d keys fst rows t rows' t' hv hm iv im =>
  obtain ⟨c, r, h1, h2⟩ := iv
  cases fst with
  | true => exact Or.inr (Or.inr ⟨rfl, c, r ++ t', by rw [h1]; rfl, h2⟩)
  | false => exact Or.inr (Or.inl ⟨rfl, _, rfl⟩)
 | memb d keys fst key hk hn rows t rows' t' hv hm iv im =>
  cases fst with
  | true => exact Or.inr (Or.inr ⟨rfl, 34, _, rfl, by unfold starts; decide⟩)
  | false => exact Or.inr (Or.inl ⟨rfl, _, rfl⟩)
theorem pieceN_pos (c : UInt8) : 1 ≤ (pieceN c.toNat).length := (pieceN_first c.toNat (UInt8.toNat_lt _)).2.2
theorem inner_ge : ∀ a : B, a.length ≤ (inner a).length
 | [] => Nat.le_refl _
 | c :: a => by
  have := inner_ge a
  have := pieceN_pos c
  rw [inner, List.length_append, List.length_cons]; omega
theorem rq_quoted (t : ByteArray) (h : Lib.validD t.data.toList = true) (x : B) : rq (quoted t.data.toList ++ x) = (t.data.toList, x, 0) := by
 obtain ⟨xs, h1, h2, h3⟩ := valid_xs t h
 have hl : (quoted t.data.toList ++ x).length = (inner t.data.toList).length + 2 + x.length := by rw [List.length_append, quoted_len]
 have h4 := encs_ge xs
 have h5 : t.data.toList.length ≤ (inner t.data.toList).length := inner_ge _
 unfold rq
 have hd2 : (quoted t.data.toList ++ x).drop 1 = inner (encs xs) ++ 34 :: x := by
  unfold quoted; rw [h2]; simp
 rw [hd2, readL_inner x xs _ h1 (by rw [hl, ← h2] at *; omega)]
 simp only [if_pos]
 refine Prod.ext h2 (Prod.ext ?_ rfl)
 simp only
 rw [show (((inner (encs xs)).length : Int) + 1).toNat + 1 = (quoted t.data.toList).length by rw [quoted_len, h2]; omega]
 rw [List.drop_append_of_le_length (Nat.le_refl _)]
 simp
def headok (l : B) : Prop := numB (l.getD 0 0).toNat = false
theorem wd_null (x : B) (d key) : wd ([110, 117, 108, 108] ++ x) d key = (0, x, [row d 1 key e0 0]) := by
 unfold wd
 rw [if_pos (List.prefix_append _ _)]; rfl
theorem wd_false (x : B) (d key) : wd ([102, 97, 108, 115, 101] ++ x) d key = (0, x, [row d 2 key e0 0]) := by
 unfold wd
 rw [if_neg (by rintro ⟨y, hy⟩; simp at hy), if_pos (List.prefix_append _ _)]; rfl
theorem wd_true (x : B) (d key) : wd ([116, 114, 117, 101] ++ x) d key = (0, x, [row d 3 key e0 0]) := by
 unfold wd
 rw [if_neg (by rintro ⟨y, hy⟩; simp at hy), if_neg (by rintro ⟨y, hy⟩; simp at hy), if_pos (List.prefix_append _ _)]; rfl
theorem starts_notblank {c : UInt8} {r : B} (h : starts c.toNat) : notblank (c :: r) := (starts_not h).1
theorem pv_word (n : Nat) (c : UInt8) (r : B) (d key) (h : starts c.toNat) (h1 : c.toNat = 110 ∨ c.toNat = 102 ∨ c.toNat = 116) : pv (n + 1) (c :: r) d key = wd (c :: r) d key := by
 have hn : notblank (c :: r) := starts_notblank h
 have hh : hd (c :: r) = c.toNat := hd_id hn
 rw [pv, hh, sk_id hn, if_neg (by omega), if_neg (by omega), if_neg (by omega), if_neg (by omega)]
theorem pv_num (n : Nat) (v : Int) (x : B) (d key) (h : I64 v) (hx : headok x) : pv (n + 1) (Lib.itoa v ++ x) d key = (0, x, [row d 4 key e0 v]) := by
 obtain ⟨c, r, h1, h2, h3⟩ := itoa_first v
 have hn : notblank (Lib.itoa v ++ x) := by rw [h1]; exact starts_notblank h2
 have hh : hd (Lib.itoa v ++ x) = c.toNat := by rw [hd_id hn, h1]; rfl
 have hl := nums_all (Lib.itoa v) x (itoa_numB v) hx
 rw [pv, hh, sk_id hn, if_neg (by omega), if_neg (by omega), if_neg (by omega), if_pos h3, hl, List.take_left, List.drop_left, rn_itoa v h, if_pos rfl]
theorem pv_str (n : Nat) (t : ByteArray) (x : B) (d key) (h : Lib.validD t.data.toList = true) : pv (n + 1) (quoted t.data.toList ++ x) d key = (0, x, [row d 5 key t 0]) := by
 have hn : notblank (quoted t.data.toList ++ x) := (rfl : blank 34 = false)
 have hh : hd (quoted t.data.toList ++ x) = 34 := by rw [hd_id hn]; rfl
 rw [pv, hh, sk_id hn, if_neg (by omega), if_neg (by omega), if_pos rfl, rq_quoted t h x, if_pos rfl]
theorem pk_quoted (key : ByteArray) (keys : List ByteArray) (x : B) (h : Lib.validD key.data.toList = true) (hn : key ∉ keys) : pk (quoted key.data.toList ++ (58 :: x)) keys = (key, x, 0) := by
 have hb : notblank (quoted key.data.toList ++ (58 :: x)) := (rfl : blank 34 = false)
 have hh : hd (quoted key.data.toList ++ (58 :: x)) = 34 := by rw [hd_id hb]; rfl
 have ht : tk1 (58 :: x) 58 = (true, x) := tk1_yes 58 x rfl
 have hk : ¬ hasB key keys = true := fun e => hn ((hasB_iff key keys).1 e)
 unfold pk
 rw [hh, if_pos rfl, sk_id hb, rq_quoted key h, if_pos rfl, if_neg hk, ht]; rfl
theorem pv_open (n : Nat) (x : B) (d : Nat) (key) (ob : Bool) (hd' : d < 64) (r : B) (rows : List S40) (h : pms n x d ob = (0, r, rows)) : pv (n + 1) ((if ob then 123 else 91) :: x) d key = (0, r, row d (kindOf ob) key e0 0 :: rows) := by
 cases ob with
 | true =>
  have hn : notblank (123 :: x) := (rfl : blank 123 = false)
  have hh : hd (123 :: x) = 123 := by rw [hd_id hn]; rfl
  rw [if_pos rfl, pv, hh, sk_id hn, if_neg (by omega), if_pos rfl, if_neg (by omega)]
  rw [show ((123 : UInt8) :: x).drop 1 = x from rfl, h]; rfl
 | false =>
  have hn : notblank (91 :: x) := (rfl : blank 91 = false)
  have hh : hd (91 :: x) = 91 := by rw [hd_id hn]; rfl
  rw [if_neg (by decide), pv, hh, sk_id hn, if_pos rfl, if_neg (by omega)]
  rw [show ((91 : UInt8) :: x).drop 1 = x from rfl, h]; rfl
def enB (ob : Bool) : UInt8 := if ob then 125 else 93
theorem enB_to (ob : Bool) : (enB ob).toNat = en ob := by cases ob <;> rfl
theorem enB_ok (ob : Bool) (x : B) : headok (enB ob :: x) := by cases ob <;> rfl
theorem tk1_end (ob : Bool) (x : B) : tk1 (enB ob :: x) (en ob) = (true, x) := by
 rw [← enB_to]
 exact tk1_yes _ _ (by cases ob <;> rfl)
def CP : Node → List S40 → B → Prop
 | .v d key, rows, t => d ≤ 64 → ∀ (rest : B) (n : Nat), headok rest → 3 * (t.length + rest.length) + 1 ≤ n → pv n (t ++ rest) d key = (0, rest, rows)
 | .m d ob keys fst, rows, t => d ≤ 64 → ∀ (rest : B) (n D : Nat), d = D + 1 →
  (fst = true → keys = [] → 3 * (t.length + rest.length) + 6 ≤ n → pms n (t ++ (enB ob :: rest)) D ob = (0, rest, rows)) ∧
  (fst = false → 3 * (t.length + rest.length) + 2 ≤ n → cont (fun x => pml n x D ob keys) (t ++ (enB ob :: rest)) ob = (0, rest, rows))
theorem cont_end (L : B → Int × B × List S40) (ob : Bool) (x : B) : cont L (enB ob :: x) ob = (0, x, []) := by
 unfold cont
 rw [tk1_end]; rfl
theorem cont_more (L : B → Int × B × List S40) (ob : Bool) (x : B) : cont L (44 :: x) ob = L x := by
 have h1 : tk1 (44 :: x) (en ob) = (false, 44 :: x) := tk1_no (44 :: x) (en ob) (rfl : blank 44 = false) (show (44 : Nat) ≠ en ob by cases ob <;> decide)
 have h2 : tk1 (44 :: x) 44 = (true, x) := tk1_yes 44 x rfl
 unfold cont
 rw [h1, if_neg Bool.false_ne_true]
 simp only
 rw [h2, if_pos rfl]
theorem pma_ok (L : B → Int × B × List S40) (ob : Bool) (x y : B) (rows rows' : List S40) (h : cont L x ob = (0, y, rows')) : pma L (0, x, rows) ob = (0, y, rows ++ rows') := by
 unfold pma
 rw [if_pos rfl]
 simp only
 rw [h]
theorem tail_ok {K : Node} {rows : List S40} {t : B} (h : JV K rows t) : match K with
  | .v _ _ => True
  | .m _ ob _ fst => fst = false → ∀ rest, headok (t ++ (enB ob :: rest)) := by
 have hf := h.first
 cases K with
 | v d key => trivial
 | m d ob keys fst =>
  rintro rfl rest
  rcases hf with rfl | ⟨_, r, rfl⟩ | ⟨e, _⟩
  ·exact enB_ok ob rest
  ·exact (rfl : numB 44 = false)
  ·cases e
theorem pml_elem (n D : Nat) (keys : List ByteArray) (t t' rest : B) (rows rows' : List S40) (hv : pv n (t ++ (t' ++ (93 :: rest))) (D + 1) e0 = (0, t' ++ (93 :: rest), rows)) (hm : cont (fun x => pml n x D false keys) (t' ++ (93 :: rest)) false = (0, rest, rows')) :
  pml (n + 1) (t ++ (t' ++ (93 :: rest))) D false keys = (0, rest, rows ++ rows') := by
 rw [pml, if_neg (by decide), hv]
 exact pma_ok _ _ _ _ _ _ hm
theorem pml_memb (n D : Nat) (keys : List ByteArray) (key : ByteArray) (hk : Lib.validD key.data.toList = true) (hn : key ∉ keys) (t t' rest : B) (rows rows' : List S40) (hv : pv n (t ++ (t' ++ (125 :: rest))) (D + 1) key = (0, t' ++ (125 :: rest), rows)) (hm : cont (fun x => pml n x D true (keys ++ [key])) (t' ++ (125 :: rest)) true = (0, rest, rows')) :
  pml (n + 1) (quoted key.data.toList ++ (58 :: (t ++ (t' ++ (125 :: rest))))) D true keys = (0, rest, rows ++ rows') := by
 rw [pml, if_pos rfl, pk_quoted key keys _ hk hn, if_pos rfl]
 simp only
 rw [hv]
 exact pma_ok _ _ _ _ _ _ hm
theorem sep_true (x : B) : sepa true ++ x = x := rfl
theorem sep_false (x : B) : sepa false ++ x = 44 :: x := rfl
theorem JV.parse {K : Node} {rows : List S40} {t : B} (h : JV K rows t) : CP K rows t := by
 induction h with
 | null d key =>
  intro _ rest n _ hn
  obtain ⟨n, rfl⟩ : ∃ m, n = m + 1 := ⟨n - 1, by omega⟩
  exact (pv_word n 110 _ d key (by unfold starts; decide) (by decide)).trans (wd_null rest d key)
 | fls d key =>
  intro _ rest n _ hn
  obtain ⟨n, rfl⟩ : ∃ m, n = m + 1 := ⟨n - 1, by omega⟩
  exact (pv_word n 102 _ d key (by unfold starts; decide) (by decide)).trans (wd_false rest d key)
 | tru d key =>
  intro _ rest n _ hn
  obtain ⟨n, rfl⟩ : ∃ m, n = m + 1 := ⟨n - 1, by omega⟩
  exact (pv_word n 116 _ d key (by unfold starts; decide) (by decide)).trans (wd_true rest d key)
 | num d key v h =>
  intro _ rest n hr hn
  obtain ⟨n, rfl⟩ : ∃ m, n = m + 1 := ⟨n - 1, by omega⟩
  exact pv_num n v rest d key h hr
 | str d key t h =>
  intro _ rest n hr hn
  obtain ⟨n, rfl⟩ : ∃ m, n = m + 1 := ⟨n - 1, by omega⟩
  exact pv_str n t rest d key h
 | arr d key rows t h hm im =>
  intro _ rest n hr hn
  simp only [List.length_cons, List.length_append, List.length_nil] at hn
  obtain ⟨n, rfl⟩ : ∃ m, n = m + 1 := ⟨n - 1, by omega⟩
  have h1 := (im (by omega) rest n d rfl).1 rfl rfl (by omega)
  have h2 := pv_open n (t ++ (93 :: rest)) d key false h rest rows h1
  rw [List.cons_append, List.append_assoc]
  exact h2
 | obj d key rows t h hm im =>
  intro _ rest n hr hn
  simp only [List.length_cons, List.length_append, List.length_nil] at hn
  obtain ⟨n, rfl⟩ : ∃ m, n = m + 1 := ⟨n - 1, by omega⟩
  have h1 := (im (by omega) rest n d rfl).1 rfl rfl (by omega)
  have h2 := pv_open n (t ++ (125 :: rest)) d key true h rest rows h1
  rw [List.cons_append, List.append_assoc]
  exact h2
 | none d ob keys fst =>
  intro _ rest n D hD
  refine ⟨fun _ _ hn => ?_, fun _ _ => cont_end _ ob rest⟩
  obtain ⟨n, rfl⟩ : ∃ m, n = m + 1 := ⟨n - 1, by omega⟩
  rw [List.nil_append, pms, tk1_end]; rfl
 | elem d keys fst rows t rows' t' hv hm iv im =>
  intro hd' rest n D hD
  subst hD
  have hf := hv.first
  obtain ⟨c, r, rfl, hc⟩ := hf
  have hc2 := starts_not hc
  refine ⟨fun hf hk hn => ?_, fun hf hn => ?_⟩
  ·subst hf; subst hk
   rw [sep_true] at hn ⊢
   simp only [List.length_append] at hn
   obtain ⟨n, rfl⟩ : ∃ m, n = m + 1 + 1 := ⟨n - 2, by omega⟩
   rw [pms, List.append_assoc, tk1_no ((c :: r) ++ (t' ++ (enB false :: rest))) (en false) hc2.1 (show c.toNat ≠ en false from hc2.2.1), if_neg Bool.false_ne_true]
   have h1 := (im hd' rest n D rfl).2 rfl (by omega)
   have h2 := iv hd' (t' ++ (93 :: rest)) n (tail_ok hm rfl rest) (by simp only [List.length_append, List.length_cons] at *; omega)
   exact pml_elem n D [] (c :: r) t' rest rows rows' h2 h1
  ·subst hf
   rw [sep_false] at hn ⊢
   simp only [List.length_append, List.length_cons] at hn
   obtain ⟨n, rfl⟩ : ∃ m, n = m + 1 := ⟨n - 1, by omega⟩
   rw [List.cons_append, cont_more]
   have h1 := (im hd' rest n D rfl).2 rfl (by omega)
   have h2 := iv hd' (t' ++ (93 :: rest)) n (tail_ok hm rfl rest) (by simp only [List.length_append, List.length_cons] at *; omega)
   rw [List.append_assoc]
   exact pml_elem n D keys (c :: r) t' rest rows rows' h2 h1
 | memb d keys fst key hk hn rows t rows' t' hv hm iv im =>
  intro hd' rest n D hD
  subst hD
  have e : (quoted key.data.toList ++ (58 :: (t ++ t'))) ++ (enB true :: rest) = quoted key.data.toList ++ (58 :: (t ++ (t' ++ (125 :: rest)))) := by
   show _ ++ (125 :: rest) = _
   simp
  have hq := quoted_len key.data.toList
  refine ⟨fun hf hk0 hn0 => ?_, fun hf hn0 => ?_⟩
  ·subst hf; subst hk0
   rw [sep_true] at hn0 ⊢
   simp only [List.length_append, List.length_cons] at hn0
   obtain ⟨n, rfl⟩ : ∃ m, n = m + 1 + 1 := ⟨n - 2, by omega⟩
   rw [e, pms, tk1_no (quoted key.data.toList ++ (58 :: (t ++ (t' ++ (125 :: rest))))) (en true) (rfl : blank 34 = false) (show (34 : Nat) ≠ en true by decide), if_neg Bool.false_ne_true]
   have h1 := (im hd' rest n D rfl).2 rfl (by omega)
   have h2 := iv hd' (t' ++ (125 :: rest)) n (tail_ok hm rfl rest) (by simp only [List.length_append, List.length_cons]; omega)
   exact pml_memb n D [] key hk hn t t' rest rows rows' h2 h1
  ·subst hf
   rw [sep_false] at hn0 ⊢
   simp only [List.length_append, List.length_cons] at hn0
   obtain ⟨n, rfl⟩ : ∃ m, n = m + 1 := ⟨n - 1, by omega⟩
   rw [List.cons_append, cont_more, e]
   have h1 := (im hd' rest n D rfl).2 rfl (by omega)
   have h2 := iv hd' (t' ++ (125 :: rest)) n (tail_ok hm rfl rest) (by simp only [List.length_append, List.length_cons]; omega)
   exact pml_memb n D keys key hk hn t t' rest rows rows' h2 h1
end Go.Proofs.YthhmmaihbjhhgaaGreatDoor.Giv
namespace Go.Proofs.YthhmmaihbjhhgaaGreatDoor.Giv
open Go.RowKit Go.Proofs.YthhmmaihbjhhgaaGreatDoorW.PrintWords Go.Proofs.YthhmmaihbjhhgaaGreatDoorW.PrintLast Go.Proofs.YthhmmaihbjhhgaaGreatDoorW.PrintMore
open Go.Proofs.YthhmmaihbjhhgaaGreatDoor.U1 Go.Proofs.YthhmmaihbjhhgaaGreatDoor.Q1 Go.Proofs.YthhmmaihbjhhgaaGreatDoor.J0 Go.Proofs.YthhmmaihbjhhgaaGreatDoor.J1
theorem escL_err (l : B) : (escL l).2.2 = 0 ∨ (escL l).2.2 = 73 := by
 unfold escL
 repeat' split
 all_goals simp
theorem plainL_err (l : B) : (plainL l).2.2 = 0 ∨ (plainL l).2.2 = 74 := by
 unfold plainL
 split <;> simp
theorem oneL_err (l : B) : (oneL l).2.2 = 0 ∨ (oneL l).2.2 = 73 ∨ (oneL l).2.2 = 74 := by
 unfold oneL
 split
 ·rcases escL_err l with h | h <;> simp [h]
 ·rcases plainL_err l with h | h <;> simp [h]
def errs (e : Int) : Prop := e = 0 ∨ e = 71 ∨ e = 72 ∨ e = 73 ∨ e = 74
theorem readL_err : ∀ (n : Nat) (l : B) (r : B × Int × Int), readL n l = some r → errs r.2.2
 | 0, l, r, h => by simp [readL] at h
 | n + 1, l, r, h => by
  rw [readL] at h
  split at h
  ·cases h; exact Or.inr (Or.inl rfl)
  ·split at h
   ·cases h; exact Or.inl rfl
   ·split at h
    ·cases h; exact Or.inr (Or.inr (Or.inl rfl))
    ·split at h
     ·obtain ⟨q, hq, h⟩ := Option.map_eq_some_iff.1 h
      have := readL_err n _ q hq
      split at h
      ·cases h; exact Or.inl rfl
      ·cases h; exact this
     ·cases h
      rcases oneL_err l with e | e | e
      ·exact Or.inl e
      ·exact Or.inr (Or.inr (Or.inr (Or.inl e)))
      ·exact Or.inr (Or.inr (Or.inr (Or.inr e)))
theorem rq_err (l : B) : errs (rq l).2.2 := by
 unfold rq
 split
 ·rename_i q hq
  have := readL_err _ _ _ hq
  split
  ·exact Or.inl rfl
  ·exact this
 ·exact Or.inr (Or.inl rfl)
theorem pk_err (l : B) (keys : List ByteArray) : errs (pk l keys).2.2 ∨ (pk l keys).2.2 = 80 ∨ (pk l keys).2.2 = 82 := by
 unfold pk
 split
 ·split
  ·split
   ·exact Or.inr (Or.inr rfl)
   ·split
    ·exact Or.inl (Or.inl rfl)
    ·exact Or.inr (Or.inl rfl)
  ·exact Or.inl (rq_err _)
 ·exact Or.inr (Or.inl rfl)
theorem wd_err (l : B) (d : Nat) (key : ByteArray) : (wd l d key).1 = 0 ∨ (wd l d key).1 = 80 := by
 unfold wd
 repeat' split
 all_goals simp
theorem errs_ne {e : Int} (h : errs e) : e ≠ -1 := by unfold errs at h; omega
theorem cont_total (L : B → Int × B × List S40) (l : B) (ob : Bool) (hL : ∀ x, x.length < l.length → (L x).1 ≠ -1) : (cont L l ob).1 ≠ -1 := by
 unfold cont
 have h1 := tk1_len l (en ob)
 have h2 := tk1_len (tk1 l (en ob)).2 44
 split
 ·simp
 ·split
  ·rename_i c; have := h2.2 c; exact hL _ (by omega)
  ·simp
theorem pma_total (L : B → Int × B × List S40) (V : Int × B × List S40) (ob : Bool) (m : Nat) (hV : V.1 ≠ -1) (hm : V.1 = 0 → V.2.1.length ≤ m) (hL : ∀ x, x.length < m → (L x).1 ≠ -1) : (pma L V ob).1 ≠ -1 := by
 unfold pma
 split
 ·rename_i c
  exact cont_total L V.2.1 ob (fun x hx => hL x (by have := hm c; omega))
 ·exact hV
theorem p_total : ∀ n : Nat, (∀ l d key, 3 * l.length + 1 ≤ n → (pv n l d key).1 ≠ -1) ∧ (∀ l d ob, 3 * l.length + 3 ≤ n → (pms n l d ob).1 ≠ -1) ∧ (∀ l d ob keys, 3 * l.length + 2 ≤ n → (pml n l d ob keys).1 ≠ -1)
 | 0 => ⟨fun l d key h => by omega, fun l d ob h => by omega, fun l d ob keys h => by omega⟩
 | n + 1 => by
  obtain ⟨iv, im, il⟩ := p_total n
  refine ⟨fun l d key h => ?_, fun l d ob h => ?_, fun l d ob keys h => ?_⟩
  ·have h0 := sk_len l
   rw [pv]
   by_cases c1 : hd l = 91
   ·rw [if_pos c1]
    split
    ·simp
    ·have hne : (sk l).length ≠ 0 := fun e => hd_ne (l := l) (by omega) (List.eq_nil_of_length_eq_zero e)
     exact im _ _ _ (by rw [List.length_drop]; omega)
   ·rw [if_neg c1]
    by_cases c2 : hd l = 123
    ·rw [if_pos c2]
     split
     ·simp
     ·have hne : (sk l).length ≠ 0 := fun e => hd_ne (l := l) (by omega) (List.eq_nil_of_length_eq_zero e)
      exact im _ _ _ (by rw [List.length_drop]; omega)
    ·rw [if_neg c2]
     split
     ·split
      ·simp
      ·exact errs_ne (rq_err _)
     ·split
      ·split <;> simp
      ·rcases wd_err (sk l) d key with e | e <;> rw [e] <;> decide
  ·rw [pms]
   have h1 := tk1_len l (en ob)
   split
   ·simp
   ·exact il _ _ _ _ (by omega)
  ·rw [pml]
   split
   ·split
    ·rename_i c
     have h1 := pk_len l keys c
     exact pma_total _ _ _ (pk l keys).2.1.length (iv _ _ _ (by omega)) (fun e => by have := (p_len n).1 _ _ _ e; omega) (fun x hx => il _ _ _ _ (by omega))
    ·rename_i c
     rcases pk_err l keys with e | e | e
     ·exact errs_ne e
     ·rw [e]; decide
     ·rw [e]; decide
   ·refine pma_total _ _ _ l.length (iv _ _ _ (by omega)) (fun e => by have := (p_len n).1 _ _ _ e; omega) (fun x hx => il _ _ _ _ (by omega))
end Go.Proofs.YthhmmaihbjhhgaaGreatDoor.Giv
namespace Go.Proofs.YthhmmaihbjhhgaaGreatDoor.Giv
open Go.RowKit Go.Proofs.YthhmmaihbjhhgaaGreatDoorW.PrintWords Go.Proofs.YthhmmaihbjhhgaaGreatDoorW.PrintLast Go.Proofs.YthhmmaihbjhhgaaGreatDoorW.PrintMore
open Go.Proofs.YthhmmaihbjhhgaaGreatDoor.U1 Go.Proofs.YthhmmaihbjhhgaaGreatDoor.Q1 Go.Proofs.YthhmmaihbjhhgaaGreatDoor.J0 Go.Proofs.YthhmmaihbjhhgaaGreatDoor.J1
set_option linter.unusedSimpArgs false
abbrev Lv (W : World) (g : Nat) (kind : Int) (kv : Value) : Prop := W.heap[g]? = some (.cells #[.int .i64 kind, kv] 71 (0, 0))
abbrev Keys (w0 W : World) (g : Nat) (kv : Value) (keys : List ByteArray) : Prop := Kd.R Kd.string 9 W w0.heap.size (fun j => j ≠ g) kv keys
structure LvLeft (w0 W W' : World) (g : Nat) (kind : Int) (kv : Value) (keys' : List ByteArray) : Prop where
 left : ∃ kv', Lv W' g kind kv' ∧ Keys w0 W' g kv' keys' ∧ (kv'.ownBlock = kv.ownBlock ∨ ∃ b, kv'.ownBlock = some b ∧ W.heap.size ≤ b)
 below : Below w0.heap.size w0 W'
 keep : KeepBut W W' g kv.ownBlock
theorem LvLeft.pre {w0 W w1 W' : World} {g : Nat} {kind : Int} {kv : Value} {keys : List ByteArray} (hk : KeepBut W w1 g none) (h : LvLeft w0 w1 W' g kind kv keys) : LvLeft w0 W W' g kind kv keys :=
 ⟨by obtain ⟨v', a, b, c⟩ := h.left; exact ⟨v', a, b, c.imp id (fun ⟨k, e, hk2⟩ => ⟨k, e, Nat.le_trans hk.1 hk2⟩)⟩, h.below, (keep_wide hk).trans h.keep (.inl rfl)⟩
theorem lv_cell0 {W : World} {g : Nat} {kind : Int} {kv : Value} (h : Lv W g kind kv) : W.cell? ⟨g, 0, none⟩ = some (.int .i64 kind) := (blk_cell h 0).trans rfl
theorem lv_cell1 {W : World} {g : Nat} {kind : Int} {kv : Value} (h : Lv W g kind kv) : W.cell? ⟨g, 1, none⟩ = some kv := (blk_cell h 1).trans rfl
theorem lv_below {W W' : World} {g : Nat} {kind : Int} {kv : Value} (h : Lv W g kind kv) (hb : Below W.heap.size W W') : Lv W' g kind kv := (hb.block g (blk_lt h)).trans h
theorem itm_cell2 {W : World} {b : Nat} {x : S40} (h : Itm W b x) : W.cell? ⟨b, 2, none⟩ = some (.string x.f2) := (blk_cell h 2).trans rfl
theorem keep_key {w1 : World} {g b : Nat} {kind : Int} {kv : Value} {x : S40} (hR : Lv w1 g kind kv) (hI : Itm w1 b x) (o : Obj) : (w1.drew.alloc o).cell? ⟨g, 1, none⟩ = some kv ∧ (w1.drew.alloc o).cell? ⟨b, 2, none⟩ = some (.string x.f2) := by
 have h1 : g < w1.drew.heap.size := blk_lt hR
 have h2 : b < w1.drew.heap.size := blk_lt hI
 exact ⟨(World.cell?_alloc_lt w1.drew o ⟨g, 1, none⟩ h1).trans (lv_cell1 hR), (World.cell?_alloc_lt w1.drew o ⟨b, 2, none⟩ h2).trans (itm_cell2 hI)⟩
theorem push_key {ops : Array Oper} {o : Oper} {a : Act} {Kc : Act → World → Prop} {Q : Exit → Act → World → Prop} (sl xl : Operand) {w0 W : World} {g : Nat} {kind : Int} {kv : Value} {keys : List ByteArray} {t : ByteArray}
  (hw : Region.wanted o (yielded ops a.tmps) = true) (ho : o.op = .call { callee := .builtin .append, args := #[sl, xl], argTypes := #[69, 69] }) (hs : a.eval sl = kv) (hx : a.eval xl = .slice (some ⟨W.heap.size, 0, none⟩) 1 1)
  (hR : Lv W g kind kv) (hO : Keys w0 W g kv keys) (hB : Below w0.heap.size w0 W) (hg : w0.heap.size ≤ g) (hl : (keys.length + 1) * 16 ≤ 140737488355328)
  (h : ∀ (As : Option Addr) (N2 cc : Nat) (w2 : World), Lv w2 g kind kv → LvLeft w0 W (w2.setCell ⟨g, 1, none⟩ (.slice As N2 cc)) g kind kv (keys ++ [t]) → Kc (a.put o.dst (.slice As N2 cc)) w2) :
  if Region.wanted o (yielded ops a.tmps) = true then Oper.wp Tryz.prog o a (W.drew.alloc (.cells #[.string t] 9)) Kc Q else Kc (a.put o.dst undef) (W.drew.alloc (.cells #[.string t] 9)) := by
 have h1 := blk_lt hR
 have hO' : Kd.R Kd.string 9 W.drew w0.heap.size (fun j => j ≠ g) kv keys := Kd.R_move hO (fun _ _ => rfl)
 refine Kd.R_append_step Kd.string (w0 := w0) (W := W.drew) w0.heap.size hw sl xl 69 9 (.string ⟨#[]⟩) 16 ho Tryz.underlying69 info9 rfl (by decide) (by decide) kv keys t [.string t] (fun j => j ≠ g) (fun _ => False) hs hx rfl (fun _ h => h.elim) (fun k hk => ?_) hO' (below_drew1 hB) hB.size hl ?_
 ·have hk3 : W.heap.size ≤ k := hk
  omega
 intro v2 w2 hO2 hB2 hG2 hA2
 obtain ⟨As, cc, hv2⟩ := Kd.R_slice hO2
 subst hv2
 have hR2 : Lv w2 g kind kv := (hG2.block g h1 (fun e => hO.1 g e.symm rfl)).trans hR
 exact h _ _ _ _ hR2 ⟨⟨_, blk_set hR2 1 _, Kd.R_far hO2 (fun _ h => h) _, hA2⟩, below_set hB2 hg, KeepBut.set_ (KeepBut.of_grown (w := W) ⟨hG2.os, hG2.tape, hG2.output, hG2.size, hG2.block⟩ g) 1 _⟩
set_option maxHeartbeats 8000000 in
set_option maxRecDepth 100000 in
theorem member_no (w0 W : World) (g : Nat) (kind : Int) (A : Option Addr) (c : Nat) (keys : List ByteArray) (x : S40) (hR : Lv W g kind (.slice A keys.length c)) (hO : Keys w0 W g (.slice A keys.length c) keys) (hB : Below w0.heap.size w0 W) (hg : w0.heap.size ≤ g) (hj : Tabs w0) (hk : kind ≠ 7) :
  Calls Tryz.prog 31 #[.pointer (some ⟨g, 0, none⟩), itemV x] W fun e W' => e = .returned (.bool x.f2.toList.isEmpty) ∧ LvLeft w0 W W' g kind (.slice A keys.length c) keys := by
 have HR := Aside0.mk hR
 have HO := Aside0.mk hO
 have HB := Aside0.mk hB
 have HG := Aside0.mk hg
 have JT := Aside0.mk hj
 have n1 : (kind == 7) = false := beq_eq_false_iff_ne.mpr hk
 have n2 : (kind != 7) = true := bne_iff_ne.mpr hk
 clear hR hO hB hg hj hk
 have hgW := blk_lt HR.out
 have HA : Aside0 (Below W.heap.size W (W.alloc (.cells #[.int .i64 x.f0, .int .i64 x.f1, .string x.f2, .string x.f3, .int .i64 x.f4] 40))) := ⟨below_alloc (Below.refl _ _) _⟩
 have HR := Aside0.mk (lv_below HR.out HA.out)
 have HO := Aside0.mk (Kd.R_below HO.out HA.out)
 have HK := Aside0.mk (KeepBut.of_below HA.out g none)
 have HB := Aside0.mk (below_step HB.out HA.out)
 have HI : Aside0 (Itm (W.alloc (.cells #[.int .i64 x.f0, .int .i64 x.f1, .string x.f2, .string x.f3, .int .i64 x.f4] 40)) W.heap.size x) := ⟨heap_alloc_new _ _⟩
 have hc0 := lv_cell0 HR.out
 unfold itemV
 go_enter Tryz.func31, Tryz.ntmps31
 go_wp2_with fail
 obtain ⟨b, hb⟩ : ∃ b, W.heap.size = b := ⟨_, rfl⟩
 have hne1 : ¬ b = g := by omega
 rw [hb] at HI
 rw [hb]
 clear hc0
 generalize W.alloc (.cells #[.int .i64 x.f0, .int .i64 x.f1, .string x.f2, .string x.f3, .int .i64 x.f4] 40) = w1 at HA HI HR HO HK HB ⊢
 clear HA hb
 go_ret
 exact ⟨rfl, LvLeft.pre HK.out ⟨⟨_, HR.out, HO.out, .inl rfl⟩, HB.out, KeepBut.refl _ _ _⟩⟩
set_option maxHeartbeats 8000000 in
set_option maxRecDepth 100000 in
theorem member_bad (w0 W : World) (g : Nat) (kind : Int) (A : Option Addr) (c : Nat) (keys : List ByteArray) (x : S40) (hR : Lv W g kind (.slice A keys.length c)) (hO : Keys w0 W g (.slice A keys.length c) keys) (hB : Below w0.heap.size w0 W) (hg : w0.heap.size ≤ g) (hj : Tabs w0) (hk : kind = 7) (hv : utf_Valid.f x.f2 = some false) :
  Calls Tryz.prog 31 #[.pointer (some ⟨g, 0, none⟩), itemV x] W fun e W' => e = .returned (.bool false) ∧ LvLeft w0 W W' g kind (.slice A keys.length c) keys := by
 have HR := Aside0.mk hR
 have HO := Aside0.mk hO
 have HB := Aside0.mk hB
 have HG := Aside0.mk hg
 have JT := Aside0.mk hj
 subst hk
 have n1 : ((7 : Int) == 7) = true := rfl
 have FV := Aside0.mk hv
 clear hR hO hB hg hj hv
 have hgW := blk_lt HR.out
 have HA : Aside0 (Below W.heap.size W (W.alloc (.cells #[.int .i64 x.f0, .int .i64 x.f1, .string x.f2, .string x.f3, .int .i64 x.f4] 40))) := ⟨below_alloc (Below.refl _ _) _⟩
 have HR := Aside0.mk (lv_below HR.out HA.out)
 have HO := Aside0.mk (Kd.R_below HO.out HA.out)
 have HK := Aside0.mk (KeepBut.of_below HA.out g none)
 have HB := Aside0.mk (below_step HB.out HA.out)
 have HI : Aside0 (Itm (W.alloc (.cells #[.int .i64 x.f0, .int .i64 x.f1, .string x.f2, .string x.f3, .int .i64 x.f4] 40)) W.heap.size x) := ⟨heap_alloc_new _ _⟩
 have hc0 := lv_cell0 HR.out
 unfold itemV
 go_enter Tryz.func31, Tryz.ntmps31
 go_wp2_with fail
 obtain ⟨b, hb⟩ : ∃ b, W.heap.size = b := ⟨_, rfl⟩
 have hne1 : ¬ b = g := by omega
 rw [hb] at HI
 rw [hb]
 clear hc0
 generalize W.alloc (.cells #[.int .i64 x.f0, .int .i64 x.f1, .string x.f2, .string x.f3, .int .i64 x.f4] 40) = w1 at HA HI HR HO HK HB ⊢
 clear HA hb
 refine wp_region_held_drew (S := fun w' => w'.cell? ⟨g, 1, none⟩ = some (.slice A keys.length c) ∧ w'.cell? ⟨b, 2, none⟩ = some (.string x.f2) ∧ Lv w' g 7 (.slice A keys.length c) ∧ Itm w' b x ∧ Keys w0 w' g (.slice A keys.length c) keys ∧ Below w0.heap.size w0 w' ∧ KeepBut w1 w' g none) (by kernel_rfl) ⟨lv_cell1 HR.out, itm_cell2 HI.out, HR.out, HI.out, Kd.R_move HO.out (fun _ _ => rfl), below_drew1 HB.out, KeepBut.refl _ _ _⟩ (fun hHeld => ?_)
 refine wpAnyH_take (i := 0) (oi := { dst := some 13, op := _, type := _, pos := _, after := _, guard := _ }) (v := ?_) rfl (by kernel_rfl) (by kernel_rfl) (by kernel_rfl) (fun _ _ _ h => h) (Or.inl ⟨by rfl, ?_⟩) (by assumption) ?_
 rotate_left
 ·intro w hSw
  (try dsimp only at hSw)
  have hl0 := hSw.1
  have hl1 := hSw.2.1
  clear hSw
  go_simp
  (try with_reducible rfl)
 (try simp only [Act.put, qA, qB, qC])
 refine wpAnyH_take (i := 1) (oi := { dst := some 14, op := _, type := _, pos := _, after := _, guard := _ }) (v := ?_) rfl (by kernel_rfl) (by kernel_rfl) (by kernel_rfl) (fun _ _ _ h => h) (Or.inl ⟨by rfl, ?_⟩) (by assumption) ?_
 rotate_left
 ·intro w hSw
  (try dsimp only at hSw)
  have hl0 := hSw.1
  have hl1 := hSw.2.1
  clear hSw
  go_simp
  (try with_reducible rfl)
 (try simp only [Act.put, qA, qB, qC])
 refine wpAnyH_ready (rs := [2]) (by kernel_rfl) (by simp) ?_
 refine AllReadyH.cons (o := { dst := some 15, op := _, type := _, pos := _, after := _, guard := _ }) rfl (fun K hK => ?_) AllReadyH.nil
 go_simp
 (go_at_call 30; refine (utf_Valid.calls x.f2 _ _ FV.out (JT.out.step hHeld.2.2.2.2.2.1)).mono ?_; rintro e w2 ⟨rfl, hbv⟩); go_wp2_with fail
 refine hK.out _ _ ?_ (fun hHeld => ?_)
 ·exact ⟨lv_cell1 (lv_below hHeld.2.2.1 hbv), itm_cell2 ((hbv.block b (blk_lt hHeld.2.2.2.1)).trans hHeld.2.2.2.1), lv_below hHeld.2.2.1 hbv, (hbv.block b (blk_lt hHeld.2.2.2.1)).trans hHeld.2.2.2.1, Kd.R_below hHeld.2.2.2.2.1 hbv, hHeld.2.2.2.2.2.1.trans (hbv.mono hHeld.2.2.2.2.2.1.size), hHeld.2.2.2.2.2.2.trans (KeepBut.of_below hbv g none) (.inl rfl)⟩
 clear hK K
 (try simp only [Act.put, qA, qB, qC])
 refine wpAnyH_take (i := 3) (oi := { dst := some 16, op := _, type := _, pos := _, after := _, guard := _ }) (v := ?_) rfl (by kernel_rfl) (by kernel_rfl) (by kernel_rfl) (fun _ _ _ h => h) (Or.inl ⟨by rfl, ?_⟩) (by assumption) ?_
 rotate_left
 ·intro w hSw
  (try dsimp only at hSw)
  have hl0 := hSw.1
  have hl1 := hSw.2.1
  clear hSw
  go_simp
  (try with_reducible rfl)
 (try simp only [Act.put, qA, qB, qC])
 refine wpAnyH_take (i := 4) (oi := { dst := some 17, op := _, type := _, pos := _, after := _, guard := _ }) (v := ?_) rfl (by kernel_rfl) (by kernel_rfl) (by kernel_rfl) (fun _ _ _ h => h) (Or.inl ⟨by rfl, ?_⟩) (by assumption) ?_
 rotate_left
 ·intro w hSw
  (try dsimp only at hSw)
  have hl0 := hSw.1
  have hl1 := hSw.2.1
  clear hSw
  go_simp
  (try with_reducible rfl)
 (try simp only [Act.put, qA, qB, qC])
 refine wpAnyH_take (i := 5) (oi := { dst := some 18, op := _, type := _, pos := _, after := _, guard := _ }) (v := undef) rfl (by kernel_rfl) (by kernel_rfl) (by kernel_rfl) (fun _ _ _ h => h) (Or.inr ⟨by rfl, rfl⟩) (by assumption) ?_
 (try simp only [Act.put, qA, qB, qC])
 refine wpAnyH_take (i := 6) (oi := { dst := some 19, op := _, type := _, pos := _, after := _, guard := _ }) (v := undef) rfl (by kernel_rfl) (by kernel_rfl) (by kernel_rfl) (fun _ _ _ h => h) (Or.inr ⟨by rfl, rfl⟩) (by assumption) ?_
 (try simp only [Act.put, qA, qB, qC])
 refine wpAnyH_take (i := 7) (oi := { dst := some 20, op := _, type := _, pos := _, after := _, guard := _ }) (v := undef) rfl (by kernel_rfl) (by kernel_rfl) (by kernel_rfl) (fun _ _ _ h => h) (Or.inr ⟨by rfl, rfl⟩) (by assumption) ?_
 (try simp only [Act.put, qA, qB, qC])
 refine wpAnyH_take (i := 8) (oi := { dst := some 21, op := _, type := _, pos := _, after := _, guard := _ }) (v := undef) rfl (by kernel_rfl) (by kernel_rfl) (by kernel_rfl) (fun _ _ _ h => h) (Or.inr ⟨by rfl, rfl⟩) (by assumption) ?_
 (try simp only [Act.put, qA, qB, qC])
 refine wpAnyH_take (i := 9) (oi := { dst := some 22, op := _, type := _, pos := _, after := _, guard := _ }) (v := undef) rfl (by kernel_rfl) (by kernel_rfl) (by kernel_rfl) (fun _ _ _ h => h) (Or.inr ⟨by rfl, rfl⟩) (by assumption) ?_
 (try simp only [Act.put, qA, qB, qC])
 refine wpAnyH_take (i := 10) (oi := { dst := some 23, op := _, type := _, pos := _, after := _, guard := _ }) (v := undef) rfl (by kernel_rfl) (by kernel_rfl) (by kernel_rfl) (fun _ _ _ h => h) (Or.inr ⟨by rfl, rfl⟩) (by assumption) ?_
 (try simp only [Act.put, qA, qB, qC])
 refine wpAnyH_take (i := 11) (oi := { dst := some 24, op := _, type := _, pos := _, after := _, guard := _ }) (v := undef) rfl (by kernel_rfl) (by kernel_rfl) (by kernel_rfl) (fun _ _ _ h => h) (Or.inr ⟨by rfl, rfl⟩) (by assumption) ?_
 (try simp only [Act.put, qA, qB, qC])
 refine wpAnyH_take (i := 12) (oi := { dst := some 25, op := _, type := _, pos := _, after := _, guard := _ }) (v := ?_) rfl (by kernel_rfl) (by kernel_rfl) (by kernel_rfl) (fun _ _ _ h => h) (Or.inl ⟨by rfl, ?_⟩) (by assumption) ?_
 rotate_left
 ·intro w hSw
  (try dsimp only at hSw)
  have hl0 := hSw.1
  have hl1 := hSw.2.1
  clear hSw
  go_simp
  (try with_reducible rfl)
 (try simp only [Act.put, qA, qB, qC])
 refine wpAnyH_done (by kernel_rfl) ?_ _
 have HL := Aside0.mk hHeld
 clear hHeld
 go_wp2_with fail
 go_ret
 exact ⟨rfl, LvLeft.pre (HK.out.trans HL.out.2.2.2.2.2.2 (.inl rfl)) ⟨⟨_, HL.out.2.2.1, HL.out.2.2.2.2.1, .inl rfl⟩, HL.out.2.2.2.2.2.1, KeepBut.refl _ _ _⟩⟩
set_option maxHeartbeats 8000000 in
set_option maxRecDepth 100000 in
theorem member_twice (w0 W : World) (g : Nat) (kind : Int) (A : Option Addr) (c : Nat) (keys : List ByteArray) (x : S40) (hR : Lv W g kind (.slice A keys.length c)) (hO : Keys w0 W g (.slice A keys.length c) keys) (hB : Below w0.heap.size w0 W) (hg : w0.heap.size ≤ g) (hj : Tabs w0) (hk : kind = 7) (hv : utf_Valid.f x.f2 = some true) (hh : hasB x.f2 keys = true) :
  Calls Tryz.prog 31 #[.pointer (some ⟨g, 0, none⟩), itemV x] W fun e W' => e = .returned (.bool false) ∧ LvLeft w0 W W' g kind (.slice A keys.length c) keys := by
 have HR := Aside0.mk hR
 have HO := Aside0.mk hO
 have HB := Aside0.mk hB
 have HG := Aside0.mk hg
 have JT := Aside0.mk hj
 subst hk
 have n1 : ((7 : Int) == 7) = true := rfl
 have FV := Aside0.mk hv
 have HC := Aside0.mk (Kd.R_reads' hO).2.1
 have HLn := (Kd.R_reads' hO).2.2.2.1
 have FC : Aside0 (slices_Contains_string_string.f (keys.length + 1) keys x.f2 = some true) := ⟨by rw [contains_f _ _ _ (by omega) HLn, hh]⟩
 clear hh HLn
 clear hR hO hB hg hj hv
 have hgW := blk_lt HR.out
 have HA : Aside0 (Below W.heap.size W (W.alloc (.cells #[.int .i64 x.f0, .int .i64 x.f1, .string x.f2, .string x.f3, .int .i64 x.f4] 40))) := ⟨below_alloc (Below.refl _ _) _⟩
 have HR := Aside0.mk (lv_below HR.out HA.out)
 have HO := Aside0.mk (Kd.R_below HO.out HA.out)
 have HK := Aside0.mk (KeepBut.of_below HA.out g none)
 have HB := Aside0.mk (below_step HB.out HA.out)
 have HI : Aside0 (Itm (W.alloc (.cells #[.int .i64 x.f0, .int .i64 x.f1, .string x.f2, .string x.f3, .int .i64 x.f4] 40)) W.heap.size x) := ⟨heap_alloc_new _ _⟩
 have hc0 := lv_cell0 HR.out
 unfold itemV
 go_enter Tryz.func31, Tryz.ntmps31
 go_wp2_with fail
 obtain ⟨b, hb⟩ : ∃ b, W.heap.size = b := ⟨_, rfl⟩
 have hne1 : ¬ b = g := by omega
 rw [hb] at HI
 rw [hb]
 clear hc0
 generalize W.alloc (.cells #[.int .i64 x.f0, .int .i64 x.f1, .string x.f2, .string x.f3, .int .i64 x.f4] 40) = w1 at HA HI HR HO HK HB ⊢
 clear HA hb
 refine wp_region_held_drew (S := fun w' => w'.cell? ⟨g, 1, none⟩ = some (.slice A keys.length c) ∧ w'.cell? ⟨b, 2, none⟩ = some (.string x.f2) ∧ Lv w' g 7 (.slice A keys.length c) ∧ Itm w' b x ∧ Keys w0 w' g (.slice A keys.length c) keys ∧ Below w0.heap.size w0 w' ∧ KeepBut w1 w' g none) (by kernel_rfl) ⟨lv_cell1 HR.out, itm_cell2 HI.out, HR.out, HI.out, Kd.R_move HO.out (fun _ _ => rfl), below_drew1 HB.out, KeepBut.refl _ _ _⟩ (fun hHeld => ?_)
 refine wpAnyH_take (i := 0) (oi := { dst := some 13, op := _, type := _, pos := _, after := _, guard := _ }) (v := ?_) rfl (by kernel_rfl) (by kernel_rfl) (by kernel_rfl) (fun _ _ _ h => h) (Or.inl ⟨by rfl, ?_⟩) (by assumption) ?_
 rotate_left
 ·intro w hSw
  (try dsimp only at hSw)
  have hl0 := hSw.1
  have hl1 := hSw.2.1
  clear hSw
  go_simp
  (try with_reducible rfl)
 (try simp only [Act.put, qA, qB, qC])
 refine wpAnyH_take (i := 1) (oi := { dst := some 14, op := _, type := _, pos := _, after := _, guard := _ }) (v := ?_) rfl (by kernel_rfl) (by kernel_rfl) (by kernel_rfl) (fun _ _ _ h => h) (Or.inl ⟨by rfl, ?_⟩) (by assumption) ?_
 rotate_left
 ·intro w hSw
  (try dsimp only at hSw)
  have hl0 := hSw.1
  have hl1 := hSw.2.1
  clear hSw
  go_simp
  (try with_reducible rfl)
 (try simp only [Act.put, qA, qB, qC])
 refine wpAnyH_ready (rs := [2]) (by kernel_rfl) (by simp) ?_
 refine AllReadyH.cons (o := { dst := some 15, op := _, type := _, pos := _, after := _, guard := _ }) rfl (fun K hK => ?_) AllReadyH.nil
 go_simp
 (go_at_call 30; refine (utf_Valid.calls x.f2 _ _ FV.out (JT.out.step hHeld.2.2.2.2.2.1)).mono ?_; rintro e w2 ⟨rfl, hbv⟩); go_wp2_with fail
 refine hK.out _ _ ?_ (fun hHeld => ?_)
 ·exact ⟨lv_cell1 (lv_below hHeld.2.2.1 hbv), itm_cell2 ((hbv.block b (blk_lt hHeld.2.2.2.1)).trans hHeld.2.2.2.1), lv_below hHeld.2.2.1 hbv, (hbv.block b (blk_lt hHeld.2.2.2.1)).trans hHeld.2.2.2.1, Kd.R_below hHeld.2.2.2.2.1 hbv, hHeld.2.2.2.2.2.1.trans (hbv.mono hHeld.2.2.2.2.2.1.size), hHeld.2.2.2.2.2.2.trans (KeepBut.of_below hbv g none) (.inl rfl)⟩
 clear hK K
 (try simp only [Act.put, qA, qB, qC])
 refine wpAnyH_take (i := 3) (oi := { dst := some 16, op := _, type := _, pos := _, after := _, guard := _ }) (v := ?_) rfl (by kernel_rfl) (by kernel_rfl) (by kernel_rfl) (fun _ _ _ h => h) (Or.inl ⟨by rfl, ?_⟩) (by assumption) ?_
 rotate_left
 ·intro w hSw
  (try dsimp only at hSw)
  have hl0 := hSw.1
  have hl1 := hSw.2.1
  clear hSw
  go_simp
  (try with_reducible rfl)
 (try simp only [Act.put, qA, qB, qC])
 refine wpAnyH_take (i := 4) (oi := { dst := some 17, op := _, type := _, pos := _, after := _, guard := _ }) (v := ?_) rfl (by kernel_rfl) (by kernel_rfl) (by kernel_rfl) (fun _ _ _ h => h) (Or.inl ⟨by rfl, ?_⟩) (by assumption) ?_
 rotate_left
 ·intro w hSw
  (try dsimp only at hSw)
  have hl0 := hSw.1
  have hl1 := hSw.2.1
  clear hSw
  go_simp
  (try with_reducible rfl)
 (try simp only [Act.put, qA, qB, qC])
 refine wpAnyH_take (i := 5) (oi := { dst := some 18, op := _, type := _, pos := _, after := _, guard := _ }) (v := ?_) rfl (by kernel_rfl) (by kernel_rfl) (by kernel_rfl) (fun _ _ _ h => h) (Or.inl ⟨by rfl, ?_⟩) (by assumption) ?_
 rotate_left
 ·intro w hSw
  (try dsimp only at hSw)
  have hl0 := hSw.1
  have hl1 := hSw.2.1
  clear hSw
  go_simp
  (try with_reducible rfl)
 (try simp only [Act.put, qA, qB, qC])
 refine wpAnyH_take (i := 6) (oi := { dst := some 19, op := _, type := _, pos := _, after := _, guard := _ }) (v := ?_) rfl (by kernel_rfl) (by kernel_rfl) (by kernel_rfl) (fun _ _ _ h => h) (Or.inl ⟨by rfl, ?_⟩) (by assumption) ?_
 rotate_left
 ·intro w hSw
  (try dsimp only at hSw)
  have hl0 := hSw.1
  have hl1 := hSw.2.1
  clear hSw
  go_simp
  (try with_reducible rfl)
 (try simp only [Act.put, qA, qB, qC])
 refine wpAnyH_take (i := 7) (oi := { dst := some 20, op := _, type := _, pos := _, after := _, guard := _ }) (v := ?_) rfl (by kernel_rfl) (by kernel_rfl) (by kernel_rfl) (fun _ _ _ h => h) (Or.inl ⟨by rfl, ?_⟩) (by assumption) ?_
 rotate_left
 ·intro w hSw
  (try dsimp only at hSw)
  have hl0 := hSw.1
  have hl1 := hSw.2.1
  clear hSw
  go_simp
  (try with_reducible rfl)
 (try simp only [Act.put, qA, qB, qC])
 refine wpAnyH_take (i := 8) (oi := { dst := some 21, op := _, type := _, pos := _, after := _, guard := _ }) (v := ?_) rfl (by kernel_rfl) (by kernel_rfl) (by kernel_rfl) (fun _ _ _ h => h) (Or.inl ⟨by rfl, ?_⟩) (by assumption) ?_
 rotate_left
 ·intro w hSw
  (try dsimp only at hSw)
  have hl0 := hSw.1
  have hl1 := hSw.2.1
  clear hSw
  go_simp
  (try with_reducible rfl)
 (try simp only [Act.put, qA, qB, qC])
 refine wpAnyH_take (i := 9) (oi := { dst := some 22, op := _, type := _, pos := _, after := _, guard := _ }) (v := ?_) rfl (by kernel_rfl) (by kernel_rfl) (by kernel_rfl) (fun _ _ _ h => h) (Or.inl ⟨by rfl, ?_⟩) (by assumption) ?_
 rotate_left
 ·intro w hSw
  (try dsimp only at hSw)
  have hl0 := hSw.1
  have hl1 := hSw.2.1
  clear hSw
  go_simp
  (try with_reducible rfl)
 (try simp only [Act.put, qA, qB, qC])
 refine wpAnyH_take (i := 10) (oi := { dst := some 23, op := _, type := _, pos := _, after := _, guard := _ }) (v := ?_) rfl (by kernel_rfl) (by kernel_rfl) (by kernel_rfl) (fun _ _ _ h => h) (Or.inl ⟨by rfl, ?_⟩) (by assumption) ?_
 rotate_left
 ·intro w hSw
  (try dsimp only at hSw)
  have hl0 := hSw.1
  have hl1 := hSw.2.1
  clear hSw
  go_simp
  (try with_reducible rfl)
 (try simp only [Act.put, qA, qB, qC])
 refine wpAnyH_ready (rs := [11]) (by kernel_rfl) (by simp) ?_
 refine AllReadyH.cons (o := { dst := some 24, op := _, type := _, pos := _, after := _, guard := _ }) rfl (fun K hK => ?_) AllReadyH.nil
 go_simp
 (go_at_call 53; refine (slices_Contains_string_string.calls (keys.length + 1) A c keys x.f2 _ _ (Kd.R_reads' hHeld.2.2.2.2.1).2.2 HC.out FC.out).mono ?_; rintro e w3 ⟨rfl, ⟨nd, rfl⟩⟩; have hbv := pw_below_drewN (Below.refl w2.heap.size w2) nd); go_wp2_with fail
 refine hK.out _ _ ?_ (fun hHeld => ?_)
 ·exact ⟨lv_cell1 (lv_below hHeld.2.2.1 hbv), itm_cell2 ((hbv.block b (blk_lt hHeld.2.2.2.1)).trans hHeld.2.2.2.1), lv_below hHeld.2.2.1 hbv, (hbv.block b (blk_lt hHeld.2.2.2.1)).trans hHeld.2.2.2.1, Kd.R_below hHeld.2.2.2.2.1 hbv, hHeld.2.2.2.2.2.1.trans (hbv.mono hHeld.2.2.2.2.2.1.size), hHeld.2.2.2.2.2.2.trans (KeepBut.of_below hbv g none) (.inl rfl)⟩
 clear hK K
 (try simp only [Act.put, qA, qB, qC])
 refine wpAnyH_take (i := 12) (oi := { dst := some 25, op := _, type := _, pos := _, after := _, guard := _ }) (v := ?_) rfl (by kernel_rfl) (by kernel_rfl) (by kernel_rfl) (fun _ _ _ h => h) (Or.inl ⟨by rfl, ?_⟩) (by assumption) ?_
 rotate_left
 ·intro w hSw
  (try dsimp only at hSw)
  have hl0 := hSw.1
  have hl1 := hSw.2.1
  clear hSw
  go_simp
  (try with_reducible rfl)
 (try simp only [Act.put, qA, qB, qC])
 refine wpAnyH_done (by kernel_rfl) ?_ _
 have HL := Aside0.mk hHeld
 clear hHeld
 go_wp2_with fail
 go_ret
 exact ⟨rfl, LvLeft.pre (HK.out.trans HL.out.2.2.2.2.2.2 (.inl rfl)) ⟨⟨_, HL.out.2.2.1, HL.out.2.2.2.2.1, .inl rfl⟩, HL.out.2.2.2.2.2.1, KeepBut.refl _ _ _⟩⟩
set_option maxHeartbeats 8000000 in
set_option maxRecDepth 100000 in
theorem member_yes (w0 W : World) (g : Nat) (kind : Int) (A : Option Addr) (c : Nat) (keys : List ByteArray) (x : S40) (hR : Lv W g kind (.slice A keys.length c)) (hO : Keys w0 W g (.slice A keys.length c) keys) (hB : Below w0.heap.size w0 W) (hg : w0.heap.size ≤ g) (hj : Tabs w0) (hk : kind = 7) (hv : utf_Valid.f x.f2 = some true) (hh : hasB x.f2 keys = false) (hl : (keys.length + 1) * 16 ≤ 140737488355328) :
  Calls Tryz.prog 31 #[.pointer (some ⟨g, 0, none⟩), itemV x] W fun e W' => e = .returned (.bool true) ∧ LvLeft w0 W W' g kind (.slice A keys.length c) (keys ++ [x.f2]) := by
 have HR := Aside0.mk hR
 have HO := Aside0.mk hO
 have HB := Aside0.mk hB
 have HG := Aside0.mk hg
 have JT := Aside0.mk hj
 subst hk
 have n1 : ((7 : Int) == 7) = true := rfl
 have FV := Aside0.mk hv
 have HKL := Aside0.mk hl
 have HC := Aside0.mk (Kd.R_reads' hO).2.1
 have HLn := (Kd.R_reads' hO).2.2.2.1
 have FC : Aside0 (slices_Contains_string_string.f (keys.length + 1) keys x.f2 = some false) := ⟨by rw [contains_f _ _ _ (by omega) HLn, hh]⟩
 clear hh HLn
 clear hR hO hB hg hj hv hl
 have hgW := blk_lt HR.out
 have HA : Aside0 (Below W.heap.size W (W.alloc (.cells #[.int .i64 x.f0, .int .i64 x.f1, .string x.f2, .string x.f3, .int .i64 x.f4] 40))) := ⟨below_alloc (Below.refl _ _) _⟩
 have HR := Aside0.mk (lv_below HR.out HA.out)
 have HO := Aside0.mk (Kd.R_below HO.out HA.out)
 have HK := Aside0.mk (KeepBut.of_below HA.out g none)
 have HB := Aside0.mk (below_step HB.out HA.out)
 have HI : Aside0 (Itm (W.alloc (.cells #[.int .i64 x.f0, .int .i64 x.f1, .string x.f2, .string x.f3, .int .i64 x.f4] 40)) W.heap.size x) := ⟨heap_alloc_new _ _⟩
 have hc0 := lv_cell0 HR.out
 unfold itemV
 go_enter Tryz.func31, Tryz.ntmps31
 go_wp2_with fail
 obtain ⟨b, hb⟩ : ∃ b, W.heap.size = b := ⟨_, rfl⟩
 have hne1 : ¬ b = g := by omega
 rw [hb] at HI
 rw [hb]
 clear hc0
 generalize W.alloc (.cells #[.int .i64 x.f0, .int .i64 x.f1, .string x.f2, .string x.f3, .int .i64 x.f4] 40) = w1 at HA HI HR HO HK HB ⊢
 clear HA hb
 refine wp_region_held_drew (S := fun w' => w'.cell? ⟨g, 1, none⟩ = some (.slice A keys.length c) ∧ w'.cell? ⟨b, 2, none⟩ = some (.string x.f2) ∧ Lv w' g 7 (.slice A keys.length c) ∧ Itm w' b x ∧ Keys w0 w' g (.slice A keys.length c) keys ∧ Below w0.heap.size w0 w' ∧ KeepBut w1 w' g none) (by kernel_rfl) ⟨lv_cell1 HR.out, itm_cell2 HI.out, HR.out, HI.out, Kd.R_move HO.out (fun _ _ => rfl), below_drew1 HB.out, KeepBut.refl _ _ _⟩ (fun hHeld => ?_)
 refine wpAnyH_take (i := 0) (oi := { dst := some 13, op := _, type := _, pos := _, after := _, guard := _ }) (v := ?_) rfl (by kernel_rfl) (by kernel_rfl) (by kernel_rfl) (fun _ _ _ h => h) (Or.inl ⟨by rfl, ?_⟩) (by assumption) ?_
 rotate_left
 ·intro w hSw
  (try dsimp only at hSw)
  have hl0 := hSw.1
  have hl1 := hSw.2.1
  clear hSw
  go_simp
  (try with_reducible rfl)
 (try simp only [Act.put, qA, qB, qC])
 refine wpAnyH_take (i := 1) (oi := { dst := some 14, op := _, type := _, pos := _, after := _, guard := _ }) (v := ?_) rfl (by kernel_rfl) (by kernel_rfl) (by kernel_rfl) (fun _ _ _ h => h) (Or.inl ⟨by rfl, ?_⟩) (by assumption) ?_
 rotate_left
 ·intro w hSw
  (try dsimp only at hSw)
  have hl0 := hSw.1
  have hl1 := hSw.2.1
  clear hSw
  go_simp
  (try with_reducible rfl)
 (try simp only [Act.put, qA, qB, qC])
 refine wpAnyH_ready (rs := [2]) (by kernel_rfl) (by simp) ?_
 refine AllReadyH.cons (o := { dst := some 15, op := _, type := _, pos := _, after := _, guard := _ }) rfl (fun K hK => ?_) AllReadyH.nil
 go_simp
 (go_at_call 30; refine (utf_Valid.calls x.f2 _ _ FV.out (JT.out.step hHeld.2.2.2.2.2.1)).mono ?_; rintro e w2 ⟨rfl, hbv⟩); go_wp2_with fail
 refine hK.out _ _ ?_ (fun hHeld => ?_)
 ·exact ⟨lv_cell1 (lv_below hHeld.2.2.1 hbv), itm_cell2 ((hbv.block b (blk_lt hHeld.2.2.2.1)).trans hHeld.2.2.2.1), lv_below hHeld.2.2.1 hbv, (hbv.block b (blk_lt hHeld.2.2.2.1)).trans hHeld.2.2.2.1, Kd.R_below hHeld.2.2.2.2.1 hbv, hHeld.2.2.2.2.2.1.trans (hbv.mono hHeld.2.2.2.2.2.1.size), hHeld.2.2.2.2.2.2.trans (KeepBut.of_below hbv g none) (.inl rfl)⟩
 clear hK K
 (try simp only [Act.put, qA, qB, qC])
 refine wpAnyH_take (i := 3) (oi := { dst := some 16, op := _, type := _, pos := _, after := _, guard := _ }) (v := ?_) rfl (by kernel_rfl) (by kernel_rfl) (by kernel_rfl) (fun _ _ _ h => h) (Or.inl ⟨by rfl, ?_⟩) (by assumption) ?_
 rotate_left
 ·intro w hSw
  (try dsimp only at hSw)
  have hl0 := hSw.1
  have hl1 := hSw.2.1
  clear hSw
  go_simp
  (try with_reducible rfl)
 (try simp only [Act.put, qA, qB, qC])
 refine wpAnyH_take (i := 4) (oi := { dst := some 17, op := _, type := _, pos := _, after := _, guard := _ }) (v := ?_) rfl (by kernel_rfl) (by kernel_rfl) (by kernel_rfl) (fun _ _ _ h => h) (Or.inl ⟨by rfl, ?_⟩) (by assumption) ?_
 rotate_left
 ·intro w hSw
  (try dsimp only at hSw)
  have hl0 := hSw.1
  have hl1 := hSw.2.1
  clear hSw
  go_simp
  (try with_reducible rfl)
 (try simp only [Act.put, qA, qB, qC])
 refine wpAnyH_take (i := 5) (oi := { dst := some 18, op := _, type := _, pos := _, after := _, guard := _ }) (v := ?_) rfl (by kernel_rfl) (by kernel_rfl) (by kernel_rfl) (fun _ _ _ h => h) (Or.inl ⟨by rfl, ?_⟩) (by assumption) ?_
 rotate_left
 ·intro w hSw
  (try dsimp only at hSw)
  have hl0 := hSw.1
  have hl1 := hSw.2.1
  clear hSw
  go_simp
  (try with_reducible rfl)
 (try simp only [Act.put, qA, qB, qC])
 refine wpAnyH_take (i := 6) (oi := { dst := some 19, op := _, type := _, pos := _, after := _, guard := _ }) (v := ?_) rfl (by kernel_rfl) (by kernel_rfl) (by kernel_rfl) (fun _ _ _ h => h) (Or.inl ⟨by rfl, ?_⟩) (by assumption) ?_
 rotate_left
 ·intro w hSw
  (try dsimp only at hSw)
  have hl0 := hSw.1
  have hl1 := hSw.2.1
  clear hSw
  go_simp
  (try with_reducible rfl)
 (try simp only [Act.put, qA, qB, qC])
 refine wpAnyH_take (i := 7) (oi := { dst := some 20, op := _, type := _, pos := _, after := _, guard := _ }) (v := ?_) rfl (by kernel_rfl) (by kernel_rfl) (by kernel_rfl) (fun _ _ _ h => h) (Or.inl ⟨by rfl, ?_⟩) (by assumption) ?_
 rotate_left
 ·intro w hSw
  (try dsimp only at hSw)
  have hl0 := hSw.1
  have hl1 := hSw.2.1
  clear hSw
  go_simp
  (try with_reducible rfl)
 (try simp only [Act.put, qA, qB, qC])
 refine wpAnyH_take (i := 8) (oi := { dst := some 21, op := _, type := _, pos := _, after := _, guard := _ }) (v := ?_) rfl (by kernel_rfl) (by kernel_rfl) (by kernel_rfl) (fun _ _ _ h => h) (Or.inl ⟨by rfl, ?_⟩) (by assumption) ?_
 rotate_left
 ·intro w hSw
  (try dsimp only at hSw)
  have hl0 := hSw.1
  have hl1 := hSw.2.1
  clear hSw
  go_simp
  (try with_reducible rfl)
 (try simp only [Act.put, qA, qB, qC])
 refine wpAnyH_take (i := 9) (oi := { dst := some 22, op := _, type := _, pos := _, after := _, guard := _ }) (v := ?_) rfl (by kernel_rfl) (by kernel_rfl) (by kernel_rfl) (fun _ _ _ h => h) (Or.inl ⟨by rfl, ?_⟩) (by assumption) ?_
 rotate_left
 ·intro w hSw
  (try dsimp only at hSw)
  have hl0 := hSw.1
  have hl1 := hSw.2.1
  clear hSw
  go_simp
  (try with_reducible rfl)
 (try simp only [Act.put, qA, qB, qC])
 refine wpAnyH_take (i := 10) (oi := { dst := some 23, op := _, type := _, pos := _, after := _, guard := _ }) (v := ?_) rfl (by kernel_rfl) (by kernel_rfl) (by kernel_rfl) (fun _ _ _ h => h) (Or.inl ⟨by rfl, ?_⟩) (by assumption) ?_
 rotate_left
 ·intro w hSw
  (try dsimp only at hSw)
  have hl0 := hSw.1
  have hl1 := hSw.2.1
  clear hSw
  go_simp
  (try with_reducible rfl)
 (try simp only [Act.put, qA, qB, qC])
 refine wpAnyH_ready (rs := [11]) (by kernel_rfl) (by simp) ?_
 refine AllReadyH.cons (o := { dst := some 24, op := _, type := _, pos := _, after := _, guard := _ }) rfl (fun K hK => ?_) AllReadyH.nil
 go_simp
 (go_at_call 53; refine (slices_Contains_string_string.calls (keys.length + 1) A c keys x.f2 _ _ (Kd.R_reads' hHeld.2.2.2.2.1).2.2 HC.out FC.out).mono ?_; rintro e w3 ⟨rfl, ⟨nd, rfl⟩⟩; have hbv := pw_below_drewN (Below.refl w2.heap.size w2) nd); go_wp2_with fail
 refine hK.out _ _ ?_ (fun hHeld => ?_)
 ·exact ⟨lv_cell1 (lv_below hHeld.2.2.1 hbv), itm_cell2 ((hbv.block b (blk_lt hHeld.2.2.2.1)).trans hHeld.2.2.2.1), lv_below hHeld.2.2.1 hbv, (hbv.block b (blk_lt hHeld.2.2.2.1)).trans hHeld.2.2.2.1, Kd.R_below hHeld.2.2.2.2.1 hbv, hHeld.2.2.2.2.2.1.trans (hbv.mono hHeld.2.2.2.2.2.1.size), hHeld.2.2.2.2.2.2.trans (KeepBut.of_below hbv g none) (.inl rfl)⟩
 clear hK K
 (try simp only [Act.put, qA, qB, qC])
 refine wpAnyH_take (i := 12) (oi := { dst := some 25, op := _, type := _, pos := _, after := _, guard := _ }) (v := ?_) rfl (by kernel_rfl) (by kernel_rfl) (by kernel_rfl) (fun _ _ _ h => h) (Or.inl ⟨by rfl, ?_⟩) (by assumption) ?_
 rotate_left
 ·intro w hSw
  (try dsimp only at hSw)
  have hl0 := hSw.1
  have hl1 := hSw.2.1
  clear hSw
  go_simp
  (try with_reducible rfl)
 (try simp only [Act.put, qA, qB, qC])
 refine wpAnyH_done (by kernel_rfl) ?_ _
 have HL := Aside0.mk hHeld
 clear hHeld
 go_wp2_with fail
 generalize w2.drewN nd = w4 at HL ⊢
 refine start_ (n := 12) (S := fun w' => w'.cell? ⟨g, 1, none⟩ = some (.slice A keys.length c) ∧ w'.cell? ⟨b, 2, none⟩ = some (.string x.f2)) (ds := [8, 11]) #[false, false, false, false, false, false, false, false, false, false, false, false] (by kernel_rfl) rfl rfl ⟨lv_cell1 HL.out.2.2.1, itm_cell2 HL.out.2.2.2.1⟩ (fun hHeld => ?_)
 refine pure_ (i := 0) (N := some 26) (v := ?_) (a' := ?_) #[true, false, false, false, false, false, false, false, false, false, false, false] rfl rfl (by kernel_rfl) (fun _ _ _ h => h) (Or.inl ⟨by rfl, ?_⟩) ?_ ?_
 rotate_left
 ·intro w'
  go_simp
  (try with_reducible rfl)
 rotate_left
 ·simp only [Act.put, qA, qB, qC]
  rfl
 refine pure_ (i := 1) (N := some 27) (v := ?_) (a' := ?_) #[true, true, false, false, false, false, false, false, false, false, false, false] rfl rfl (by kernel_rfl) (fun _ _ _ h => h) (Or.inl ⟨by rfl, ?_⟩) ?_ ?_
 rotate_left
 ·intro w'
  go_simp
  (try with_reducible rfl)
 rotate_left
 ·simp only [Act.put, qA, qB, qC]
  rfl
 refine pure_ (i := 2) (N := some 28) (v := ?_) (a' := ?_) #[true, true, true, false, false, false, false, false, false, false, false, false] rfl rfl (by kernel_rfl) (fun _ _ _ h => h) (Or.inl ⟨by rfl, ?_⟩) ?_ ?_
 rotate_left
 ·intro w'
  go_simp
  (try with_reducible rfl)
 rotate_left
 ·simp only [Act.put, qA, qB, qC]
  rfl
 refine pure_ (i := 3) (N := some 29) (v := ?_) (a' := ?_) #[true, true, true, true, false, false, false, false, false, false, false, false] rfl rfl (by kernel_rfl) (fun _ _ _ h => h) (Or.inl ⟨by rfl, ?_⟩) ?_ ?_
 rotate_left
 ·intro w'
  go_simp
  (try with_reducible rfl)
 rotate_left
 ·simp only [Act.put, qA, qB, qC]
  rfl
 refine take_ (i := 4) (N := some 30) (v := ?_) (a' := ?_) #[true, true, true, true, true, false, false, false, false, false, false, false] rfl rfl (by kernel_rfl) (fun _ _ _ h => h) (Or.inl ⟨by rfl, ?_⟩) (by assumption) ?_ ?_
 rotate_left
 ·intro w hSw
  obtain ⟨hl0, hl1⟩ := hSw
  go_simp
  (try with_reducible rfl)
 rotate_left
 ·simp only [Act.put, qA, qB, qC]
  rfl
 refine pure_ (i := 5) (N := some 31) (v := ?_) (a' := ?_) #[true, true, true, true, true, true, false, false, false, false, false, false] rfl rfl (by kernel_rfl) (fun _ _ _ h => h) (Or.inl ⟨by rfl, ?_⟩) ?_ ?_
 rotate_left
 ·intro w'
  go_simp
  (try with_reducible rfl)
 rotate_left
 ·simp only [Act.put, qA, qB, qC]
  rfl
 refine take_ (i := 6) (N := some 32) (v := ?_) (a' := ?_) #[true, true, true, true, true, true, true, false, false, false, false, false] rfl rfl (by kernel_rfl) (fun _ _ _ h => h) (Or.inl ⟨by rfl, ?_⟩) (by assumption) ?_ ?_
 rotate_left
 ·intro w hSw
  obtain ⟨hl0, hl1⟩ := hSw
  go_simp
  (try with_reducible rfl)
 rotate_left
 ·simp only [Act.put, qA, qB, qC]
  rfl
 refine one_ (i := 7) (N := some 33) #[true, true, true, true, true, true, true, true, false, false, false, false] rfl rfl (by kernel_rfl) (by decide) (fun K hK => ?_)
 refine event_step (W := w4.drew) (v := .slice (some ⟨w4.heap.size, 0, none⟩) 1 1) (w1 := w4.drew.alloc (.cells #[.string x.f2] 9)) (by rfl) (by kernel_rfl) ?_
 refine hK.out _ _ ?_ (fun hHeld => ?_)
 ·exact keep_key HL.out.2.2.1 HL.out.2.2.2.1 _
 clear hK K
 (try simp only [Act.put, qA, qB, qC])
 refine last_ (i := 8) (N := some 34) #[true, true, true, true, true, true, true, true, true, false, false, false] rfl rfl (by kernel_rfl) (by decide) (fun K hK => ?_)
 refine push_key (.tmp 30) (.tmp 33) (by rfl) rfl rfl rfl HL.out.2.2.1 HL.out.2.2.2.2.1 HL.out.2.2.2.2.2.1 HG.out HKL.out ?_
 intro As N2 cc w2 hR2 hP2
 have hc2 := lv_cell1 hR2
 have hf2 := blk_frozen hR2 1
 have HP := Aside0.mk hP2
 clear hR2 hP2
 refine hK.out _ _ ?_
 clear hK K
 (try simp only [Act.put, qA, qB, qC])
 refine pure_ (i := 9) (N := some 35) (v := ?_) (a' := ?_) #[true, true, true, true, true, true, true, true, true, true, false, false] rfl rfl (by kernel_rfl) (fun _ _ _ h => h) (Or.inl ⟨by rfl, ?_⟩) ?_ ?_
 rotate_left
 ·intro w'
  go_simp
  (try with_reducible rfl)
 rotate_left
 ·simp only [Act.put, qA, qB, qC]
  rfl
 refine pure_ (i := 10) (N := some 36) (v := ?_) (a' := ?_) #[true, true, true, true, true, true, true, true, true, true, true, false] rfl rfl (by kernel_rfl) (fun _ _ _ h => h) (Or.inl ⟨by rfl, ?_⟩) ?_ ?_
 rotate_left
 ·intro w'
  go_simp
  (try with_reducible rfl)
 rotate_left
 ·simp only [Act.put, qA, qB, qC]
  rfl
 refine last_ (i := 11) (N := none) #[true, true, true, true, true, true, true, true, true, true, true, true] rfl rfl (by kernel_rfl) (by decide) (fun K hK => ?_)
 go_simp
 refine hK.out _ _ ?_
 clear hK K
 (try simp only [Act.put, qA, qB, qC])
 refine done_ (by kernel_rfl) ?_
 go_wp2_with fail
 go_ret
 exact ⟨rfl, LvLeft.pre (HK.out.trans HL.out.2.2.2.2.2.2 (.inl rfl)) HP.out⟩
def memberF (kind : Int) (keys : List ByteArray) (x : S40) : Option (Bool × List ByteArray) :=
 if kind = 7 then (utf_Valid.f x.f2).bind fun ok => if ok = true then (if hasB x.f2 keys = true then some (false, keys) else if (keys.length + 1) * 16 ≤ 140737488355328 then some (true, keys ++ [x.f2]) else none) else some (false, keys)
 else some (x.f2.toList.isEmpty, keys)
theorem member_calls (w0 W : World) (g : Nat) (kind : Int) (kv : Value) (keys : List ByteArray) (x : S40) (r : Bool × List ByteArray) (h : memberF kind keys x = some r) (hR : Lv W g kind kv) (hO : Keys w0 W g kv keys) (hB : Below w0.heap.size w0 W) (hg : w0.heap.size ≤ g) (hj : Tabs w0) :
  Calls Tryz.prog 31 #[.pointer (some ⟨g, 0, none⟩), itemV x] W fun e W' => e = .returned (.bool r.1) ∧ LvLeft w0 W W' g kind kv r.2 := by
 obtain ⟨A, c, rfl⟩ := Kd.R_slice hO
 unfold memberF at h
 by_cases hk : kind = 7
 ·rw [if_pos hk] at h
  obtain ⟨ok, hv, h⟩ := Option.bind_eq_some_iff.1 h
  cases ok with
  | true =>
   rw [if_pos rfl] at h
   by_cases hh : hasB x.f2 keys = true
   ·rw [if_pos hh] at h
    cases h
    exact member_twice w0 W g kind A c _ x hR hO hB hg hj hk hv hh
   ·rw [if_neg hh] at h
    by_cases hl : (keys.length + 1) * 16 ≤ 140737488355328
    ·rw [if_pos hl] at h
     cases h
     exact member_yes w0 W g kind A c keys x hR hO hB hg hj hk hv (Bool.eq_false_iff.2 hh) hl
    ·rw [if_neg hl] at h; cases h
  | false =>
   rw [if_neg (by decide)] at h
   cases h
   exact member_bad w0 W g kind A c _ x hR hO hB hg hj hk hv
 ·rw [if_neg hk] at h
  cases h
  exact member_no w0 W g kind A c _ x hR hO hB hg hj hk
end Go.Proofs.YthhmmaihbjhhgaaGreatDoor.Giv
