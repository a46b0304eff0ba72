/- What the proof of chapter 8's laws, part 4, stands on: cut and merged by a program out of this session's texts. -/
import Derived.Test.YthhmmaihbjhhgaaDoorKB3
set_option linter.unusedVariables false
set_option linter.unusedSimpArgs false
namespace Go.Proofs.YthhmmaihbjhhgaaDoor.Giv
open Go.RowKit Go.Proofs.YthhmmaihbjhhgaaDoorW.PrintWords Go.Proofs.YthhmmaihbjhhgaaDoorW.PrintLast Go.Proofs.YthhmmaihbjhhgaaDoorW.PrintMore
open Go.Proofs.YthhmmaihbjhhgaaDoor.U1 Go.Proofs.YthhmmaihbjhhgaaDoor.Q1 Go.Proofs.YthhmmaihbjhhgaaDoor.J0 Go.Proofs.YthhmmaihbjhhgaaDoor.J1
set_option linter.unusedSimpArgs false
def wordF (s : ByteArray) (p : Nat) (out : List S59) (x : S59) : Int × Nat × List S59 :=
  if [110, 117, 108, 108] <+: s.data.toList.drop p then (0, p + 4, out ++ [⟨x.f0, 1, x.f2, x.f3, x.f4⟩])
  else if [102, 97, 108, 115, 101] <+: s.data.toList.drop p then (0, p + 5, out ++ [⟨x.f0, 2, x.f2, x.f3, x.f4⟩])
  else if [116, 114, 117, 101] <+: s.data.toList.drop p then (0, p + 4, out ++ [⟨x.f0, 3, x.f2, x.f3, x.f4⟩])
  else (80, p, out)
theorem word_calls (w0 W : World) (g : Nat) (s : ByteArray) (p : Nat) (v : Value) (out : List S59) (x : S59) (hR : Rd W g s p v) (hO : Out w0 W g v out) (hB : Below w0.heap.size w0 W) (hg : w0.heap.size ≤ g) (hp : p ≤ s.size) (hs : s.size ≤ 4611686018427387904) (hl : (out.length + 1) * 56 ≤ 140737488355328) :
    Calls Tryd.prog 90 #[.pointer (some ⟨g, 0, none⟩), itemV x] W fun e W' => e = .returned (.int .i64 (wordF s p out x).1) ∧ Left w0 W W' g s (wordF s p out x).2.1 v (wordF s p out x).2.2 := by
  have len : ∀ t : List UInt8, decide (t <+: s.data.toList.drop p) = true → p + t.length ≤ s.size := by
    intro t h
    have := List.IsPrefix.length_le (of_decide_eq_true h)
    rw [List.length_drop, data_length] at this
    omega
  have h := word_walk w0 W g s p v out x hR hO hB hg hp hs hl _ _ _ (prefix_f s p [110, 117, 108, 108]) (prefix_f s p [102, 97, 108, 115, 101]) (prefix_f s p [116, 114, 117, 101]) (len _) (len _) (len _)
  unfold wordF
  by_cases a : [110, 117, 108, 108] <+: s.data.toList.drop p
  · rw [decide_eq_true a] at h; rw [if_pos a]; exact h
  · rw [decide_eq_false a] at h; rw [if_neg a]
    by_cases b : [102, 97, 108, 115, 101] <+: s.data.toList.drop p
    · rw [decide_eq_true b] at h; rw [if_pos b]; exact h
    · rw [decide_eq_false b] at h; rw [if_neg b]
      by_cases c : [116, 114, 117, 101] <+: s.data.toList.drop p
      · rw [decide_eq_true c] at h; rw [if_pos c]; exact h
      · rw [decide_eq_false c] at h; rw [if_neg c]; exact h
theorem Left.comp {w0 w1 wf W' : World} {g q : Nat} {s : ByteArray} {v v' : Value} {out : List S59} (hA : v'.ownBlock = v.ownBlock ∨ ∃ b, v'.ownBlock = some b ∧ w1.heap.size ≤ b) (hK : KeepBut w1 wf g v.ownBlock) (h : Left w0 wf W' g s q v' out) : Left w0 w1 W' g s q v out := by
  refine ⟨?_, h.below, hK.trans h.keep hA⟩
  obtain ⟨v2, a, b, c⟩ := h.left
  refine ⟨v2, a, b, ?_⟩
  rcases c with c | ⟨k, c1, c2⟩
  · rw [c]; exact hA
  · exact .inr ⟨k, c1, Nat.le_trans hK.1 c2⟩
set_option maxHeartbeats 8000000 in
set_option maxRecDepth 100000 in
theorem value_word1 (w0 W : World) (g : Nat) (s : ByteArray) (p : Nat) (v : Value) (out : List S59) (x : S59) (hR : Rd W g s p v) (hO : Out w0 W g v out) (hB : Below w0.heap.size w0 W) (hg : w0.heap.size ≤ g) (hp : p ≤ s.size) (hs : s.size ≤ 4611686018427387904) (hj : JTabs w0) (hl : (out.length + 1) * 56 ≤ 140737488355328) (_h91 : nextC s p ≠ 91) (_h123 : nextC s p ≠ 123) (h34 : nextC s p ≠ 34) (h45 : nextC s p ≠ 45) (h48 : nextC s p < 48) :
    Calls Tryd.prog 69 #[.pointer (some ⟨g, 0, none⟩), itemV x] W fun e W' => e = .returned (.int .i64 (wordF s (skipP s p) out x).1) ∧ Left w0 W W' g s (wordF s (skipP s p) out x).2.1 v (wordF s (skipP s p) out x).2.2 := by
  have HR := Aside0.mk hR
  have HO := Aside0.mk hO
  have HB := Aside0.mk hB
  have HG := Aside0.mk hg
  have HS := Aside0.mk hs
  have HP := Aside0.mk hp
  have JT := Aside0.mk hj
  have HP1 := Aside0.mk (skip_le s p hp)
  have HL := Aside0.mk hl
  have c91 : ((nextC s p : Int) == 91) = false := beq_eq_false_iff_ne.mpr (by omega)
  have c123 : ((nextC s p : Int) == 123) = false := beq_eq_false_iff_ne.mpr (by omega)
  have c34 : ((nextC s p : Int) == 34) = false := beq_eq_false_iff_ne.mpr (by omega)
  have c45 : ((nextC s p : Int) == 45) = false := beq_eq_false_iff_ne.mpr (by omega)
  have d48 : decide (48 ≤ (nextC s p : Int)) = false := decide_eq_false (by omega)
  clear hR hB hg hs hO hp hj hl h34 h45 h48
  unfold itemV
  go_enter Tryd.func69, Tryd.ntmps69
  go_wp2_with fail
  obtain ⟨b, hb⟩ : ∃ b, W.heap.size = b := ⟨_, rfl⟩
  have hgW := blk_lt HR.out
  have HA : Aside0 (Below W.heap.size W (W.alloc (.cells #[.int .i64 x.f0, .int .i64 x.f1, .string x.f2, .string x.f3, .int .i64 x.f4] 59))) := ⟨below_alloc (Below.refl _ _) _⟩
  have HI : Aside0 (Itm (W.alloc (.cells #[.int .i64 x.f0, .int .i64 x.f1, .string x.f2, .string x.f3, .int .i64 x.f4] 59)) b x) := ⟨by rw [← hb]; exact heap_alloc_new _ _⟩
  have HR := Aside0.mk (rd_below HR.out HA.out)
  have HO : Aside0 (Kd.R k59 59 (W.alloc (.cells #[.int .i64 x.f0, .int .i64 x.f1, .string x.f2, .string x.f3, .int .i64 x.f4] 59)) w0.heap.size (fun j => j ≠ g ∧ j ≠ b) v out) := ⟨Kd.R_below (Kd.R_mono (Kd.R_bound HO.out) (fun k hk => ⟨hk.1, by have := hk.2.2.1; omega⟩)) HA.out⟩
  have HK := Aside0.mk (KeepBut.of_below HA.out g none)
  have HBo := HB
  have HB := Aside0.mk (below_step HB.out HA.out)
  have HB0 : Aside0 (w0.heap.size ≤ W.heap.size) := ⟨HBo.out.size⟩
  have HBG : Aside0 (W.heap.size ≤ b) := ⟨by omega⟩
  have hne1 : ¬ b = g := by omega
  have hne2 : ¬ g = b := by omega
  rw [hb]
  generalize W.alloc (.cells #[.int .i64 x.f0, .int .i64 x.f1, .string x.f2, .string x.f3, .int .i64 x.f4] 59) = W1 at HA HI HR HO HK HB ⊢
  clear HA hb
  go_wp2_with (first
    | (go_at_call 70; refine (next_calls w0 W1 g s p v HR.out HB.out HG.out HP.out HS.out).mono ?_; rintro e w2 ⟨rfl, hR2, hB2, hK2⟩; have HI := Aside0.mk ((hK2.2 b (blk_lt HI.out) hne1 (by simp)).trans HI.out); have HR := Aside0.mk hR2; have HO := Aside0.mk (Kd.R_keep HO.out hK2 (fun _ h => h.1)) ; have HK := Aside0.mk (HK.out.trans hK2 (.inl rfl)); have HB := Aside0.mk hB2; clear hR2 hB2 hK2; have hm0 : w2.cell? ⟨b, 0, none⟩ = some (.int .i64 x.f0) := (blk_cell HI.out 0).trans rfl; have hm1 : w2.cell? ⟨b, 1, none⟩ = some (.int .i64 x.f1) := (blk_cell HI.out 1).trans rfl; have hm2 : w2.cell? ⟨b, 2, none⟩ = some (.string x.f2) := (blk_cell HI.out 2).trans rfl; have hm3 : w2.cell? ⟨b, 3, none⟩ = some (.string x.f3) := (blk_cell HI.out 3).trans rfl; have hm4 : w2.cell? ⟨b, 4, none⟩ = some (.int .i64 x.f4) := (blk_cell HI.out 4).trans rfl)
    | (go_at_call 90; refine (word_calls w0 w2 g s (skipP s p) v out x HR.out (Kd.R_mono HO.out (fun _ h => h.1)) HB.out HG.out HP1.out HS.out HL.out).mono ?_; rintro e w3 ⟨rfl, hL⟩; have HL3 := Aside0.mk hL; clear hL))
  go_ret
  exact ⟨rfl, Left.pre HK.out HL3.out⟩
set_option maxHeartbeats 8000000 in
set_option maxRecDepth 100000 in
theorem value_word2 (w0 W : World) (g : Nat) (s : ByteArray) (p : Nat) (v : Value) (out : List S59) (x : S59) (hR : Rd W g s p v) (hO : Out w0 W g v out) (hB : Below w0.heap.size w0 W) (hg : w0.heap.size ≤ g) (hp : p ≤ s.size) (hs : s.size ≤ 4611686018427387904) (hj : JTabs w0) (hl : (out.length + 1) * 56 ≤ 140737488355328) (h91 : nextC s p ≠ 91) (h123 : nextC s p ≠ 123) (h34 : nextC s p ≠ 34) (h45 : nextC s p ≠ 45) (h48 : 57 < nextC s p) :
    Calls Tryd.prog 69 #[.pointer (some ⟨g, 0, none⟩), itemV x] W fun e W' => e = .returned (.int .i64 (wordF s (skipP s p) out x).1) ∧ Left w0 W W' g s (wordF s (skipP s p) out x).2.1 v (wordF s (skipP s p) out x).2.2 := by
  have HR := Aside0.mk hR
  have HO := Aside0.mk hO
  have HB := Aside0.mk hB
  have HG := Aside0.mk hg
  have HS := Aside0.mk hs
  have HP := Aside0.mk hp
  have JT := Aside0.mk hj
  have HP1 := Aside0.mk (skip_le s p hp)
  have HL := Aside0.mk hl
  have c91 : ((nextC s p : Int) == 91) = false := beq_eq_false_iff_ne.mpr (by omega)
  have c123 : ((nextC s p : Int) == 123) = false := beq_eq_false_iff_ne.mpr (by omega)
  have c34 : ((nextC s p : Int) == 34) = false := beq_eq_false_iff_ne.mpr (by omega)
  have c45 : ((nextC s p : Int) == 45) = false := beq_eq_false_iff_ne.mpr (by omega)
  have d48 : decide (48 ≤ (nextC s p : Int)) = true := decide_eq_true (by omega)
  have d57 : decide ((nextC s p : Int) ≤ 57) = false := decide_eq_false (by omega)
  clear hR hB hg hs hO hp hj hl h91 h123 h34 h45 h48
  unfold itemV
  go_enter Tryd.func69, Tryd.ntmps69
  go_wp2_with fail
  obtain ⟨b, hb⟩ : ∃ b, W.heap.size = b := ⟨_, rfl⟩
  have hgW := blk_lt HR.out
  have HA : Aside0 (Below W.heap.size W (W.alloc (.cells #[.int .i64 x.f0, .int .i64 x.f1, .string x.f2, .string x.f3, .int .i64 x.f4] 59))) := ⟨below_alloc (Below.refl _ _) _⟩
  have HI : Aside0 (Itm (W.alloc (.cells #[.int .i64 x.f0, .int .i64 x.f1, .string x.f2, .string x.f3, .int .i64 x.f4] 59)) b x) := ⟨by rw [← hb]; exact heap_alloc_new _ _⟩
  have HR := Aside0.mk (rd_below HR.out HA.out)
  have HO : Aside0 (Kd.R k59 59 (W.alloc (.cells #[.int .i64 x.f0, .int .i64 x.f1, .string x.f2, .string x.f3, .int .i64 x.f4] 59)) w0.heap.size (fun j => j ≠ g ∧ j ≠ b) v out) := ⟨Kd.R_below (Kd.R_mono (Kd.R_bound HO.out) (fun k hk => ⟨hk.1, by have := hk.2.2.1; omega⟩)) HA.out⟩
  have HK := Aside0.mk (KeepBut.of_below HA.out g none)
  have HBo := HB
  have HB := Aside0.mk (below_step HB.out HA.out)
  have HB0 : Aside0 (w0.heap.size ≤ W.heap.size) := ⟨HBo.out.size⟩
  have HBG : Aside0 (W.heap.size ≤ b) := ⟨by omega⟩
  have hne1 : ¬ b = g := by omega
  have hne2 : ¬ g = b := by omega
  rw [hb]
  generalize W.alloc (.cells #[.int .i64 x.f0, .int .i64 x.f1, .string x.f2, .string x.f3, .int .i64 x.f4] 59) = W1 at HA HI HR HO HK HB ⊢
  clear HA hb
  go_wp2_with (first
    | (go_at_call 70; refine (next_calls w0 W1 g s p v HR.out HB.out HG.out HP.out HS.out).mono ?_; rintro e w2 ⟨rfl, hR2, hB2, hK2⟩; have HI := Aside0.mk ((hK2.2 b (blk_lt HI.out) hne1 (by simp)).trans HI.out); have HR := Aside0.mk hR2; have HO := Aside0.mk (Kd.R_keep HO.out hK2 (fun _ h => h.1)) ; have HK := Aside0.mk (HK.out.trans hK2 (.inl rfl)); have HB := Aside0.mk hB2; clear hR2 hB2 hK2; have hm0 : w2.cell? ⟨b, 0, none⟩ = some (.int .i64 x.f0) := (blk_cell HI.out 0).trans rfl; have hm1 : w2.cell? ⟨b, 1, none⟩ = some (.int .i64 x.f1) := (blk_cell HI.out 1).trans rfl; have hm2 : w2.cell? ⟨b, 2, none⟩ = some (.string x.f2) := (blk_cell HI.out 2).trans rfl; have hm3 : w2.cell? ⟨b, 3, none⟩ = some (.string x.f3) := (blk_cell HI.out 3).trans rfl; have hm4 : w2.cell? ⟨b, 4, none⟩ = some (.int .i64 x.f4) := (blk_cell HI.out 4).trans rfl)
    | (go_at_call 90; refine (word_calls w0 w2 g s (skipP s p) v out x HR.out (Kd.R_mono HO.out (fun _ h => h.1)) HB.out HG.out HP1.out HS.out HL.out).mono ?_; rintro e w3 ⟨rfl, hL⟩; have HL3 := Aside0.mk hL; clear hL))
  go_ret
  exact ⟨rfl, Left.pre HK.out HL3.out⟩
set_option maxHeartbeats 8000000 in
set_option maxRecDepth 100000 in
theorem value_text_err (w0 W : World) (g : Nat) (s : ByteArray) (p : Nat) (v : Value) (out : List S59) (x : S59) (hR : Rd W g s p v) (hO : Out w0 W g v out) (hB : Below w0.heap.size w0 W) (hg : w0.heap.size ≤ g) (hp : p ≤ s.size) (hs : s.size ≤ 4611686018427387904) (hj : JTabs w0) (k : Nat) (t : ByteArray) (m : Nat) (er : Int) (h34 : nextC s p = 34) (hr : quote_Read.f k (s.extract (skipP s p) s.size) = some (t, (m : Int), er)) (hm : skipP s p + m ≤ s.size) (he : er ≠ 0) :
    Calls Tryd.prog 69 #[.pointer (some ⟨g, 0, none⟩), itemV x] W fun e W' => e = .returned (.int .i64 er) ∧ Left w0 W W' g s (skipP s p + m) v out := by
  have HR := Aside0.mk hR
  have HO := Aside0.mk hO
  have HB := Aside0.mk hB
  have HG := Aside0.mk hg
  have HS := Aside0.mk hs
  have HP := Aside0.mk hp
  have JT := Aside0.mk hj
  have HP1 := Aside0.mk (skip_le s p hp)
  have c91 : ((nextC s p : Int) == 91) = false := beq_eq_false_iff_ne.mpr (by omega)
  have c123 : ((nextC s p : Int) == 123) = false := beq_eq_false_iff_ne.mpr (by omega)
  have c34 : ((nextC s p : Int) == 34) = true := beq_iff_eq.mpr (by omega)
  have c45 : ((nextC s p : Int) == 45) = false := beq_eq_false_iff_ne.mpr (by omega)
  have FR := Aside0.mk hr
  have HM := Aside0.mk hm
  have n1 : (er == 0) = false := beq_eq_false_iff_ne.mpr he
  have n2 : (er != 0) = true := bne_iff_ne.mpr he
  clear hR hB hg hs hO hp hj h34 hr hm he
  unfold itemV
  go_enter Tryd.func69, Tryd.ntmps69
  go_wp2_with fail
  obtain ⟨b, hb⟩ : ∃ b, W.heap.size = b := ⟨_, rfl⟩
  have hgW := blk_lt HR.out
  have HA : Aside0 (Below W.heap.size W (W.alloc (.cells #[.int .i64 x.f0, .int .i64 x.f1, .string x.f2, .string x.f3, .int .i64 x.f4] 59))) := ⟨below_alloc (Below.refl _ _) _⟩
  have HI : Aside0 (Itm (W.alloc (.cells #[.int .i64 x.f0, .int .i64 x.f1, .string x.f2, .string x.f3, .int .i64 x.f4] 59)) b x) := ⟨by rw [← hb]; exact heap_alloc_new _ _⟩
  have HR := Aside0.mk (rd_below HR.out HA.out)
  have HO : Aside0 (Kd.R k59 59 (W.alloc (.cells #[.int .i64 x.f0, .int .i64 x.f1, .string x.f2, .string x.f3, .int .i64 x.f4] 59)) w0.heap.size (fun j => j ≠ g ∧ j ≠ b) v out) := ⟨Kd.R_below (Kd.R_mono (Kd.R_bound HO.out) (fun k hk => ⟨hk.1, by have := hk.2.2.1; omega⟩)) HA.out⟩
  have HK := Aside0.mk (KeepBut.of_below HA.out g none)
  have HBo := HB
  have HB := Aside0.mk (below_step HB.out HA.out)
  have HB0 : Aside0 (w0.heap.size ≤ W.heap.size) := ⟨HBo.out.size⟩
  have HBG : Aside0 (W.heap.size ≤ b) := ⟨by omega⟩
  have hne1 : ¬ b = g := by omega
  have hne2 : ¬ g = b := by omega
  rw [hb]
  generalize W.alloc (.cells #[.int .i64 x.f0, .int .i64 x.f1, .string x.f2, .string x.f3, .int .i64 x.f4] 59) = W1 at HA HI HR HO HK HB ⊢
  clear HA hb
  go_wp2_with (first
    | (go_at_call 70; refine (next_calls w0 W1 g s p v HR.out HB.out HG.out HP.out HS.out).mono ?_; rintro e w2 ⟨rfl, hR2, hB2, hK2⟩; have HI := Aside0.mk ((hK2.2 b (blk_lt HI.out) hne1 (by simp)).trans HI.out); have HR := Aside0.mk hR2; have HO := Aside0.mk (Kd.R_keep HO.out hK2 (fun _ h => h.1)) ; have HK := Aside0.mk (HK.out.trans hK2 (.inl rfl)); have HB := Aside0.mk hB2; clear hR2 hB2 hK2; have hm1 : w2.cell? ⟨b, 1, none⟩ = some (.int .i64 x.f1) := (blk_cell HI.out 1).trans rfl; have hfm1 := blk_frozen HI.out 1)
    | (go_at_call 88; have hRx : Rd (w2.setCell ⟨b, 1, none⟩ (.int .i64 5)) g s (skipP s p) v := blk_far HR.out (p := ⟨b, 1, none⟩) hne2 _; have hIx : Itm (w2.setCell ⟨b, 1, none⟩ (.int .i64 5)) b (⟨x.f0, 5, x.f2, x.f3, x.f4⟩ : S59) := blk_set HI.out 1 _; have hBx := below_set (j := 1) (v := .int .i64 5) (g := b) HB.out (Nat.le_trans HB0.out HBG.out); have hOx := Kd.R_far HO.out (p := ⟨b, 1, none⟩) (fun _ h => h.2) (.int .i64 5); have hKx := keep_far HK.out (p := ⟨b, 1, none⟩) HBG.out (.int .i64 5); refine (text_calls k w0 _ g s (skipP s p) v t m _ hRx hBx HG.out HP1.out HS.out JT.out FR.out HM.out).mono ?_; rintro e w3 ⟨rfl, hR3, hB3, hK3⟩; have HI3 := Aside0.mk ((hK3.2 b (blk_lt hIx) hne1 (by simp)).trans hIx); have HR3 := Aside0.mk hR3; have HO3 := Aside0.mk (Kd.R_keep hOx hK3 (fun _ h => h.1)); have HK3 := Aside0.mk (hKx.trans hK3 (.inl rfl)); have HB3 := Aside0.mk hB3; clear hR3 hB3 hK3 hRx hIx hBx hOx hKx; have hfn := blk_frozen HI3.out 3; have hmn : w3.cell? ⟨b, 3, none⟩ = some (.string x.f3) := (blk_cell HI3.out 3).trans rfl))
  go_ret
  exact ⟨rfl, ⟨v, blk_far HR3.out (p := ⟨b, 3, none⟩) hne2 _, Kd.R_mono (Kd.R_far HO3.out (p := ⟨b, 3, none⟩) (fun _ h => h.2) _) (fun _ h => h.1), .inl rfl⟩, below_set HB3.out (Nat.le_trans HB0.out HBG.out), keep_wide (keep_far HK3.out (p := ⟨b, 3, none⟩) HBG.out _)⟩
set_option maxHeartbeats 8000000 in
set_option maxRecDepth 100000 in
theorem value_text (w0 W : World) (g : Nat) (s : ByteArray) (p : Nat) (v : Value) (out : List S59) (x : S59) (hR : Rd W g s p v) (hO : Out w0 W g v out) (hB : Below w0.heap.size w0 W) (hg : w0.heap.size ≤ g) (hp : p ≤ s.size) (hs : s.size ≤ 4611686018427387904) (hj : JTabs w0) (hl : (out.length + 1) * 56 ≤ 140737488355328) (k : Nat) (t : ByteArray) (m : Nat)  (h34 : nextC s p = 34) (hr : quote_Read.f k (s.extract (skipP s p) s.size) = some (t, (m : Int), 0)) (hm : skipP s p + m ≤ s.size) :
    Calls Tryd.prog 69 #[.pointer (some ⟨g, 0, none⟩), itemV x] W fun e W' => e = .returned (.int .i64 0) ∧ Left w0 W W' g s (skipP s p + m) v (out ++ [(⟨x.f0, 5, x.f2, t, x.f4⟩ : S59)]) := by
  have HR := Aside0.mk hR
  have HO := Aside0.mk hO
  have HB := Aside0.mk hB
  have HG := Aside0.mk hg
  have HS := Aside0.mk hs
  have HP := Aside0.mk hp
  have JT := Aside0.mk hj
  have HP1 := Aside0.mk (skip_le s p hp)
  have HL := Aside0.mk hl
  have c91 : ((nextC s p : Int) == 91) = false := beq_eq_false_iff_ne.mpr (by omega)
  have c123 : ((nextC s p : Int) == 123) = false := beq_eq_false_iff_ne.mpr (by omega)
  have c34 : ((nextC s p : Int) == 34) = true := beq_iff_eq.mpr (by omega)
  have c45 : ((nextC s p : Int) == 45) = false := beq_eq_false_iff_ne.mpr (by omega)
  have FR := Aside0.mk hr
  have HM := Aside0.mk hm
  clear hR hB hg hs hO hp hj hl h34 hr hm
  unfold itemV
  go_enter Tryd.func69, Tryd.ntmps69
  go_wp2_with fail
  obtain ⟨b, hb⟩ : ∃ b, W.heap.size = b := ⟨_, rfl⟩
  have hgW := blk_lt HR.out
  have HA : Aside0 (Below W.heap.size W (W.alloc (.cells #[.int .i64 x.f0, .int .i64 x.f1, .string x.f2, .string x.f3, .int .i64 x.f4] 59))) := ⟨below_alloc (Below.refl _ _) _⟩
  have HI : Aside0 (Itm (W.alloc (.cells #[.int .i64 x.f0, .int .i64 x.f1, .string x.f2, .string x.f3, .int .i64 x.f4] 59)) b x) := ⟨by rw [← hb]; exact heap_alloc_new _ _⟩
  have HR := Aside0.mk (rd_below HR.out HA.out)
  have HO : Aside0 (Kd.R k59 59 (W.alloc (.cells #[.int .i64 x.f0, .int .i64 x.f1, .string x.f2, .string x.f3, .int .i64 x.f4] 59)) w0.heap.size (fun j => j ≠ g ∧ j ≠ b) v out) := ⟨Kd.R_below (Kd.R_mono (Kd.R_bound HO.out) (fun k hk => ⟨hk.1, by have := hk.2.2.1; omega⟩)) HA.out⟩
  have HK := Aside0.mk (KeepBut.of_below HA.out g none)
  have HBo := HB
  have HB := Aside0.mk (below_step HB.out HA.out)
  have HB0 : Aside0 (w0.heap.size ≤ W.heap.size) := ⟨HBo.out.size⟩
  have HBG : Aside0 (W.heap.size ≤ b) := ⟨by omega⟩
  have hne1 : ¬ b = g := by omega
  have hne2 : ¬ g = b := by omega
  rw [hb]
  generalize W.alloc (.cells #[.int .i64 x.f0, .int .i64 x.f1, .string x.f2, .string x.f3, .int .i64 x.f4] 59) = W1 at HA HI HR HO HK HB ⊢
  clear HA hb
  go_wp2_with (first
    | (go_at_call 70; refine (next_calls w0 W1 g s p v HR.out HB.out HG.out HP.out HS.out).mono ?_; rintro e w2 ⟨rfl, hR2, hB2, hK2⟩; have HI := Aside0.mk ((hK2.2 b (blk_lt HI.out) hne1 (by simp)).trans HI.out); have HR := Aside0.mk hR2; have HO := Aside0.mk (Kd.R_keep HO.out hK2 (fun _ h => h.1)) ; have HK := Aside0.mk (HK.out.trans hK2 (.inl rfl)); have HB := Aside0.mk hB2; clear hR2 hB2 hK2; have hm1 : w2.cell? ⟨b, 1, none⟩ = some (.int .i64 x.f1) := (blk_cell HI.out 1).trans rfl; have hfm1 := blk_frozen HI.out 1)
    | (go_at_call 88; have hRx : Rd (w2.setCell ⟨b, 1, none⟩ (.int .i64 5)) g s (skipP s p) v := blk_far HR.out (p := ⟨b, 1, none⟩) hne2 _; have hIx : Itm (w2.setCell ⟨b, 1, none⟩ (.int .i64 5)) b (⟨x.f0, 5, x.f2, x.f3, x.f4⟩ : S59) := blk_set HI.out 1 _; have hBx := below_set (j := 1) (v := .int .i64 5) (g := b) HB.out (Nat.le_trans HB0.out HBG.out); have hOx := Kd.R_far HO.out (p := ⟨b, 1, none⟩) (fun _ h => h.2) (.int .i64 5); have hKx := keep_far HK.out (p := ⟨b, 1, none⟩) HBG.out (.int .i64 5); refine (text_calls k w0 _ g s (skipP s p) v t m _ hRx hBx HG.out HP1.out HS.out JT.out FR.out HM.out).mono ?_; rintro e w3 ⟨rfl, hR3, hB3, hK3⟩; have HI3 := Aside0.mk ((hK3.2 b (blk_lt hIx) hne1 (by simp)).trans hIx); have HR3 := Aside0.mk hR3; have HO3 := Aside0.mk (Kd.R_keep hOx hK3 (fun _ h => h.1)); have HK3 := Aside0.mk (hKx.trans hK3 (.inl rfl)); have HB3 := Aside0.mk hB3; clear hR3 hB3 hK3 hRx hIx hBx hOx hKx; have hfn := blk_frozen HI3.out 3; have hmn : w3.cell? ⟨b, 3, none⟩ = some (.string x.f3) := (blk_cell HI3.out 3).trans rfl))
  have HRa : Aside0 (Rd (w3.setCell ⟨b, 3, none⟩ (.string t)) g s (skipP s p + m) v) := ⟨blk_far HR3.out (p := ⟨b, 3, none⟩) hne2 _⟩
  have HIa : Aside0 (Itm (w3.setCell ⟨b, 3, none⟩ (.string t)) b (⟨x.f0, 5, x.f2, t, x.f4⟩ : S59)) := ⟨blk_set HI3.out 3 _⟩
  have HOa := Aside0.mk (Kd.R_far HO3.out (p := ⟨b, 3, none⟩) (fun _ h => h.2) (.string t))
  have HKa := Aside0.mk (keep_far HK3.out (p := ⟨b, 3, none⟩) HBG.out (.string t))
  have HBa := Aside0.mk (below_set (j := 3) (v := .string t) (g := b) HB3.out (Nat.le_trans HB0.out HBG.out))
  clear hfn hmn
  generalize w3.setCell ⟨b, 3, none⟩ (.string t) = w1 at HRa HIa HOa HKa HBa ⊢
  refine start_ (n := 11) (S := fun w' => w'.cell? ⟨g, 2, none⟩ = some v ∧ w'.heap[b]? = some (.cells #[.int .i64 ((⟨x.f0, 5, x.f2, t, x.f4⟩ : S59)).f0, .int .i64 ((⟨x.f0, 5, x.f2, t, x.f4⟩ : S59)).f1, .string ((⟨x.f0, 5, x.f2, t, x.f4⟩ : S59)).f2, .string ((⟨x.f0, 5, x.f2, t, x.f4⟩ : S59)).f3, .int .i64 ((⟨x.f0, 5, x.f2, t, x.f4⟩ : S59)).f4] 59 (0, 0))) (ds := [7, 10]) #[false, false, false, false, false, false, false, false, false, false, false] (by kernel_rfl) rfl rfl ⟨rd_cell2 HRa.out, HIa.out⟩ (fun hHeld => ?_)
  refine pure_ (i := 0) (N := some 79) (v := ?_) (a' := ?_) #[true, false, false, false, false, false, false, false, false, false, false] rfl rfl (by kernel_rfl) (fun _ _ _ h => h) (Or.inl ⟨by rfl, ?_⟩) ?_ ?_
  rotate_left
  · intro w'
    go_simp
    (try with_reducible rfl)
  rotate_left
  · simp only [Act.put, List.setIfInBounds_toArray, List.set_cons_zero, List.set_cons_succ]
    rfl
  refine pure_ (i := 1) (N := some 80) (v := ?_) (a' := ?_) #[true, true, false, false, false, false, false, false, false, false, false] rfl rfl (by kernel_rfl) (fun _ _ _ h => h) (Or.inl ⟨by rfl, ?_⟩) ?_ ?_
  rotate_left
  · intro w'
    go_simp
    (try with_reducible rfl)
  rotate_left
  · simp only [Act.put, List.setIfInBounds_toArray, List.set_cons_zero, List.set_cons_succ]
    rfl
  refine pure_ (i := 2) (N := some 81) (v := ?_) (a' := ?_) #[true, true, true, false, false, false, false, false, false, false, false] rfl rfl (by kernel_rfl) (fun _ _ _ h => h) (Or.inl ⟨by rfl, ?_⟩) ?_ ?_
  rotate_left
  · intro w'
    go_simp
    (try with_reducible rfl)
  rotate_left
  · simp only [Act.put, List.setIfInBounds_toArray, List.set_cons_zero, List.set_cons_succ]
    rfl
  refine pure_ (i := 3) (N := some 82) (v := ?_) (a' := ?_) #[true, true, true, true, false, false, false, false, false, false, false] rfl rfl (by kernel_rfl) (fun _ _ _ h => h) (Or.inl ⟨by rfl, ?_⟩) ?_ ?_
  rotate_left
  · intro w'
    go_simp
    (try with_reducible rfl)
  rotate_left
  · simp only [Act.put, List.setIfInBounds_toArray, List.set_cons_zero, List.set_cons_succ]
    rfl
  refine take_ (i := 4) (N := some 83) (v := ?_) (a' := ?_) #[true, true, true, true, true, false, false, false, false, false, false] rfl rfl (by kernel_rfl) (fun _ _ _ h => h) (Or.inl ⟨by rfl, ?_⟩) (by assumption) ?_ ?_
  rotate_left
  · intro w hSw
    obtain ⟨hl0, hl1⟩ := hSw
    go_simp
    (try with_reducible rfl)
  rotate_left
  · simp only [Act.put, List.setIfInBounds_toArray, List.set_cons_zero, List.set_cons_succ]
    rfl
  refine take_ (i := 5) (N := some 84) (v := ?_) (a' := ?_) #[true, true, true, true, true, true, false, false, false, false, false] rfl rfl (by kernel_rfl) (fun _ _ _ h => h) (Or.inl ⟨by rfl, ?_⟩) (by assumption) ?_ ?_
  rotate_left
  · intro w hSw
    obtain ⟨hl0, hl1⟩ := hSw
    have hm0 : w.cell? ⟨b, 0, none⟩ = some (.int .i64 ((⟨x.f0, 5, x.f2, t, x.f4⟩ : S59)).f0) := (blk_cell hl1 0).trans rfl
    have hm1 : w.cell? ⟨b, 1, none⟩ = some (.int .i64 ((⟨x.f0, 5, x.f2, t, x.f4⟩ : S59)).f1) := (blk_cell hl1 1).trans rfl
    have hm2 : w.cell? ⟨b, 2, none⟩ = some (.string ((⟨x.f0, 5, x.f2, t, x.f4⟩ : S59)).f2) := (blk_cell hl1 2).trans rfl
    have hm3 : w.cell? ⟨b, 3, none⟩ = some (.string ((⟨x.f0, 5, x.f2, t, x.f4⟩ : S59)).f3) := (blk_cell hl1 3).trans rfl
    have hm4 : w.cell? ⟨b, 4, none⟩ = some (.int .i64 ((⟨x.f0, 5, x.f2, t, x.f4⟩ : S59)).f4) := (blk_cell hl1 4).trans rfl
    clear hl1
    go_simp
    (try with_reducible rfl)
  rotate_left
  · simp only [Act.put, List.setIfInBounds_toArray, List.set_cons_zero, List.set_cons_succ]
    rfl
  refine one_ (i := 6) (N := some 85) #[true, true, true, true, true, true, true, false, false, false, false] rfl rfl (by kernel_rfl) (by decide) (fun K hK => ?_)
  refine event_step (W := w1.drew) (v := .slice (some ⟨w1.heap.size, 0, none⟩) 1 1) (w1 := w1.drew.alloc (.cells #[.int .i64 ((⟨x.f0, 5, x.f2, t, x.f4⟩ : S59)).f0, .int .i64 ((⟨x.f0, 5, x.f2, t, x.f4⟩ : S59)).f1, .string ((⟨x.f0, 5, x.f2, t, x.f4⟩ : S59)).f2, .string ((⟨x.f0, 5, x.f2, t, x.f4⟩ : S59)).f3, .int .i64 ((⟨x.f0, 5, x.f2, t, x.f4⟩ : S59)).f4] 59)) (by rfl) (by kernel_rfl) ?_
  refine hK.out _ _ ?_ (fun hHeld => ?_)
  · exact keep_push HRa.out HIa.out _
  clear hK K
  (try simp only [Act.put, List.setIfInBounds_toArray, List.set_cons_zero, List.set_cons_succ])
  refine last_ (i := 7) (N := some 86) #[true, true, true, true, true, true, true, true, false, false, false] rfl rfl (by kernel_rfl) (by decide) (fun K hK => ?_)
  refine push_append (.tmp 83) (.tmp 85) (by rfl) rfl rfl rfl HRa.out HIa.out HOa.out HBa.out HG.out HL.out ?_
  intro As N2 cc w2 hR2 hP2
  have hc2a := rd_cell2 hR2
  have hf2a := blk_frozen hR2 2
  have HPa := Aside0.mk hP2
  clear hR2 hP2
  refine hK.out _ _ ?_
  clear hK K
  (try simp only [Act.put, List.setIfInBounds_toArray, List.set_cons_zero, List.set_cons_succ])
  refine pure_ (i := 8) (N := some 87) (v := ?_) (a' := ?_) #[true, true, true, true, true, true, true, true, true, false, false] rfl rfl (by kernel_rfl) (fun _ _ _ h => h) (Or.inl ⟨by rfl, ?_⟩) ?_ ?_
  rotate_left
  · intro w'
    go_simp
    (try with_reducible rfl)
  rotate_left
  · simp only [Act.put, List.setIfInBounds_toArray, List.set_cons_zero, List.set_cons_succ]
    rfl
  refine pure_ (i := 9) (N := some 88) (v := ?_) (a' := ?_) #[true, true, true, true, true, true, true, true, true, true, false] rfl rfl (by kernel_rfl) (fun _ _ _ h => h) (Or.inl ⟨by rfl, ?_⟩) ?_ ?_
  rotate_left
  · intro w'
    go_simp
    (try with_reducible rfl)
  rotate_left
  · simp only [Act.put, List.setIfInBounds_toArray, List.set_cons_zero, List.set_cons_succ]
    rfl
  refine last_ (i := 10) (N := none) #[true, true, true, true, true, true, true, true, true, true, true] rfl rfl (by kernel_rfl) (by decide) (fun K hK => ?_)
  go_simp
  refine hK.out _ _ ?_
  clear hK K
  (try simp only [Act.put, List.setIfInBounds_toArray, List.set_cons_zero, List.set_cons_succ])
  refine done_ (by kernel_rfl) ?_
  go_wp2_with fail
  go_ret
  exact ⟨rfl, Left.pre HKa.out HPa.out⟩
set_option maxHeartbeats 8000000 in
set_option maxRecDepth 100000 in
theorem value_num_err_a (w0 W : World) (g : Nat) (s : ByteArray) (p : Nat) (v : Value) (out : List S59) (x : S59) (hR : Rd W g s p v) (hO : Out w0 W g v out) (hB : Below w0.heap.size w0 W) (hg : w0.heap.size ≤ g) (hp : p ≤ s.size) (hs : s.size ≤ 4611686018427387904) (hj : JTabs w0) (n er : Int) (q : Nat) (hn : nextC s p = 45) (hr : numberS s (skipP s p) = (n, er, q)) (he : er ≠ 0) :
    Calls Tryd.prog 69 #[.pointer (some ⟨g, 0, none⟩), itemV x] W fun e W' => e = .returned (.int .i64 er) ∧ Left w0 W W' g s q v out := by
  have HR := Aside0.mk hR
  have HO := Aside0.mk hO
  have HB := Aside0.mk hB
  have HG := Aside0.mk hg
  have HS := Aside0.mk hs
  have HP := Aside0.mk hp
  have JT := Aside0.mk hj
  have HP1 := Aside0.mk (skip_le s p hp)
  have c91 : ((nextC s p : Int) == 91) = false := beq_eq_false_iff_ne.mpr (by omega)
  have c123 : ((nextC s p : Int) == 123) = false := beq_eq_false_iff_ne.mpr (by omega)
  have c34 : ((nextC s p : Int) == 34) = false := beq_eq_false_iff_ne.mpr (by omega)
  have c45 : ((nextC s p : Int) == 45) = true := beq_iff_eq.mpr (by omega)
  have FR := Aside0.mk hr
  have n1 : (er == 0) = false := beq_eq_false_iff_ne.mpr he
  have n2 : (er != 0) = true := bne_iff_ne.mpr he
  clear hR hB hg hs hO hp hj hr hn he
  unfold itemV
  go_enter Tryd.func69, Tryd.ntmps69
  go_wp2_with fail
  obtain ⟨b, hb⟩ : ∃ b, W.heap.size = b := ⟨_, rfl⟩
  have hgW := blk_lt HR.out
  have HA : Aside0 (Below W.heap.size W (W.alloc (.cells #[.int .i64 x.f0, .int .i64 x.f1, .string x.f2, .string x.f3, .int .i64 x.f4] 59))) := ⟨below_alloc (Below.refl _ _) _⟩
  have HI : Aside0 (Itm (W.alloc (.cells #[.int .i64 x.f0, .int .i64 x.f1, .string x.f2, .string x.f3, .int .i64 x.f4] 59)) b x) := ⟨by rw [← hb]; exact heap_alloc_new _ _⟩
  have HR := Aside0.mk (rd_below HR.out HA.out)
  have HO : Aside0 (Kd.R k59 59 (W.alloc (.cells #[.int .i64 x.f0, .int .i64 x.f1, .string x.f2, .string x.f3, .int .i64 x.f4] 59)) w0.heap.size (fun j => j ≠ g ∧ j ≠ b) v out) := ⟨Kd.R_below (Kd.R_mono (Kd.R_bound HO.out) (fun k hk => ⟨hk.1, by have := hk.2.2.1; omega⟩)) HA.out⟩
  have HK := Aside0.mk (KeepBut.of_below HA.out g none)
  have HBo := HB
  have HB := Aside0.mk (below_step HB.out HA.out)
  have HB0 : Aside0 (w0.heap.size ≤ W.heap.size) := ⟨HBo.out.size⟩
  have HBG : Aside0 (W.heap.size ≤ b) := ⟨by omega⟩
  have hne1 : ¬ b = g := by omega
  have hne2 : ¬ g = b := by omega
  rw [hb]
  generalize W.alloc (.cells #[.int .i64 x.f0, .int .i64 x.f1, .string x.f2, .string x.f3, .int .i64 x.f4] 59) = W1 at HA HI HR HO HK HB ⊢
  clear HA hb
  go_wp2_with (first
    | (go_at_call 70; refine (next_calls w0 W1 g s p v HR.out HB.out HG.out HP.out HS.out).mono ?_; rintro e w2 ⟨rfl, hR2, hB2, hK2⟩; have HI := Aside0.mk ((hK2.2 b (blk_lt HI.out) hne1 (by simp)).trans HI.out); have HR := Aside0.mk hR2; have HO := Aside0.mk (Kd.R_keep HO.out hK2 (fun _ h => h.1)) ; have HK := Aside0.mk (HK.out.trans hK2 (.inl rfl)); have HB := Aside0.mk hB2; clear hR2 hB2 hK2; have hm1 : w2.cell? ⟨b, 1, none⟩ = some (.int .i64 x.f1) := (blk_cell HI.out 1).trans rfl; have hfm1 := blk_frozen HI.out 1)
    | (go_at_call 89; have hRx : Rd (w2.setCell ⟨b, 1, none⟩ (.int .i64 4)) g s (skipP s p) v := blk_far HR.out (p := ⟨b, 1, none⟩) hne2 _; have hIx : Itm (w2.setCell ⟨b, 1, none⟩ (.int .i64 4)) b (⟨x.f0, 4, x.f2, x.f3, x.f4⟩ : S59) := blk_set HI.out 1 _; have hBx := below_set (j := 1) (v := .int .i64 4) (g := b) HB.out (Nat.le_trans HB0.out HBG.out); have hOx := Kd.R_far HO.out (p := ⟨b, 1, none⟩) (fun _ h => h.2) (.int .i64 4); have hKx := keep_far HK.out (p := ⟨b, 1, none⟩) HBG.out (.int .i64 4); refine (number_calls w0 _ g s (skipP s p) v hRx hBx HG.out HP1.out HS.out JT.out).mono ?_; rw [FR.out]; rintro e w3 ⟨rfl, hR3, hB3, hK3⟩; have HI3 := Aside0.mk ((hK3.2 b (blk_lt hIx) hne1 (by simp)).trans hIx); have HR3 := Aside0.mk hR3; have HO3 := Aside0.mk (Kd.R_keep hOx hK3 (fun _ h => h.1)); have HK3 := Aside0.mk (hKx.trans hK3 (.inl rfl)); have HB3 := Aside0.mk hB3; clear hR3 hB3 hK3 hRx hIx hBx hOx hKx; have hfn := blk_frozen HI3.out 4; have hmn : w3.cell? ⟨b, 4, none⟩ = some (.int .i64 x.f4) := (blk_cell HI3.out 4).trans rfl))
  go_ret
  exact ⟨rfl, ⟨v, blk_far HR3.out (p := ⟨b, 4, none⟩) hne2 _, Kd.R_mono (Kd.R_far HO3.out (p := ⟨b, 4, none⟩) (fun _ h => h.2) _) (fun _ h => h.1), .inl rfl⟩, below_set HB3.out (Nat.le_trans HB0.out HBG.out), keep_wide (keep_far HK3.out (p := ⟨b, 4, none⟩) HBG.out _)⟩
set_option maxHeartbeats 8000000 in
set_option maxRecDepth 100000 in
theorem value_num_a (w0 W : World) (g : Nat) (s : ByteArray) (p : Nat) (v : Value) (out : List S59) (x : S59) (hR : Rd W g s p v) (hO : Out w0 W g v out) (hB : Below w0.heap.size w0 W) (hg : w0.heap.size ≤ g) (hp : p ≤ s.size) (hs : s.size ≤ 4611686018427387904) (hj : JTabs w0) (hl : (out.length + 1) * 56 ≤ 140737488355328) (n : Int) (q : Nat) (hn : nextC s p = 45) (hr : numberS s (skipP s p) = (n, 0, q)) :
    Calls Tryd.prog 69 #[.pointer (some ⟨g, 0, none⟩), itemV x] W fun e W' => e = .returned (.int .i64 0) ∧ Left w0 W W' g s q v (out ++ [(⟨x.f0, 4, x.f2, x.f3, n⟩ : S59)]) := by
  have HR := Aside0.mk hR
  have HO := Aside0.mk hO
  have HB := Aside0.mk hB
  have HG := Aside0.mk hg
  have HS := Aside0.mk hs
  have HP := Aside0.mk hp
  have JT := Aside0.mk hj
  have HP1 := Aside0.mk (skip_le s p hp)
  have HL := Aside0.mk hl
  have c91 : ((nextC s p : Int) == 91) = false := beq_eq_false_iff_ne.mpr (by omega)
  have c123 : ((nextC s p : Int) == 123) = false := beq_eq_false_iff_ne.mpr (by omega)
  have c34 : ((nextC s p : Int) == 34) = false := beq_eq_false_iff_ne.mpr (by omega)
  have c45 : ((nextC s p : Int) == 45) = true := beq_iff_eq.mpr (by omega)
  have FR := Aside0.mk hr
  clear hR hB hg hs hO hp hj hl hr hn
  unfold itemV
  go_enter Tryd.func69, Tryd.ntmps69
  go_wp2_with fail
  obtain ⟨b, hb⟩ : ∃ b, W.heap.size = b := ⟨_, rfl⟩
  have hgW := blk_lt HR.out
  have HA : Aside0 (Below W.heap.size W (W.alloc (.cells #[.int .i64 x.f0, .int .i64 x.f1, .string x.f2, .string x.f3, .int .i64 x.f4] 59))) := ⟨below_alloc (Below.refl _ _) _⟩
  have HI : Aside0 (Itm (W.alloc (.cells #[.int .i64 x.f0, .int .i64 x.f1, .string x.f2, .string x.f3, .int .i64 x.f4] 59)) b x) := ⟨by rw [← hb]; exact heap_alloc_new _ _⟩
  have HR := Aside0.mk (rd_below HR.out HA.out)
  have HO : Aside0 (Kd.R k59 59 (W.alloc (.cells #[.int .i64 x.f0, .int .i64 x.f1, .string x.f2, .string x.f3, .int .i64 x.f4] 59)) w0.heap.size (fun j => j ≠ g ∧ j ≠ b) v out) := ⟨Kd.R_below (Kd.R_mono (Kd.R_bound HO.out) (fun k hk => ⟨hk.1, by have := hk.2.2.1; omega⟩)) HA.out⟩
  have HK := Aside0.mk (KeepBut.of_below HA.out g none)
  have HBo := HB
  have HB := Aside0.mk (below_step HB.out HA.out)
  have HB0 : Aside0 (w0.heap.size ≤ W.heap.size) := ⟨HBo.out.size⟩
  have HBG : Aside0 (W.heap.size ≤ b) := ⟨by omega⟩
  have hne1 : ¬ b = g := by omega
  have hne2 : ¬ g = b := by omega
  rw [hb]
  generalize W.alloc (.cells #[.int .i64 x.f0, .int .i64 x.f1, .string x.f2, .string x.f3, .int .i64 x.f4] 59) = W1 at HA HI HR HO HK HB ⊢
  clear HA hb
  go_wp2_with (first
    | (go_at_call 70; refine (next_calls w0 W1 g s p v HR.out HB.out HG.out HP.out HS.out).mono ?_; rintro e w2 ⟨rfl, hR2, hB2, hK2⟩; have HI := Aside0.mk ((hK2.2 b (blk_lt HI.out) hne1 (by simp)).trans HI.out); have HR := Aside0.mk hR2; have HO := Aside0.mk (Kd.R_keep HO.out hK2 (fun _ h => h.1)) ; have HK := Aside0.mk (HK.out.trans hK2 (.inl rfl)); have HB := Aside0.mk hB2; clear hR2 hB2 hK2; have hm1 : w2.cell? ⟨b, 1, none⟩ = some (.int .i64 x.f1) := (blk_cell HI.out 1).trans rfl; have hfm1 := blk_frozen HI.out 1)
    | (go_at_call 89; have hRx : Rd (w2.setCell ⟨b, 1, none⟩ (.int .i64 4)) g s (skipP s p) v := blk_far HR.out (p := ⟨b, 1, none⟩) hne2 _; have hIx : Itm (w2.setCell ⟨b, 1, none⟩ (.int .i64 4)) b (⟨x.f0, 4, x.f2, x.f3, x.f4⟩ : S59) := blk_set HI.out 1 _; have hBx := below_set (j := 1) (v := .int .i64 4) (g := b) HB.out (Nat.le_trans HB0.out HBG.out); have hOx := Kd.R_far HO.out (p := ⟨b, 1, none⟩) (fun _ h => h.2) (.int .i64 4); have hKx := keep_far HK.out (p := ⟨b, 1, none⟩) HBG.out (.int .i64 4); refine (number_calls w0 _ g s (skipP s p) v hRx hBx HG.out HP1.out HS.out JT.out).mono ?_; rw [FR.out]; rintro e w3 ⟨rfl, hR3, hB3, hK3⟩; have HI3 := Aside0.mk ((hK3.2 b (blk_lt hIx) hne1 (by simp)).trans hIx); have HR3 := Aside0.mk hR3; have HO3 := Aside0.mk (Kd.R_keep hOx hK3 (fun _ h => h.1)); have HK3 := Aside0.mk (hKx.trans hK3 (.inl rfl)); have HB3 := Aside0.mk hB3; clear hR3 hB3 hK3 hRx hIx hBx hOx hKx; have hfn := blk_frozen HI3.out 4; have hmn : w3.cell? ⟨b, 4, none⟩ = some (.int .i64 x.f4) := (blk_cell HI3.out 4).trans rfl))
  have HRa : Aside0 (Rd (w3.setCell ⟨b, 4, none⟩ (.int .i64 n)) g s q v) := ⟨blk_far HR3.out (p := ⟨b, 4, none⟩) hne2 _⟩
  have HIa : Aside0 (Itm (w3.setCell ⟨b, 4, none⟩ (.int .i64 n)) b (⟨x.f0, 4, x.f2, x.f3, n⟩ : S59)) := ⟨blk_set HI3.out 4 _⟩
  have HOa := Aside0.mk (Kd.R_far HO3.out (p := ⟨b, 4, none⟩) (fun _ h => h.2) (.int .i64 n))
  have HKa := Aside0.mk (keep_far HK3.out (p := ⟨b, 4, none⟩) HBG.out (.int .i64 n))
  have HBa := Aside0.mk (below_set (j := 4) (v := .int .i64 n) (g := b) HB3.out (Nat.le_trans HB0.out HBG.out))
  clear hfn hmn
  generalize w3.setCell ⟨b, 4, none⟩ (.int .i64 n) = w1 at HRa HIa HOa HKa HBa ⊢
  refine start_ (n := 11) (S := fun w' => w'.cell? ⟨g, 2, none⟩ = some v ∧ w'.heap[b]? = some (.cells #[.int .i64 ((⟨x.f0, 4, x.f2, x.f3, n⟩ : S59)).f0, .int .i64 ((⟨x.f0, 4, x.f2, x.f3, n⟩ : S59)).f1, .string ((⟨x.f0, 4, x.f2, x.f3, n⟩ : S59)).f2, .string ((⟨x.f0, 4, x.f2, x.f3, n⟩ : S59)).f3, .int .i64 ((⟨x.f0, 4, x.f2, x.f3, n⟩ : S59)).f4] 59 (0, 0))) (ds := [7, 10]) #[false, false, false, false, false, false, false, false, false, false, false] (by kernel_rfl) rfl rfl ⟨rd_cell2 HRa.out, HIa.out⟩ (fun hHeld => ?_)
  refine pure_ (i := 0) (N := some 79) (v := ?_) (a' := ?_) #[true, false, false, false, false, false, false, false, false, false, false] rfl rfl (by kernel_rfl) (fun _ _ _ h => h) (Or.inl ⟨by rfl, ?_⟩) ?_ ?_
  rotate_left
  · intro w'
    go_simp
    (try with_reducible rfl)
  rotate_left
  · simp only [Act.put, List.setIfInBounds_toArray, List.set_cons_zero, List.set_cons_succ]
    rfl
  refine pure_ (i := 1) (N := some 80) (v := ?_) (a' := ?_) #[true, true, false, false, false, false, false, false, false, false, false] rfl rfl (by kernel_rfl) (fun _ _ _ h => h) (Or.inl ⟨by rfl, ?_⟩) ?_ ?_
  rotate_left
  · intro w'
    go_simp
    (try with_reducible rfl)
  rotate_left
  · simp only [Act.put, List.setIfInBounds_toArray, List.set_cons_zero, List.set_cons_succ]
    rfl
  refine pure_ (i := 2) (N := some 81) (v := ?_) (a' := ?_) #[true, true, true, false, false, false, false, false, false, false, false] rfl rfl (by kernel_rfl) (fun _ _ _ h => h) (Or.inl ⟨by rfl, ?_⟩) ?_ ?_
  rotate_left
  · intro w'
    go_simp
    (try with_reducible rfl)
  rotate_left
  · simp only [Act.put, List.setIfInBounds_toArray, List.set_cons_zero, List.set_cons_succ]
    rfl
  refine pure_ (i := 3) (N := some 82) (v := ?_) (a' := ?_) #[true, true, true, true, false, false, false, false, false, false, false] rfl rfl (by kernel_rfl) (fun _ _ _ h => h) (Or.inl ⟨by rfl, ?_⟩) ?_ ?_
  rotate_left
  · intro w'
    go_simp
    (try with_reducible rfl)
  rotate_left
  · simp only [Act.put, List.setIfInBounds_toArray, List.set_cons_zero, List.set_cons_succ]
    rfl
  refine take_ (i := 4) (N := some 83) (v := ?_) (a' := ?_) #[true, true, true, true, true, false, false, false, false, false, false] rfl rfl (by kernel_rfl) (fun _ _ _ h => h) (Or.inl ⟨by rfl, ?_⟩) (by assumption) ?_ ?_
  rotate_left
  · intro w hSw
    obtain ⟨hl0, hl1⟩ := hSw
    go_simp
    (try with_reducible rfl)
  rotate_left
  · simp only [Act.put, List.setIfInBounds_toArray, List.set_cons_zero, List.set_cons_succ]
    rfl
  refine take_ (i := 5) (N := some 84) (v := ?_) (a' := ?_) #[true, true, true, true, true, true, false, false, false, false, false] rfl rfl (by kernel_rfl) (fun _ _ _ h => h) (Or.inl ⟨by rfl, ?_⟩) (by assumption) ?_ ?_
  rotate_left
  · intro w hSw
    obtain ⟨hl0, hl1⟩ := hSw
    have hm0 : w.cell? ⟨b, 0, none⟩ = some (.int .i64 ((⟨x.f0, 4, x.f2, x.f3, n⟩ : S59)).f0) := (blk_cell hl1 0).trans rfl
    have hm1 : w.cell? ⟨b, 1, none⟩ = some (.int .i64 ((⟨x.f0, 4, x.f2, x.f3, n⟩ : S59)).f1) := (blk_cell hl1 1).trans rfl
    have hm2 : w.cell? ⟨b, 2, none⟩ = some (.string ((⟨x.f0, 4, x.f2, x.f3, n⟩ : S59)).f2) := (blk_cell hl1 2).trans rfl
    have hm3 : w.cell? ⟨b, 3, none⟩ = some (.string ((⟨x.f0, 4, x.f2, x.f3, n⟩ : S59)).f3) := (blk_cell hl1 3).trans rfl
    have hm4 : w.cell? ⟨b, 4, none⟩ = some (.int .i64 ((⟨x.f0, 4, x.f2, x.f3, n⟩ : S59)).f4) := (blk_cell hl1 4).trans rfl
    clear hl1
    go_simp
    (try with_reducible rfl)
  rotate_left
  · simp only [Act.put, List.setIfInBounds_toArray, List.set_cons_zero, List.set_cons_succ]
    rfl
  refine one_ (i := 6) (N := some 85) #[true, true, true, true, true, true, true, false, false, false, false] rfl rfl (by kernel_rfl) (by decide) (fun K hK => ?_)
  refine event_step (W := w1.drew) (v := .slice (some ⟨w1.heap.size, 0, none⟩) 1 1) (w1 := w1.drew.alloc (.cells #[.int .i64 ((⟨x.f0, 4, x.f2, x.f3, n⟩ : S59)).f0, .int .i64 ((⟨x.f0, 4, x.f2, x.f3, n⟩ : S59)).f1, .string ((⟨x.f0, 4, x.f2, x.f3, n⟩ : S59)).f2, .string ((⟨x.f0, 4, x.f2, x.f3, n⟩ : S59)).f3, .int .i64 ((⟨x.f0, 4, x.f2, x.f3, n⟩ : S59)).f4] 59)) (by rfl) (by kernel_rfl) ?_
  refine hK.out _ _ ?_ (fun hHeld => ?_)
  · exact keep_push HRa.out HIa.out _
  clear hK K
  (try simp only [Act.put, List.setIfInBounds_toArray, List.set_cons_zero, List.set_cons_succ])
  refine last_ (i := 7) (N := some 86) #[true, true, true, true, true, true, true, true, false, false, false] rfl rfl (by kernel_rfl) (by decide) (fun K hK => ?_)
  refine push_append (.tmp 83) (.tmp 85) (by rfl) rfl rfl rfl HRa.out HIa.out HOa.out HBa.out HG.out HL.out ?_
  intro As N2 cc w2 hR2 hP2
  have hc2a := rd_cell2 hR2
  have hf2a := blk_frozen hR2 2
  have HPa := Aside0.mk hP2
  clear hR2 hP2
  refine hK.out _ _ ?_
  clear hK K
  (try simp only [Act.put, List.setIfInBounds_toArray, List.set_cons_zero, List.set_cons_succ])
  refine pure_ (i := 8) (N := some 87) (v := ?_) (a' := ?_) #[true, true, true, true, true, true, true, true, true, false, false] rfl rfl (by kernel_rfl) (fun _ _ _ h => h) (Or.inl ⟨by rfl, ?_⟩) ?_ ?_
  rotate_left
  · intro w'
    go_simp
    (try with_reducible rfl)
  rotate_left
  · simp only [Act.put, List.setIfInBounds_toArray, List.set_cons_zero, List.set_cons_succ]
    rfl
  refine pure_ (i := 9) (N := some 88) (v := ?_) (a' := ?_) #[true, true, true, true, true, true, true, true, true, true, false] rfl rfl (by kernel_rfl) (fun _ _ _ h => h) (Or.inl ⟨by rfl, ?_⟩) ?_ ?_
  rotate_left
  · intro w'
    go_simp
    (try with_reducible rfl)
  rotate_left
  · simp only [Act.put, List.setIfInBounds_toArray, List.set_cons_zero, List.set_cons_succ]
    rfl
  refine last_ (i := 10) (N := none) #[true, true, true, true, true, true, true, true, true, true, true] rfl rfl (by kernel_rfl) (by decide) (fun K hK => ?_)
  go_simp
  refine hK.out _ _ ?_
  clear hK K
  (try simp only [Act.put, List.setIfInBounds_toArray, List.set_cons_zero, List.set_cons_succ])
  refine done_ (by kernel_rfl) ?_
  go_wp2_with fail
  go_ret
  exact ⟨rfl, Left.pre HKa.out HPa.out⟩
set_option maxHeartbeats 8000000 in
set_option maxRecDepth 100000 in
theorem value_num_err_b (w0 W : World) (g : Nat) (s : ByteArray) (p : Nat) (v : Value) (out : List S59) (x : S59) (hR : Rd W g s p v) (hO : Out w0 W g v out) (hB : Below w0.heap.size w0 W) (hg : w0.heap.size ≤ g) (hp : p ≤ s.size) (hs : s.size ≤ 4611686018427387904) (hj : JTabs w0) (n er : Int) (q : Nat) (hn : 48 ≤ nextC s p ∧ nextC s p ≤ 57) (hr : numberS s (skipP s p) = (n, er, q)) (he : er ≠ 0) :
    Calls Tryd.prog 69 #[.pointer (some ⟨g, 0, none⟩), itemV x] W fun e W' => e = .returned (.int .i64 er) ∧ Left w0 W W' g s q v out := by
  have HR := Aside0.mk hR
  have HO := Aside0.mk hO
  have HB := Aside0.mk hB
  have HG := Aside0.mk hg
  have HS := Aside0.mk hs
  have HP := Aside0.mk hp
  have JT := Aside0.mk hj
  have HP1 := Aside0.mk (skip_le s p hp)
  have c91 : ((nextC s p : Int) == 91) = false := beq_eq_false_iff_ne.mpr (by omega)
  have c123 : ((nextC s p : Int) == 123) = false := beq_eq_false_iff_ne.mpr (by omega)
  have c34 : ((nextC s p : Int) == 34) = false := beq_eq_false_iff_ne.mpr (by omega)
  have c45 : ((nextC s p : Int) == 45) = false := beq_eq_false_iff_ne.mpr (by omega)
  have d48 : decide (48 ≤ (nextC s p : Int)) = true := decide_eq_true (by omega)
  have d57 : decide ((nextC s p : Int) ≤ 57) = true := decide_eq_true (by omega)
  have FR := Aside0.mk hr
  have n1 : (er == 0) = false := beq_eq_false_iff_ne.mpr he
  have n2 : (er != 0) = true := bne_iff_ne.mpr he
  clear hR hB hg hs hO hp hj hr hn he
  unfold itemV
  go_enter Tryd.func69, Tryd.ntmps69
  go_wp2_with fail
  obtain ⟨b, hb⟩ : ∃ b, W.heap.size = b := ⟨_, rfl⟩
  have hgW := blk_lt HR.out
  have HA : Aside0 (Below W.heap.size W (W.alloc (.cells #[.int .i64 x.f0, .int .i64 x.f1, .string x.f2, .string x.f3, .int .i64 x.f4] 59))) := ⟨below_alloc (Below.refl _ _) _⟩
  have HI : Aside0 (Itm (W.alloc (.cells #[.int .i64 x.f0, .int .i64 x.f1, .string x.f2, .string x.f3, .int .i64 x.f4] 59)) b x) := ⟨by rw [← hb]; exact heap_alloc_new _ _⟩
  have HR := Aside0.mk (rd_below HR.out HA.out)
  have HO : Aside0 (Kd.R k59 59 (W.alloc (.cells #[.int .i64 x.f0, .int .i64 x.f1, .string x.f2, .string x.f3, .int .i64 x.f4] 59)) w0.heap.size (fun j => j ≠ g ∧ j ≠ b) v out) := ⟨Kd.R_below (Kd.R_mono (Kd.R_bound HO.out) (fun k hk => ⟨hk.1, by have := hk.2.2.1; omega⟩)) HA.out⟩
  have HK := Aside0.mk (KeepBut.of_below HA.out g none)
  have HBo := HB
  have HB := Aside0.mk (below_step HB.out HA.out)
  have HB0 : Aside0 (w0.heap.size ≤ W.heap.size) := ⟨HBo.out.size⟩
  have HBG : Aside0 (W.heap.size ≤ b) := ⟨by omega⟩
  have hne1 : ¬ b = g := by omega
  have hne2 : ¬ g = b := by omega
  rw [hb]
  generalize W.alloc (.cells #[.int .i64 x.f0, .int .i64 x.f1, .string x.f2, .string x.f3, .int .i64 x.f4] 59) = W1 at HA HI HR HO HK HB ⊢
  clear HA hb
  go_wp2_with (first
    | (go_at_call 70; refine (next_calls w0 W1 g s p v HR.out HB.out HG.out HP.out HS.out).mono ?_; rintro e w2 ⟨rfl, hR2, hB2, hK2⟩; have HI := Aside0.mk ((hK2.2 b (blk_lt HI.out) hne1 (by simp)).trans HI.out); have HR := Aside0.mk hR2; have HO := Aside0.mk (Kd.R_keep HO.out hK2 (fun _ h => h.1)) ; have HK := Aside0.mk (HK.out.trans hK2 (.inl rfl)); have HB := Aside0.mk hB2; clear hR2 hB2 hK2; have hm1 : w2.cell? ⟨b, 1, none⟩ = some (.int .i64 x.f1) := (blk_cell HI.out 1).trans rfl; have hfm1 := blk_frozen HI.out 1)
    | (go_at_call 89; have hRx : Rd (w2.setCell ⟨b, 1, none⟩ (.int .i64 4)) g s (skipP s p) v := blk_far HR.out (p := ⟨b, 1, none⟩) hne2 _; have hIx : Itm (w2.setCell ⟨b, 1, none⟩ (.int .i64 4)) b (⟨x.f0, 4, x.f2, x.f3, x.f4⟩ : S59) := blk_set HI.out 1 _; have hBx := below_set (j := 1) (v := .int .i64 4) (g := b) HB.out (Nat.le_trans HB0.out HBG.out); have hOx := Kd.R_far HO.out (p := ⟨b, 1, none⟩) (fun _ h => h.2) (.int .i64 4); have hKx := keep_far HK.out (p := ⟨b, 1, none⟩) HBG.out (.int .i64 4); refine (number_calls w0 _ g s (skipP s p) v hRx hBx HG.out HP1.out HS.out JT.out).mono ?_; rw [FR.out]; rintro e w3 ⟨rfl, hR3, hB3, hK3⟩; have HI3 := Aside0.mk ((hK3.2 b (blk_lt hIx) hne1 (by simp)).trans hIx); have HR3 := Aside0.mk hR3; have HO3 := Aside0.mk (Kd.R_keep hOx hK3 (fun _ h => h.1)); have HK3 := Aside0.mk (hKx.trans hK3 (.inl rfl)); have HB3 := Aside0.mk hB3; clear hR3 hB3 hK3 hRx hIx hBx hOx hKx; have hfn := blk_frozen HI3.out 4; have hmn : w3.cell? ⟨b, 4, none⟩ = some (.int .i64 x.f4) := (blk_cell HI3.out 4).trans rfl))
  go_ret
  exact ⟨rfl, ⟨v, blk_far HR3.out (p := ⟨b, 4, none⟩) hne2 _, Kd.R_mono (Kd.R_far HO3.out (p := ⟨b, 4, none⟩) (fun _ h => h.2) _) (fun _ h => h.1), .inl rfl⟩, below_set HB3.out (Nat.le_trans HB0.out HBG.out), keep_wide (keep_far HK3.out (p := ⟨b, 4, none⟩) HBG.out _)⟩
set_option maxHeartbeats 8000000 in
set_option maxRecDepth 100000 in
theorem value_num_b (w0 W : World) (g : Nat) (s : ByteArray) (p : Nat) (v : Value) (out : List S59) (x : S59) (hR : Rd W g s p v) (hO : Out w0 W g v out) (hB : Below w0.heap.size w0 W) (hg : w0.heap.size ≤ g) (hp : p ≤ s.size) (hs : s.size ≤ 4611686018427387904) (hj : JTabs w0) (hl : (out.length + 1) * 56 ≤ 140737488355328) (n : Int) (q : Nat) (hn : 48 ≤ nextC s p ∧ nextC s p ≤ 57) (hr : numberS s (skipP s p) = (n, 0, q)) :
    Calls Tryd.prog 69 #[.pointer (some ⟨g, 0, none⟩), itemV x] W fun e W' => e = .returned (.int .i64 0) ∧ Left w0 W W' g s q v (out ++ [(⟨x.f0, 4, x.f2, x.f3, n⟩ : S59)]) := by
  have HR := Aside0.mk hR
  have HO := Aside0.mk hO
  have HB := Aside0.mk hB
  have HG := Aside0.mk hg
  have HS := Aside0.mk hs
  have HP := Aside0.mk hp
  have JT := Aside0.mk hj
  have HP1 := Aside0.mk (skip_le s p hp)
  have HL := Aside0.mk hl
  have c91 : ((nextC s p : Int) == 91) = false := beq_eq_false_iff_ne.mpr (by omega)
  have c123 : ((nextC s p : Int) == 123) = false := beq_eq_false_iff_ne.mpr (by omega)
  have c34 : ((nextC s p : Int) == 34) = false := beq_eq_false_iff_ne.mpr (by omega)
  have c45 : ((nextC s p : Int) == 45) = false := beq_eq_false_iff_ne.mpr (by omega)
  have d48 : decide (48 ≤ (nextC s p : Int)) = true := decide_eq_true (by omega)
  have d57 : decide ((nextC s p : Int) ≤ 57) = true := decide_eq_true (by omega)
  have FR := Aside0.mk hr
  clear hR hB hg hs hO hp hj hl hr hn
  unfold itemV
  go_enter Tryd.func69, Tryd.ntmps69
  go_wp2_with fail
  obtain ⟨b, hb⟩ : ∃ b, W.heap.size = b := ⟨_, rfl⟩
  have hgW := blk_lt HR.out
  have HA : Aside0 (Below W.heap.size W (W.alloc (.cells #[.int .i64 x.f0, .int .i64 x.f1, .string x.f2, .string x.f3, .int .i64 x.f4] 59))) := ⟨below_alloc (Below.refl _ _) _⟩
  have HI : Aside0 (Itm (W.alloc (.cells #[.int .i64 x.f0, .int .i64 x.f1, .string x.f2, .string x.f3, .int .i64 x.f4] 59)) b x) := ⟨by rw [← hb]; exact heap_alloc_new _ _⟩
  have HR := Aside0.mk (rd_below HR.out HA.out)
  have HO : Aside0 (Kd.R k59 59 (W.alloc (.cells #[.int .i64 x.f0, .int .i64 x.f1, .string x.f2, .string x.f3, .int .i64 x.f4] 59)) w0.heap.size (fun j => j ≠ g ∧ j ≠ b) v out) := ⟨Kd.R_below (Kd.R_mono (Kd.R_bound HO.out) (fun k hk => ⟨hk.1, by have := hk.2.2.1; omega⟩)) HA.out⟩
  have HK := Aside0.mk (KeepBut.of_below HA.out g none)
  have HBo := HB
  have HB := Aside0.mk (below_step HB.out HA.out)
  have HB0 : Aside0 (w0.heap.size ≤ W.heap.size) := ⟨HBo.out.size⟩
  have HBG : Aside0 (W.heap.size ≤ b) := ⟨by omega⟩
  have hne1 : ¬ b = g := by omega
  have hne2 : ¬ g = b := by omega
  rw [hb]
  generalize W.alloc (.cells #[.int .i64 x.f0, .int .i64 x.f1, .string x.f2, .string x.f3, .int .i64 x.f4] 59) = W1 at HA HI HR HO HK HB ⊢
  clear HA hb
  go_wp2_with (first
    | (go_at_call 70; refine (next_calls w0 W1 g s p v HR.out HB.out HG.out HP.out HS.out).mono ?_; rintro e w2 ⟨rfl, hR2, hB2, hK2⟩; have HI := Aside0.mk ((hK2.2 b (blk_lt HI.out) hne1 (by simp)).trans HI.out); have HR := Aside0.mk hR2; have HO := Aside0.mk (Kd.R_keep HO.out hK2 (fun _ h => h.1)) ; have HK := Aside0.mk (HK.out.trans hK2 (.inl rfl)); have HB := Aside0.mk hB2; clear hR2 hB2 hK2; have hm1 : w2.cell? ⟨b, 1, none⟩ = some (.int .i64 x.f1) := (blk_cell HI.out 1).trans rfl; have hfm1 := blk_frozen HI.out 1)
    | (go_at_call 89; have hRx : Rd (w2.setCell ⟨b, 1, none⟩ (.int .i64 4)) g s (skipP s p) v := blk_far HR.out (p := ⟨b, 1, none⟩) hne2 _; have hIx : Itm (w2.setCell ⟨b, 1, none⟩ (.int .i64 4)) b (⟨x.f0, 4, x.f2, x.f3, x.f4⟩ : S59) := blk_set HI.out 1 _; have hBx := below_set (j := 1) (v := .int .i64 4) (g := b) HB.out (Nat.le_trans HB0.out HBG.out); have hOx := Kd.R_far HO.out (p := ⟨b, 1, none⟩) (fun _ h => h.2) (.int .i64 4); have hKx := keep_far HK.out (p := ⟨b, 1, none⟩) HBG.out (.int .i64 4); refine (number_calls w0 _ g s (skipP s p) v hRx hBx HG.out HP1.out HS.out JT.out).mono ?_; rw [FR.out]; rintro e w3 ⟨rfl, hR3, hB3, hK3⟩; have HI3 := Aside0.mk ((hK3.2 b (blk_lt hIx) hne1 (by simp)).trans hIx); have HR3 := Aside0.mk hR3; have HO3 := Aside0.mk (Kd.R_keep hOx hK3 (fun _ h => h.1)); have HK3 := Aside0.mk (hKx.trans hK3 (.inl rfl)); have HB3 := Aside0.mk hB3; clear hR3 hB3 hK3 hRx hIx hBx hOx hKx; have hfn := blk_frozen HI3.out 4; have hmn : w3.cell? ⟨b, 4, none⟩ = some (.int .i64 x.f4) := (blk_cell HI3.out 4).trans rfl))
  have HRa : Aside0 (Rd (w3.setCell ⟨b, 4, none⟩ (.int .i64 n)) g s q v) := ⟨blk_far HR3.out (p := ⟨b, 4, none⟩) hne2 _⟩
  have HIa : Aside0 (Itm (w3.setCell ⟨b, 4, none⟩ (.int .i64 n)) b (⟨x.f0, 4, x.f2, x.f3, n⟩ : S59)) := ⟨blk_set HI3.out 4 _⟩
  have HOa := Aside0.mk (Kd.R_far HO3.out (p := ⟨b, 4, none⟩) (fun _ h => h.2) (.int .i64 n))
  have HKa := Aside0.mk (keep_far HK3.out (p := ⟨b, 4, none⟩) HBG.out (.int .i64 n))
  have HBa := Aside0.mk (below_set (j := 4) (v := .int .i64 n) (g := b) HB3.out (Nat.le_trans HB0.out HBG.out))
  clear hfn hmn
  generalize w3.setCell ⟨b, 4, none⟩ (.int .i64 n) = w1 at HRa HIa HOa HKa HBa ⊢
  refine start_ (n := 11) (S := fun w' => w'.cell? ⟨g, 2, none⟩ = some v ∧ w'.heap[b]? = some (.cells #[.int .i64 ((⟨x.f0, 4, x.f2, x.f3, n⟩ : S59)).f0, .int .i64 ((⟨x.f0, 4, x.f2, x.f3, n⟩ : S59)).f1, .string ((⟨x.f0, 4, x.f2, x.f3, n⟩ : S59)).f2, .string ((⟨x.f0, 4, x.f2, x.f3, n⟩ : S59)).f3, .int .i64 ((⟨x.f0, 4, x.f2, x.f3, n⟩ : S59)).f4] 59 (0, 0))) (ds := [7, 10]) #[false, false, false, false, false, false, false, false, false, false, false] (by kernel_rfl) rfl rfl ⟨rd_cell2 HRa.out, HIa.out⟩ (fun hHeld => ?_)
  refine pure_ (i := 0) (N := some 79) (v := ?_) (a' := ?_) #[true, false, false, false, false, false, false, false, false, false, false] rfl rfl (by kernel_rfl) (fun _ _ _ h => h) (Or.inl ⟨by rfl, ?_⟩) ?_ ?_
  rotate_left
  · intro w'
    go_simp
    (try with_reducible rfl)
  rotate_left
  · simp only [Act.put, List.setIfInBounds_toArray, List.set_cons_zero, List.set_cons_succ]
    rfl
  refine pure_ (i := 1) (N := some 80) (v := ?_) (a' := ?_) #[true, true, false, false, false, false, false, false, false, false, false] rfl rfl (by kernel_rfl) (fun _ _ _ h => h) (Or.inl ⟨by rfl, ?_⟩) ?_ ?_
  rotate_left
  · intro w'
    go_simp
    (try with_reducible rfl)
  rotate_left
  · simp only [Act.put, List.setIfInBounds_toArray, List.set_cons_zero, List.set_cons_succ]
    rfl
  refine pure_ (i := 2) (N := some 81) (v := ?_) (a' := ?_) #[true, true, true, false, false, false, false, false, false, false, false] rfl rfl (by kernel_rfl) (fun _ _ _ h => h) (Or.inl ⟨by rfl, ?_⟩) ?_ ?_
  rotate_left
  · intro w'
    go_simp
    (try with_reducible rfl)
  rotate_left
  · simp only [Act.put, List.setIfInBounds_toArray, List.set_cons_zero, List.set_cons_succ]
    rfl
  refine pure_ (i := 3) (N := some 82) (v := ?_) (a' := ?_) #[true, true, true, true, false, false, false, false, false, false, false] rfl rfl (by kernel_rfl) (fun _ _ _ h => h) (Or.inl ⟨by rfl, ?_⟩) ?_ ?_
  rotate_left
  · intro w'
    go_simp
    (try with_reducible rfl)
  rotate_left
  · simp only [Act.put, List.setIfInBounds_toArray, List.set_cons_zero, List.set_cons_succ]
    rfl
  refine take_ (i := 4) (N := some 83) (v := ?_) (a' := ?_) #[true, true, true, true, true, false, false, false, false, false, false] rfl rfl (by kernel_rfl) (fun _ _ _ h => h) (Or.inl ⟨by rfl, ?_⟩) (by assumption) ?_ ?_
  rotate_left
  · intro w hSw
    obtain ⟨hl0, hl1⟩ := hSw
    go_simp
    (try with_reducible rfl)
  rotate_left
  · simp only [Act.put, List.setIfInBounds_toArray, List.set_cons_zero, List.set_cons_succ]
    rfl
  refine take_ (i := 5) (N := some 84) (v := ?_) (a' := ?_) #[true, true, true, true, true, true, false, false, false, false, false] rfl rfl (by kernel_rfl) (fun _ _ _ h => h) (Or.inl ⟨by rfl, ?_⟩) (by assumption) ?_ ?_
  rotate_left
  · intro w hSw
    obtain ⟨hl0, hl1⟩ := hSw
    have hm0 : w.cell? ⟨b, 0, none⟩ = some (.int .i64 ((⟨x.f0, 4, x.f2, x.f3, n⟩ : S59)).f0) := (blk_cell hl1 0).trans rfl
    have hm1 : w.cell? ⟨b, 1, none⟩ = some (.int .i64 ((⟨x.f0, 4, x.f2, x.f3, n⟩ : S59)).f1) := (blk_cell hl1 1).trans rfl
    have hm2 : w.cell? ⟨b, 2, none⟩ = some (.string ((⟨x.f0, 4, x.f2, x.f3, n⟩ : S59)).f2) := (blk_cell hl1 2).trans rfl
    have hm3 : w.cell? ⟨b, 3, none⟩ = some (.string ((⟨x.f0, 4, x.f2, x.f3, n⟩ : S59)).f3) := (blk_cell hl1 3).trans rfl
    have hm4 : w.cell? ⟨b, 4, none⟩ = some (.int .i64 ((⟨x.f0, 4, x.f2, x.f3, n⟩ : S59)).f4) := (blk_cell hl1 4).trans rfl
    clear hl1
    go_simp
    (try with_reducible rfl)
  rotate_left
  · simp only [Act.put, List.setIfInBounds_toArray, List.set_cons_zero, List.set_cons_succ]
    rfl
  refine one_ (i := 6) (N := some 85) #[true, true, true, true, true, true, true, false, false, false, false] rfl rfl (by kernel_rfl) (by decide) (fun K hK => ?_)
  refine event_step (W := w1.drew) (v := .slice (some ⟨w1.heap.size, 0, none⟩) 1 1) (w1 := w1.drew.alloc (.cells #[.int .i64 ((⟨x.f0, 4, x.f2, x.f3, n⟩ : S59)).f0, .int .i64 ((⟨x.f0, 4, x.f2, x.f3, n⟩ : S59)).f1, .string ((⟨x.f0, 4, x.f2, x.f3, n⟩ : S59)).f2, .string ((⟨x.f0, 4, x.f2, x.f3, n⟩ : S59)).f3, .int .i64 ((⟨x.f0, 4, x.f2, x.f3, n⟩ : S59)).f4] 59)) (by rfl) (by kernel_rfl) ?_
  refine hK.out _ _ ?_ (fun hHeld => ?_)
  · exact keep_push HRa.out HIa.out _
  clear hK K
  (try simp only [Act.put, List.setIfInBounds_toArray, List.set_cons_zero, List.set_cons_succ])
  refine last_ (i := 7) (N := some 86) #[true, true, true, true, true, true, true, true, false, false, false] rfl rfl (by kernel_rfl) (by decide) (fun K hK => ?_)
  refine push_append (.tmp 83) (.tmp 85) (by rfl) rfl rfl rfl HRa.out HIa.out HOa.out HBa.out HG.out HL.out ?_
  intro As N2 cc w2 hR2 hP2
  have hc2a := rd_cell2 hR2
  have hf2a := blk_frozen hR2 2
  have HPa := Aside0.mk hP2
  clear hR2 hP2
  refine hK.out _ _ ?_
  clear hK K
  (try simp only [Act.put, List.setIfInBounds_toArray, List.set_cons_zero, List.set_cons_succ])
  refine pure_ (i := 8) (N := some 87) (v := ?_) (a' := ?_) #[true, true, true, true, true, true, true, true, true, false, false] rfl rfl (by kernel_rfl) (fun _ _ _ h => h) (Or.inl ⟨by rfl, ?_⟩) ?_ ?_
  rotate_left
  · intro w'
    go_simp
    (try with_reducible rfl)
  rotate_left
  · simp only [Act.put, List.setIfInBounds_toArray, List.set_cons_zero, List.set_cons_succ]
    rfl
  refine pure_ (i := 9) (N := some 88) (v := ?_) (a' := ?_) #[true, true, true, true, true, true, true, true, true, true, false] rfl rfl (by kernel_rfl) (fun _ _ _ h => h) (Or.inl ⟨by rfl, ?_⟩) ?_ ?_
  rotate_left
  · intro w'
    go_simp
    (try with_reducible rfl)
  rotate_left
  · simp only [Act.put, List.setIfInBounds_toArray, List.set_cons_zero, List.set_cons_succ]
    rfl
  refine last_ (i := 10) (N := none) #[true, true, true, true, true, true, true, true, true, true, true] rfl rfl (by kernel_rfl) (by decide) (fun K hK => ?_)
  go_simp
  refine hK.out _ _ ?_
  clear hK K
  (try simp only [Act.put, List.setIfInBounds_toArray, List.set_cons_zero, List.set_cons_succ])
  refine done_ (by kernel_rfl) ?_
  go_wp2_with fail
  go_ret
  exact ⟨rfl, Left.pre HKa.out HPa.out⟩
set_option maxHeartbeats 8000000 in
set_option maxRecDepth 100000 in
theorem value_deep91 (w0 W : World) (g : Nat) (s : ByteArray) (p : Nat) (v : Value) (out : List S59) (x : S59) (hR : Rd W g s p v) (hO : Out w0 W g v out) (hB : Below w0.heap.size w0 W) (hg : w0.heap.size ≤ g) (hp : p ≤ s.size) (hs : s.size ≤ 4611686018427387904) (hj : JTabs w0) (hc : nextC s p = 91) (hd : 64 ≤ x.f0) :
    Calls Tryd.prog 69 #[.pointer (some ⟨g, 0, none⟩), itemV x] W fun e W' => e = .returned (.int .i64 81) ∧ Left w0 W W' g s (skipP s p) v out := by
  have HR := Aside0.mk hR
  have HO := Aside0.mk hO
  have HB := Aside0.mk hB
  have HG := Aside0.mk hg
  have HS := Aside0.mk hs
  have HP := Aside0.mk hp
  have JT := Aside0.mk hj
  have HP1 := Aside0.mk (skip_le s p hp)
  have c91 : ((nextC s p : Int) == 91) = true := beq_iff_eq.mpr (by omega)
  have c123 : ((nextC s p : Int) == 123) = false := beq_eq_false_iff_ne.mpr (by omega)
  have HC : Aside0 ((nextC s p : Int) = 91) := ⟨by omega⟩
  have d64 : decide (64 ≤ x.f0) = true := decide_eq_true (by omega)
  clear hR hB hg hs hO hp hj hc hd
  unfold itemV
  go_enter Tryd.func69, Tryd.ntmps69
  go_wp2_with fail
  obtain ⟨b, hb⟩ : ∃ b, W.heap.size = b := ⟨_, rfl⟩
  have hgW := blk_lt HR.out
  have HA : Aside0 (Below W.heap.size W (W.alloc (.cells #[.int .i64 x.f0, .int .i64 x.f1, .string x.f2, .string x.f3, .int .i64 x.f4] 59))) := ⟨below_alloc (Below.refl _ _) _⟩
  have HI : Aside0 (Itm (W.alloc (.cells #[.int .i64 x.f0, .int .i64 x.f1, .string x.f2, .string x.f3, .int .i64 x.f4] 59)) b x) := ⟨by rw [← hb]; exact heap_alloc_new _ _⟩
  have HR := Aside0.mk (rd_below HR.out HA.out)
  have HO : Aside0 (Kd.R k59 59 (W.alloc (.cells #[.int .i64 x.f0, .int .i64 x.f1, .string x.f2, .string x.f3, .int .i64 x.f4] 59)) w0.heap.size (fun j => j ≠ g ∧ j ≠ b) v out) := ⟨Kd.R_below (Kd.R_mono (Kd.R_bound HO.out) (fun k hk => ⟨hk.1, by have := hk.2.2.1; omega⟩)) HA.out⟩
  have HK := Aside0.mk (KeepBut.of_below HA.out g none)
  have HBo := HB
  have HB := Aside0.mk (below_step HB.out HA.out)
  have HB0 : Aside0 (w0.heap.size ≤ W.heap.size) := ⟨HBo.out.size⟩
  have HBG : Aside0 (W.heap.size ≤ b) := ⟨by omega⟩
  have hne1 : ¬ b = g := by omega
  have hne2 : ¬ g = b := by omega
  rw [hb]
  generalize W.alloc (.cells #[.int .i64 x.f0, .int .i64 x.f1, .string x.f2, .string x.f3, .int .i64 x.f4] 59) = W1 at HA HI HR HO HK HB ⊢
  clear HA hb
  go_wp2_with (go_at_call 70; refine (next_calls w0 W1 g s p v HR.out HB.out HG.out HP.out HS.out).mono ?_; rintro e w2 ⟨rfl, hR2, hB2, hK2⟩; have HI := Aside0.mk ((hK2.2 b (blk_lt HI.out) hne1 (by simp)).trans HI.out); have HR := Aside0.mk hR2; have HO := Aside0.mk (Kd.R_keep HO.out hK2 (fun _ h => h.1)) ; have HK := Aside0.mk (HK.out.trans hK2 (.inl rfl)); have HB := Aside0.mk hB2; clear hR2 hB2 hK2; have hm0 : w2.cell? ⟨b, 0, none⟩ = some (.int .i64 x.f0) := (blk_cell HI.out 0).trans rfl; have hm1 : w2.cell? ⟨b, 1, none⟩ = some (.int .i64 x.f1) := (blk_cell HI.out 1).trans rfl; have hfm1 := blk_frozen HI.out 1; have hcc1 := rd_cell1 HR.out; have hcf1 := blk_frozen HR.out 1)
  go_ret
  exact ⟨rfl, ⟨v, blk_far HR.out (p := ⟨b, 1, none⟩) hne2 _, Kd.R_mono (Kd.R_far HO.out (p := ⟨b, 1, none⟩) (fun _ h => h.2) (.int .i64 6)) (fun _ h => h.1), .inl rfl⟩, below_set (j := 1) (v := .int .i64 6) (g := b) HB.out (Nat.le_trans HB0.out HBG.out), keep_wide (keep_far HK.out (p := ⟨b, 1, none⟩) HBG.out (.int .i64 6))⟩
set_option maxHeartbeats 8000000 in
set_option maxRecDepth 100000 in
theorem value_open91 (w0 W : World) (g : Nat) (s : ByteArray) (p : Nat) (v : Value) (out : List S59) (x : S59) (hR : Rd W g s p v) (hO : Out w0 W g v out) (hB : Below w0.heap.size w0 W) (hg : w0.heap.size ≤ g) (hp : p ≤ s.size) (hs : s.size ≤ 4611686018427387904) (hj : JTabs w0) (hc : nextC s p = 91) (hd : x.f0 < 64) (hl : (out.length + 1) * 56 ≤ 140737488355328) (hq : skipP s p < s.size) (er : Int) (q : Nat) (out' : List S59) (hM : ∀ (W1 : World) (v1 : Value), Rd W1 g s (skipP s p + 1) v1 → Out w0 W1 g v1 (out ++ [(⟨x.f0, 6, x.f2, x.f3, x.f4⟩ : S59)]) → Below w0.heap.size w0 W1 → Calls Tryd.prog 87 #[.pointer (some ⟨g, 0, none⟩), itemV (⟨x.f0, 6, x.f2, x.f3, x.f4⟩ : S59), .int .u8 93] W1 fun e W' => e = .returned (.int .i64 er) ∧ Left w0 W1 W' g s q v1 out') :
    Calls Tryd.prog 69 #[.pointer (some ⟨g, 0, none⟩), itemV x] W fun e W' => e = .returned (.int .i64 er) ∧ Left w0 W W' g s q v out' := by
  have HR := Aside0.mk hR
  have HO := Aside0.mk hO
  have HB := Aside0.mk hB
  have HG := Aside0.mk hg
  have HS := Aside0.mk hs
  have HP := Aside0.mk hp
  have JT := Aside0.mk hj
  have HP1 := Aside0.mk (skip_le s p hp)
  have c91 : ((nextC s p : Int) == 91) = true := beq_iff_eq.mpr (by omega)
  have c123 : ((nextC s p : Int) == 123) = false := beq_eq_false_iff_ne.mpr (by omega)
  have HC : Aside0 ((nextC s p : Int) = 91) := ⟨by omega⟩
  have d64 : decide (64 ≤ x.f0) = false := decide_eq_false (by omega)
  have HL := Aside0.mk hl
  have HM := Aside0.mk hM
  have HW : Aside0 (wrap64 ((skipP s p : Int) + 1) = ((skipP s p + 1 : Nat) : Int)) := ⟨by unfold wrap64; omega⟩
  have hu : IntKind.u8.wrap ((nextC s p : Int) + 2) = 93 := by rw [HC.out]; rfl
  have hu2 : ((nextC s p : Int) + 2) % 256 = 93 := by rw [HC.out]; rfl
  clear hR hB hg hs hO hp hj hc hd hl hM hq
  unfold itemV
  go_enter Tryd.func69, Tryd.ntmps69
  go_wp2_with fail
  obtain ⟨b, hb⟩ : ∃ b, W.heap.size = b := ⟨_, rfl⟩
  have hgW := blk_lt HR.out
  have HA : Aside0 (Below W.heap.size W (W.alloc (.cells #[.int .i64 x.f0, .int .i64 x.f1, .string x.f2, .string x.f3, .int .i64 x.f4] 59))) := ⟨below_alloc (Below.refl _ _) _⟩
  have HI : Aside0 (Itm (W.alloc (.cells #[.int .i64 x.f0, .int .i64 x.f1, .string x.f2, .string x.f3, .int .i64 x.f4] 59)) b x) := ⟨by rw [← hb]; exact heap_alloc_new _ _⟩
  have HR := Aside0.mk (rd_below HR.out HA.out)
  have HO : Aside0 (Kd.R k59 59 (W.alloc (.cells #[.int .i64 x.f0, .int .i64 x.f1, .string x.f2, .string x.f3, .int .i64 x.f4] 59)) w0.heap.size (fun j => j ≠ g ∧ j ≠ b) v out) := ⟨Kd.R_below (Kd.R_mono (Kd.R_bound HO.out) (fun k hk => ⟨hk.1, by have := hk.2.2.1; omega⟩)) HA.out⟩
  have HK := Aside0.mk (KeepBut.of_below HA.out g none)
  have HBo := HB
  have HB := Aside0.mk (below_step HB.out HA.out)
  have HB0 : Aside0 (w0.heap.size ≤ W.heap.size) := ⟨HBo.out.size⟩
  have HBG : Aside0 (W.heap.size ≤ b) := ⟨by omega⟩
  have hne1 : ¬ b = g := by omega
  have hne2 : ¬ g = b := by omega
  rw [hb]
  generalize W.alloc (.cells #[.int .i64 x.f0, .int .i64 x.f1, .string x.f2, .string x.f3, .int .i64 x.f4] 59) = W1 at HA HI HR HO HK HB ⊢
  clear HA hb
  go_wp2_with (go_at_call 70; refine (next_calls w0 W1 g s p v HR.out HB.out HG.out HP.out HS.out).mono ?_; rintro e w2 ⟨rfl, hR2, hB2, hK2⟩; have HI := Aside0.mk ((hK2.2 b (blk_lt HI.out) hne1 (by simp)).trans HI.out); have HR := Aside0.mk hR2; have HO := Aside0.mk (Kd.R_keep HO.out hK2 (fun _ h => h.1)) ; have HK := Aside0.mk (HK.out.trans hK2 (.inl rfl)); have HB := Aside0.mk hB2; clear hR2 hB2 hK2; have hm0 : w2.cell? ⟨b, 0, none⟩ = some (.int .i64 x.f0) := (blk_cell HI.out 0).trans rfl; have hm1 : w2.cell? ⟨b, 1, none⟩ = some (.int .i64 x.f1) := (blk_cell HI.out 1).trans rfl; have hfm1 := blk_frozen HI.out 1; have hcc1 := rd_cell1 HR.out; have hcf1 := blk_frozen HR.out 1)
  have HRb : Aside0 (Rd (w2.setCell ⟨b, 1, none⟩ (.int .i64 6)) g s (skipP s p) v) := ⟨blk_far HR.out (p := ⟨b, 1, none⟩) hne2 _⟩
  have HIb : Aside0 (Itm (w2.setCell ⟨b, 1, none⟩ (.int .i64 6)) b (⟨x.f0, 6, x.f2, x.f3, x.f4⟩ : S59)) := ⟨blk_set HI.out 1 _⟩
  have HOb := Aside0.mk (Kd.R_far HO.out (p := ⟨b, 1, none⟩) (fun _ h => h.2) (.int .i64 6))
  have HKb := Aside0.mk (keep_far HK.out (p := ⟨b, 1, none⟩) HBG.out (.int .i64 6))
  have HBb := Aside0.mk (below_set (j := 1) (v := .int .i64 6) (g := b) HB.out (Nat.le_trans HB0.out HBG.out))
  have HRa : Aside0 (Rd ((w2.setCell ⟨b, 1, none⟩ (.int .i64 6)).setCell ⟨g, 1, none⟩ (.int .i64 (wrap64 ((skipP s p : Int) + 1)))) g s (skipP s p + 1) v) := ⟨rd_set1 HRb.out HW.out⟩
  have HIa : Aside0 (Itm ((w2.setCell ⟨b, 1, none⟩ (.int .i64 6)).setCell ⟨g, 1, none⟩ (.int .i64 (wrap64 ((skipP s p : Int) + 1)))) b (⟨x.f0, 6, x.f2, x.f3, x.f4⟩ : S59)) := ⟨blk_far HIb.out (p := ⟨g, 1, none⟩) hne1 _⟩
  have HOa := Aside0.mk (Kd.R_far HOb.out (p := ⟨g, 1, none⟩) (fun _ h => h.1) (.int .i64 (wrap64 ((skipP s p : Int) + 1))))
  have HKa := Aside0.mk (KeepBut.set_ HKb.out 1 (.int .i64 (wrap64 ((skipP s p : Int) + 1))))
  have HBa := Aside0.mk (below_set (j := 1) (v := .int .i64 (wrap64 ((skipP s p : Int) + 1))) HBb.out HG.out)
  clear HRb HIb HOb HKb HBb hcc1 hcf1 hm0 hm1 hfm1
  generalize (w2.setCell ⟨b, 1, none⟩ (.int .i64 6)).setCell ⟨g, 1, none⟩ (.int .i64 (wrap64 ((skipP s p : Int) + 1))) = w1 at HRa HIa HOa HKa HBa ⊢
  refine start_ (n := 11) (S := fun w' => w'.cell? ⟨g, 2, none⟩ = some v ∧ w'.heap[b]? = some (.cells #[.int .i64 ((⟨x.f0, 6, x.f2, x.f3, x.f4⟩ : S59)).f0, .int .i64 ((⟨x.f0, 6, x.f2, x.f3, x.f4⟩ : S59)).f1, .string ((⟨x.f0, 6, x.f2, x.f3, x.f4⟩ : S59)).f2, .string ((⟨x.f0, 6, x.f2, x.f3, x.f4⟩ : S59)).f3, .int .i64 ((⟨x.f0, 6, x.f2, x.f3, x.f4⟩ : S59)).f4] 59 (0, 0))) (ds := [7, 10]) #[false, false, false, false, false, false, false, false, false, false, false] (by kernel_rfl) rfl rfl ⟨rd_cell2 HRa.out, HIa.out⟩ (fun hHeld => ?_)
  refine pure_ (i := 0) (N := some 33) (v := ?_) (a' := ?_) #[true, false, false, false, false, false, false, false, false, false, false] rfl rfl (by kernel_rfl) (fun _ _ _ h => h) (Or.inl ⟨by rfl, ?_⟩) ?_ ?_
  rotate_left
  · intro w'
    go_simp
    (try with_reducible rfl)
  rotate_left
  · simp only [Act.put, List.setIfInBounds_toArray, List.set_cons_zero, List.set_cons_succ]
    rfl
  refine pure_ (i := 1) (N := some 34) (v := ?_) (a' := ?_) #[true, true, false, false, false, false, false, false, false, false, false] rfl rfl (by kernel_rfl) (fun _ _ _ h => h) (Or.inl ⟨by rfl, ?_⟩) ?_ ?_
  rotate_left
  · intro w'
    go_simp
    (try with_reducible rfl)
  rotate_left
  · simp only [Act.put, List.setIfInBounds_toArray, List.set_cons_zero, List.set_cons_succ]
    rfl
  refine pure_ (i := 2) (N := some 35) (v := ?_) (a' := ?_) #[true, true, true, false, false, false, false, false, false, false, false] rfl rfl (by kernel_rfl) (fun _ _ _ h => h) (Or.inl ⟨by rfl, ?_⟩) ?_ ?_
  rotate_left
  · intro w'
    go_simp
    (try with_reducible rfl)
  rotate_left
  · simp only [Act.put, List.setIfInBounds_toArray, List.set_cons_zero, List.set_cons_succ]
    rfl
  refine pure_ (i := 3) (N := some 36) (v := ?_) (a' := ?_) #[true, true, true, true, false, false, false, false, false, false, false] rfl rfl (by kernel_rfl) (fun _ _ _ h => h) (Or.inl ⟨by rfl, ?_⟩) ?_ ?_
  rotate_left
  · intro w'
    go_simp
    (try with_reducible rfl)
  rotate_left
  · simp only [Act.put, List.setIfInBounds_toArray, List.set_cons_zero, List.set_cons_succ]
    rfl
  refine take_ (i := 4) (N := some 37) (v := ?_) (a' := ?_) #[true, true, true, true, true, false, false, false, false, false, false] rfl rfl (by kernel_rfl) (fun _ _ _ h => h) (Or.inl ⟨by rfl, ?_⟩) (by assumption) ?_ ?_
  rotate_left
  · intro w hSw
    obtain ⟨hl0, hl1⟩ := hSw
    go_simp
    (try with_reducible rfl)
  rotate_left
  · simp only [Act.put, List.setIfInBounds_toArray, List.set_cons_zero, List.set_cons_succ]
    rfl
  refine take_ (i := 5) (N := some 38) (v := ?_) (a' := ?_) #[true, true, true, true, true, true, false, false, false, false, false] rfl rfl (by kernel_rfl) (fun _ _ _ h => h) (Or.inl ⟨by rfl, ?_⟩) (by assumption) ?_ ?_
  rotate_left
  · intro w hSw
    obtain ⟨hl0, hl1⟩ := hSw
    have hm0 : w.cell? ⟨b, 0, none⟩ = some (.int .i64 ((⟨x.f0, 6, x.f2, x.f3, x.f4⟩ : S59)).f0) := (blk_cell hl1 0).trans rfl
    have hm1 : w.cell? ⟨b, 1, none⟩ = some (.int .i64 ((⟨x.f0, 6, x.f2, x.f3, x.f4⟩ : S59)).f1) := (blk_cell hl1 1).trans rfl
    have hm2 : w.cell? ⟨b, 2, none⟩ = some (.string ((⟨x.f0, 6, x.f2, x.f3, x.f4⟩ : S59)).f2) := (blk_cell hl1 2).trans rfl
    have hm3 : w.cell? ⟨b, 3, none⟩ = some (.string ((⟨x.f0, 6, x.f2, x.f3, x.f4⟩ : S59)).f3) := (blk_cell hl1 3).trans rfl
    have hm4 : w.cell? ⟨b, 4, none⟩ = some (.int .i64 ((⟨x.f0, 6, x.f2, x.f3, x.f4⟩ : S59)).f4) := (blk_cell hl1 4).trans rfl
    clear hl1
    go_simp
    (try with_reducible rfl)
  rotate_left
  · simp only [Act.put, List.setIfInBounds_toArray, List.set_cons_zero, List.set_cons_succ]
    rfl
  refine one_ (i := 6) (N := some 39) #[true, true, true, true, true, true, true, false, false, false, false] rfl rfl (by kernel_rfl) (by decide) (fun K hK => ?_)
  refine event_step (W := w1.drew) (v := .slice (some ⟨w1.heap.size, 0, none⟩) 1 1) (w1 := w1.drew.alloc (.cells #[.int .i64 ((⟨x.f0, 6, x.f2, x.f3, x.f4⟩ : S59)).f0, .int .i64 ((⟨x.f0, 6, x.f2, x.f3, x.f4⟩ : S59)).f1, .string ((⟨x.f0, 6, x.f2, x.f3, x.f4⟩ : S59)).f2, .string ((⟨x.f0, 6, x.f2, x.f3, x.f4⟩ : S59)).f3, .int .i64 ((⟨x.f0, 6, x.f2, x.f3, x.f4⟩ : S59)).f4] 59)) (by rfl) (by kernel_rfl) ?_
  refine hK.out _ _ ?_ (fun hHeld => ?_)
  · exact keep_push HRa.out HIa.out _
  clear hK K
  (try simp only [Act.put, List.setIfInBounds_toArray, List.set_cons_zero, List.set_cons_succ])
  refine last_ (i := 7) (N := some 40) #[true, true, true, true, true, true, true, true, false, false, false] rfl rfl (by kernel_rfl) (by decide) (fun K hK => ?_)
  refine push_append (.tmp 37) (.tmp 39) (by rfl) rfl rfl rfl HRa.out HIa.out HOa.out HBa.out HG.out HL.out ?_
  intro As N2 cc w2 hR2 hP2
  have hc2a := rd_cell2 hR2
  have hf2a := blk_frozen hR2 2
  have HPa := Aside0.mk hP2
  clear hR2 hP2
  refine hK.out _ _ ?_
  clear hK K
  (try simp only [Act.put, List.setIfInBounds_toArray, List.set_cons_zero, List.set_cons_succ])
  refine pure_ (i := 8) (N := some 41) (v := ?_) (a' := ?_) #[true, true, true, true, true, true, true, true, true, false, false] rfl rfl (by kernel_rfl) (fun _ _ _ h => h) (Or.inl ⟨by rfl, ?_⟩) ?_ ?_
  rotate_left
  · intro w'
    go_simp
    (try with_reducible rfl)
  rotate_left
  · simp only [Act.put, List.setIfInBounds_toArray, List.set_cons_zero, List.set_cons_succ]
    rfl
  refine pure_ (i := 9) (N := some 42) (v := ?_) (a' := ?_) #[true, true, true, true, true, true, true, true, true, true, false] rfl rfl (by kernel_rfl) (fun _ _ _ h => h) (Or.inl ⟨by rfl, ?_⟩) ?_ ?_
  rotate_left
  · intro w'
    go_simp
    (try with_reducible rfl)
  rotate_left
  · simp only [Act.put, List.setIfInBounds_toArray, List.set_cons_zero, List.set_cons_succ]
    rfl
  refine last_ (i := 10) (N := none) #[true, true, true, true, true, true, true, true, true, true, true] rfl rfl (by kernel_rfl) (by decide) (fun K hK => ?_)
  go_simp
  refine hK.out _ _ ?_
  clear hK K
  (try simp only [Act.put, List.setIfInBounds_toArray, List.set_cons_zero, List.set_cons_succ])
  refine done_ (by kernel_rfl) ?_
  clear hc2a hf2a
  generalize w2.setCell ⟨g, 2, none⟩ (.slice As N2 cc) = wf at HPa ⊢
  obtain ⟨⟨v', hR', hO', hA'⟩, hB', hK'⟩ := HPa.out
  have HIf : Aside0 (Itm wf b (⟨x.f0, 6, x.f2, x.f3, x.f4⟩ : S59)) := ⟨(hK'.2 b (blk_lt HIa.out) hne1 (fun e => (HOa.out.1 b e.symm).2 rfl)).trans HIa.out⟩
  have hm0 : wf.cell? ⟨b, 0, none⟩ = some (.int .i64 x.f0) := (blk_cell HIf.out 0).trans rfl
  have hm1 : wf.cell? ⟨b, 1, none⟩ = some (.int .i64 6) := (blk_cell HIf.out 1).trans rfl
  have hm2 : wf.cell? ⟨b, 2, none⟩ = some (.string x.f2) := (blk_cell HIf.out 2).trans rfl
  have hm3 : wf.cell? ⟨b, 3, none⟩ = some (.string x.f3) := (blk_cell HIf.out 3).trans rfl
  have hm4 : wf.cell? ⟨b, 4, none⟩ = some (.int .i64 x.f4) := (blk_cell HIf.out 4).trans rfl
  have HR' := Aside0.mk hR'
  have HO' := Aside0.mk hO'
  have HB' := Aside0.mk hB'
  have HA' := Aside0.mk hA'
  have HK' := Aside0.mk hK'
  clear hR' hO' hB' hA' hK'
  go_wp2_with (go_at_call 87; refine (HM.out wf v' HR'.out HO'.out HB'.out).mono ?_; rintro e w4 ⟨rfl, hL⟩; have HL4 := Aside0.mk hL; clear hL)
  go_ret
  exact ⟨rfl, Left.pre HKa.out (Left.comp HA'.out HK'.out HL4.out)⟩
set_option maxHeartbeats 8000000 in
set_option maxRecDepth 100000 in
theorem value_deep123 (w0 W : World) (g : Nat) (s : ByteArray) (p : Nat) (v : Value) (out : List S59) (x : S59) (hR : Rd W g s p v) (hO : Out w0 W g v out) (hB : Below w0.heap.size w0 W) (hg : w0.heap.size ≤ g) (hp : p ≤ s.size) (hs : s.size ≤ 4611686018427387904) (hj : JTabs w0) (hc : nextC s p = 123) (hd : 64 ≤ x.f0) :
    Calls Tryd.prog 69 #[.pointer (some ⟨g, 0, none⟩), itemV x] W fun e W' => e = .returned (.int .i64 81) ∧ Left w0 W W' g s (skipP s p) v out := by
  have HR := Aside0.mk hR
  have HO := Aside0.mk hO
  have HB := Aside0.mk hB
  have HG := Aside0.mk hg
  have HS := Aside0.mk hs
  have HP := Aside0.mk hp
  have JT := Aside0.mk hj
  have HP1 := Aside0.mk (skip_le s p hp)
  have c91 : ((nextC s p : Int) == 91) = false := beq_eq_false_iff_ne.mpr (by omega)
  have c123 : ((nextC s p : Int) == 123) = true := beq_iff_eq.mpr (by omega)
  have HC : Aside0 ((nextC s p : Int) = 123) := ⟨by omega⟩
  have d64 : decide (64 ≤ x.f0) = true := decide_eq_true (by omega)
  clear hR hB hg hs hO hp hj hc hd
  unfold itemV
  go_enter Tryd.func69, Tryd.ntmps69
  go_wp2_with fail
  obtain ⟨b, hb⟩ : ∃ b, W.heap.size = b := ⟨_, rfl⟩
  have hgW := blk_lt HR.out
  have HA : Aside0 (Below W.heap.size W (W.alloc (.cells #[.int .i64 x.f0, .int .i64 x.f1, .string x.f2, .string x.f3, .int .i64 x.f4] 59))) := ⟨below_alloc (Below.refl _ _) _⟩
  have HI : Aside0 (Itm (W.alloc (.cells #[.int .i64 x.f0, .int .i64 x.f1, .string x.f2, .string x.f3, .int .i64 x.f4] 59)) b x) := ⟨by rw [← hb]; exact heap_alloc_new _ _⟩
  have HR := Aside0.mk (rd_below HR.out HA.out)
  have HO : Aside0 (Kd.R k59 59 (W.alloc (.cells #[.int .i64 x.f0, .int .i64 x.f1, .string x.f2, .string x.f3, .int .i64 x.f4] 59)) w0.heap.size (fun j => j ≠ g ∧ j ≠ b) v out) := ⟨Kd.R_below (Kd.R_mono (Kd.R_bound HO.out) (fun k hk => ⟨hk.1, by have := hk.2.2.1; omega⟩)) HA.out⟩
  have HK := Aside0.mk (KeepBut.of_below HA.out g none)
  have HBo := HB
  have HB := Aside0.mk (below_step HB.out HA.out)
  have HB0 : Aside0 (w0.heap.size ≤ W.heap.size) := ⟨HBo.out.size⟩
  have HBG : Aside0 (W.heap.size ≤ b) := ⟨by omega⟩
  have hne1 : ¬ b = g := by omega
  have hne2 : ¬ g = b := by omega
  rw [hb]
  generalize W.alloc (.cells #[.int .i64 x.f0, .int .i64 x.f1, .string x.f2, .string x.f3, .int .i64 x.f4] 59) = W1 at HA HI HR HO HK HB ⊢
  clear HA hb
  go_wp2_with (go_at_call 70; refine (next_calls w0 W1 g s p v HR.out HB.out HG.out HP.out HS.out).mono ?_; rintro e w2 ⟨rfl, hR2, hB2, hK2⟩; have HI := Aside0.mk ((hK2.2 b (blk_lt HI.out) hne1 (by simp)).trans HI.out); have HR := Aside0.mk hR2; have HO := Aside0.mk (Kd.R_keep HO.out hK2 (fun _ h => h.1)) ; have HK := Aside0.mk (HK.out.trans hK2 (.inl rfl)); have HB := Aside0.mk hB2; clear hR2 hB2 hK2; have hm0 : w2.cell? ⟨b, 0, none⟩ = some (.int .i64 x.f0) := (blk_cell HI.out 0).trans rfl; have hm1 : w2.cell? ⟨b, 1, none⟩ = some (.int .i64 x.f1) := (blk_cell HI.out 1).trans rfl; have hfm1 := blk_frozen HI.out 1; have hcc1 := rd_cell1 HR.out; have hcf1 := blk_frozen HR.out 1)
  go_ret
  exact ⟨rfl, ⟨v, blk_far (blk_far HR.out (p := ⟨b, 1, none⟩) hne2 (.int .i64 6)) (p := ⟨b, 1, none⟩) hne2 _, Kd.R_mono (Kd.R_far (Kd.R_far HO.out (p := ⟨b, 1, none⟩) (fun _ h => h.2) (.int .i64 6)) (p := ⟨b, 1, none⟩) (fun _ h => h.2) (.int .i64 7)) (fun _ h => h.1), .inl rfl⟩, below_set (j := 1) (v := .int .i64 7) (g := b) (below_set (j := 1) (v := .int .i64 6) (g := b) HB.out (Nat.le_trans HB0.out HBG.out)) (Nat.le_trans HB0.out HBG.out), keep_wide (keep_far (keep_far HK.out (p := ⟨b, 1, none⟩) HBG.out (.int .i64 6)) (p := ⟨b, 1, none⟩) HBG.out (.int .i64 7))⟩
set_option maxHeartbeats 8000000 in
set_option maxRecDepth 100000 in
theorem value_open123 (w0 W : World) (g : Nat) (s : ByteArray) (p : Nat) (v : Value) (out : List S59) (x : S59) (hR : Rd W g s p v) (hO : Out w0 W g v out) (hB : Below w0.heap.size w0 W) (hg : w0.heap.size ≤ g) (hp : p ≤ s.size) (hs : s.size ≤ 4611686018427387904) (hj : JTabs w0) (hc : nextC s p = 123) (hd : x.f0 < 64) (hl : (out.length + 1) * 56 ≤ 140737488355328) (hq : skipP s p < s.size) (er : Int) (q : Nat) (out' : List S59) (hM : ∀ (W1 : World) (v1 : Value), Rd W1 g s (skipP s p + 1) v1 → Out w0 W1 g v1 (out ++ [(⟨x.f0, 7, x.f2, x.f3, x.f4⟩ : S59)]) → Below w0.heap.size w0 W1 → Calls Tryd.prog 87 #[.pointer (some ⟨g, 0, none⟩), itemV (⟨x.f0, 7, x.f2, x.f3, x.f4⟩ : S59), .int .u8 125] W1 fun e W' => e = .returned (.int .i64 er) ∧ Left w0 W1 W' g s q v1 out') :
    Calls Tryd.prog 69 #[.pointer (some ⟨g, 0, none⟩), itemV x] W fun e W' => e = .returned (.int .i64 er) ∧ Left w0 W W' g s q v out' := by
  have HR := Aside0.mk hR
  have HO := Aside0.mk hO
  have HB := Aside0.mk hB
  have HG := Aside0.mk hg
  have HS := Aside0.mk hs
  have HP := Aside0.mk hp
  have JT := Aside0.mk hj
  have HP1 := Aside0.mk (skip_le s p hp)
  have c91 : ((nextC s p : Int) == 91) = false := beq_eq_false_iff_ne.mpr (by omega)
  have c123 : ((nextC s p : Int) == 123) = true := beq_iff_eq.mpr (by omega)
  have HC : Aside0 ((nextC s p : Int) = 123) := ⟨by omega⟩
  have d64 : decide (64 ≤ x.f0) = false := decide_eq_false (by omega)
  have HL := Aside0.mk hl
  have HM := Aside0.mk hM
  have HW : Aside0 (wrap64 ((skipP s p : Int) + 1) = ((skipP s p + 1 : Nat) : Int)) := ⟨by unfold wrap64; omega⟩
  have hu : IntKind.u8.wrap ((nextC s p : Int) + 2) = 125 := by rw [HC.out]; rfl
  have hu2 : ((nextC s p : Int) + 2) % 256 = 125 := by rw [HC.out]; rfl
  clear hR hB hg hs hO hp hj hc hd hl hM hq
  unfold itemV
  go_enter Tryd.func69, Tryd.ntmps69
  go_wp2_with fail
  obtain ⟨b, hb⟩ : ∃ b, W.heap.size = b := ⟨_, rfl⟩
  have hgW := blk_lt HR.out
  have HA : Aside0 (Below W.heap.size W (W.alloc (.cells #[.int .i64 x.f0, .int .i64 x.f1, .string x.f2, .string x.f3, .int .i64 x.f4] 59))) := ⟨below_alloc (Below.refl _ _) _⟩
  have HI : Aside0 (Itm (W.alloc (.cells #[.int .i64 x.f0, .int .i64 x.f1, .string x.f2, .string x.f3, .int .i64 x.f4] 59)) b x) := ⟨by rw [← hb]; exact heap_alloc_new _ _⟩
  have HR := Aside0.mk (rd_below HR.out HA.out)
  have HO : Aside0 (Kd.R k59 59 (W.alloc (.cells #[.int .i64 x.f0, .int .i64 x.f1, .string x.f2, .string x.f3, .int .i64 x.f4] 59)) w0.heap.size (fun j => j ≠ g ∧ j ≠ b) v out) := ⟨Kd.R_below (Kd.R_mono (Kd.R_bound HO.out) (fun k hk => ⟨hk.1, by have := hk.2.2.1; omega⟩)) HA.out⟩
  have HK := Aside0.mk (KeepBut.of_below HA.out g none)
  have HBo := HB
  have HB := Aside0.mk (below_step HB.out HA.out)
  have HB0 : Aside0 (w0.heap.size ≤ W.heap.size) := ⟨HBo.out.size⟩
  have HBG : Aside0 (W.heap.size ≤ b) := ⟨by omega⟩
  have hne1 : ¬ b = g := by omega
  have hne2 : ¬ g = b := by omega
  rw [hb]
  generalize W.alloc (.cells #[.int .i64 x.f0, .int .i64 x.f1, .string x.f2, .string x.f3, .int .i64 x.f4] 59) = W1 at HA HI HR HO HK HB ⊢
  clear HA hb
  go_wp2_with (go_at_call 70; refine (next_calls w0 W1 g s p v HR.out HB.out HG.out HP.out HS.out).mono ?_; rintro e w2 ⟨rfl, hR2, hB2, hK2⟩; have HI := Aside0.mk ((hK2.2 b (blk_lt HI.out) hne1 (by simp)).trans HI.out); have HR := Aside0.mk hR2; have HO := Aside0.mk (Kd.R_keep HO.out hK2 (fun _ h => h.1)) ; have HK := Aside0.mk (HK.out.trans hK2 (.inl rfl)); have HB := Aside0.mk hB2; clear hR2 hB2 hK2; have hm0 : w2.cell? ⟨b, 0, none⟩ = some (.int .i64 x.f0) := (blk_cell HI.out 0).trans rfl; have hm1 : w2.cell? ⟨b, 1, none⟩ = some (.int .i64 x.f1) := (blk_cell HI.out 1).trans rfl; have hfm1 := blk_frozen HI.out 1; have hcc1 := rd_cell1 HR.out; have hcf1 := blk_frozen HR.out 1)
  have HRb : Aside0 (Rd ((w2.setCell ⟨b, 1, none⟩ (.int .i64 6)).setCell ⟨b, 1, none⟩ (.int .i64 7)) g s (skipP s p) v) := ⟨blk_far (blk_far HR.out (p := ⟨b, 1, none⟩) hne2 (.int .i64 6)) (p := ⟨b, 1, none⟩) hne2 _⟩
  have HIb : Aside0 (Itm ((w2.setCell ⟨b, 1, none⟩ (.int .i64 6)).setCell ⟨b, 1, none⟩ (.int .i64 7)) b (⟨x.f0, 7, x.f2, x.f3, x.f4⟩ : S59)) := ⟨blk_set (blk_set HI.out 1 (.int .i64 6)) 1 _⟩
  have HOb := Aside0.mk (Kd.R_far (Kd.R_far HO.out (p := ⟨b, 1, none⟩) (fun _ h => h.2) (.int .i64 6)) (p := ⟨b, 1, none⟩) (fun _ h => h.2) (.int .i64 7))
  have HKb := Aside0.mk (keep_far (keep_far HK.out (p := ⟨b, 1, none⟩) HBG.out (.int .i64 6)) (p := ⟨b, 1, none⟩) HBG.out (.int .i64 7))
  have HBb := Aside0.mk (below_set (j := 1) (v := .int .i64 7) (g := b) (below_set (j := 1) (v := .int .i64 6) (g := b) HB.out (Nat.le_trans HB0.out HBG.out)) (Nat.le_trans HB0.out HBG.out))
  have HRa : Aside0 (Rd (((w2.setCell ⟨b, 1, none⟩ (.int .i64 6)).setCell ⟨b, 1, none⟩ (.int .i64 7)).setCell ⟨g, 1, none⟩ (.int .i64 (wrap64 ((skipP s p : Int) + 1)))) g s (skipP s p + 1) v) := ⟨rd_set1 HRb.out HW.out⟩
  have HIa : Aside0 (Itm (((w2.setCell ⟨b, 1, none⟩ (.int .i64 6)).setCell ⟨b, 1, none⟩ (.int .i64 7)).setCell ⟨g, 1, none⟩ (.int .i64 (wrap64 ((skipP s p : Int) + 1)))) b (⟨x.f0, 7, x.f2, x.f3, x.f4⟩ : S59)) := ⟨blk_far HIb.out (p := ⟨g, 1, none⟩) hne1 _⟩
  have HOa := Aside0.mk (Kd.R_far HOb.out (p := ⟨g, 1, none⟩) (fun _ h => h.1) (.int .i64 (wrap64 ((skipP s p : Int) + 1))))
  have HKa := Aside0.mk (KeepBut.set_ HKb.out 1 (.int .i64 (wrap64 ((skipP s p : Int) + 1))))
  have HBa := Aside0.mk (below_set (j := 1) (v := .int .i64 (wrap64 ((skipP s p : Int) + 1))) HBb.out HG.out)
  clear HRb HIb HOb HKb HBb hcc1 hcf1 hm0 hm1 hfm1
  generalize ((w2.setCell ⟨b, 1, none⟩ (.int .i64 6)).setCell ⟨b, 1, none⟩ (.int .i64 7)).setCell ⟨g, 1, none⟩ (.int .i64 (wrap64 ((skipP s p : Int) + 1))) = w1 at HRa HIa HOa HKa HBa ⊢
  refine start_ (n := 11) (S := fun w' => w'.cell? ⟨g, 2, none⟩ = some v ∧ w'.heap[b]? = some (.cells #[.int .i64 ((⟨x.f0, 7, x.f2, x.f3, x.f4⟩ : S59)).f0, .int .i64 ((⟨x.f0, 7, x.f2, x.f3, x.f4⟩ : S59)).f1, .string ((⟨x.f0, 7, x.f2, x.f3, x.f4⟩ : S59)).f2, .string ((⟨x.f0, 7, x.f2, x.f3, x.f4⟩ : S59)).f3, .int .i64 ((⟨x.f0, 7, x.f2, x.f3, x.f4⟩ : S59)).f4] 59 (0, 0))) (ds := [7, 10]) #[false, false, false, false, false, false, false, false, false, false, false] (by kernel_rfl) rfl rfl ⟨rd_cell2 HRa.out, HIa.out⟩ (fun hHeld => ?_)
  refine pure_ (i := 0) (N := some 33) (v := ?_) (a' := ?_) #[true, false, false, false, false, false, false, false, false, false, false] rfl rfl (by kernel_rfl) (fun _ _ _ h => h) (Or.inl ⟨by rfl, ?_⟩) ?_ ?_
  rotate_left
  · intro w'
    go_simp
    (try with_reducible rfl)
  rotate_left
  · simp only [Act.put, List.setIfInBounds_toArray, List.set_cons_zero, List.set_cons_succ]
    rfl
  refine pure_ (i := 1) (N := some 34) (v := ?_) (a' := ?_) #[true, true, false, false, false, false, false, false, false, false, false] rfl rfl (by kernel_rfl) (fun _ _ _ h => h) (Or.inl ⟨by rfl, ?_⟩) ?_ ?_
  rotate_left
  · intro w'
    go_simp
    (try with_reducible rfl)
  rotate_left
  · simp only [Act.put, List.setIfInBounds_toArray, List.set_cons_zero, List.set_cons_succ]
    rfl
  refine pure_ (i := 2) (N := some 35) (v := ?_) (a' := ?_) #[true, true, true, false, false, false, false, false, false, false, false] rfl rfl (by kernel_rfl) (fun _ _ _ h => h) (Or.inl ⟨by rfl, ?_⟩) ?_ ?_
  rotate_left
  · intro w'
    go_simp
    (try with_reducible rfl)
  rotate_left
  · simp only [Act.put, List.setIfInBounds_toArray, List.set_cons_zero, List.set_cons_succ]
    rfl
  refine pure_ (i := 3) (N := some 36) (v := ?_) (a' := ?_) #[true, true, true, true, false, false, false, false, false, false, false] rfl rfl (by kernel_rfl) (fun _ _ _ h => h) (Or.inl ⟨by rfl, ?_⟩) ?_ ?_
  rotate_left
  · intro w'
    go_simp
    (try with_reducible rfl)
  rotate_left
  · simp only [Act.put, List.setIfInBounds_toArray, List.set_cons_zero, List.set_cons_succ]
    rfl
  refine take_ (i := 4) (N := some 37) (v := ?_) (a' := ?_) #[true, true, true, true, true, false, false, false, false, false, false] rfl rfl (by kernel_rfl) (fun _ _ _ h => h) (Or.inl ⟨by rfl, ?_⟩) (by assumption) ?_ ?_
  rotate_left
  · intro w hSw
    obtain ⟨hl0, hl1⟩ := hSw
    go_simp
    (try with_reducible rfl)
  rotate_left
  · simp only [Act.put, List.setIfInBounds_toArray, List.set_cons_zero, List.set_cons_succ]
    rfl
  refine take_ (i := 5) (N := some 38) (v := ?_) (a' := ?_) #[true, true, true, true, true, true, false, false, false, false, false] rfl rfl (by kernel_rfl) (fun _ _ _ h => h) (Or.inl ⟨by rfl, ?_⟩) (by assumption) ?_ ?_
  rotate_left
  · intro w hSw
    obtain ⟨hl0, hl1⟩ := hSw
    have hm0 : w.cell? ⟨b, 0, none⟩ = some (.int .i64 ((⟨x.f0, 7, x.f2, x.f3, x.f4⟩ : S59)).f0) := (blk_cell hl1 0).trans rfl
    have hm1 : w.cell? ⟨b, 1, none⟩ = some (.int .i64 ((⟨x.f0, 7, x.f2, x.f3, x.f4⟩ : S59)).f1) := (blk_cell hl1 1).trans rfl
    have hm2 : w.cell? ⟨b, 2, none⟩ = some (.string ((⟨x.f0, 7, x.f2, x.f3, x.f4⟩ : S59)).f2) := (blk_cell hl1 2).trans rfl
    have hm3 : w.cell? ⟨b, 3, none⟩ = some (.string ((⟨x.f0, 7, x.f2, x.f3, x.f4⟩ : S59)).f3) := (blk_cell hl1 3).trans rfl
    have hm4 : w.cell? ⟨b, 4, none⟩ = some (.int .i64 ((⟨x.f0, 7, x.f2, x.f3, x.f4⟩ : S59)).f4) := (blk_cell hl1 4).trans rfl
    clear hl1
    go_simp
    (try with_reducible rfl)
  rotate_left
  · simp only [Act.put, List.setIfInBounds_toArray, List.set_cons_zero, List.set_cons_succ]
    rfl
  refine one_ (i := 6) (N := some 39) #[true, true, true, true, true, true, true, false, false, false, false] rfl rfl (by kernel_rfl) (by decide) (fun K hK => ?_)
  refine event_step (W := w1.drew) (v := .slice (some ⟨w1.heap.size, 0, none⟩) 1 1) (w1 := w1.drew.alloc (.cells #[.int .i64 ((⟨x.f0, 7, x.f2, x.f3, x.f4⟩ : S59)).f0, .int .i64 ((⟨x.f0, 7, x.f2, x.f3, x.f4⟩ : S59)).f1, .string ((⟨x.f0, 7, x.f2, x.f3, x.f4⟩ : S59)).f2, .string ((⟨x.f0, 7, x.f2, x.f3, x.f4⟩ : S59)).f3, .int .i64 ((⟨x.f0, 7, x.f2, x.f3, x.f4⟩ : S59)).f4] 59)) (by rfl) (by kernel_rfl) ?_
  refine hK.out _ _ ?_ (fun hHeld => ?_)
  · exact keep_push HRa.out HIa.out _
  clear hK K
  (try simp only [Act.put, List.setIfInBounds_toArray, List.set_cons_zero, List.set_cons_succ])
  refine last_ (i := 7) (N := some 40) #[true, true, true, true, true, true, true, true, false, false, false] rfl rfl (by kernel_rfl) (by decide) (fun K hK => ?_)
  refine push_append (.tmp 37) (.tmp 39) (by rfl) rfl rfl rfl HRa.out HIa.out HOa.out HBa.out HG.out HL.out ?_
  intro As N2 cc w2 hR2 hP2
  have hc2a := rd_cell2 hR2
  have hf2a := blk_frozen hR2 2
  have HPa := Aside0.mk hP2
  clear hR2 hP2
  refine hK.out _ _ ?_
  clear hK K
  (try simp only [Act.put, List.setIfInBounds_toArray, List.set_cons_zero, List.set_cons_succ])
  refine pure_ (i := 8) (N := some 41) (v := ?_) (a' := ?_) #[true, true, true, true, true, true, true, true, true, false, false] rfl rfl (by kernel_rfl) (fun _ _ _ h => h) (Or.inl ⟨by rfl, ?_⟩) ?_ ?_
  rotate_left
  · intro w'
    go_simp
    (try with_reducible rfl)
  rotate_left
  · simp only [Act.put, List.setIfInBounds_toArray, List.set_cons_zero, List.set_cons_succ]
    rfl
  refine pure_ (i := 9) (N := some 42) (v := ?_) (a' := ?_) #[true, true, true, true, true, true, true, true, true, true, false] rfl rfl (by kernel_rfl) (fun _ _ _ h => h) (Or.inl ⟨by rfl, ?_⟩) ?_ ?_
  rotate_left
  · intro w'
    go_simp
    (try with_reducible rfl)
  rotate_left
  · simp only [Act.put, List.setIfInBounds_toArray, List.set_cons_zero, List.set_cons_succ]
    rfl
  refine last_ (i := 10) (N := none) #[true, true, true, true, true, true, true, true, true, true, true] rfl rfl (by kernel_rfl) (by decide) (fun K hK => ?_)
  go_simp
  refine hK.out _ _ ?_
  clear hK K
  (try simp only [Act.put, List.setIfInBounds_toArray, List.set_cons_zero, List.set_cons_succ])
  refine done_ (by kernel_rfl) ?_
  clear hc2a hf2a
  generalize w2.setCell ⟨g, 2, none⟩ (.slice As N2 cc) = wf at HPa ⊢
  obtain ⟨⟨v', hR', hO', hA'⟩, hB', hK'⟩ := HPa.out
  have HIf : Aside0 (Itm wf b (⟨x.f0, 7, x.f2, x.f3, x.f4⟩ : S59)) := ⟨(hK'.2 b (blk_lt HIa.out) hne1 (fun e => (HOa.out.1 b e.symm).2 rfl)).trans HIa.out⟩
  have hm0 : wf.cell? ⟨b, 0, none⟩ = some (.int .i64 x.f0) := (blk_cell HIf.out 0).trans rfl
  have hm1 : wf.cell? ⟨b, 1, none⟩ = some (.int .i64 7) := (blk_cell HIf.out 1).trans rfl
  have hm2 : wf.cell? ⟨b, 2, none⟩ = some (.string x.f2) := (blk_cell HIf.out 2).trans rfl
  have hm3 : wf.cell? ⟨b, 3, none⟩ = some (.string x.f3) := (blk_cell HIf.out 3).trans rfl
  have hm4 : wf.cell? ⟨b, 4, none⟩ = some (.int .i64 x.f4) := (blk_cell HIf.out 4).trans rfl
  have HR' := Aside0.mk hR'
  have HO' := Aside0.mk hO'
  have HB' := Aside0.mk hB'
  have HA' := Aside0.mk hA'
  have HK' := Aside0.mk hK'
  clear hR' hO' hB' hA' hK'
  go_wp2_with (go_at_call 87; refine (HM.out wf v' HR'.out HO'.out HB'.out).mono ?_; rintro e w4 ⟨rfl, hL⟩; have HL4 := Aside0.mk hL; clear hL)
  go_ret
  exact ⟨rfl, Left.pre HKa.out (Left.comp HA'.out HK'.out HL4.out)⟩
end Go.Proofs.YthhmmaihbjhhgaaDoor.Giv
namespace Go.Proofs.YthhmmaihbjhhgaaDoor.Giv
open Go.RowKit Go.Proofs.YthhmmaihbjhhgaaDoorW.PrintWords Go.Proofs.YthhmmaihbjhhgaaDoorW.PrintLast Go.Proofs.YthhmmaihbjhhgaaDoorW.PrintMore
open Go.Proofs.YthhmmaihbjhhgaaDoor.U1 Go.Proofs.YthhmmaihbjhhgaaDoor.Q1 Go.Proofs.YthhmmaihbjhhgaaDoor.J0 Go.Proofs.YthhmmaihbjhhgaaDoor.J1
set_option linter.unusedSimpArgs false
theorem info9 : (Tryd.prog.info? 9).map (fun i => (i.zero, i.size, i.bytes)) = some (some (.string ⟨#[]⟩), 1, 16) := by kernel_rfl
abbrev Res := Int × Nat × List S59
/-- what stands behind a member's key (or none): its value, and how it goes on -/
def afterKey (V : Nat → List S59 → S59 → Option Res) (L : Nat → List S59 → List ByteArray → Option Res) (s : ByteArray) (x : S59) (e : Nat) (p : Nat) (out : List S59) (keys : List ByteArray) (key : ByteArray) : Option Res :=
  (V p out ⟨x.f0 + 1, 0, key, ⟨#[]⟩, 0⟩).bind fun r => if r.2.1 ≤ s.size then
    (if r.1 = 0 then (if (takesP s r.2.1 e).1 = true then some (0, (takesP s r.2.1 e).2, r.2.2) else if (takesP s (takesP s r.2.1 e).2 44).1 = true then L (takesP s (takesP s r.2.1 e).2 44).2 r.2.2 keys else some (80, (takesP s (takesP s r.2.1 e).2 44).2, r.2.2)) else some r) else none
mutual
def valueF : Nat → ByteArray → Nat → List S59 → S59 → Option Res
  | 0, _, _, _, _ => none
  | k + 1, s, p, out, x =>
    if nextC s p = 91 then (if 64 ≤ x.f0 then some (81, skipP s p, out) else if (out.length + 1) * 56 ≤ 140737488355328 ∧ skipP s p < s.size then membersF k s (skipP s p + 1) (out ++ [⟨x.f0, 6, x.f2, x.f3, x.f4⟩]) ⟨x.f0, 6, x.f2, x.f3, x.f4⟩ 93 else none)
    else if nextC s p = 123 then (if 64 ≤ x.f0 then some (81, skipP s p, out) else if (out.length + 1) * 56 ≤ 140737488355328 ∧ skipP s p < s.size then membersF k s (skipP s p + 1) (out ++ [⟨x.f0, 7, x.f2, x.f3, x.f4⟩]) ⟨x.f0, 7, x.f2, x.f3, x.f4⟩ 125 else none)
    else if nextC s p = 34 then (quote_Read.f k (s.extract (skipP s p) s.size)).bind fun r => if 0 ≤ r.2.1 ∧ (skipP s p : Int) + r.2.1 ≤ s.size ∧ (out.length + 1) * 56 ≤ 140737488355328 then (if r.2.2 = 0 then some (0, skipP s p + r.2.1.toNat, out ++ [⟨x.f0, 5, x.f2, r.1, x.f4⟩]) else some (r.2.2, skipP s p + r.2.1.toNat, out)) else none
    else if (out.length + 1) * 56 ≤ 140737488355328 then
      (if nextC s p = 45 ∨ (48 ≤ nextC s p ∧ nextC s p ≤ 57) then (if (numberS s (skipP s p)).2.1 = 0 then some (0, (numberS s (skipP s p)).2.2, out ++ [⟨x.f0, 4, x.f2, x.f3, (numberS s (skipP s p)).1⟩]) else some ((numberS s (skipP s p)).2.1, (numberS s (skipP s p)).2.2, out))
      else some (wordF s (skipP s p) out x)) else none
def membersF : Nat → ByteArray → Nat → List S59 → S59 → Nat → Option Res
  | 0, _, _, _, _, _ => none
  | k + 1, s, p, out, x, e => if (takesP s p e).1 = true then some (0, (takesP s p e).2, out) else membersL k s (takesP s p e).2 out x e []
def membersL : Nat → ByteArray → Nat → List S59 → S59 → Nat → List ByteArray → Option Res
  | 0, _, _, _, _, _, _ => none
  | k + 1, s, p, out, x, e, keys => if 0 ≤ x.f0 ∧ x.f0 < 64 then
    (if x.f1 = 7 then (if (keys.length + 1) * 16 ≤ 140737488355328 then (keyF k s p keys).bind fun r => if r.2.2 ≤ s.size then (if r.2.1 = 0 then afterKey (fun p o y => valueF k s p o y) (fun p o ks => membersL k s p o x e ks) s x e r.2.2 out (keys ++ [r.1]) r.1 else some (r.2.1, r.2.2, out)) else none else none)
    else afterKey (fun p o y => valueF k s p o y) (fun p o ks => membersL k s p o x e ks) s x e p out keys ⟨#[]⟩) else none
end
theorem out_flat {w0 W : World} {v : Value} {out : List S59} {ok ok' : Nat → Prop} (h : Kd.R k59 59 W w0.heap.size ok v out) (hok : ∀ k, v.ownBlock = some k → ok k → ok' k) : Kd.R k59 59 W w0.heap.size ok' v out := Kd.R_flat (fun h => h) h hok
theorem keys_flat {w0 W : World} {v : Value} {keys : List ByteArray} {ok ok' : Nat → Prop} (h : Kd.R Kd.string 9 W w0.heap.size ok v keys) (hok : ∀ k, v.ownBlock = some k → ok k → ok' k) : Kd.R Kd.string 9 W w0.heap.size ok' v keys := Kd.R_flat (fun h => h) h hok
/-- the state of an array's or object's reading: the reader, its row, the keys' row, the item -/
structure MS (w0 W : World) (g b : Nat) (s : ByteArray) (x : S59) (v0 kv v : Value) (p : Nat) (out : List S59) (keys : List ByteArray) (w : World) : Prop where
  rd : Rd w g s p v
  out : Out w0 w g v out
  keys : Kd.R Kd.string 9 w w0.heap.size (fun j => j ≠ g) kv keys
  dis : ∀ j, v.ownBlock = some j → kv.ownBlock ≠ some j ∧ j ≠ b
  kb : kv.ownBlock ≠ some b
  kn : ∀ j, kv.ownBlock = some j → W.heap.size ≤ j
  itm : Itm w b x
  bg : b ≠ g
  keep : KeepBut W w g v0.ownBlock
  own : v.ownBlock = v0.ownBlock ∨ ∃ j, v.ownBlock = some j ∧ W.heap.size ≤ j
  below : Below w0.heap.size w0 w
  base : w0.heap.size ≤ g
theorem out_lt {w0 W : World} {ok : Nat → Prop} {v : Value} {out : List S59} (h : Kd.R k59 59 W w0.heap.size ok v out) {j : Nat} (e : v.ownBlock = some j) : j < W.heap.size := ((Kd.R_bound h).1 j e).2.2.1
theorem keys_lt {w0 W : World} {ok : Nat → Prop} {v : Value} {keys : List ByteArray} (h : Kd.R Kd.string 9 W w0.heap.size ok v keys) {j : Nat} (e : v.ownBlock = some j) : j < W.heap.size := ((Kd.R_bound h).1 j e).2.2.1
section
variable {w0 W : World} {g b : Nat} {s : ByteArray} {x : S59} {v0 kv v : Value} {p : Nat} {out : List S59} {keys : List ByteArray} {w : World}
theorem MS.quiet (h : MS w0 W g b s x v0 kv v p out keys w) {w2 : World} {p2 : Nat} (hR : Rd w2 g s p2 v) (hB : Below w0.heap.size w0 w2) (hK : KeepBut w w2 g none) : MS w0 W g b s x v0 kv v p2 out keys w2 where
  rd := hR
  out := Kd.R_keep h.out hK (fun _ h => h)
  keys := Kd.R_keep h.keys hK (fun _ h => h)
  dis := h.dis
  kb := h.kb
  kn := h.kn
  itm := (hK.2 b (blk_lt h.itm) h.bg (by simp)).trans h.itm
  bg := h.bg
  keep := h.keep.trans (keep_wide hK) (.inl rfl)
  own := h.own
  below := hB
  base := h.base
theorem MS.value (h : MS w0 W g b s x v0 kv v p out keys w) {w4 : World} {q : Nat} {out2 : List S59} (hL : Left w0 w w4 g s q v out2) : ∃ v4, MS w0 W g b s x v0 kv v4 q out2 keys w4 := by
  obtain ⟨⟨v4, hR, hO, hA⟩, hB, hK⟩ := hL
  have hvb : some b ≠ v.ownBlock := fun e => (h.dis b e.symm).2 rfl
  refine ⟨v4, hR, hO, ?_, ?_, h.kb, h.kn, (hK.2 b (blk_lt h.itm) h.bg hvb).trans h.itm, h.bg, h.keep.trans hK h.own, ?_, hB, h.base⟩
  · refine keys_flat (Kd.R_step (keys_flat h.keys (ok' := fun j => j ≠ g ∧ some j ≠ v.ownBlock) (fun j hj hg => ⟨hg, fun e => (h.dis j e.symm).1 hj⟩)) (fun j hj hlt => hK.2 j hlt hj.1 hj.2)) (fun _ _ h => h.1)
  · intro j hj
    rcases hA with e | ⟨k, e, hk⟩
    · exact h.dis j (e ▸ hj)
    · have : k = j := Option.some.inj (e.symm.trans hj)
      subst this
      refine ⟨fun e2 => ?_, fun e2 => ?_⟩
      · have := keys_lt h.keys e2; omega
      · have := blk_lt h.itm; omega
  · rcases hA with e | ⟨k, e, hk⟩
    · rw [e]; exact h.own
    · exact .inr ⟨k, e, Nat.le_trans h.keep.1 hk⟩
theorem MS.append (h : MS w0 W g b s x v0 kv v p out keys w) {w3 : World} {kv1 : Value} {keys1 : List ByteArray} (hO : Kd.R Kd.string 9 w3 w0.heap.size (fun j => j ≠ g) kv1 keys1) (hB : Below w0.heap.size w0 w3) (hg : w.grownBy w3 kv.ownBlock)
    (hA : kv1.ownBlock = kv.ownBlock ∨ ∃ j, kv1.ownBlock = some j ∧ w.heap.size ≤ j) : MS w0 W g b s x v0 kv1 v p out keys1 w3 := by
  have hgk : some g ≠ kv.ownBlock := fun e => h.keys.1 g e.symm rfl
  have hbk : some b ≠ kv.ownBlock := fun e => h.kb e.symm
  refine ⟨blk_grown h.rd hg hgk, ?_, hO, ?_, ?_, ?_, blk_grown h.itm hg hbk, h.bg, ?_, h.own, hB, h.base⟩
  · exact out_flat (Kd.R_grown (out_flat h.out (ok' := fun j => j ≠ g ∧ some j ≠ kv.ownBlock) (fun j hj hg => ⟨hg, fun e => (h.dis j hj).1 e.symm⟩)) hg (fun _ h => h.2)) (fun _ _ h => h.1)
  · intro j hj
    refine ⟨fun e => ?_, (h.dis j hj).2⟩
    rcases hA with e2 | ⟨k, e2, hk⟩
    · exact (h.dis j hj).1 (e2 ▸ e)
    · have : k = j := Option.some.inj (e2.symm.trans e)
      have := out_lt h.out hj
      omega
  · intro e
    rcases hA with e2 | ⟨k, e2, hk⟩
    · exact h.kb (e2 ▸ e)
    · have : k = b := Option.some.inj (e2.symm.trans e)
      have := blk_lt h.itm
      omega
  · intro j e
    rcases hA with e2 | ⟨k, e2, hk⟩
    · exact h.kn j (e2 ▸ e)
    · have : k = j := Option.some.inj (e2.symm.trans e)
      have := h.keep.1
      omega
  · cases hk : kv.ownBlock with
    | none => rw [hk] at hg; exact h.keep.trans (keep_wide (KeepBut.of_grown hg g)) (.inl rfl)
    | some j => rw [hk] at hg; exact h.keep.trans (KeepBut.of_grown hg g) (.inr ⟨j, rfl, h.kn j hk⟩)
theorem MS.left (h : MS w0 W g b s x v0 kv v p out keys w) : Left w0 W w g s p v0 out := ⟨⟨v, h.rd, h.out, h.own⟩, h.below, h.keep⟩
theorem MS.start (W1 : World) (hR : Rd W g s p v) (hO : Out w0 W g v out) (hB : Below w0.heap.size w0 W) (hg : w0.heap.size ≤ g) (hb : W.heap.size = b) (h1 : W1 = W.alloc (.cells #[.int .i64 x.f0, .int .i64 x.f1, .string x.f2, .string x.f3, .int .i64 x.f4] 59)) : MS w0 W g b s x v (.slice none 0 0) v p out [] W1 := by
  subst h1
  have hA : Below W.heap.size W (W.alloc (.cells #[.int .i64 x.f0, .int .i64 x.f1, .string x.f2, .string x.f3, .int .i64 x.f4] 59)) := below_alloc (Below.refl _ _) _
  have hgl := blk_lt hR
  refine ⟨rd_below hR hA, Kd.R_below hO hA, Kd.R_nil _ _ _ _ _, ?_, by simp [Value.ownBlock], by simp [Value.ownBlock], by rw [← hb]; exact heap_alloc_new _ _, by omega, keep_wide (KeepBut.of_below hA g none), .inl rfl, below_step hB hA, hg⟩
  intro j hj
  have := out_lt hO hj
  exact ⟨by simp [Value.ownBlock], by omega⟩
end
/-- the contract of value at a fuel -/
def VC (w0 : World) (g : Nat) (s : ByteArray) (k : Nat) : Prop := ∀ (W : World) (p : Nat) (v : Value) (out : List S59) (y : S59) (r : Res), valueF k s p out y = some r → Rd W g s p v → Out w0 W g v out → Below w0.heap.size w0 W → p ≤ s.size →
  Calls Tryd.prog 69 #[.pointer (some ⟨g, 0, none⟩), itemV y] W fun e W' => e = .returned (.int .i64 r.1) ∧ Left w0 W W' g s r.2.1 v r.2.2
theorem after_cases {V : Nat → List S59 → S59 → Option Res} {L : Nat → List S59 → List ByteArray → Option Res} {s : ByteArray} {x : S59} {e p : Nat} {out : List S59} {keys : List ByteArray} {key : ByteArray} {r : Res} (h : afterKey V L s x e p out keys key = some r) :
    ∃ r1 : Res, V p out ⟨x.f0 + 1, 0, key, ⟨#[]⟩, 0⟩ = some r1 ∧ r1.2.1 ≤ s.size ∧ ((r1.1 ≠ 0 ∧ r = r1) ∨ (r1.1 = 0 ∧ (takesP s r1.2.1 e).1 = true ∧ r = (0, (takesP s r1.2.1 e).2, r1.2.2))
      ∨ (r1.1 = 0 ∧ (takesP s r1.2.1 e).1 = false ∧ (takesP s (takesP s r1.2.1 e).2 44).1 = true ∧ L (takesP s (takesP s r1.2.1 e).2 44).2 r1.2.2 keys = some r)
      ∨ (r1.1 = 0 ∧ (takesP s r1.2.1 e).1 = false ∧ (takesP s (takesP s r1.2.1 e).2 44).1 = false ∧ r = (80, (takesP s (takesP s r1.2.1 e).2 44).2, r1.2.2))) := by
  unfold afterKey at h
  obtain ⟨r1, hV, h⟩ := Option.bind_eq_some_iff.1 h
  refine ⟨r1, hV, ?_⟩
  by_cases a : r1.2.1 ≤ s.size
  · rw [if_pos a] at h
    refine ⟨a, ?_⟩
    by_cases c : r1.1 = 0
    · rw [if_pos c] at h
      by_cases d : (takesP s r1.2.1 e).1 = true
      · rw [if_pos d] at h
        exact .inr (.inl ⟨c, d, (Option.some.inj h).symm⟩)
      · rw [if_neg d] at h
        by_cases f : (takesP s (takesP s r1.2.1 e).2 44).1 = true
        · rw [if_pos f] at h
          exact .inr (.inr (.inl ⟨c, Bool.eq_false_iff.2 d, f, h⟩))
        · rw [if_neg f] at h
          exact .inr (.inr (.inr ⟨c, Bool.eq_false_iff.2 d, Bool.eq_false_iff.2 f, (Option.some.inj h).symm⟩))
    · rw [if_neg c] at h
      exact .inl ⟨c, (Option.some.inj h).symm⟩
  · rw [if_neg a] at h; cases h
set_option maxHeartbeats 16000000 in
set_option maxRecDepth 100000 in
theorem members_loop (w0 W : World) (g : Nat) (s : ByteArray) (p : Nat) (v : Value) (out : List S59) (x : S59) (e k : Nat) (r : Res) (hR : Rd W g s p v) (hO : Out w0 W g v out) (hB : Below w0.heap.size w0 W) (hg : w0.heap.size ≤ g) (hp : p ≤ s.size) (hs : s.size ≤ 4611686018427387904) (hj : JTabs w0)
    (hIH : ∀ j, j < k → VC w0 g s j) (ht : (takesP s p e).1 = false) (h : membersL k s (takesP s p e).2 out x e [] = some r) :
    Calls Tryd.prog 87 #[.pointer (some ⟨g, 0, none⟩), itemV x, .int .u8 (e : Int)] W fun ev W' => ev = .returned (.int .i64 r.1) ∧ Left w0 W W' g s r.2.1 v r.2.2 := by
  have HR := Aside0.mk hR
  have HO := Aside0.mk hO
  have HB := Aside0.mk hB
  have HG := Aside0.mk hg
  have HS := Aside0.mk hs
  have JT := Aside0.mk hj
  have IH := Aside0.mk hIH
  have HL := Aside0.mk h
  have HPs := Aside0.mk hp
  have HPt := Aside0.mk (takes_le s p e hp)
  clear hR hB hg hs hO hj hIH h hp
  unfold itemV
  go_enter Tryd.func87, Tryd.ntmps87
  go_wp2_with fail
  obtain ⟨b, hb⟩ : ∃ b, W.heap.size = b := ⟨_, rfl⟩
  have HM := Aside0.mk (MS.start (x := x) (W.alloc (.cells #[.int .i64 x.f0, .int .i64 x.f1, .string x.f2, .string x.f3, .int .i64 x.f4] 59)) HR.out HO.out HB.out HG.out hb rfl)
  rw [hb]
  generalize W.alloc (.cells #[.int .i64 x.f0, .int .i64 x.f1, .string x.f2, .string x.f3, .int .i64 x.f4] 59) = W1 at HM ⊢
  clear hb HR HO HB
  go_wp2_with (go_at_call 101; refine (takes_calls w0 W1 g s p v e HM.out.rd HM.out.below HG.out HPs.out HS.out).mono ?_; rintro ev w1 ⟨rfl, hR1, hB1, hK1⟩; have HM1 := Aside0.mk (HM.out.quiet hR1 hB1 hK1); clear hR1 hB1 hK1)
  go_loopg [7] k (fun kq v7 wr => ∃ (p : Nat) (out : List S59) (keys : List ByteArray) (vq : Value), Aside0 (membersL kq s p out x e keys = some r) ∧ Aside0 (kq ≤ k) ∧ Aside0 (p ≤ s.size) ∧ Aside0 (MS w0 W g b s x v v7 vq p out keys wr))
  case atStart => exact ⟨_, out, [], v, HL, ⟨Nat.le_refl _⟩, HPt, HM1⟩
  case round =>
    clear HPs HPt HL HM HM1
    obtain ⟨p, out, keys, vq, HL, HKK, HP, HM⟩ := hrel
    cases gk with
    | zero => exact absurd HL.out (by simp [membersL])
    | succ k1 =>
      have H := HL.out
      rw [membersL] at H
      by_cases hx : 0 ≤ x.f0 ∧ x.f0 < 64
      · rw [if_pos hx] at H
        obtain ⟨hx0, hx1⟩ := hx
        have hm0 : wr.cell? ⟨b, 0, none⟩ = some (.int .i64 x.f0) := (blk_cell HM.out.itm 0).trans rfl
        have hm1 : wr.cell? ⟨b, 1, none⟩ = some (.int .i64 x.f1) := (blk_cell HM.out.itm 1).trans rfl
        by_cases h7 : x.f1 = 7
        · rw [if_pos h7] at H
          have d7 : (x.f1 == 7) = true := beq_iff_eq.mpr h7
          clear h7
          by_cases hlk : (keys.length + 1) * 16 ≤ 140737488355328
          · rw [if_pos hlk] at H
            have HLK := Aside0.mk hlk
            clear hlk
            obtain ⟨⟨t, erk, q⟩, hK, H⟩ := Option.bind_eq_some_iff.1 H
            have FK := Aside0.mk hK
            clear hK
            simp only at H
            obtain ⟨A, c, rfl⟩ := Kd.R_slice HM.out.keys
            by_cases hqs : q ≤ s.size
            · rw [if_pos hqs] at H
              have HPk := Aside0.mk hqs
              clear hqs
              by_cases hek : erk = 0
              · rw [if_pos hek] at H
                subst hek
                obtain ⟨⟨er1, q1, out1⟩, hV, hq1, hcase⟩ := after_cases H
                have FV := Aside0.mk hV
                have HPq := Aside0.mk hq1
                clear H hV hq1
                simp only at hcase
                rcases hcase with ⟨hc, hr⟩ | ⟨rfl, ht1, hr⟩ | ⟨rfl, ht1, ht2, hr⟩ | ⟨rfl, ht1, ht2, hr⟩
                · have n1 : (er1 == 0) = false := beq_eq_false_iff_ne.mpr hc
                  have n2 : (er1 != 0) = true := bne_iff_ne.mpr hc
                  have HRR := Aside0.mk hr
                  clear hc hr
                  go_wp2_with (first
                            | (go_at_call 102; with_reducible refine (key_calls w0 wr g s p vq k1 keys t _ q A c FK.out HM.out.rd HM.out.below HG.out HP.out HS.out JT.out HM.out.keys).mono ?_; rintro ev w2 ⟨rfl, hR2, hB2, hK2⟩; have HM2 := Aside0.mk (HM.out.quiet hR2 hB2 hK2); clear hR2 hB2 hK2; have hm02 : w2.cell? ⟨b, 0, none⟩ = some (.int .i64 x.f0) := (blk_cell HM2.out.itm 0).trans rfl)
                            | (at_builtin; refine Kd.R_append Kd.string (w0 := w0) (W := w2) w0.heap.size rfl (.tmp 28) (.tmp 30) 83 9 (.string ⟨#[]⟩) 16 rfl Tryd.underlying83 info9 rfl (by decide) (by decide) (.slice A keys.length c) keys t [.string t] (fun j => j ≠ g) (fun _ => False) rfl rfl rfl (fun _ h => h.elim) (fun k hk => by have := blk_lt HM2.out.rd; omega) HM2.out.keys HM2.out.below HM2.out.below.size HLK.out ?_; intro v1 w3 hO3 hB3 hg3 hA3; obtain ⟨A1, c1, hv1⟩ := Kd.R_slice hO3; obtain ⟨N1, hN1⟩ : ∃ N1, (keys ++ [t]).length = N1 := ⟨_, rfl⟩; rw [hN1] at hv1; clear hN1; subst hv1; have HM3 := Aside0.mk (HM2.out.append hO3 hB3 hg3 hA3); clear hO3 hB3 hg3 hA3; have hm03 : w3.cell? ⟨b, 0, none⟩ = some (.int .i64 x.f0) := (blk_cell HM3.out.itm 0).trans rfl)
                            | (go_at_call 69; refine (IH.out k1 (by have := HKK.out; omega) w3 q vq out ⟨x.f0 + 1, 0, t, ⟨#[]⟩, 0⟩ _ FV.out HM3.out.rd HM3.out.out HM3.out.below HPk.out).mono ?_; rintro ev w4 ⟨rfl, hL4⟩; obtain ⟨v4, hM4⟩ := HM3.out.value hL4; have HM4 := Aside0.mk hM4; clear hL4 hM4))
                  go_ret
                  rw [HRR.out]
                  exact ⟨rfl, HM4.out.left⟩
                · have HRR := Aside0.mk hr
                  clear hr
                  go_wp2_with (first
                            | (go_at_call 102; with_reducible refine (key_calls w0 wr g s p vq k1 keys t _ q A c FK.out HM.out.rd HM.out.below HG.out HP.out HS.out JT.out HM.out.keys).mono ?_; rintro ev w2 ⟨rfl, hR2, hB2, hK2⟩; have HM2 := Aside0.mk (HM.out.quiet hR2 hB2 hK2); clear hR2 hB2 hK2; have hm02 : w2.cell? ⟨b, 0, none⟩ = some (.int .i64 x.f0) := (blk_cell HM2.out.itm 0).trans rfl)
                            | (at_builtin; refine Kd.R_append Kd.string (w0 := w0) (W := w2) w0.heap.size rfl (.tmp 28) (.tmp 30) 83 9 (.string ⟨#[]⟩) 16 rfl Tryd.underlying83 info9 rfl (by decide) (by decide) (.slice A keys.length c) keys t [.string t] (fun j => j ≠ g) (fun _ => False) rfl rfl rfl (fun _ h => h.elim) (fun k hk => by have := blk_lt HM2.out.rd; omega) HM2.out.keys HM2.out.below HM2.out.below.size HLK.out ?_; intro v1 w3 hO3 hB3 hg3 hA3; obtain ⟨A1, c1, hv1⟩ := Kd.R_slice hO3; obtain ⟨N1, hN1⟩ : ∃ N1, (keys ++ [t]).length = N1 := ⟨_, rfl⟩; rw [hN1] at hv1; clear hN1; subst hv1; have HM3 := Aside0.mk (HM2.out.append hO3 hB3 hg3 hA3); clear hO3 hB3 hg3 hA3; have hm03 : w3.cell? ⟨b, 0, none⟩ = some (.int .i64 x.f0) := (blk_cell HM3.out.itm 0).trans rfl)
                            | (go_at_call 69; refine (IH.out k1 (by have := HKK.out; omega) w3 q vq out ⟨x.f0 + 1, 0, t, ⟨#[]⟩, 0⟩ _ FV.out HM3.out.rd HM3.out.out HM3.out.below HPk.out).mono ?_; rintro ev w4 ⟨rfl, hL4⟩; obtain ⟨v4, hM4⟩ := HM3.out.value hL4; have HM4 := Aside0.mk hM4; clear hL4 hM4)
                            | (go_at_call 101; with_reducible refine (takes_calls w0 w4 g s q1 v4 e HM4.out.rd HM4.out.below HG.out HPq.out HS.out).mono ?_; rintro ev w5 ⟨rfl, hR5, hB5, hK5⟩; have HM5 := Aside0.mk (HM4.out.quiet hR5 hB5 hK5); clear hR5 hB5 hK5))
                  go_ret
                  rw [HRR.out]
                  exact ⟨rfl, HM5.out.left⟩
                · have HRR := Aside0.mk hr
                  clear hr
                  go_wp2_with (first
                            | (go_at_call 102; with_reducible refine (key_calls w0 wr g s p vq k1 keys t _ q A c FK.out HM.out.rd HM.out.below HG.out HP.out HS.out JT.out HM.out.keys).mono ?_; rintro ev w2 ⟨rfl, hR2, hB2, hK2⟩; have HM2 := Aside0.mk (HM.out.quiet hR2 hB2 hK2); clear hR2 hB2 hK2; have hm02 : w2.cell? ⟨b, 0, none⟩ = some (.int .i64 x.f0) := (blk_cell HM2.out.itm 0).trans rfl)
                            | (at_builtin; refine Kd.R_append Kd.string (w0 := w0) (W := w2) w0.heap.size rfl (.tmp 28) (.tmp 30) 83 9 (.string ⟨#[]⟩) 16 rfl Tryd.underlying83 info9 rfl (by decide) (by decide) (.slice A keys.length c) keys t [.string t] (fun j => j ≠ g) (fun _ => False) rfl rfl rfl (fun _ h => h.elim) (fun k hk => by have := blk_lt HM2.out.rd; omega) HM2.out.keys HM2.out.below HM2.out.below.size HLK.out ?_; intro v1 w3 hO3 hB3 hg3 hA3; obtain ⟨A1, c1, hv1⟩ := Kd.R_slice hO3; obtain ⟨N1, hN1⟩ : ∃ N1, (keys ++ [t]).length = N1 := ⟨_, rfl⟩; rw [hN1] at hv1; clear hN1; subst hv1; have HM3 := Aside0.mk (HM2.out.append hO3 hB3 hg3 hA3); clear hO3 hB3 hg3 hA3; have hm03 : w3.cell? ⟨b, 0, none⟩ = some (.int .i64 x.f0) := (blk_cell HM3.out.itm 0).trans rfl)
                            | (go_at_call 69; refine (IH.out k1 (by have := HKK.out; omega) w3 q vq out ⟨x.f0 + 1, 0, t, ⟨#[]⟩, 0⟩ _ FV.out HM3.out.rd HM3.out.out HM3.out.below HPk.out).mono ?_; rintro ev w4 ⟨rfl, hL4⟩; obtain ⟨v4, hM4⟩ := HM3.out.value hL4; have HM4 := Aside0.mk hM4; clear hL4 hM4)
                            | (go_at_call 101; with_reducible refine (takes_calls w0 w4 g s q1 v4 e HM4.out.rd HM4.out.below HG.out HPq.out HS.out).mono ?_; rintro ev w5 ⟨rfl, hR5, hB5, hK5⟩; have HM5 := Aside0.mk (HM4.out.quiet hR5 hB5 hK5); clear hR5 hB5 hK5)
                            | (go_at_call 101; refine (takes_calls w0 w5 g s (takesP s q1 e).2 v4 44 HM5.out.rd HM5.out.below HG.out (takes_le s q1 e HPq.out) HS.out).mono ?_; rintro ev w6 ⟨rfl, hR6, hB6, hK6⟩; have HM6 := Aside0.mk (HM5.out.quiet hR6 hB6 hK6); clear hR6 hB6 hK6))
                  go_roundg k1
                  case measure => omega
                  case rel => exact ⟨_, out1, (keys ++ [t]), v4, HRR, ⟨by have := HKK.out; omega⟩, ⟨takes_le s _ 44 (takes_le s q1 e HPq.out)⟩, HM6⟩
                · have HRR := Aside0.mk hr
                  clear hr
                  go_wp2_with (first
                            | (go_at_call 102; with_reducible refine (key_calls w0 wr g s p vq k1 keys t _ q A c FK.out HM.out.rd HM.out.below HG.out HP.out HS.out JT.out HM.out.keys).mono ?_; rintro ev w2 ⟨rfl, hR2, hB2, hK2⟩; have HM2 := Aside0.mk (HM.out.quiet hR2 hB2 hK2); clear hR2 hB2 hK2; have hm02 : w2.cell? ⟨b, 0, none⟩ = some (.int .i64 x.f0) := (blk_cell HM2.out.itm 0).trans rfl)
                            | (at_builtin; refine Kd.R_append Kd.string (w0 := w0) (W := w2) w0.heap.size rfl (.tmp 28) (.tmp 30) 83 9 (.string ⟨#[]⟩) 16 rfl Tryd.underlying83 info9 rfl (by decide) (by decide) (.slice A keys.length c) keys t [.string t] (fun j => j ≠ g) (fun _ => False) rfl rfl rfl (fun _ h => h.elim) (fun k hk => by have := blk_lt HM2.out.rd; omega) HM2.out.keys HM2.out.below HM2.out.below.size HLK.out ?_; intro v1 w3 hO3 hB3 hg3 hA3; obtain ⟨A1, c1, hv1⟩ := Kd.R_slice hO3; obtain ⟨N1, hN1⟩ : ∃ N1, (keys ++ [t]).length = N1 := ⟨_, rfl⟩; rw [hN1] at hv1; clear hN1; subst hv1; have HM3 := Aside0.mk (HM2.out.append hO3 hB3 hg3 hA3); clear hO3 hB3 hg3 hA3; have hm03 : w3.cell? ⟨b, 0, none⟩ = some (.int .i64 x.f0) := (blk_cell HM3.out.itm 0).trans rfl)
                            | (go_at_call 69; refine (IH.out k1 (by have := HKK.out; omega) w3 q vq out ⟨x.f0 + 1, 0, t, ⟨#[]⟩, 0⟩ _ FV.out HM3.out.rd HM3.out.out HM3.out.below HPk.out).mono ?_; rintro ev w4 ⟨rfl, hL4⟩; obtain ⟨v4, hM4⟩ := HM3.out.value hL4; have HM4 := Aside0.mk hM4; clear hL4 hM4)
                            | (go_at_call 101; with_reducible refine (takes_calls w0 w4 g s q1 v4 e HM4.out.rd HM4.out.below HG.out HPq.out HS.out).mono ?_; rintro ev w5 ⟨rfl, hR5, hB5, hK5⟩; have HM5 := Aside0.mk (HM4.out.quiet hR5 hB5 hK5); clear hR5 hB5 hK5)
                            | (go_at_call 101; refine (takes_calls w0 w5 g s (takesP s q1 e).2 v4 44 HM5.out.rd HM5.out.below HG.out (takes_le s q1 e HPq.out) HS.out).mono ?_; rintro ev w6 ⟨rfl, hR6, hB6, hK6⟩; have HM6 := Aside0.mk (HM5.out.quiet hR6 hB6 hK6); clear hR6 hB6 hK6))
                  go_ret
                  rw [HRR.out]
                  exact ⟨rfl, HM6.out.left⟩
              · rw [if_neg hek] at H
                have n1 : (erk == 0) = false := beq_eq_false_iff_ne.mpr hek
                have n2 : (erk != 0) = true := bne_iff_ne.mpr hek
                have HRR := Aside0.mk (Option.some.inj H)
                clear H hek
                go_wp2_with (go_at_call 102; with_reducible refine (key_calls w0 wr g s p vq k1 keys t _ q A c FK.out HM.out.rd HM.out.below HG.out HP.out HS.out JT.out HM.out.keys).mono ?_; rintro ev w2 ⟨rfl, hR2, hB2, hK2⟩; have HM2 := Aside0.mk (HM.out.quiet hR2 hB2 hK2); clear hR2 hB2 hK2; have hm02 : w2.cell? ⟨b, 0, none⟩ = some (.int .i64 x.f0) := (blk_cell HM2.out.itm 0).trans rfl)
                go_ret
                rw [← HRR.out]
                exact ⟨rfl, HM2.out.left⟩
            · rw [if_neg hqs] at H; cases H
          · rw [if_neg hlk] at H; cases H
        · rw [if_neg h7] at H
          have d7 : (x.f1 == 7) = false := beq_eq_false_iff_ne.mpr h7
          obtain ⟨⟨er1, q1, out1⟩, hV, hq1, hcase⟩ := after_cases H
          have FV := Aside0.mk hV
          have HPq := Aside0.mk hq1
          clear H hV hq1
          simp only at hcase
          rcases hcase with ⟨hc, hr⟩ | ⟨rfl, ht1, hr⟩ | ⟨rfl, ht1, ht2, hr⟩ | ⟨rfl, ht1, ht2, hr⟩
          · have n1 : (er1 == 0) = false := beq_eq_false_iff_ne.mpr hc
            have n2 : (er1 != 0) = true := bne_iff_ne.mpr hc
            have HRR := Aside0.mk hr
            clear hc hr
            go_wp2_with (first
                      | (go_at_call 69; refine (IH.out k1 (by have := HKK.out; omega) wr p vq out ⟨x.f0 + 1, 0, ⟨#[]⟩, ⟨#[]⟩, 0⟩ _ FV.out HM.out.rd HM.out.out HM.out.below HP.out).mono ?_; rintro ev w4 ⟨rfl, hL4⟩; obtain ⟨v4, hM4⟩ := HM.out.value hL4; have HM4 := Aside0.mk hM4; clear hL4 hM4))
            go_ret
            rw [HRR.out]
            exact ⟨rfl, HM4.out.left⟩
          · have HRR := Aside0.mk hr
            clear hr
            go_wp2_with (first
                      | (go_at_call 69; refine (IH.out k1 (by have := HKK.out; omega) wr p vq out ⟨x.f0 + 1, 0, ⟨#[]⟩, ⟨#[]⟩, 0⟩ _ FV.out HM.out.rd HM.out.out HM.out.below HP.out).mono ?_; rintro ev w4 ⟨rfl, hL4⟩; obtain ⟨v4, hM4⟩ := HM.out.value hL4; have HM4 := Aside0.mk hM4; clear hL4 hM4)
                      | (go_at_call 101; with_reducible refine (takes_calls w0 w4 g s q1 v4 e HM4.out.rd HM4.out.below HG.out HPq.out HS.out).mono ?_; rintro ev w5 ⟨rfl, hR5, hB5, hK5⟩; have HM5 := Aside0.mk (HM4.out.quiet hR5 hB5 hK5); clear hR5 hB5 hK5))
            go_ret
            rw [HRR.out]
            exact ⟨rfl, HM5.out.left⟩
          · have HRR := Aside0.mk hr
            clear hr
            go_wp2_with (first
                      | (go_at_call 69; refine (IH.out k1 (by have := HKK.out; omega) wr p vq out ⟨x.f0 + 1, 0, ⟨#[]⟩, ⟨#[]⟩, 0⟩ _ FV.out HM.out.rd HM.out.out HM.out.below HP.out).mono ?_; rintro ev w4 ⟨rfl, hL4⟩; obtain ⟨v4, hM4⟩ := HM.out.value hL4; have HM4 := Aside0.mk hM4; clear hL4 hM4)
                      | (go_at_call 101; with_reducible refine (takes_calls w0 w4 g s q1 v4 e HM4.out.rd HM4.out.below HG.out HPq.out HS.out).mono ?_; rintro ev w5 ⟨rfl, hR5, hB5, hK5⟩; have HM5 := Aside0.mk (HM4.out.quiet hR5 hB5 hK5); clear hR5 hB5 hK5)
                      | (go_at_call 101; refine (takes_calls w0 w5 g s (takesP s q1 e).2 v4 44 HM5.out.rd HM5.out.below HG.out (takes_le s q1 e HPq.out) HS.out).mono ?_; rintro ev w6 ⟨rfl, hR6, hB6, hK6⟩; have HM6 := Aside0.mk (HM5.out.quiet hR6 hB6 hK6); clear hR6 hB6 hK6))
            go_roundg k1
            case measure => omega
            case rel => exact ⟨_, out1, keys, v4, HRR, ⟨by have := HKK.out; omega⟩, ⟨takes_le s _ 44 (takes_le s q1 e HPq.out)⟩, HM6⟩
          · have HRR := Aside0.mk hr
            clear hr
            go_wp2_with (first
                      | (go_at_call 69; refine (IH.out k1 (by have := HKK.out; omega) wr p vq out ⟨x.f0 + 1, 0, ⟨#[]⟩, ⟨#[]⟩, 0⟩ _ FV.out HM.out.rd HM.out.out HM.out.below HP.out).mono ?_; rintro ev w4 ⟨rfl, hL4⟩; obtain ⟨v4, hM4⟩ := HM.out.value hL4; have HM4 := Aside0.mk hM4; clear hL4 hM4)
                      | (go_at_call 101; with_reducible refine (takes_calls w0 w4 g s q1 v4 e HM4.out.rd HM4.out.below HG.out HPq.out HS.out).mono ?_; rintro ev w5 ⟨rfl, hR5, hB5, hK5⟩; have HM5 := Aside0.mk (HM4.out.quiet hR5 hB5 hK5); clear hR5 hB5 hK5)
                      | (go_at_call 101; refine (takes_calls w0 w5 g s (takesP s q1 e).2 v4 44 HM5.out.rd HM5.out.below HG.out (takes_le s q1 e HPq.out) HS.out).mono ?_; rintro ev w6 ⟨rfl, hR6, hB6, hK6⟩; have HM6 := Aside0.mk (HM5.out.quiet hR6 hB6 hK6); clear hR6 hB6 hK6))
            go_ret
            rw [HRR.out]
            exact ⟨rfl, HM6.out.left⟩
      · rw [if_neg hx] at H; cases H
end Go.Proofs.YthhmmaihbjhhgaaDoor.Giv
namespace Go.Proofs.YthhmmaihbjhhgaaDoor.Giv
open Go.RowKit Go.Proofs.YthhmmaihbjhhgaaDoorW.PrintWords Go.Proofs.YthhmmaihbjhhgaaDoorW.PrintLast Go.Proofs.YthhmmaihbjhhgaaDoorW.PrintMore
open Go.Proofs.YthhmmaihbjhhgaaDoor.U1 Go.Proofs.YthhmmaihbjhhgaaDoor.Q1 Go.Proofs.YthhmmaihbjhhgaaDoor.J0 Go.Proofs.YthhmmaihbjhhgaaDoor.J1
set_option linter.unusedSimpArgs false
/-- a level's block: its kind and its keys' row -/
abbrev Lv (W : World) (g : Nat) (kind : Int) (kv : Value) : Prop := W.heap[g]? = some (.cells #[.int .i64 kind, kv] 85 (0, 0))
abbrev Keys (w0 W : World) (g : Nat) (kv : Value) (keys : List ByteArray) : Prop := Kd.R Kd.string 9 W w0.heap.size (fun j => j ≠ g) kv keys
structure LvLeft (w0 W W' : World) (g : Nat) (kind : Int) (kv : Value) (keys' : List ByteArray) : Prop where
  left : ∃ kv', Lv W' g kind kv' ∧ Keys w0 W' g kv' keys' ∧ (kv'.ownBlock = kv.ownBlock ∨ ∃ b, kv'.ownBlock = some b ∧ W.heap.size ≤ b)
  below : Below w0.heap.size w0 W'
  keep : KeepBut W W' g kv.ownBlock
theorem LvLeft.pre {w0 W w1 W' : World} {g : Nat} {kind : Int} {kv : Value} {keys : List ByteArray} (hk : KeepBut W w1 g none) (h : LvLeft w0 w1 W' g kind kv keys) : LvLeft w0 W W' g kind kv keys :=
  ⟨by obtain ⟨v', a, b, c⟩ := h.left; exact ⟨v', a, b, c.imp id (fun ⟨k, e, hk2⟩ => ⟨k, e, Nat.le_trans hk.1 hk2⟩)⟩, h.below, (keep_wide hk).trans h.keep (.inl rfl)⟩
theorem lv_cell0 {W : World} {g : Nat} {kind : Int} {kv : Value} (h : Lv W g kind kv) : W.cell? ⟨g, 0, none⟩ = some (.int .i64 kind) := (blk_cell h 0).trans rfl
theorem lv_cell1 {W : World} {g : Nat} {kind : Int} {kv : Value} (h : Lv W g kind kv) : W.cell? ⟨g, 1, none⟩ = some kv := (blk_cell h 1).trans rfl
theorem lv_below {W W' : World} {g : Nat} {kind : Int} {kv : Value} (h : Lv W g kind kv) (hb : Below W.heap.size W W') : Lv W' g kind kv := (hb.block g (blk_lt h)).trans h
theorem itm_cell2 {W : World} {b : Nat} {x : S59} (h : Itm W b x) : W.cell? ⟨b, 2, none⟩ = some (.string x.f2) := (blk_cell h 2).trans rfl
theorem keep_key {w1 : World} {g b : Nat} {kind : Int} {kv : Value} {x : S59} (hR : Lv w1 g kind kv) (hI : Itm w1 b x) (o : Obj) : (w1.drew.alloc o).cell? ⟨g, 1, none⟩ = some kv ∧ (w1.drew.alloc o).cell? ⟨b, 2, none⟩ = some (.string x.f2) := by
  have h1 : g < w1.drew.heap.size := blk_lt hR
  have h2 : b < w1.drew.heap.size := blk_lt hI
  exact ⟨(World.cell?_alloc_lt w1.drew o ⟨g, 1, none⟩ h1).trans (lv_cell1 hR), (World.cell?_alloc_lt w1.drew o ⟨b, 2, none⟩ h2).trans (itm_cell2 hI)⟩
theorem push_key {ops : Array Oper} {o : Oper} {a : Act} {Kc : Act → World → Prop} {Q : Exit → Act → World → Prop} (sl xl : Operand) {w0 W : World} {g : Nat} {kind : Int} {kv : Value} {keys : List ByteArray} {t : ByteArray}
    (hw : Region.wanted o (yielded ops a.tmps) = true) (ho : o.op = .call { callee := .builtin .append, args := #[sl, xl], argTypes := #[83, 83] }) (hs : a.eval sl = kv) (hx : a.eval xl = .slice (some ⟨W.heap.size, 0, none⟩) 1 1)
    (hR : Lv W g kind kv) (hO : Keys w0 W g kv keys) (hB : Below w0.heap.size w0 W) (hg : w0.heap.size ≤ g) (hl : (keys.length + 1) * 16 ≤ 140737488355328)
    (h : ∀ (As : Option Addr) (N2 cc : Nat) (w2 : World), Lv w2 g kind kv → LvLeft w0 W (w2.setCell ⟨g, 1, none⟩ (.slice As N2 cc)) g kind kv (keys ++ [t]) → Kc (a.put o.dst (.slice As N2 cc)) w2) :
    if Region.wanted o (yielded ops a.tmps) = true then Oper.wp Tryd.prog o a (W.drew.alloc (.cells #[.string t] 9)) Kc Q else Kc (a.put o.dst undef) (W.drew.alloc (.cells #[.string t] 9)) := by
  have h1 := blk_lt hR
  have hO' : Kd.R Kd.string 9 W.drew w0.heap.size (fun j => j ≠ g) kv keys := Kd.R_move hO (fun _ _ => rfl)
  refine Kd.R_append_step Kd.string (w0 := w0) (W := W.drew) w0.heap.size hw sl xl 83 9 (.string ⟨#[]⟩) 16 ho Tryd.underlying83 info9 rfl (by decide) (by decide) kv keys t [.string t] (fun j => j ≠ g) (fun _ => False) hs hx rfl (fun _ h => h.elim) (fun k hk => ?_) hO' (below_drew1 hB) hB.size hl ?_
  · have hk3 : W.heap.size ≤ k := hk
    omega
  intro v2 w2 hO2 hB2 hG2 hA2
  obtain ⟨As, cc, hv2⟩ := Kd.R_slice hO2
  subst hv2
  have hR2 : Lv w2 g kind kv := (hG2.block g h1 (fun e => hO.1 g e.symm rfl)).trans hR
  exact h _ _ _ _ hR2 ⟨⟨_, blk_set hR2 1 _, Kd.R_far hO2 (fun _ h => h) _, hA2⟩, below_set hB2 hg, KeepBut.set_ (KeepBut.of_grown (w := W) ⟨hG2.os, hG2.tape, hG2.output, hG2.size, hG2.block⟩ g) 1 _⟩
set_option maxHeartbeats 8000000 in
set_option maxRecDepth 100000 in
theorem member_no (w0 W : World) (g : Nat) (kind : Int) (A : Option Addr) (c : Nat) (keys : List ByteArray) (x : S59) (hR : Lv W g kind (.slice A keys.length c)) (hO : Keys w0 W g (.slice A keys.length c) keys) (hB : Below w0.heap.size w0 W) (hg : w0.heap.size ≤ g) (hj : Tabs w0) (hk : kind ≠ 7) :
    Calls Tryd.prog 64 #[.pointer (some ⟨g, 0, none⟩), itemV x] W fun e W' => e = .returned (.bool x.f2.toList.isEmpty) ∧ LvLeft w0 W W' g kind (.slice A keys.length c) keys := by
  have HR := Aside0.mk hR
  have HO := Aside0.mk hO
  have HB := Aside0.mk hB
  have HG := Aside0.mk hg
  have JT := Aside0.mk hj
  have n1 : (kind == 7) = false := beq_eq_false_iff_ne.mpr hk
  have n2 : (kind != 7) = true := bne_iff_ne.mpr hk
  clear hR hO hB hg hj hk
  have hgW := blk_lt HR.out
  have HA : Aside0 (Below W.heap.size W (W.alloc (.cells #[.int .i64 x.f0, .int .i64 x.f1, .string x.f2, .string x.f3, .int .i64 x.f4] 59))) := ⟨below_alloc (Below.refl _ _) _⟩
  have HR := Aside0.mk (lv_below HR.out HA.out)
  have HO := Aside0.mk (Kd.R_below HO.out HA.out)
  have HK := Aside0.mk (KeepBut.of_below HA.out g none)
  have HB := Aside0.mk (below_step HB.out HA.out)
  have HI : Aside0 (Itm (W.alloc (.cells #[.int .i64 x.f0, .int .i64 x.f1, .string x.f2, .string x.f3, .int .i64 x.f4] 59)) W.heap.size x) := ⟨heap_alloc_new _ _⟩
  have hc0 := lv_cell0 HR.out
  unfold itemV
  go_enter Tryd.func64, Tryd.ntmps64
  go_wp2_with fail
  obtain ⟨b, hb⟩ : ∃ b, W.heap.size = b := ⟨_, rfl⟩
  have hne1 : ¬ b = g := by omega
  rw [hb] at HI
  rw [hb]
  clear hc0
  generalize W.alloc (.cells #[.int .i64 x.f0, .int .i64 x.f1, .string x.f2, .string x.f3, .int .i64 x.f4] 59) = w1 at HA HI HR HO HK HB ⊢
  clear HA hb
  go_ret
  exact ⟨rfl, LvLeft.pre HK.out ⟨⟨_, HR.out, HO.out, .inl rfl⟩, HB.out, KeepBut.refl _ _ _⟩⟩
set_option maxHeartbeats 8000000 in
set_option maxRecDepth 100000 in
theorem member_bad (w0 W : World) (g : Nat) (kind : Int) (A : Option Addr) (c : Nat) (keys : List ByteArray) (x : S59) (hR : Lv W g kind (.slice A keys.length c)) (hO : Keys w0 W g (.slice A keys.length c) keys) (hB : Below w0.heap.size w0 W) (hg : w0.heap.size ≤ g) (hj : Tabs w0) (hk : kind = 7) (hv : utf_Valid.f x.f2 = some false) :
    Calls Tryd.prog 64 #[.pointer (some ⟨g, 0, none⟩), itemV x] W fun e W' => e = .returned (.bool false) ∧ LvLeft w0 W W' g kind (.slice A keys.length c) keys := by
  have HR := Aside0.mk hR
  have HO := Aside0.mk hO
  have HB := Aside0.mk hB
  have HG := Aside0.mk hg
  have JT := Aside0.mk hj
  subst hk
  have n1 : ((7 : Int) == 7) = true := rfl
  have FV := Aside0.mk hv
  clear hR hO hB hg hj hv
  have hgW := blk_lt HR.out
  have HA : Aside0 (Below W.heap.size W (W.alloc (.cells #[.int .i64 x.f0, .int .i64 x.f1, .string x.f2, .string x.f3, .int .i64 x.f4] 59))) := ⟨below_alloc (Below.refl _ _) _⟩
  have HR := Aside0.mk (lv_below HR.out HA.out)
  have HO := Aside0.mk (Kd.R_below HO.out HA.out)
  have HK := Aside0.mk (KeepBut.of_below HA.out g none)
  have HB := Aside0.mk (below_step HB.out HA.out)
  have HI : Aside0 (Itm (W.alloc (.cells #[.int .i64 x.f0, .int .i64 x.f1, .string x.f2, .string x.f3, .int .i64 x.f4] 59)) W.heap.size x) := ⟨heap_alloc_new _ _⟩
  have hc0 := lv_cell0 HR.out
  unfold itemV
  go_enter Tryd.func64, Tryd.ntmps64
  go_wp2_with fail
  obtain ⟨b, hb⟩ : ∃ b, W.heap.size = b := ⟨_, rfl⟩
  have hne1 : ¬ b = g := by omega
  rw [hb] at HI
  rw [hb]
  clear hc0
  generalize W.alloc (.cells #[.int .i64 x.f0, .int .i64 x.f1, .string x.f2, .string x.f3, .int .i64 x.f4] 59) = w1 at HA HI HR HO HK HB ⊢
  clear HA hb
  refine wp_region_held_drew (S := fun w' => w'.cell? ⟨g, 1, none⟩ = some (.slice A keys.length c) ∧ w'.cell? ⟨b, 2, none⟩ = some (.string x.f2) ∧ Lv w' g 7 (.slice A keys.length c) ∧ Itm w' b x ∧ Keys w0 w' g (.slice A keys.length c) keys ∧ Below w0.heap.size w0 w' ∧ KeepBut w1 w' g none) (by kernel_rfl) ⟨lv_cell1 HR.out, itm_cell2 HI.out, HR.out, HI.out, Kd.R_move HO.out (fun _ _ => rfl), below_drew1 HB.out, KeepBut.refl _ _ _⟩ (fun hHeld => ?_)
  refine wpAnyH_take (i := 0) (oi := { dst := some 13, op := _, type := _, pos := _, after := _, guard := _ }) (v := ?_) rfl (by kernel_rfl) (by kernel_rfl) (by kernel_rfl) (fun _ _ _ h => h) (Or.inl ⟨by rfl, ?_⟩) (by assumption) ?_
  rotate_left
  · intro w hSw
    (try dsimp only at hSw)
    have hl0 := hSw.1
    have hl1 := hSw.2.1
    clear hSw
    go_simp
    (try with_reducible rfl)
  (try simp only [Act.put, List.setIfInBounds_toArray, List.set_cons_zero, List.set_cons_succ])
  refine wpAnyH_take (i := 1) (oi := { dst := some 14, op := _, type := _, pos := _, after := _, guard := _ }) (v := ?_) rfl (by kernel_rfl) (by kernel_rfl) (by kernel_rfl) (fun _ _ _ h => h) (Or.inl ⟨by rfl, ?_⟩) (by assumption) ?_
  rotate_left
  · intro w hSw
    (try dsimp only at hSw)
    have hl0 := hSw.1
    have hl1 := hSw.2.1
    clear hSw
    go_simp
    (try with_reducible rfl)
  (try simp only [Act.put, List.setIfInBounds_toArray, List.set_cons_zero, List.set_cons_succ])
  refine wpAnyH_ready (rs := [2]) (by kernel_rfl) (by simp) ?_
  refine AllReadyH.cons (o := { dst := some 15, op := _, type := _, pos := _, after := _, guard := _ }) rfl (fun K hK => ?_) AllReadyH.nil
  go_simp
  (go_at_call 30; refine (utf_Valid.calls x.f2 _ _ FV.out (JT.out.step hHeld.2.2.2.2.2.1)).mono ?_; rintro e w2 ⟨rfl, hbv⟩); go_wp2_with fail
  refine hK.out _ _ ?_ (fun hHeld => ?_)
  · exact ⟨lv_cell1 (lv_below hHeld.2.2.1 hbv), itm_cell2 ((hbv.block b (blk_lt hHeld.2.2.2.1)).trans hHeld.2.2.2.1), lv_below hHeld.2.2.1 hbv, (hbv.block b (blk_lt hHeld.2.2.2.1)).trans hHeld.2.2.2.1, Kd.R_below hHeld.2.2.2.2.1 hbv, hHeld.2.2.2.2.2.1.trans (hbv.mono hHeld.2.2.2.2.2.1.size), hHeld.2.2.2.2.2.2.trans (KeepBut.of_below hbv g none) (.inl rfl)⟩
  clear hK K
  (try simp only [Act.put, List.setIfInBounds_toArray, List.set_cons_zero, List.set_cons_succ])
  refine wpAnyH_take (i := 3) (oi := { dst := some 16, op := _, type := _, pos := _, after := _, guard := _ }) (v := ?_) rfl (by kernel_rfl) (by kernel_rfl) (by kernel_rfl) (fun _ _ _ h => h) (Or.inl ⟨by rfl, ?_⟩) (by assumption) ?_
  rotate_left
  · intro w hSw
    (try dsimp only at hSw)
    have hl0 := hSw.1
    have hl1 := hSw.2.1
    clear hSw
    go_simp
    (try with_reducible rfl)
  (try simp only [Act.put, List.setIfInBounds_toArray, List.set_cons_zero, List.set_cons_succ])
  refine wpAnyH_take (i := 4) (oi := { dst := some 17, op := _, type := _, pos := _, after := _, guard := _ }) (v := ?_) rfl (by kernel_rfl) (by kernel_rfl) (by kernel_rfl) (fun _ _ _ h => h) (Or.inl ⟨by rfl, ?_⟩) (by assumption) ?_
  rotate_left
  · intro w hSw
    (try dsimp only at hSw)
    have hl0 := hSw.1
    have hl1 := hSw.2.1
    clear hSw
    go_simp
    (try with_reducible rfl)
  (try simp only [Act.put, List.setIfInBounds_toArray, List.set_cons_zero, List.set_cons_succ])
  refine wpAnyH_take (i := 5) (oi := { dst := some 18, op := _, type := _, pos := _, after := _, guard := _ }) (v := undef) rfl (by kernel_rfl) (by kernel_rfl) (by kernel_rfl) (fun _ _ _ h => h) (Or.inr ⟨by rfl, rfl⟩) (by assumption) ?_
  (try simp only [Act.put, List.setIfInBounds_toArray, List.set_cons_zero, List.set_cons_succ])
  refine wpAnyH_take (i := 6) (oi := { dst := some 19, op := _, type := _, pos := _, after := _, guard := _ }) (v := undef) rfl (by kernel_rfl) (by kernel_rfl) (by kernel_rfl) (fun _ _ _ h => h) (Or.inr ⟨by rfl, rfl⟩) (by assumption) ?_
  (try simp only [Act.put, List.setIfInBounds_toArray, List.set_cons_zero, List.set_cons_succ])
  refine wpAnyH_take (i := 7) (oi := { dst := some 20, op := _, type := _, pos := _, after := _, guard := _ }) (v := undef) rfl (by kernel_rfl) (by kernel_rfl) (by kernel_rfl) (fun _ _ _ h => h) (Or.inr ⟨by rfl, rfl⟩) (by assumption) ?_
  (try simp only [Act.put, List.setIfInBounds_toArray, List.set_cons_zero, List.set_cons_succ])
  refine wpAnyH_take (i := 8) (oi := { dst := some 21, op := _, type := _, pos := _, after := _, guard := _ }) (v := undef) rfl (by kernel_rfl) (by kernel_rfl) (by kernel_rfl) (fun _ _ _ h => h) (Or.inr ⟨by rfl, rfl⟩) (by assumption) ?_
  (try simp only [Act.put, List.setIfInBounds_toArray, List.set_cons_zero, List.set_cons_succ])
  refine wpAnyH_take (i := 9) (oi := { dst := some 22, op := _, type := _, pos := _, after := _, guard := _ }) (v := undef) rfl (by kernel_rfl) (by kernel_rfl) (by kernel_rfl) (fun _ _ _ h => h) (Or.inr ⟨by rfl, rfl⟩) (by assumption) ?_
  (try simp only [Act.put, List.setIfInBounds_toArray, List.set_cons_zero, List.set_cons_succ])
  refine wpAnyH_take (i := 10) (oi := { dst := some 23, op := _, type := _, pos := _, after := _, guard := _ }) (v := undef) rfl (by kernel_rfl) (by kernel_rfl) (by kernel_rfl) (fun _ _ _ h => h) (Or.inr ⟨by rfl, rfl⟩) (by assumption) ?_
  (try simp only [Act.put, List.setIfInBounds_toArray, List.set_cons_zero, List.set_cons_succ])
  refine wpAnyH_take (i := 11) (oi := { dst := some 24, op := _, type := _, pos := _, after := _, guard := _ }) (v := undef) rfl (by kernel_rfl) (by kernel_rfl) (by kernel_rfl) (fun _ _ _ h => h) (Or.inr ⟨by rfl, rfl⟩) (by assumption) ?_
  (try simp only [Act.put, List.setIfInBounds_toArray, List.set_cons_zero, List.set_cons_succ])
  refine wpAnyH_take (i := 12) (oi := { dst := some 25, op := _, type := _, pos := _, after := _, guard := _ }) (v := ?_) rfl (by kernel_rfl) (by kernel_rfl) (by kernel_rfl) (fun _ _ _ h => h) (Or.inl ⟨by rfl, ?_⟩) (by assumption) ?_
  rotate_left
  · intro w hSw
    (try dsimp only at hSw)
    have hl0 := hSw.1
    have hl1 := hSw.2.1
    clear hSw
    go_simp
    (try with_reducible rfl)
  (try simp only [Act.put, List.setIfInBounds_toArray, List.set_cons_zero, List.set_cons_succ])
  refine wpAnyH_done (by kernel_rfl) ?_ _
  have HL := Aside0.mk hHeld
  clear hHeld
  go_wp2_with fail
  go_ret
  exact ⟨rfl, LvLeft.pre (HK.out.trans HL.out.2.2.2.2.2.2 (.inl rfl)) ⟨⟨_, HL.out.2.2.1, HL.out.2.2.2.2.1, .inl rfl⟩, HL.out.2.2.2.2.2.1, KeepBut.refl _ _ _⟩⟩
set_option maxHeartbeats 8000000 in
set_option maxRecDepth 100000 in
theorem member_twice (w0 W : World) (g : Nat) (kind : Int) (A : Option Addr) (c : Nat) (keys : List ByteArray) (x : S59) (hR : Lv W g kind (.slice A keys.length c)) (hO : Keys w0 W g (.slice A keys.length c) keys) (hB : Below w0.heap.size w0 W) (hg : w0.heap.size ≤ g) (hj : Tabs w0) (hk : kind = 7) (hv : utf_Valid.f x.f2 = some true) (hh : hasB x.f2 keys = true) :
    Calls Tryd.prog 64 #[.pointer (some ⟨g, 0, none⟩), itemV x] W fun e W' => e = .returned (.bool false) ∧ LvLeft w0 W W' g kind (.slice A keys.length c) keys := by
  have HR := Aside0.mk hR
  have HO := Aside0.mk hO
  have HB := Aside0.mk hB
  have HG := Aside0.mk hg
  have JT := Aside0.mk hj
  subst hk
  have n1 : ((7 : Int) == 7) = true := rfl
  have FV := Aside0.mk hv
  have HC := Aside0.mk (Kd.R_reads' hO).2.1
  have HLn := (Kd.R_reads' hO).2.2.2.1
  have FC : Aside0 (slices_Contains_string_string.f (keys.length + 1) keys x.f2 = some true) := ⟨by rw [contains_f _ _ _ (by omega) HLn, hh]⟩
  clear hh HLn
  clear hR hO hB hg hj hv
  have hgW := blk_lt HR.out
  have HA : Aside0 (Below W.heap.size W (W.alloc (.cells #[.int .i64 x.f0, .int .i64 x.f1, .string x.f2, .string x.f3, .int .i64 x.f4] 59))) := ⟨below_alloc (Below.refl _ _) _⟩
  have HR := Aside0.mk (lv_below HR.out HA.out)
  have HO := Aside0.mk (Kd.R_below HO.out HA.out)
  have HK := Aside0.mk (KeepBut.of_below HA.out g none)
  have HB := Aside0.mk (below_step HB.out HA.out)
  have HI : Aside0 (Itm (W.alloc (.cells #[.int .i64 x.f0, .int .i64 x.f1, .string x.f2, .string x.f3, .int .i64 x.f4] 59)) W.heap.size x) := ⟨heap_alloc_new _ _⟩
  have hc0 := lv_cell0 HR.out
  unfold itemV
  go_enter Tryd.func64, Tryd.ntmps64
  go_wp2_with fail
  obtain ⟨b, hb⟩ : ∃ b, W.heap.size = b := ⟨_, rfl⟩
  have hne1 : ¬ b = g := by omega
  rw [hb] at HI
  rw [hb]
  clear hc0
  generalize W.alloc (.cells #[.int .i64 x.f0, .int .i64 x.f1, .string x.f2, .string x.f3, .int .i64 x.f4] 59) = w1 at HA HI HR HO HK HB ⊢
  clear HA hb
  refine wp_region_held_drew (S := fun w' => w'.cell? ⟨g, 1, none⟩ = some (.slice A keys.length c) ∧ w'.cell? ⟨b, 2, none⟩ = some (.string x.f2) ∧ Lv w' g 7 (.slice A keys.length c) ∧ Itm w' b x ∧ Keys w0 w' g (.slice A keys.length c) keys ∧ Below w0.heap.size w0 w' ∧ KeepBut w1 w' g none) (by kernel_rfl) ⟨lv_cell1 HR.out, itm_cell2 HI.out, HR.out, HI.out, Kd.R_move HO.out (fun _ _ => rfl), below_drew1 HB.out, KeepBut.refl _ _ _⟩ (fun hHeld => ?_)
  refine wpAnyH_take (i := 0) (oi := { dst := some 13, op := _, type := _, pos := _, after := _, guard := _ }) (v := ?_) rfl (by kernel_rfl) (by kernel_rfl) (by kernel_rfl) (fun _ _ _ h => h) (Or.inl ⟨by rfl, ?_⟩) (by assumption) ?_
  rotate_left
  · intro w hSw
    (try dsimp only at hSw)
    have hl0 := hSw.1
    have hl1 := hSw.2.1
    clear hSw
    go_simp
    (try with_reducible rfl)
  (try simp only [Act.put, List.setIfInBounds_toArray, List.set_cons_zero, List.set_cons_succ])
  refine wpAnyH_take (i := 1) (oi := { dst := some 14, op := _, type := _, pos := _, after := _, guard := _ }) (v := ?_) rfl (by kernel_rfl) (by kernel_rfl) (by kernel_rfl) (fun _ _ _ h => h) (Or.inl ⟨by rfl, ?_⟩) (by assumption) ?_
  rotate_left
  · intro w hSw
    (try dsimp only at hSw)
    have hl0 := hSw.1
    have hl1 := hSw.2.1
    clear hSw
    go_simp
    (try with_reducible rfl)
  (try simp only [Act.put, List.setIfInBounds_toArray, List.set_cons_zero, List.set_cons_succ])
  refine wpAnyH_ready (rs := [2]) (by kernel_rfl) (by simp) ?_
  refine AllReadyH.cons (o := { dst := some 15, op := _, type := _, pos := _, after := _, guard := _ }) rfl (fun K hK => ?_) AllReadyH.nil
  go_simp
  (go_at_call 30; refine (utf_Valid.calls x.f2 _ _ FV.out (JT.out.step hHeld.2.2.2.2.2.1)).mono ?_; rintro e w2 ⟨rfl, hbv⟩); go_wp2_with fail
  refine hK.out _ _ ?_ (fun hHeld => ?_)
  · exact ⟨lv_cell1 (lv_below hHeld.2.2.1 hbv), itm_cell2 ((hbv.block b (blk_lt hHeld.2.2.2.1)).trans hHeld.2.2.2.1), lv_below hHeld.2.2.1 hbv, (hbv.block b (blk_lt hHeld.2.2.2.1)).trans hHeld.2.2.2.1, Kd.R_below hHeld.2.2.2.2.1 hbv, hHeld.2.2.2.2.2.1.trans (hbv.mono hHeld.2.2.2.2.2.1.size), hHeld.2.2.2.2.2.2.trans (KeepBut.of_below hbv g none) (.inl rfl)⟩
  clear hK K
  (try simp only [Act.put, List.setIfInBounds_toArray, List.set_cons_zero, List.set_cons_succ])
  refine wpAnyH_take (i := 3) (oi := { dst := some 16, op := _, type := _, pos := _, after := _, guard := _ }) (v := ?_) rfl (by kernel_rfl) (by kernel_rfl) (by kernel_rfl) (fun _ _ _ h => h) (Or.inl ⟨by rfl, ?_⟩) (by assumption) ?_
  rotate_left
  · intro w hSw
    (try dsimp only at hSw)
    have hl0 := hSw.1
    have hl1 := hSw.2.1
    clear hSw
    go_simp
    (try with_reducible rfl)
  (try simp only [Act.put, List.setIfInBounds_toArray, List.set_cons_zero, List.set_cons_succ])
  refine wpAnyH_take (i := 4) (oi := { dst := some 17, op := _, type := _, pos := _, after := _, guard := _ }) (v := ?_) rfl (by kernel_rfl) (by kernel_rfl) (by kernel_rfl) (fun _ _ _ h => h) (Or.inl ⟨by rfl, ?_⟩) (by assumption) ?_
  rotate_left
  · intro w hSw
    (try dsimp only at hSw)
    have hl0 := hSw.1
    have hl1 := hSw.2.1
    clear hSw
    go_simp
    (try with_reducible rfl)
  (try simp only [Act.put, List.setIfInBounds_toArray, List.set_cons_zero, List.set_cons_succ])
  refine wpAnyH_take (i := 5) (oi := { dst := some 18, op := _, type := _, pos := _, after := _, guard := _ }) (v := ?_) rfl (by kernel_rfl) (by kernel_rfl) (by kernel_rfl) (fun _ _ _ h => h) (Or.inl ⟨by rfl, ?_⟩) (by assumption) ?_
  rotate_left
  · intro w hSw
    (try dsimp only at hSw)
    have hl0 := hSw.1
    have hl1 := hSw.2.1
    clear hSw
    go_simp
    (try with_reducible rfl)
  (try simp only [Act.put, List.setIfInBounds_toArray, List.set_cons_zero, List.set_cons_succ])
  refine wpAnyH_take (i := 6) (oi := { dst := some 19, op := _, type := _, pos := _, after := _, guard := _ }) (v := ?_) rfl (by kernel_rfl) (by kernel_rfl) (by kernel_rfl) (fun _ _ _ h => h) (Or.inl ⟨by rfl, ?_⟩) (by assumption) ?_
  rotate_left
  · intro w hSw
    (try dsimp only at hSw)
    have hl0 := hSw.1
    have hl1 := hSw.2.1
    clear hSw
    go_simp
    (try with_reducible rfl)
  (try simp only [Act.put, List.setIfInBounds_toArray, List.set_cons_zero, List.set_cons_succ])
  refine wpAnyH_take (i := 7) (oi := { dst := some 20, op := _, type := _, pos := _, after := _, guard := _ }) (v := ?_) rfl (by kernel_rfl) (by kernel_rfl) (by kernel_rfl) (fun _ _ _ h => h) (Or.inl ⟨by rfl, ?_⟩) (by assumption) ?_
  rotate_left
  · intro w hSw
    (try dsimp only at hSw)
    have hl0 := hSw.1
    have hl1 := hSw.2.1
    clear hSw
    go_simp
    (try with_reducible rfl)
  (try simp only [Act.put, List.setIfInBounds_toArray, List.set_cons_zero, List.set_cons_succ])
  refine wpAnyH_take (i := 8) (oi := { dst := some 21, op := _, type := _, pos := _, after := _, guard := _ }) (v := ?_) rfl (by kernel_rfl) (by kernel_rfl) (by kernel_rfl) (fun _ _ _ h => h) (Or.inl ⟨by rfl, ?_⟩) (by assumption) ?_
  rotate_left
  · intro w hSw
    (try dsimp only at hSw)
    have hl0 := hSw.1
    have hl1 := hSw.2.1
    clear hSw
    go_simp
    (try with_reducible rfl)
  (try simp only [Act.put, List.setIfInBounds_toArray, List.set_cons_zero, List.set_cons_succ])
  refine wpAnyH_take (i := 9) (oi := { dst := some 22, op := _, type := _, pos := _, after := _, guard := _ }) (v := ?_) rfl (by kernel_rfl) (by kernel_rfl) (by kernel_rfl) (fun _ _ _ h => h) (Or.inl ⟨by rfl, ?_⟩) (by assumption) ?_
  rotate_left
  · intro w hSw
    (try dsimp only at hSw)
    have hl0 := hSw.1
    have hl1 := hSw.2.1
    clear hSw
    go_simp
    (try with_reducible rfl)
  (try simp only [Act.put, List.setIfInBounds_toArray, List.set_cons_zero, List.set_cons_succ])
  refine wpAnyH_take (i := 10) (oi := { dst := some 23, op := _, type := _, pos := _, after := _, guard := _ }) (v := ?_) rfl (by kernel_rfl) (by kernel_rfl) (by kernel_rfl) (fun _ _ _ h => h) (Or.inl ⟨by rfl, ?_⟩) (by assumption) ?_
  rotate_left
  · intro w hSw
    (try dsimp only at hSw)
    have hl0 := hSw.1
    have hl1 := hSw.2.1
    clear hSw
    go_simp
    (try with_reducible rfl)
  (try simp only [Act.put, List.setIfInBounds_toArray, List.set_cons_zero, List.set_cons_succ])
  refine wpAnyH_ready (rs := [11]) (by kernel_rfl) (by simp) ?_
  refine AllReadyH.cons (o := { dst := some 24, op := _, type := _, pos := _, after := _, guard := _ }) rfl (fun K hK => ?_) AllReadyH.nil
  go_simp
  (go_at_call 86; refine (slices_Contains_string_string.calls (keys.length + 1) A c keys x.f2 _ _ (Kd.R_reads' hHeld.2.2.2.2.1).2.2 HC.out FC.out).mono ?_; rintro e w3 ⟨rfl, ⟨nd, rfl⟩⟩; have hbv := pw_below_drewN (Below.refl w2.heap.size w2) nd); go_wp2_with fail
  refine hK.out _ _ ?_ (fun hHeld => ?_)
  · exact ⟨lv_cell1 (lv_below hHeld.2.2.1 hbv), itm_cell2 ((hbv.block b (blk_lt hHeld.2.2.2.1)).trans hHeld.2.2.2.1), lv_below hHeld.2.2.1 hbv, (hbv.block b (blk_lt hHeld.2.2.2.1)).trans hHeld.2.2.2.1, Kd.R_below hHeld.2.2.2.2.1 hbv, hHeld.2.2.2.2.2.1.trans (hbv.mono hHeld.2.2.2.2.2.1.size), hHeld.2.2.2.2.2.2.trans (KeepBut.of_below hbv g none) (.inl rfl)⟩
  clear hK K
  (try simp only [Act.put, List.setIfInBounds_toArray, List.set_cons_zero, List.set_cons_succ])
  refine wpAnyH_take (i := 12) (oi := { dst := some 25, op := _, type := _, pos := _, after := _, guard := _ }) (v := ?_) rfl (by kernel_rfl) (by kernel_rfl) (by kernel_rfl) (fun _ _ _ h => h) (Or.inl ⟨by rfl, ?_⟩) (by assumption) ?_
  rotate_left
  · intro w hSw
    (try dsimp only at hSw)
    have hl0 := hSw.1
    have hl1 := hSw.2.1
    clear hSw
    go_simp
    (try with_reducible rfl)
  (try simp only [Act.put, List.setIfInBounds_toArray, List.set_cons_zero, List.set_cons_succ])
  refine wpAnyH_done (by kernel_rfl) ?_ _
  have HL := Aside0.mk hHeld
  clear hHeld
  go_wp2_with fail
  go_ret
  exact ⟨rfl, LvLeft.pre (HK.out.trans HL.out.2.2.2.2.2.2 (.inl rfl)) ⟨⟨_, HL.out.2.2.1, HL.out.2.2.2.2.1, .inl rfl⟩, HL.out.2.2.2.2.2.1, KeepBut.refl _ _ _⟩⟩
set_option maxHeartbeats 8000000 in
set_option maxRecDepth 100000 in
theorem member_yes (w0 W : World) (g : Nat) (kind : Int) (A : Option Addr) (c : Nat) (keys : List ByteArray) (x : S59) (hR : Lv W g kind (.slice A keys.length c)) (hO : Keys w0 W g (.slice A keys.length c) keys) (hB : Below w0.heap.size w0 W) (hg : w0.heap.size ≤ g) (hj : Tabs w0) (hk : kind = 7) (hv : utf_Valid.f x.f2 = some true) (hh : hasB x.f2 keys = false) (hl : (keys.length + 1) * 16 ≤ 140737488355328) :
    Calls Tryd.prog 64 #[.pointer (some ⟨g, 0, none⟩), itemV x] W fun e W' => e = .returned (.bool true) ∧ LvLeft w0 W W' g kind (.slice A keys.length c) (keys ++ [x.f2]) := by
  have HR := Aside0.mk hR
  have HO := Aside0.mk hO
  have HB := Aside0.mk hB
  have HG := Aside0.mk hg
  have JT := Aside0.mk hj
  subst hk
  have n1 : ((7 : Int) == 7) = true := rfl
  have FV := Aside0.mk hv
  have HKL := Aside0.mk hl
  have HC := Aside0.mk (Kd.R_reads' hO).2.1
  have HLn := (Kd.R_reads' hO).2.2.2.1
  have FC : Aside0 (slices_Contains_string_string.f (keys.length + 1) keys x.f2 = some false) := ⟨by rw [contains_f _ _ _ (by omega) HLn, hh]⟩
  clear hh HLn
  clear hR hO hB hg hj hv hl
  have hgW := blk_lt HR.out
  have HA : Aside0 (Below W.heap.size W (W.alloc (.cells #[.int .i64 x.f0, .int .i64 x.f1, .string x.f2, .string x.f3, .int .i64 x.f4] 59))) := ⟨below_alloc (Below.refl _ _) _⟩
  have HR := Aside0.mk (lv_below HR.out HA.out)
  have HO := Aside0.mk (Kd.R_below HO.out HA.out)
  have HK := Aside0.mk (KeepBut.of_below HA.out g none)
  have HB := Aside0.mk (below_step HB.out HA.out)
  have HI : Aside0 (Itm (W.alloc (.cells #[.int .i64 x.f0, .int .i64 x.f1, .string x.f2, .string x.f3, .int .i64 x.f4] 59)) W.heap.size x) := ⟨heap_alloc_new _ _⟩
  have hc0 := lv_cell0 HR.out
  unfold itemV
  go_enter Tryd.func64, Tryd.ntmps64
  go_wp2_with fail
  obtain ⟨b, hb⟩ : ∃ b, W.heap.size = b := ⟨_, rfl⟩
  have hne1 : ¬ b = g := by omega
  rw [hb] at HI
  rw [hb]
  clear hc0
  generalize W.alloc (.cells #[.int .i64 x.f0, .int .i64 x.f1, .string x.f2, .string x.f3, .int .i64 x.f4] 59) = w1 at HA HI HR HO HK HB ⊢
  clear HA hb
  refine wp_region_held_drew (S := fun w' => w'.cell? ⟨g, 1, none⟩ = some (.slice A keys.length c) ∧ w'.cell? ⟨b, 2, none⟩ = some (.string x.f2) ∧ Lv w' g 7 (.slice A keys.length c) ∧ Itm w' b x ∧ Keys w0 w' g (.slice A keys.length c) keys ∧ Below w0.heap.size w0 w' ∧ KeepBut w1 w' g none) (by kernel_rfl) ⟨lv_cell1 HR.out, itm_cell2 HI.out, HR.out, HI.out, Kd.R_move HO.out (fun _ _ => rfl), below_drew1 HB.out, KeepBut.refl _ _ _⟩ (fun hHeld => ?_)
  refine wpAnyH_take (i := 0) (oi := { dst := some 13, op := _, type := _, pos := _, after := _, guard := _ }) (v := ?_) rfl (by kernel_rfl) (by kernel_rfl) (by kernel_rfl) (fun _ _ _ h => h) (Or.inl ⟨by rfl, ?_⟩) (by assumption) ?_
  rotate_left
  · intro w hSw
    (try dsimp only at hSw)
    have hl0 := hSw.1
    have hl1 := hSw.2.1
    clear hSw
    go_simp
    (try with_reducible rfl)
  (try simp only [Act.put, List.setIfInBounds_toArray, List.set_cons_zero, List.set_cons_succ])
  refine wpAnyH_take (i := 1) (oi := { dst := some 14, op := _, type := _, pos := _, after := _, guard := _ }) (v := ?_) rfl (by kernel_rfl) (by kernel_rfl) (by kernel_rfl) (fun _ _ _ h => h) (Or.inl ⟨by rfl, ?_⟩) (by assumption) ?_
  rotate_left
  · intro w hSw
    (try dsimp only at hSw)
    have hl0 := hSw.1
    have hl1 := hSw.2.1
    clear hSw
    go_simp
    (try with_reducible rfl)
  (try simp only [Act.put, List.setIfInBounds_toArray, List.set_cons_zero, List.set_cons_succ])
  refine wpAnyH_ready (rs := [2]) (by kernel_rfl) (by simp) ?_
  refine AllReadyH.cons (o := { dst := some 15, op := _, type := _, pos := _, after := _, guard := _ }) rfl (fun K hK => ?_) AllReadyH.nil
  go_simp
  (go_at_call 30; refine (utf_Valid.calls x.f2 _ _ FV.out (JT.out.step hHeld.2.2.2.2.2.1)).mono ?_; rintro e w2 ⟨rfl, hbv⟩); go_wp2_with fail
  refine hK.out _ _ ?_ (fun hHeld => ?_)
  · exact ⟨lv_cell1 (lv_below hHeld.2.2.1 hbv), itm_cell2 ((hbv.block b (blk_lt hHeld.2.2.2.1)).trans hHeld.2.2.2.1), lv_below hHeld.2.2.1 hbv, (hbv.block b (blk_lt hHeld.2.2.2.1)).trans hHeld.2.2.2.1, Kd.R_below hHeld.2.2.2.2.1 hbv, hHeld.2.2.2.2.2.1.trans (hbv.mono hHeld.2.2.2.2.2.1.size), hHeld.2.2.2.2.2.2.trans (KeepBut.of_below hbv g none) (.inl rfl)⟩
  clear hK K
  (try simp only [Act.put, List.setIfInBounds_toArray, List.set_cons_zero, List.set_cons_succ])
  refine wpAnyH_take (i := 3) (oi := { dst := some 16, op := _, type := _, pos := _, after := _, guard := _ }) (v := ?_) rfl (by kernel_rfl) (by kernel_rfl) (by kernel_rfl) (fun _ _ _ h => h) (Or.inl ⟨by rfl, ?_⟩) (by assumption) ?_
  rotate_left
  · intro w hSw
    (try dsimp only at hSw)
    have hl0 := hSw.1
    have hl1 := hSw.2.1
    clear hSw
    go_simp
    (try with_reducible rfl)
  (try simp only [Act.put, List.setIfInBounds_toArray, List.set_cons_zero, List.set_cons_succ])
  refine wpAnyH_take (i := 4) (oi := { dst := some 17, op := _, type := _, pos := _, after := _, guard := _ }) (v := ?_) rfl (by kernel_rfl) (by kernel_rfl) (by kernel_rfl) (fun _ _ _ h => h) (Or.inl ⟨by rfl, ?_⟩) (by assumption) ?_
  rotate_left
  · intro w hSw
    (try dsimp only at hSw)
    have hl0 := hSw.1
    have hl1 := hSw.2.1
    clear hSw
    go_simp
    (try with_reducible rfl)
  (try simp only [Act.put, List.setIfInBounds_toArray, List.set_cons_zero, List.set_cons_succ])
  refine wpAnyH_take (i := 5) (oi := { dst := some 18, op := _, type := _, pos := _, after := _, guard := _ }) (v := ?_) rfl (by kernel_rfl) (by kernel_rfl) (by kernel_rfl) (fun _ _ _ h => h) (Or.inl ⟨by rfl, ?_⟩) (by assumption) ?_
  rotate_left
  · intro w hSw
    (try dsimp only at hSw)
    have hl0 := hSw.1
    have hl1 := hSw.2.1
    clear hSw
    go_simp
    (try with_reducible rfl)
  (try simp only [Act.put, List.setIfInBounds_toArray, List.set_cons_zero, List.set_cons_succ])
  refine wpAnyH_take (i := 6) (oi := { dst := some 19, op := _, type := _, pos := _, after := _, guard := _ }) (v := ?_) rfl (by kernel_rfl) (by kernel_rfl) (by kernel_rfl) (fun _ _ _ h => h) (Or.inl ⟨by rfl, ?_⟩) (by assumption) ?_
  rotate_left
  · intro w hSw
    (try dsimp only at hSw)
    have hl0 := hSw.1
    have hl1 := hSw.2.1
    clear hSw
    go_simp
    (try with_reducible rfl)
  (try simp only [Act.put, List.setIfInBounds_toArray, List.set_cons_zero, List.set_cons_succ])
  refine wpAnyH_take (i := 7) (oi := { dst := some 20, op := _, type := _, pos := _, after := _, guard := _ }) (v := ?_) rfl (by kernel_rfl) (by kernel_rfl) (by kernel_rfl) (fun _ _ _ h => h) (Or.inl ⟨by rfl, ?_⟩) (by assumption) ?_
  rotate_left
  · intro w hSw
    (try dsimp only at hSw)
    have hl0 := hSw.1
    have hl1 := hSw.2.1
    clear hSw
    go_simp
    (try with_reducible rfl)
  (try simp only [Act.put, List.setIfInBounds_toArray, List.set_cons_zero, List.set_cons_succ])
  refine wpAnyH_take (i := 8) (oi := { dst := some 21, op := _, type := _, pos := _, after := _, guard := _ }) (v := ?_) rfl (by kernel_rfl) (by kernel_rfl) (by kernel_rfl) (fun _ _ _ h => h) (Or.inl ⟨by rfl, ?_⟩) (by assumption) ?_
  rotate_left
  · intro w hSw
    (try dsimp only at hSw)
    have hl0 := hSw.1
    have hl1 := hSw.2.1
    clear hSw
    go_simp
    (try with_reducible rfl)
  (try simp only [Act.put, List.setIfInBounds_toArray, List.set_cons_zero, List.set_cons_succ])
  refine wpAnyH_take (i := 9) (oi := { dst := some 22, op := _, type := _, pos := _, after := _, guard := _ }) (v := ?_) rfl (by kernel_rfl) (by kernel_rfl) (by kernel_rfl) (fun _ _ _ h => h) (Or.inl ⟨by rfl, ?_⟩) (by assumption) ?_
  rotate_left
  · intro w hSw
    (try dsimp only at hSw)
    have hl0 := hSw.1
    have hl1 := hSw.2.1
    clear hSw
    go_simp
    (try with_reducible rfl)
  (try simp only [Act.put, List.setIfInBounds_toArray, List.set_cons_zero, List.set_cons_succ])
  refine wpAnyH_take (i := 10) (oi := { dst := some 23, op := _, type := _, pos := _, after := _, guard := _ }) (v := ?_) rfl (by kernel_rfl) (by kernel_rfl) (by kernel_rfl) (fun _ _ _ h => h) (Or.inl ⟨by rfl, ?_⟩) (by assumption) ?_
  rotate_left
  · intro w hSw
    (try dsimp only at hSw)
    have hl0 := hSw.1
    have hl1 := hSw.2.1
    clear hSw
    go_simp
    (try with_reducible rfl)
  (try simp only [Act.put, List.setIfInBounds_toArray, List.set_cons_zero, List.set_cons_succ])
  refine wpAnyH_ready (rs := [11]) (by kernel_rfl) (by simp) ?_
  refine AllReadyH.cons (o := { dst := some 24, op := _, type := _, pos := _, after := _, guard := _ }) rfl (fun K hK => ?_) AllReadyH.nil
  go_simp
  (go_at_call 86; refine (slices_Contains_string_string.calls (keys.length + 1) A c keys x.f2 _ _ (Kd.R_reads' hHeld.2.2.2.2.1).2.2 HC.out FC.out).mono ?_; rintro e w3 ⟨rfl, ⟨nd, rfl⟩⟩; have hbv := pw_below_drewN (Below.refl w2.heap.size w2) nd); go_wp2_with fail
  refine hK.out _ _ ?_ (fun hHeld => ?_)
  · exact ⟨lv_cell1 (lv_below hHeld.2.2.1 hbv), itm_cell2 ((hbv.block b (blk_lt hHeld.2.2.2.1)).trans hHeld.2.2.2.1), lv_below hHeld.2.2.1 hbv, (hbv.block b (blk_lt hHeld.2.2.2.1)).trans hHeld.2.2.2.1, Kd.R_below hHeld.2.2.2.2.1 hbv, hHeld.2.2.2.2.2.1.trans (hbv.mono hHeld.2.2.2.2.2.1.size), hHeld.2.2.2.2.2.2.trans (KeepBut.of_below hbv g none) (.inl rfl)⟩
  clear hK K
  (try simp only [Act.put, List.setIfInBounds_toArray, List.set_cons_zero, List.set_cons_succ])
  refine wpAnyH_take (i := 12) (oi := { dst := some 25, op := _, type := _, pos := _, after := _, guard := _ }) (v := ?_) rfl (by kernel_rfl) (by kernel_rfl) (by kernel_rfl) (fun _ _ _ h => h) (Or.inl ⟨by rfl, ?_⟩) (by assumption) ?_
  rotate_left
  · intro w hSw
    (try dsimp only at hSw)
    have hl0 := hSw.1
    have hl1 := hSw.2.1
    clear hSw
    go_simp
    (try with_reducible rfl)
  (try simp only [Act.put, List.setIfInBounds_toArray, List.set_cons_zero, List.set_cons_succ])
  refine wpAnyH_done (by kernel_rfl) ?_ _
  have HL := Aside0.mk hHeld
  clear hHeld
  go_wp2_with fail
  generalize w2.drewN nd = w4 at HL ⊢
  refine start_ (n := 12) (S := fun w' => w'.cell? ⟨g, 1, none⟩ = some (.slice A keys.length c) ∧ w'.cell? ⟨b, 2, none⟩ = some (.string x.f2)) (ds := [8, 11]) #[false, false, false, false, false, false, false, false, false, false, false, false] (by kernel_rfl) rfl rfl ⟨lv_cell1 HL.out.2.2.1, itm_cell2 HL.out.2.2.2.1⟩ (fun hHeld => ?_)
  refine pure_ (i := 0) (N := some 26) (v := ?_) (a' := ?_) #[true, false, false, false, false, false, false, false, false, false, false, false] rfl rfl (by kernel_rfl) (fun _ _ _ h => h) (Or.inl ⟨by rfl, ?_⟩) ?_ ?_
  rotate_left
  · intro w'
    go_simp
    (try with_reducible rfl)
  rotate_left
  · simp only [Act.put, List.setIfInBounds_toArray, List.set_cons_zero, List.set_cons_succ]
    rfl
  refine pure_ (i := 1) (N := some 27) (v := ?_) (a' := ?_) #[true, true, false, false, false, false, false, false, false, false, false, false] rfl rfl (by kernel_rfl) (fun _ _ _ h => h) (Or.inl ⟨by rfl, ?_⟩) ?_ ?_
  rotate_left
  · intro w'
    go_simp
    (try with_reducible rfl)
  rotate_left
  · simp only [Act.put, List.setIfInBounds_toArray, List.set_cons_zero, List.set_cons_succ]
    rfl
  refine pure_ (i := 2) (N := some 28) (v := ?_) (a' := ?_) #[true, true, true, false, false, false, false, false, false, false, false, false] rfl rfl (by kernel_rfl) (fun _ _ _ h => h) (Or.inl ⟨by rfl, ?_⟩) ?_ ?_
  rotate_left
  · intro w'
    go_simp
    (try with_reducible rfl)
  rotate_left
  · simp only [Act.put, List.setIfInBounds_toArray, List.set_cons_zero, List.set_cons_succ]
    rfl
  refine pure_ (i := 3) (N := some 29) (v := ?_) (a' := ?_) #[true, true, true, true, false, false, false, false, false, false, false, false] rfl rfl (by kernel_rfl) (fun _ _ _ h => h) (Or.inl ⟨by rfl, ?_⟩) ?_ ?_
  rotate_left
  · intro w'
    go_simp
    (try with_reducible rfl)
  rotate_left
  · simp only [Act.put, List.setIfInBounds_toArray, List.set_cons_zero, List.set_cons_succ]
    rfl
  refine take_ (i := 4) (N := some 30) (v := ?_) (a' := ?_) #[true, true, true, true, true, false, false, false, false, false, false, false] rfl rfl (by kernel_rfl) (fun _ _ _ h => h) (Or.inl ⟨by rfl, ?_⟩) (by assumption) ?_ ?_
  rotate_left
  · intro w hSw
    obtain ⟨hl0, hl1⟩ := hSw
    go_simp
    (try with_reducible rfl)
  rotate_left
  · simp only [Act.put, List.setIfInBounds_toArray, List.set_cons_zero, List.set_cons_succ]
    rfl
  refine pure_ (i := 5) (N := some 31) (v := ?_) (a' := ?_) #[true, true, true, true, true, true, false, false, false, false, false, false] rfl rfl (by kernel_rfl) (fun _ _ _ h => h) (Or.inl ⟨by rfl, ?_⟩) ?_ ?_
  rotate_left
  · intro w'
    go_simp
    (try with_reducible rfl)
  rotate_left
  · simp only [Act.put, List.setIfInBounds_toArray, List.set_cons_zero, List.set_cons_succ]
    rfl
  refine take_ (i := 6) (N := some 32) (v := ?_) (a' := ?_) #[true, true, true, true, true, true, true, false, false, false, false, false] rfl rfl (by kernel_rfl) (fun _ _ _ h => h) (Or.inl ⟨by rfl, ?_⟩) (by assumption) ?_ ?_
  rotate_left
  · intro w hSw
    obtain ⟨hl0, hl1⟩ := hSw
    go_simp
    (try with_reducible rfl)
  rotate_left
  · simp only [Act.put, List.setIfInBounds_toArray, List.set_cons_zero, List.set_cons_succ]
    rfl
  refine one_ (i := 7) (N := some 33) #[true, true, true, true, true, true, true, true, false, false, false, false] rfl rfl (by kernel_rfl) (by decide) (fun K hK => ?_)
  refine event_step (W := w4.drew) (v := .slice (some ⟨w4.heap.size, 0, none⟩) 1 1) (w1 := w4.drew.alloc (.cells #[.string x.f2] 9)) (by rfl) (by kernel_rfl) ?_
  refine hK.out _ _ ?_ (fun hHeld => ?_)
  · exact keep_key HL.out.2.2.1 HL.out.2.2.2.1 _
  clear hK K
  (try simp only [Act.put, List.setIfInBounds_toArray, List.set_cons_zero, List.set_cons_succ])
  refine last_ (i := 8) (N := some 34) #[true, true, true, true, true, true, true, true, true, false, false, false] rfl rfl (by kernel_rfl) (by decide) (fun K hK => ?_)
  refine push_key (.tmp 30) (.tmp 33) (by rfl) rfl rfl rfl HL.out.2.2.1 HL.out.2.2.2.2.1 HL.out.2.2.2.2.2.1 HG.out HKL.out ?_
  intro As N2 cc w2 hR2 hP2
  have hc2 := lv_cell1 hR2
  have hf2 := blk_frozen hR2 1
  have HP := Aside0.mk hP2
  clear hR2 hP2
  refine hK.out _ _ ?_
  clear hK K
  (try simp only [Act.put, List.setIfInBounds_toArray, List.set_cons_zero, List.set_cons_succ])
  refine pure_ (i := 9) (N := some 35) (v := ?_) (a' := ?_) #[true, true, true, true, true, true, true, true, true, true, false, false] rfl rfl (by kernel_rfl) (fun _ _ _ h => h) (Or.inl ⟨by rfl, ?_⟩) ?_ ?_
  rotate_left
  · intro w'
    go_simp
    (try with_reducible rfl)
  rotate_left
  · simp only [Act.put, List.setIfInBounds_toArray, List.set_cons_zero, List.set_cons_succ]
    rfl
  refine pure_ (i := 10) (N := some 36) (v := ?_) (a' := ?_) #[true, true, true, true, true, true, true, true, true, true, true, false] rfl rfl (by kernel_rfl) (fun _ _ _ h => h) (Or.inl ⟨by rfl, ?_⟩) ?_ ?_
  rotate_left
  · intro w'
    go_simp
    (try with_reducible rfl)
  rotate_left
  · simp only [Act.put, List.setIfInBounds_toArray, List.set_cons_zero, List.set_cons_succ]
    rfl
  refine last_ (i := 11) (N := none) #[true, true, true, true, true, true, true, true, true, true, true, true] rfl rfl (by kernel_rfl) (by decide) (fun K hK => ?_)
  go_simp
  refine hK.out _ _ ?_
  clear hK K
  (try simp only [Act.put, List.setIfInBounds_toArray, List.set_cons_zero, List.set_cons_succ])
  refine done_ (by kernel_rfl) ?_
  go_wp2_with fail
  go_ret
  exact ⟨rfl, LvLeft.pre (HK.out.trans HL.out.2.2.2.2.2.2 (.inl rfl)) HP.out⟩
/-- may an item stand in a level? and its keys then -/
def memberF (kind : Int) (keys : List ByteArray) (x : S59) : Option (Bool × List ByteArray) :=
  if kind = 7 then (utf_Valid.f x.f2).bind fun ok => if ok = true then (if hasB x.f2 keys = true then some (false, keys) else if (keys.length + 1) * 16 ≤ 140737488355328 then some (true, keys ++ [x.f2]) else none) else some (false, keys)
  else some (x.f2.toList.isEmpty, keys)
theorem member_calls (w0 W : World) (g : Nat) (kind : Int) (kv : Value) (keys : List ByteArray) (x : S59) (r : Bool × List ByteArray) (h : memberF kind keys x = some r) (hR : Lv W g kind kv) (hO : Keys w0 W g kv keys) (hB : Below w0.heap.size w0 W) (hg : w0.heap.size ≤ g) (hj : Tabs w0) :
    Calls Tryd.prog 64 #[.pointer (some ⟨g, 0, none⟩), itemV x] W fun e W' => e = .returned (.bool r.1) ∧ LvLeft w0 W W' g kind kv r.2 := by
  obtain ⟨A, c, rfl⟩ := Kd.R_slice hO
  unfold memberF at h
  by_cases hk : kind = 7
  · rw [if_pos hk] at h
    obtain ⟨ok, hv, h⟩ := Option.bind_eq_some_iff.1 h
    cases ok with
    | true =>
      rw [if_pos rfl] at h
      by_cases hh : hasB x.f2 keys = true
      · rw [if_pos hh] at h
        cases h
        exact member_twice w0 W g kind A c _ x hR hO hB hg hj hk hv hh
      · rw [if_neg hh] at h
        by_cases hl : (keys.length + 1) * 16 ≤ 140737488355328
        · rw [if_pos hl] at h
          cases h
          exact member_yes w0 W g kind A c keys x hR hO hB hg hj hk hv (Bool.eq_false_iff.2 hh) hl
        · rw [if_neg hl] at h; cases h
    | false =>
      rw [if_neg (by decide)] at h
      cases h
      exact member_bad w0 W g kind A c _ x hR hO hB hg hj hk hv
  · rw [if_neg hk] at h
    cases h
    exact member_no w0 W g kind A c _ x hR hO hB hg hj hk
end Go.Proofs.YthhmmaihbjhhgaaDoor.Giv
namespace Go.Proofs.YthhmmaihbjhhgaaDoor.Giv
open Go.RowKit Go.Proofs.YthhmmaihbjhhgaaDoorW.PrintWords Go.Proofs.YthhmmaihbjhhgaaDoorW.PrintLast Go.Proofs.YthhmmaihbjhhgaaDoorW.PrintMore
open Go.Proofs.YthhmmaihbjhhgaaDoor.U1 Go.Proofs.YthhmmaihbjhhgaaDoor.Q1 Go.Proofs.YthhmmaihbjhhgaaDoor.J0 Go.Proofs.YthhmmaihbjhhgaaDoor.J1
set_option linter.unusedSimpArgs false
/-- one level: its block, its kind, its keys' row and the keys -/
structure Level where
  g : Nat
  kind : Int
  kv : Value
  keys : List ByteArray
def kptr : Kd Nat := Kd.scalar (fun g => .pointer (some ⟨g, 0, none⟩)) (fun _ => rfl)
/-- what is open: the row of the levels' pointers, and the levels -/
structure Sk (w0 W : World) (ov : Value) (lv : List Level) : Prop where
  row : Kd.R kptr 82 W w0.heap.size (fun _ => True) ov (lv.map (·.g))
  each : ∀ l ∈ lv, w0.heap.size ≤ l.g ∧ Lv W l.g l.kind l.kv ∧ Keys w0 W l.g l.kv l.keys
  apart : lv.Pairwise (fun a b => a.g ≠ b.g ∧ ∀ k, a.kv.ownBlock = some k → b.kv.ownBlock ≠ some k)
  below : Below w0.heap.size w0 W
theorem typed_ne {W : World} {i j : Nat} {c1 c2 : Array Value} {t1 t2 : TypeId} (h1 : W.heap[i]? = some (.cells c1 t1 (0, 0))) (h2 : W.heap[j]? = some (.cells c2 t2 (0, 0))) (ht : t1 ≠ t2) : i ≠ j := by
  rintro rfl
  rw [h1] at h2
  injection h2 with h2
  injection h2 with _ h2
  exact ht h2
theorem Sk.quiet {w0 W W' : World} {ov : Value} {lv : List Level} (h : Sk w0 W ov lv) (hb : Below W.heap.size W W') : Sk w0 W' ov lv :=
  ⟨Kd.R_below h.row hb, fun l hl => ⟨(h.each l hl).1, lv_below (h.each l hl).2.1 hb, Kd.R_below (h.each l hl).2.2 hb⟩, h.apart, h.below.trans (hb.mono h.below.size)⟩
theorem Sk.take {w0 W : World} {A : Option Addr} {n c m : Nat} {lv : List Level} (h : Sk w0 W (.slice A n c) lv) (hm : m ≤ lv.length) : Sk w0 W (.slice A m c) (lv.take m) :=
  ⟨by rw [List.map_take]; exact Kd.R_take h.row (by rw [List.length_map]; exact hm), fun l hl => h.each l (List.mem_of_mem_take hl), h.apart.sublist (List.take_sublist m lv), h.below⟩
theorem Sk.top {w0 W W' : World} {ov : Value} {pre : List Level} {t : Level} {keys' : List ByteArray} (h : Sk w0 W ov (pre ++ [t])) (hl : LvLeft w0 W W' t.g t.kind t.kv keys') : ∃ kv', Sk w0 W' ov (pre ++ [⟨t.g, t.kind, kv', keys'⟩]) := by
  obtain ⟨⟨kv', hL, hK, hA⟩, hB, hkeep⟩ := hl
  have ht : t ∈ pre ++ [t] := List.mem_append_right _ List.mem_cons_self
  obtain ⟨htg, htL, htK⟩ := h.each t ht
  have hap := List.pairwise_append.1 h.apart
  have hpre : ∀ l ∈ pre, l.g ≠ t.g ∧ ∀ k, l.kv.ownBlock = some k → t.kv.ownBlock ≠ some k := fun l hl => hap.2.2 l hl t List.mem_cons_self
  have hty : ∀ k, t.kv.ownBlock = some k → ∃ cells, W.heap[k]? = some (.cells cells 9 (0, 0)) := fun k hk => Kd.R_typed htK k hk
  refine ⟨kv', ?_, ?_, ?_, hB⟩
  · have hm : (pre ++ [t]).map (·.g) = (pre ++ [(⟨t.g, t.kind, kv', keys'⟩ : Level)]).map (·.g) := by simp
    rw [← hm]
    refine Kd.R_mono (Kd.R_step (Kd.R_bound h.row) (fun k hk hlt => hkeep.2 k hlt ?_ ?_)) (fun _ _ => trivial)
    · obtain ⟨_, _, _, q, hq, cells, hc⟩ := hk
      have hq2 : q = 82 := by simpa [kptr, Kd.scalar] using hq
      subst hq2
      exact typed_ne hc htL (by decide)
    · intro e
      obtain ⟨_, _, _, q, hq, cells, hc⟩ := hk
      have hq2 : q = 82 := by simpa [kptr, Kd.scalar] using hq
      subst hq2
      obtain ⟨c2, hc2⟩ := hty k e.symm
      exact typed_ne hc hc2 (by decide) rfl
  · intro l hl
    rcases List.mem_append.1 hl with hl | hl
    · have hl2 := h.each l (List.mem_append_left _ hl)
      have hg2 := (hpre l hl).1
      have hgr : some l.g ≠ t.kv.ownBlock := by
        intro e
        obtain ⟨c2, hc2⟩ := hty l.g e.symm
        exact typed_ne hl2.2.1 hc2 (by decide) rfl
      refine ⟨hl2.1, (hkeep.2 l.g (blk_lt hl2.2.1) hg2 hgr).trans hl2.2.1, ?_⟩
      refine keys_flat (Kd.R_step (keys_flat hl2.2.2 (ok' := fun j => j ≠ l.g ∧ j ≠ t.g ∧ some j ≠ t.kv.ownBlock) (fun j hj hg => ⟨hg, ?_, fun e => (hpre l hl).2 j hj e.symm⟩)) (fun j hj hlt => hkeep.2 j hlt hj.2.1 hj.2.2)) (fun _ _ h => h.1)
      obtain ⟨c2, hc2⟩ := Kd.R_typed hl2.2.2 j hj
      exact typed_ne hc2 htL (by decide)
    · obtain rfl := List.mem_singleton.1 hl
      exact ⟨htg, hL, hK⟩
  · refine List.pairwise_append.2 ⟨hap.1, List.pairwise_singleton _ _, fun l hl b hb => ?_⟩
    obtain rfl := List.mem_singleton.1 hb
    refine ⟨(hpre l hl).1, fun k hk e => ?_⟩
    rcases hA with hA | ⟨b2, hA, hb2⟩
    · exact (hpre l hl).2 k hk (hA ▸ e)
    · have e2 : b2 = k := Option.some.inj (hA.symm.trans e)
      subst e2
      have := keys_lt (h.each l (List.mem_append_left _ hl)).2.2 hk
      omega
/-- what a further level's block and pointer are -/
theorem Sk.more {w0 W W' : World} {ov ov' : Value} {lv : List Level} {g : Nat} {kind : Int} (h : Sk w0 W ov lv) (hg : W.heap[g]? = some (.cells #[.int .i64 kind, .slice none 0 0] 85 (0, 0))) (hg0 : w0.heap.size ≤ g) (hn : ∀ l ∈ lv, l.g ≠ g)
    (hR : Kd.R kptr 82 W' w0.heap.size (fun _ => True) ov' (lv.map (·.g) ++ [g])) (hB : Below w0.heap.size w0 W') (hG : W.grownBy W' ov.ownBlock) : Sk w0 W' ov' (lv ++ [⟨g, kind, .slice none 0 0, []⟩]) := by
  have hty : ∀ k, ov.ownBlock = some k → ∃ cells, W.heap[k]? = some (.cells cells 82 (0, 0)) := fun k hk => Kd.R_typed h.row k hk
  have far : ∀ {k : Nat} {c : Array Value} {q : TypeId}, W.heap[k]? = some (.cells c q (0, 0)) → q ≠ 82 → some k ≠ ov.ownBlock := by
    intro k c q hk hq e
    obtain ⟨c2, hc2⟩ := hty k e.symm
    exact typed_ne hk hc2 hq rfl
  refine ⟨by rw [List.map_append]; exact hR, ?_, ?_, hB⟩
  · intro l hl
    rcases List.mem_append.1 hl with hl | hl
    · have hl2 := h.each l hl
      refine ⟨hl2.1, blk_grown hl2.2.1 hG (far hl2.2.1 (by decide)), ?_⟩
      refine keys_flat (Kd.R_grown (keys_flat hl2.2.2 (ok' := fun j => j ≠ l.g ∧ some j ≠ ov.ownBlock) (fun j hj hg => ⟨hg, ?_⟩)) hG (fun _ h => h.2)) (fun _ _ h => h.1)
      obtain ⟨c2, hc2⟩ := Kd.R_typed hl2.2.2 j hj
      exact far hc2 (by decide)
    · obtain rfl := List.mem_singleton.1 hl
      exact ⟨hg0, blk_grown hg hG (far hg (by decide)), Kd.R_nil _ _ _ _ _⟩
  · refine List.pairwise_append.2 ⟨h.apart, List.pairwise_singleton _ _, fun l hl b hb => ?_⟩
    obtain rfl := List.mem_singleton.1 hb
    exact ⟨hn l hl, fun k _ e => by simp [Value.ownBlock] at e⟩
/-- the pointer that stands at a place -/
theorem Sk.form {w0 W : World} {ov : Value} {lv : List Level} (h : Sk w0 W ov lv) (hp : 0 < lv.length) : ∃ G c, ov = .slice (some ⟨G, 0, none⟩) lv.length c ∧ lv.length ≤ c := by
  obtain ⟨G, c, e, _⟩ := Kd.R_form h.row (by rw [List.length_map]; exact hp)
  rw [List.length_map] at e
  subst e
  exact ⟨G, c, rfl, (Kd.R_reads' h.row).2.1⟩
theorem Sk.cell {w0 W : World} {G n c : Nat} {lv : List Level} (h : Sk w0 W (.slice (some ⟨G, 0, none⟩) n c) lv) (d : Nat) (l : Level) (hd : lv[d]? = some l) : W.cell? ⟨G, d, none⟩ = some (.pointer (some ⟨l.g, 0, none⟩)) := by
  obtain ⟨hlt, hg⟩ := List.getElem?_eq_some_iff.1 hd
  have hn := (Kd.R_reads' h.row).1
  subst hn
  have := (Kd.R_cell 0 h.row (d : Int) (by omega) (by rw [List.length_map]; omega)).1
  simp only [Int.toNat_natCast] at this
  rw [this, rdOf]
  simp [List.getD, List.getElem?_map, hd]
end Go.Proofs.YthhmmaihbjhhgaaDoor.Giv
namespace Go.Proofs.YthhmmaihbjhhgaaDoor.Giv
open Go.RowKit Go.Proofs.YthhmmaihbjhhgaaDoorW.PrintWords Go.Proofs.YthhmmaihbjhhgaaDoorW.PrintLast Go.Proofs.YthhmmaihbjhhgaaDoorW.PrintMore
open Go.Proofs.YthhmmaihbjhhgaaDoor.U1 Go.Proofs.YthhmmaihbjhhgaaDoor.Q1 Go.Proofs.YthhmmaihbjhhgaaDoor.J0 Go.Proofs.YthhmmaihbjhhgaaDoor.J1
set_option linter.unusedSimpArgs false
theorem heap_alloc_two (w : World) (o1 o2 : Obj) : ((w.alloc o1).alloc o2).heap[w.heap.size + 1]? = some o2 := by
  have := heap_alloc_new (w.alloc o1) o2
  simpa using this
set_option maxHeartbeats 8000000 in
set_option maxRecDepth 100000 in
theorem bare5 (x : S59) (w : World) (h5 : x.f1 = 5) : Calls Tryd.prog 63 #[itemV x] w fun e w' => e = .returned (itemV ⟨x.f0, x.f1, x.f2, x.f3, 0⟩) ∧ Below w.heap.size w w' := by
  have hu59 := Tryd.underlying59
  have c1 : (x.f1 == 5) = true := beq_iff_eq.mpr h5
  clear h5
  unfold itemV
  go_enter Tryd.func63, Tryd.ntmps63
  go_wp2_with fail
  refine bodyPost_ret (results_cell_row rfl _ _ (w.heap.size + 1) 59 #[.int .i64 x.f0, .int .i64 x.f1, .string x.f2, .string x.f3, .int .i64 0] (0, 0) _ rfl ?_ Tryd.underlying59 rfl (by kernel_rfl)) rfl ?_
  · exact blk_alloc (heap_alloc_two _ _ _) _
  exact ⟨rfl, ((below_alloc (Below.refl _ _) _).alloc (by simp) _).alloc (by simp; omega) _⟩
set_option maxHeartbeats 8000000 in
set_option maxRecDepth 100000 in
theorem bare4 (x : S59) (w : World) (h4 : x.f1 = 4) : Calls Tryd.prog 63 #[itemV x] w fun e w' => e = .returned (itemV ⟨x.f0, x.f1, x.f2, ⟨#[]⟩, x.f4⟩) ∧ Below w.heap.size w w' := by
  have hu59 := Tryd.underlying59
  have c1 : (x.f1 == 5) = false := by rw [h4]; rfl
  have c2 : (x.f1 == 4) = true := beq_iff_eq.mpr h4
  clear h4
  unfold itemV
  go_enter Tryd.func63, Tryd.ntmps63
  go_wp2_with fail
  refine bodyPost_ret (results_cell_row rfl _ _ (w.heap.size + 1) 59 #[.int .i64 x.f0, .int .i64 x.f1, .string x.f2, .string ⟨#[]⟩, .int .i64 x.f4] (0, 0) _ rfl ?_ Tryd.underlying59 rfl (by kernel_rfl)) rfl ?_
  · exact blk_alloc (heap_alloc_two _ _ _) _
  exact ⟨rfl, ((below_alloc (Below.refl _ _) _).alloc (by simp) _).alloc (by simp; omega) _⟩
set_option maxHeartbeats 8000000 in
set_option maxRecDepth 100000 in
theorem bare0 (x : S59) (w : World) (h5 : x.f1 ≠ 5) (h4 : x.f1 ≠ 4) : Calls Tryd.prog 63 #[itemV x] w fun e w' => e = .returned (itemV ⟨x.f0, x.f1, x.f2, ⟨#[]⟩, 0⟩) ∧ Below w.heap.size w w' := by
  have hu59 := Tryd.underlying59
  have c1 : (x.f1 == 5) = false := beq_eq_false_iff_ne.mpr h5
  have c2 : (x.f1 == 4) = false := beq_eq_false_iff_ne.mpr h4
  clear h4 h5
  unfold itemV
  go_enter Tryd.func63, Tryd.ntmps63
  go_wp2_with fail
  refine bodyPost_ret (results_cell_row rfl _ _ (w.heap.size + 1) 59 #[.int .i64 x.f0, .int .i64 x.f1, .string x.f2, .string ⟨#[]⟩, .int .i64 0] (0, 0) _ rfl ?_ Tryd.underlying59 rfl (by kernel_rfl)) rfl ?_
  · exact blk_alloc (heap_alloc_two _ _ _) _
  exact ⟨rfl, ((below_alloc (Below.refl _ _) _).alloc (by simp) _).alloc (by simp; omega) _⟩
/-- an item with just what its kind has -/
def bareI (x : S59) : S59 := if x.f1 = 5 then ⟨x.f0, x.f1, x.f2, x.f3, 0⟩ else if x.f1 = 4 then ⟨x.f0, x.f1, x.f2, ⟨#[]⟩, x.f4⟩ else ⟨x.f0, x.f1, x.f2, ⟨#[]⟩, 0⟩
theorem bare_calls (x : S59) (w : World) : Calls Tryd.prog 63 #[itemV x] w fun e w' => e = .returned (itemV (bareI x)) ∧ Below w.heap.size w w' := by
  unfold bareI
  split
  · next h => exact bare5 x w h
  · split
    · next h => exact bare4 x w h
    · next h1 h2 => exact bare0 x w h1 h2
set_option maxHeartbeats 8000000 in
set_option maxRecDepth 100000 in
theorem holds_calls (x : S59) (w : World) : Calls Tryd.prog 65 #[itemV x] w fun e w' => e = .returned (.bool (x.f1 == 6 || x.f1 == 7)) ∧ Below w.heap.size w w' := by
  have hu59 := Tryd.underlying59
  unfold itemV
  cases h6 : (x.f1 == 6) <;>
  · go_enter Tryd.func65, Tryd.ntmps65
    go_wp2_with fail
    go_ret
    exact ⟨rfl, below_alloc (Below.refl _ _) _⟩
end Go.Proofs.YthhmmaihbjhhgaaDoor.Giv
