/- quote.Read: what it answers, walked by hand (a strings.Builder; a function value in a struct). -/
import Derived.Test.YthhmmaihbjhhgaaDoorQ1x2
import Derived.Test.YthhmmaihbjhhgaaDoorQuoB
import Derived.Laws.EntriesVeiled
import Derived.Lib.Strings
import Derived.WalkMore
namespace Go.Proofs.YthhmmaihbjhhgaaDoor.Giv
open Go.RowKit Go.Proofs.YthhmmaihbjhhgaaDoorW.PrintWords Go.Proofs.YthhmmaihbjhhgaaDoorW.PrintLast Go.Proofs.YthhmmaihbjhhgaaDoorW.PrintMore
open Go.Proofs.YthhmmaihbjhhgaaDoor.U1 Go.Proofs.YthhmmaihbjhhgaaDoor.Q1

theorem hz78 (w : World) : (zeroValue 78).run Tryd.prog w = .ok (.agg #[.nilFunc]) w := by kernel_rfl
set_option maxHeartbeats 4000000 in
set_option maxRecDepth 100000 in
theorem of_slash (w : World) :
    Calls Tryd.prog 61 #[.int .u8 92] w fun e w' => e = .returned (.agg #[.func (.func 83) #[] #[]]) ∧ Below w.heap.size w w' := by
  have h0 := hz78
  go_enter Tryd.func61, Tryd.ntmps61
  go_wp2
  (try simp only [Exit.inBlock, Exit.then])
  refine bodyPost_ret (results_cell_row rfl _ _ w.heap.size 78 #[.func (.func 83) #[] #[]] (0, 0) _ rfl ?_ Tryd.underlying78 rfl (by kernel_rfl)) rfl ⟨rfl, ?_⟩
  · exact heap_alloc_new _ _
  · exact below_alloc (Below.refl _ _) _
set_option maxHeartbeats 4000000 in
set_option maxRecDepth 100000 in
theorem of_other (c : Int) (w : World) (hc : c ≠ 92) :
    Calls Tryd.prog 61 #[.int .u8 c] w fun e w' => e = .returned (.agg #[.func (.func 84) #[] #[]]) ∧ Below w.heap.size w w' := by
  have h0 := hz78
  have hb : (c == 92) = false := beq_eq_false_iff_ne.mpr hc
  go_enter Tryd.func61, Tryd.ntmps61
  go_wp2
  (try simp only [Exit.inBlock, Exit.then])
  refine bodyPost_ret (results_cell_row rfl _ _ w.heap.size 78 #[.func (.func 84) #[] #[]] (0, 0) _ rfl ?_ Tryd.underlying78 rfl (by kernel_rfl)) rfl ⟨rfl, ?_⟩
  · exact heap_alloc_new _ _
  · exact below_alloc (Below.refl _ _) _

theorem bs_eta (b : ByteArray) : (⟨b.data.toList.toArray⟩ : ByteArray) = b := by cases b; simp
theorem fld78 (f : FuncId) (w : World) : (Instr.field 78 (.agg #[.func (.func f) #[] #[]]) 0).run Tryd.prog w = .ok (.func (.func f) #[] #[]) w := by kernel_rfl
theorem cells_join (o t : ByteArray) : Lib.byteCells (o ++ t).data.toList = Lib.byteCells o.data.toList ++ Lib.byteCells t.data.toList := by
  rw [ByteArray.data_append, Array.toList_append]
  unfold Lib.byteCells
  rw [List.map_append]
/-- a piece that begins at a place -/
def quote_Read.one (k : Nat) (s : ByteArray) (p : Nat) : Option (ByteArray × Int × Int) :=
  if bt s p = 92 then quote_escape.f k (s.extract p s.size) else quote_plain.f (s.extract p s.size)
def quote_Read.l0 : Nat → ByteArray → ByteArray → Nat → Option (ByteArray × Int × Int)
  | 0, _, _, _ => none
  | k + 1, s, o, p => if p = s.size then some (⟨#[]⟩, 0, 71) else if s.size < p then none else if bt s p = 34 then some (o, (p : Int) + 1, 0) else if bt s p < 32 then some (⟨#[]⟩, 0, 72) else
      (quote_Read.one k s p).bind fun r => if r.2.2 = 0 then (if o.size + r.1.size ≤ 140737488355328 then (if 0 ≤ r.2.1 then (if (p : Int) + r.2.1 ≤ s.size then quote_Read.l0 k s (o ++ r.1) (p + r.2.1.toNat) else none) else none) else none) else some (⟨#[]⟩, 0, r.2.2)
def quote_Read.f (k : Nat) (s : ByteArray) : Option (ByteArray × Int × Int) :=
  if s.size ≤ 4611686018427387904 then (if s.size = 0 then some (⟨#[]⟩, 0, 70) else if bt s 0 = 34 then quote_Read.l0 k s ⟨#[]⟩ 1 else some (⟨#[]⟩, 0, 70)) else none

set_option maxHeartbeats 4000000 in
set_option maxRecDepth 100000 in
theorem read_loop (k : Nat) (s : ByteArray) (r1 : ByteArray) (r2 r3 : Int) (w : World) (ht : Tabs w) (hs : s.size ≤ 4611686018427387904) (h0 : s.size ≠ 0) (hq : bt s 0 = 34) (h : quote_Read.l0 k s ⟨#[]⟩ 1 = some (r1, r2, r3)) :
    Calls Tryd.prog 35 #[.string s] w fun e w' => e = .returned (.tuple #[.string r1, .int .i64 r2, .int .i64 r3]) ∧ Below w.heap.size w w' := by
  have HT := Aside0.mk ht
  have HQ := Aside0.mk hq
  have HL := Aside0.mk h
  have NB := Aside0.mk (builder_new w)
  have hz := hz68
  have hE : (s.toList == ([] : List UInt8)) = false := by
    rw [beq_eq_false_iff_ne, Lib.toList_data]
    intro e; apply h0; rw [← data_length, e]; rfl
  have hb : (bt s 0 != 34) = false := bne_eq_false_iff_eq.mpr hq
  have hx : ∀ h : 0 < s.size, ((s[0]'h).toNat : Int) = bt s 0 := bt_at s 0
  have q0 : (0 < s.size) = True := eq_true (by omega)
  have q1 : (0 < (s.size : Int)) = True := eq_true (by omega)
  clear ht h hq
  go_enter Tryd.func35, Tryd.ntmps35
  go_wp2_with fail
  go_step3
  go_wp2_with fail
  go_step3
  go_wp2_with fail
  clear hz hE hb hx q0 q1
  go_loopg [6] k (fun kq v6 wr => ∃ (p : Nat) (o : ByteArray), v6 = .int .i64 p ∧ Aside0 (quote_Read.l0 kq s o p = some (r1, r2, r3)) ∧ Aside0 (Lib.IsBuilder 68 5 w.heap.size w.heap.size (Lib.byteCells o.data.toList) wr) ∧ Aside0 (Below w.heap.size w wr))
  case atStart => exact ⟨1, ⟨#[]⟩, rfl, HL, NB, ⟨below_alloc (Below.refl _ _) _⟩⟩
  case round =>
    obtain ⟨p, o, rfl, HA, HI, HB⟩ := hrel
    cases gk with
    | zero => exact absurd HA.out (by simp [quote_Read.l0])
    | succ k1 =>
      have H := HA.out
      clear HA
      simp only [quote_Read.l0] at H
      by_cases e1 : p = s.size
      · rw [if_pos e1] at H
        subst e1
        cases H
        have c1 : ((s.size : Int) == (s.size : Int)) = true := beq_self_eq_true _
        go_wp2_with fail
        simp only [Exit.noGoto_ret]
        go_ret3
        exact ⟨rfl, HB.out⟩
      · rw [if_neg e1] at H
        by_cases e2 : s.size < p
        · rw [if_pos e2] at H; cases H
        · rw [if_neg e2] at H
          have hlt : p < s.size := by omega
          have c1 : ((p : Int) == (s.size : Int)) = false := beq_eq_false_iff_ne.mpr (by omega)
          have hx : ∀ h : p < s.size, ((s[p]'h).toNat : Int) = bt s (p : Int) := fun h => bt_at s (p : Int) h
          by_cases e3 : bt s (p : Int) = 34
          · rw [if_pos e3] at H
            cases H
            have c3 : (bt s (p : Int) == 34) = true := beq_iff_eq.mpr e3
            clear e3
            go_wp2_with (first
              | (go_at_call 55; refine (Tryd.Builder_String_any w.heap.size w.heap.size r1.data.toList _ HI.out HB.out.size).mono ?_; rintro e w4 ⟨rfl, F2⟩))
            simp only [Exit.noGoto_ret]
            go_ret3
            exact ⟨rfl, HB.out.trans F2⟩
          · rw [if_neg e3] at H
            have c3 : (bt s (p : Int) == 34) = false := beq_eq_false_iff_ne.mpr e3
            by_cases e4 : bt s (p : Int) < 32
            · rw [if_pos e4] at H
              cases H
              have c4 : decide (bt s (p : Int) < 32) = true := decide_eq_true e4
              clear e3 e4
              go_wp2_with fail
              simp only [Exit.noGoto_ret]
              go_ret3
              exact ⟨rfl, HB.out⟩
            · rw [if_neg e4] at H
              have c4 : decide (bt s (p : Int) < 32) = false := decide_eq_false e4
              clear e3 e4
              replace H := Option.bind_eq_some_iff.mp H
              obtain ⟨⟨t, n, er⟩, hone, H⟩ := H
              simp only at H
              unfold quote_Read.one at hone
              have q1 : (0 ≤ (p : Int)) = True := eq_true (by omega)
              have q2 : ((p : Int) ≤ (s.size : Int)) = True := eq_true (by omega)
              have HH := Aside0.mk H
              clear H
              by_cases e5 : bt s (p : Int) = 92
              · rw [if_pos e5] at hone
                rw [e5] at hx c3 c4
                have hfl := fld78 83
                have HO := Aside0.mk hone
                clear hone e5
                go_wp2_with fail
                go_region_held3 (fun w' => Below wr.heap.size wr w')
                  (first
                    | assumption
                    | exact below_drew (Below.refl _ _)
                    | exact below_drew (by assumption)
                    | exact below_alloc (by assumption) _)
                  (first
                    | (go_at_call 61; refine (of_slash _).mono ?_; rintro e w' ⟨rfl, hb⟩; have hB2 := below_step ‹Below wr.heap.size wr _› hb)
                    | (go_at_call 83; refine (quote_escape.calls k1 _ t n er _ HO.out).mono ?_; rintro e w' ⟨rfl, ⟨nd, rfl⟩⟩; have hB2 := pw_below_drewN ‹Below wr.heap.size wr _› nd))
                have HW : Aside0 (Below wr.heap.size wr (w'.drewN nd)) := ⟨hB2⟩
                clear hB2
                generalize w'.drewN nd = W at HW ⊢
                have H := HH.out
                clear HH HO
                by_cases z : er = 0
                · subst z
                  rw [if_pos rfl] at H
                  by_cases z1 : o.size + t.size ≤ 140737488355328
                  · rw [if_pos z1] at H
                    by_cases z2 : 0 ≤ n
                    · rw [if_pos z2] at H
                      obtain ⟨m, rfl⟩ : ∃ m : Nat, n = m := ⟨n.toNat, by omega⟩
                      by_cases z3 : (p : Int) + (m : Int) ≤ s.size
                      · rw [if_pos z3, Int.toNat_natCast] at H
                        have H' := Aside0.mk H
                        clear H
                        have HZ : Aside0 (w.heap.size ≤ W.heap.size) := ⟨Nat.le_trans HB.out.size HW.out.size⟩
                        have HL1 : Aside0 ((Lib.byteCells o.data.toList).length + t.size ≤ 140737488355328) := ⟨by rw [Lib.byteCells_length, data_length]; exact z1⟩
                        clear z1
                        go_wp2_with (first
                          | (go_at_call 54; refine (Tryd.Builder_WriteString w.heap.size w.heap.size (Lib.byteCells o.data.toList) t _ (builder_below HI.out HW.out) HL1.out HZ.out).mono ?_; rintro e w4 ⟨rfl, E1, E2⟩))
                        go_roundg k1
                        case measure => omega
                        case rel => exact ⟨p + m, o ++ t, by go_num, H', ⟨by rw [cells_join]; exact .inr E1⟩, ⟨(HB.out.trans (HW.out.mono HB.out.size)).trans E2⟩⟩
                      · rw [if_neg z3] at H; cases H
                    · rw [if_neg z2] at H; cases H
                  · rw [if_neg z1] at H; cases H
                · rw [if_neg z] at H
                  have c9 : (er != 0) = true := bne_iff_ne.mpr z
                  cases H
                  go_wp2_with fail
                  simp only [Exit.noGoto_ret]
                  go_ret3
                  exact ⟨rfl, HB.out.trans (HW.out.mono HB.out.size)⟩
              · rw [if_neg e5] at hone
                have H5 := Aside0.mk e5
                have hfl := fld78 84
                have HO := Aside0.mk hone
                clear hone e5
                go_wp2_with fail
                go_region_held3 (fun w' => Below wr.heap.size wr w')
                  (first
                    | assumption
                    | exact below_drew (Below.refl _ _)
                    | exact below_drew (by assumption)
                    | exact below_alloc (by assumption) _)
                  (first
                    | (go_at_call 61; refine (of_other _ _ H5.out).mono ?_; rintro e w' ⟨rfl, hb⟩; have hB2 := below_step ‹Below wr.heap.size wr _› hb)
                    | (go_at_call 84; refine (quote_plain.calls _ t n er _ HO.out (Tabs.step HT.out (HB.out.trans (Below.mono ‹Below wr.heap.size wr _› HB.out.size)))).mono ?_; rintro e w' ⟨rfl, hb⟩; have hB2 := below_step ‹Below wr.heap.size wr _› hb))
                have HW : Aside0 (Below wr.heap.size wr (w')) := ⟨hB2⟩
                clear hB2
                generalize w' = W at HW ⊢
                have H := HH.out
                clear HH HO
                by_cases z : er = 0
                · subst z
                  rw [if_pos rfl] at H
                  by_cases z1 : o.size + t.size ≤ 140737488355328
                  · rw [if_pos z1] at H
                    by_cases z2 : 0 ≤ n
                    · rw [if_pos z2] at H
                      obtain ⟨m, rfl⟩ : ∃ m : Nat, n = m := ⟨n.toNat, by omega⟩
                      by_cases z3 : (p : Int) + (m : Int) ≤ s.size
                      · rw [if_pos z3, Int.toNat_natCast] at H
                        have H' := Aside0.mk H
                        clear H
                        have HZ : Aside0 (w.heap.size ≤ W.heap.size) := ⟨Nat.le_trans HB.out.size HW.out.size⟩
                        have HL1 : Aside0 ((Lib.byteCells o.data.toList).length + t.size ≤ 140737488355328) := ⟨by rw [Lib.byteCells_length, data_length]; exact z1⟩
                        clear z1
                        go_wp2_with (first
                          | (go_at_call 54; refine (Tryd.Builder_WriteString w.heap.size w.heap.size (Lib.byteCells o.data.toList) t _ (builder_below HI.out HW.out) HL1.out HZ.out).mono ?_; rintro e w4 ⟨rfl, E1, E2⟩))
                        go_roundg k1
                        case measure => omega
                        case rel => exact ⟨p + m, o ++ t, by go_num, H', ⟨by rw [cells_join]; exact .inr E1⟩, ⟨(HB.out.trans (HW.out.mono HB.out.size)).trans E2⟩⟩
                      · rw [if_neg z3] at H; cases H
                    · rw [if_neg z2] at H; cases H
                  · rw [if_neg z1] at H; cases H
                · rw [if_neg z] at H
                  have c9 : (er != 0) = true := bne_iff_ne.mpr z
                  cases H
                  go_wp2_with fail
                  simp only [Exit.noGoto_ret]
                  go_ret3
                  exact ⟨rfl, HB.out.trans (HW.out.mono HB.out.size)⟩

set_option maxHeartbeats 4000000 in
set_option maxRecDepth 100000 in
theorem read_none (s : ByteArray) (w : World) (h : s.size = 0) :
    Calls Tryd.prog 35 #[.string s] w fun e w' => e = .returned (.tuple #[.string ⟨#[]⟩, .int .i64 0, .int .i64 70]) ∧ Below w.heap.size w w' := by
  have hE : (s.toList == ([] : List UInt8)) = true := by
    rw [beq_iff_eq, Lib.toList_data]
    exact List.eq_nil_of_length_eq_zero (by rw [data_length]; exact h)
  go_enter Tryd.func35, Tryd.ntmps35
  go_wp2_with fail
  go_step3
  go_wp2_with fail
  simp only [Exit.noGoto_ret]
  go_ret3
  exact ⟨rfl, Below.refl _ _⟩
set_option maxHeartbeats 4000000 in
set_option maxRecDepth 100000 in
theorem read_not (s : ByteArray) (w : World) (h0 : s.size ≠ 0) (hq : bt s 0 ≠ 34) :
    Calls Tryd.prog 35 #[.string s] w fun e w' => e = .returned (.tuple #[.string ⟨#[]⟩, .int .i64 0, .int .i64 70]) ∧ Below w.heap.size w w' := by
  have hE : (s.toList == ([] : List UInt8)) = false := by
    rw [beq_eq_false_iff_ne, Lib.toList_data]
    intro e; apply h0; rw [← data_length, e]; rfl
  have hb : (bt s 0 != 34) = true := bne_iff_ne.mpr hq
  have hx : ∀ h : 0 < s.size, ((s[0]'h).toNat : Int) = bt s 0 := bt_at s 0
  have q0 : (0 < s.size) = True := eq_true (by omega)
  have q1 : (0 < (s.size : Int)) = True := eq_true (by omega)
  clear hq
  go_enter Tryd.func35, Tryd.ntmps35
  go_wp2_with fail
  go_step3
  go_wp2_with fail
  simp only [Exit.noGoto_ret]
  go_ret3
  exact ⟨rfl, Below.refl _ _⟩
theorem quote_Read.calls (k : Nat) (a0 : ByteArray) (r1 : ByteArray) (r2 r3 : Int) (w : World) (h : quote_Read.f k a0 = some (r1, r2, r3)) (ht : Tabs w := by first | assumption | (refine Tabs.step (by assumption) ?_; repeat (first | exact Aside0.out (by assumption) | apply below_alloc | apply pw_below_drewN | apply below_drew1 | exact Below.refl _ _))) :
    Calls Tryd.prog 35 #[.string a0] w fun e w' => e = .returned (.tuple #[.string r1, .int .i64 r2, .int .i64 r3]) ∧ Below w.heap.size w w' := by
  unfold quote_Read.f at h
  split at h
  · rename_i hs
    split at h
    · rename_i h0; cases h; exact read_none a0 w h0
    · rename_i h0
      split at h
      · rename_i hq; exact read_loop k a0 r1 r2 r3 w ht hs h0 hq h
      · rename_i hq; cases h; exact read_not a0 w h0 hq
  · cases h
theorem quote_Read.one_mono (k : Nat) (s : ByteArray) (p : Nat) : LeO (quote_Read.one k s p) (quote_Read.one (k + 1) s p) := by
  unfold quote_Read.one
  exact LeO.ite (quote_escape.mono _ _) (LeO.refl _)
theorem quote_Read.mono_l : ∀ k, ∀ s o p, LeO (quote_Read.l0 k s o p) (quote_Read.l0 (k + 1) s o p)
  | 0 => fun _ _ _ r h => by simp [quote_Read.l0] at h
  | k + 1 => by
    have ih := quote_Read.mono_l k
    intro s o p
    unfold quote_Read.l0
    refine LeO.ite (LeO.refl _) (LeO.ite (LeO.refl _) (LeO.ite (LeO.refl _) (LeO.ite (LeO.refl _) (LeO.bind (quote_Read.one_mono _ _ _) fun _ => LeO.ite (LeO.ite (LeO.ite (LeO.ite (ih _ _ _) (LeO.refl _)) (LeO.refl _)) (LeO.refl _)) (LeO.refl _)))))
theorem quote_Read.mono : ∀ a0 k, LeO (quote_Read.f k a0) (quote_Read.f (k + 1) a0) := by
  intro a0 k
  unfold quote_Read.f
  exact LeO.ite (LeO.ite (LeO.refl _) (LeO.ite (quote_Read.mono_l _ _ _ _) (LeO.refl _))) (LeO.refl _)
end Go.Proofs.YthhmmaihbjhhgaaDoor.Giv
