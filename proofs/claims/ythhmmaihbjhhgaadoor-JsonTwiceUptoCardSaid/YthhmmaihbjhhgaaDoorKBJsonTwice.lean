/- What the proof of JsonTwice stands on: cut and merged by a program out of this session's texts. -/
import Derived.Test.YthhmmaihbjhhgaaDoorKB6
import Derived.WalkMore
import Derived.OneCell
import Derived.OpenShut
set_option linter.unusedVariables false
set_option linter.unusedSimpArgs false
namespace Go.Proofs.YthhmmaihbjhhgaaDoor.Giv
open Go.RowKit Go.Proofs.YthhmmaihbjhhgaaDoorW.PrintWords Go.Proofs.YthhmmaihbjhhgaaDoorW.PrintLast Go.Proofs.YthhmmaihbjhhgaaDoorW.PrintMore
open Go.Proofs.YthhmmaihbjhhgaaDoor.U1 Go.Proofs.YthhmmaihbjhhgaaDoor.Q1 Go.Proofs.YthhmmaihbjhhgaaDoor.J0 Go.Proofs.YthhmmaihbjhhgaaDoor.J1
set_option linter.unusedSimpArgs false
set_option linter.unusedVariables false
theorem cont_eq (L L' : B → Int × B × List S59) (l : B) (ob : Bool) (hL : ∀ x, (L x).1 ≠ -1 → L' x = L x) (h : (cont L l ob).1 ≠ -1) : cont L' l ob = cont L l ob := by
  unfold cont at h ⊢
  split
  · rfl
  · next c =>
    rw [if_neg c] at h
    split
    · next c2 => rw [if_pos c2] at h; exact hL _ h
    · rfl
theorem pma_eq (L L' : B → Int × B × List S59) (V V' : Int × B × List S59) (ob : Bool) (hV : V.1 ≠ -1 → V' = V) (hL : ∀ x, (L x).1 ≠ -1 → L' x = L x) (h : (pma L V ob).1 ≠ -1) : pma L' V' ob = pma L V ob := by
  have h0 := h
  unfold pma at h
  by_cases c : V.1 = 0
  · rw [if_pos c] at h
    rw [hV (by omega)]
    unfold pma
    rw [if_pos c, if_pos c, cont_eq L L' _ ob hL h]
  · rw [if_neg c] at h
    rw [hV h]
    unfold pma
    rw [if_neg c, if_neg c]
theorem p_fuel : ∀ n : Nat, (∀ l d key, (pv n l d key).1 ≠ -1 → pv (n + 1) l d key = pv n l d key) ∧ (∀ l d ob, (pms n l d ob).1 ≠ -1 → pms (n + 1) l d ob = pms n l d ob) ∧ (∀ l d ob keys, (pml n l d ob keys).1 ≠ -1 → pml (n + 1) l d ob keys = pml n l d ob keys)
  | 0 => ⟨fun l d key h => absurd (by rw [pv]) h, fun l d ob h => absurd (by rw [pms]) h, fun l d ob keys h => absurd (by rw [pml]) h⟩
  | n + 1 => by
    obtain ⟨hv, hm, hl⟩ := p_fuel n
    refine ⟨fun l d key h => ?_, fun l d ob h => ?_, fun l d ob keys h => ?_⟩
    · rw [pv] at h
      rw [pv, pv.eq_2 l d key n]
      by_cases c1 : hd l = 91
      · rw [if_pos c1] at h ⊢
        rw [if_pos c1]
        by_cases c2 : 64 ≤ d
        · rw [if_pos c2, if_pos c2]
        · rw [if_neg c2] at h ⊢
          rw [if_neg c2, hm _ _ _ h]
      · rw [if_neg c1] at h ⊢
        rw [if_neg c1]
        by_cases c2 : hd l = 123
        · rw [if_pos c2] at h ⊢
          rw [if_pos c2]
          by_cases c3 : 64 ≤ d
          · rw [if_pos c3, if_pos c3]
          · rw [if_neg c3] at h ⊢
            rw [if_neg c3, hm _ _ _ h]
        · rw [if_neg c2] at h ⊢
          rw [if_neg c2]
    · rw [pms] at h
      rw [pms, pms.eq_2 l d ob n]
      by_cases c : (tk1 l (en ob)).1 = true
      · rw [if_pos c, if_pos c]
      · rw [if_neg c] at h ⊢
        rw [if_neg c, hl _ _ _ _ h]
    · rw [pml] at h
      rw [pml, pml.eq_2 l d ob keys n]
      cases ob with
      | true =>
        rw [if_pos rfl] at h ⊢
        rw [if_pos rfl]
        by_cases c : (pk l keys).2.2 = 0
        · rw [if_pos c] at h ⊢
          rw [if_pos c]
          exact pma_eq _ _ _ _ _ (hv _ _ _) (fun x hx => hl _ _ _ _ hx) h
        · rw [if_neg c, if_neg c]
      | false =>
        rw [if_neg (by decide)] at h ⊢
        rw [if_neg (by decide)]
        exact pma_eq _ _ _ _ _ (hv _ _ _) (fun x hx => hl _ _ _ _ hx) h
theorem pv_up (n m : Nat) (l : B) (d : Nat) (key : ByteArray) (h : 3 * l.length + 1 ≤ n) (hm : n ≤ m) : pv m l d key = pv n l d key := by
  obtain ⟨j, rfl⟩ : ∃ j, m = n + j := ⟨m - n, by omega⟩
  clear hm
  induction j with
  | zero => rfl
  | succ j ih => rw [← ih]; exact (p_fuel (n + j)).1 l d key ((p_total (n + j)).1 l d key (by omega))
end Go.Proofs.YthhmmaihbjhhgaaDoor.Giv
namespace Go.Proofs.YthhmmaihbjhhgaaDoor.Giv
open Go.RowKit Go.Proofs.YthhmmaihbjhhgaaDoorW.PrintWords Go.Proofs.YthhmmaihbjhhgaaDoorW.PrintLast Go.Proofs.YthhmmaihbjhhgaaDoorW.PrintMore
open Go.Proofs.YthhmmaihbjhhgaaDoor.U1 Go.Proofs.YthhmmaihbjhhgaaDoor.Q1 Go.Proofs.YthhmmaihbjhhgaaDoor.J0 Go.Proofs.YthhmmaihbjhhgaaDoor.J1
set_option linter.unusedSimpArgs false
set_option linter.unusedVariables false
theorem size_mk (l : B) : (⟨l.toArray⟩ : ByteArray).size = l.length := by show l.toArray.size = _; rw [List.size_toArray]
end Go.Proofs.YthhmmaihbjhhgaaDoor.Giv
namespace Go.Proofs.YthhmmaihbjhhgaaDoor.Giv
open Go.RowKit Go.Proofs.YthhmmaihbjhhgaaDoorW.PrintWords Go.Proofs.YthhmmaihbjhhgaaDoorW.PrintLast Go.Proofs.YthhmmaihbjhhgaaDoorW.PrintMore
open Go.Proofs.YthhmmaihbjhhgaaDoor.U1 Go.Proofs.YthhmmaihbjhhgaaDoor.Q1 Go.Proofs.YthhmmaihbjhhgaaDoor.J0 Go.Proofs.YthhmmaihbjhhgaaDoor.J1
set_option linter.unusedSimpArgs false
set_option linter.unusedVariables false
set_option maxHeartbeats 4000000
set_option maxRecDepth 100000
theorem C_one59 (w : World) (a b : Int) (s t : ByteArray) (n : Int) : Kd.C k59 ((w.alloc (.cells #[.int .i64 a, .int .i64 b, .string s, .string t, .int .i64 n] 59)).drew) (some ⟨w.heap.size, 0, none⟩) 1 [⟨a, b, s, t, n⟩] := by
  refine Kd.C_drew ⟨rfl, by decide, fun _ => ⟨_, rfl, fun j p hj => ?_⟩⟩
  match j, hj with
  | 0, hj =>
    cases hj
    refine ⟨_, rfl, k59_mk _ _, fun i u hi => ?_⟩
    have hc : ∀ i, (w.alloc (.cells #[.int .i64 a, .int .i64 b, .string s, .string t, .int .i64 n] 59)).cell? ⟨w.heap.size, i, none⟩ = (#[.int .i64 a, .int .i64 b, .string s, .string t, .int .i64 n] : Array Value)[i]? := fun i => by rw [World.cell?_alloc_new]
    match i, hi with
    | 0, hi => cases hi; exact hc 0
    | 1, hi => cases hi; exact hc 1
    | 2, hi => cases hi; exact hc 2
    | 3, hi => cases hi; exact hc 3
    | 4, hi => cases hi; exact hc 4
    | i + 5, hi => simp at hi
theorem twice_calls (K P : ByteArray) (n : Int) (B : Nat) (w : World) (ht : JTabs w) (hc : w.heap[B]? = some (.cells #[.string K] 9 (0, 0))) (hK : K.size ≤ 5000) (hPz : P.size ≤ 5000) (hp : json_Print.f [⟨0, 4, ⟨#[]⟩, ⟨#[]⟩, n⟩] = some P) :
    Calls Tryd.prog 48 #[.int .i64 n, .pointer (some ⟨B, 0, none⟩)] w fun e w' => e = .returned (.string (K ++ ⟨#[58]⟩ ++ P)) ∧ Below w.heap.size w w' := by
  have hcell := cell_of_one hc
  have hBlt := lt_of_block hc
  have hb1 : Below w.heap.size w ((w.alloc (.cells #[.int .i64 0, .int .i64 4, .string ⟨#[]⟩, .string ⟨#[]⟩, .int .i64 n] 59)).drew) := below_drew (below_alloc (Below.refl _ _) _)
  have F47 : Aside0 (Calls Tryd.prog 47 #[.slice (some ⟨w.heap.size, 0, none⟩) 1 1] ((w.alloc (.cells #[.int .i64 0, .int .i64 4, .string ⟨#[]⟩, .string ⟨#[]⟩, .int .i64 n] 59)).drew) fun e w' => e = .returned (.string P) ∧ Below ((w.alloc (.cells #[.int .i64 0, .int .i64 4, .string ⟨#[]⟩, .string ⟨#[]⟩, .int .i64 n] 59)).drew).heap.size ((w.alloc (.cells #[.int .i64 0, .int .i64 4, .string ⟨#[]⟩, .string ⟨#[]⟩, .int .i64 n] 59)).drew) w') := ⟨json_Print.calls (some ⟨w.heap.size, 0, none⟩) 1 [⟨0, 4, ⟨#[]⟩, ⟨#[]⟩, n⟩] P _ (C_one59 w 0 4 ⟨#[]⟩ ⟨#[]⟩ n) (Nat.le_refl _) hp (ht.step hb1)⟩
  have hcell1 : ((w.alloc (.cells #[.int .i64 0, .int .i64 4, .string ⟨#[]⟩, .string ⟨#[]⟩, .int .i64 n] 59)).drew).cell? ⟨B, 0, none⟩ = some (.string K) := (World.cell?_alloc_lt w _ ⟨B, 0, none⟩ hBlt).trans hcell
  have HC := Aside0.mk hcell1
  have HW := Aside0.mk hb1
  have q1 : (9223372036854775807 < K.size + 1) = False := eq_false (by omega)
  have q2 : (9223372036854775807 < K.size + 1 + P.size) = False := eq_false (by omega)
  clear hp ht hb1 hcell1
  go_enter Tryd.func48, Tryd.ntmps48
  go_wp2_with fail
  refine wp_region_held_drew (S := fun w' => Below w.heap.size w w' ∧ w'.cell? ⟨B, 0, none⟩ = some (.string K)) (by kernel_rfl) ⟨below_drew (Below.refl _ _), hcell⟩ (fun hHeld => ?_)
  refine wpAnyH_take (i := 0) (oi := { dst := some 4, op := _, type := _, pos := _, after := _, guard := _ }) (v := ?_) rfl (by kernel_rfl) (by kernel_rfl) (by kernel_rfl) (fun _ _ _ h => h) (Or.inl ⟨by rfl, ?_⟩) (by assumption) ?_
  rotate_left
  · intro w hSw
    (try dsimp only at hSw)
    go_simp
    (try with_reducible rfl)
  (try simp only [Act.put, List.setIfInBounds_toArray, List.set_cons_zero, List.set_cons_succ])
  refine wpAnyH_take (i := 1) (oi := { dst := some 5, op := _, type := _, pos := _, after := _, guard := _ }) (v := ?_) rfl (by kernel_rfl) (by kernel_rfl) (by kernel_rfl) (fun _ _ _ h => h) (Or.inl ⟨by rfl, ?_⟩) (by assumption) ?_
  rotate_left
  · intro w hSw
    (try dsimp only at hSw)
    go_simp
    (try with_reducible rfl)
  (try simp only [Act.put, List.setIfInBounds_toArray, List.set_cons_zero, List.set_cons_succ])
  refine wpAnyH_take (i := 2) (oi := { dst := some 6, op := _, type := _, pos := _, after := _, guard := _ }) (v := ?_) rfl (by kernel_rfl) (by kernel_rfl) (by kernel_rfl) (fun _ _ _ h => h) (Or.inl ⟨by rfl, ?_⟩) (by assumption) ?_
  rotate_left
  · intro w hSw
    (try dsimp only at hSw)
    go_simp
    (try with_reducible rfl)
  (try simp only [Act.put, List.setIfInBounds_toArray, List.set_cons_zero, List.set_cons_succ])
  refine wpAnyH_take (i := 3) (oi := { dst := some 7, op := _, type := _, pos := _, after := _, guard := _ }) (v := ?_) rfl (by kernel_rfl) (by kernel_rfl) (by kernel_rfl) (fun _ _ _ h => h) (Or.inl ⟨by rfl, ?_⟩) (by assumption) ?_
  rotate_left
  · intro w hSw
    (try dsimp only at hSw)
    go_simp
    (try with_reducible rfl)
  (try simp only [Act.put, List.setIfInBounds_toArray, List.set_cons_zero, List.set_cons_succ])
  refine wpAnyH_ready (rs := [4]) (by kernel_rfl) (by simp) ?_
  refine AllReadyH.cons (o := { dst := some 8, op := _, type := _, pos := _, after := _, guard := _ }) rfl (fun K hK => ?_) AllReadyH.nil
  go_simp
  refine hK.out _ _ ?_ (fun hHeld => ?_)
  · exact ⟨HW.out, HC.out⟩
  clear hK K
  (try simp only [Act.put, List.setIfInBounds_toArray, List.set_cons_zero, List.set_cons_succ])
  refine wpAnyH_ready (rs := [5]) (by kernel_rfl) (by simp) ?_
  refine AllReadyH.cons (o := { dst := some 9, op := _, type := _, pos := _, after := _, guard := _ }) rfl (fun K hK => ?_) AllReadyH.nil
  go_simp
  (go_at_call 47; with_reducible refine F47.out.mono ?_; rintro e w5 ⟨rfl, hb5⟩)
  refine hK.out _ _ ?_ (fun hHeld => ?_)
  · exact ⟨below_step HW.out hb5, (hb5.cell (World.block_lt_of_cell? _ _ HC.out)).trans HC.out⟩
  clear hK K
  (try simp only [Act.put, List.setIfInBounds_toArray, List.set_cons_zero, List.set_cons_succ])
  refine wpAnyH_take (i := 6) (oi := { dst := some 10, op := _, type := _, pos := _, after := _, guard := _ }) (v := ?_) rfl (by kernel_rfl) (by kernel_rfl) (by kernel_rfl) (fun _ _ _ h => h) (Or.inl ⟨by rfl, ?_⟩) (by assumption) ?_
  rotate_left
  · intro w hSw
    (try dsimp only at hSw)
    go_simp
    (try with_reducible rfl)
  (try simp only [Act.put, List.setIfInBounds_toArray, List.set_cons_zero, List.set_cons_succ])
  refine wpAnyH_take (i := 7) (oi := { dst := some 3, op := _, type := _, pos := _, after := _, guard := _ }) (v := ?_) rfl (by kernel_rfl) (by kernel_rfl) (by kernel_rfl) (fun _ _ _ h => h) (Or.inl ⟨by rfl, ?_⟩) (by assumption) ?_
  rotate_left
  · intro w hSw
    (try dsimp only at hSw)
    go_simp
    (try with_reducible rfl)
  (try simp only [Act.put, List.setIfInBounds_toArray, List.set_cons_zero, List.set_cons_succ])
  refine wpAnyH_done (by kernel_rfl) ?_ _
  go_wp2_with fail
  go_ret
  exact ⟨rfl, below_step HW.out hb5⟩
end Go.Proofs.YthhmmaihbjhhgaaDoor.Giv
namespace Go.Proofs.YthhmmaihbjhhgaaDoor.Giv
open Go.RowKit Go.Proofs.YthhmmaihbjhhgaaDoorW.PrintWords Go.Proofs.YthhmmaihbjhhgaaDoorW.PrintLast Go.Proofs.YthhmmaihbjhhgaaDoorW.PrintMore
open Go.Proofs.YthhmmaihbjhhgaaDoor.U1 Go.Proofs.YthhmmaihbjhhgaaDoor.Q1 Go.Proofs.YthhmmaihbjhhgaaDoor.J0 Go.Proofs.YthhmmaihbjhhgaaDoor.J1
set_option linter.unusedSimpArgs false
set_option linter.unusedVariables false
set_option maxHeartbeats 4000000
set_option maxRecDepth 100000
abbrev Rt (f : Nat) (args : Array Value) (w : World) : Prop := Calls Tryd.prog f args w fun e w' => e = .returned (.bool true) ∧ Below w.heap.size w w'
theorem twice_no (k : Nat) (key A : ByteArray) (n m : Int) (w : World) (ht : JTabs w) (h : cracknelref07_Write.f k key = some (A, false)) : Rt 18 #[.string key, .int .i64 n, .int .i64 m] w := by
  have HT := Aside0.mk ht
  have FA := Aside0.mk h
  clear ht h
  have HB := Aside0.mk (Below.refl w.heap.size w)
  go_enter Tryd.func18, Tryd.ntmps18
  go_wp2_with (first
    | (go_at_call 34; with_reducible refine (cracknelref07_Write.calls k key A false _ FA.out).mono ?_; rintro e w1 ⟨rfl, hb⟩; have HB := Aside0.mk (below_alloc (below_step HB.out hb) (.cells #[.string A] 9)); clear hb)
    | (go_at_call 40; with_reducible refine (cracknellaw08_alive.calls true _ rfl (HT.out.step HB.out)).mono ?_; rintro e w1 ⟨rfl, hb⟩; have HB := Aside0.mk (below_step HB.out hb)))
  go_ret
  exact ⟨rfl, HB.out⟩
theorem twice_big (k : Nat) (key A : ByteArray) (n m : Int) (w : World) (ht : JTabs w) (hz : 200 < key.size) (h : cracknelref07_Write.f k key = some (A, true)) : Rt 18 #[.string key, .int .i64 n, .int .i64 m] w := by
  have HT := Aside0.mk ht
  have FA := Aside0.mk h
  have c1 : decide (200 < (key.size : Int)) = true := decide_eq_true (by omega)
  clear ht h
  have HB := Aside0.mk (Below.refl w.heap.size w)
  go_enter Tryd.func18, Tryd.ntmps18
  go_wp2_with (first
    | (go_at_call 34; with_reducible refine (cracknelref07_Write.calls k key A true _ FA.out).mono ?_; rintro e w1 ⟨rfl, hb⟩; have HB := Aside0.mk (below_alloc (below_step HB.out hb) (.cells #[.string A] 9)); clear hb)
    | (go_at_call 40; with_reducible refine (cracknellaw08_alive.calls true _ rfl (HT.out.step HB.out)).mono ?_; rintro e w1 ⟨rfl, hb⟩; have HB := Aside0.mk (below_step HB.out hb)))
  go_ret
  exact ⟨rfl, HB.out⟩
theorem twice_yes (k : Nat) (key K P Q : ByteArray) (n m : Int) (w0 : World) (ht : JTabs w0) (hz : key.size ≤ 200) (hKz : K.size ≤ 5000) (hPz : P.size ≤ 5000) (hQz : Q.size ≤ 5000) (h : cracknelref07_Write.f k key = some (K, true))
    (hp : json_Print.f [⟨0, 4, ⟨#[]⟩, ⟨#[]⟩, n⟩] = some P) (hq : json_Print.f [⟨0, 4, ⟨#[]⟩, ⟨#[]⟩, m⟩] = some Q)
    (h1 : json_Parse.f k ((⟨#[91, 123]⟩ : ByteArray) ++ (K ++ ⟨#[58]⟩ ++ P) ++ ⟨#[44]⟩ ++ (K ++ ⟨#[58]⟩ ++ Q) ++ ⟨#[125, 93]⟩) = some ([], 82))
    (h2 : json_Parse.f k ((⟨#[123]⟩ : ByteArray) ++ K ++ ⟨#[58, 123]⟩ ++ (K ++ ⟨#[58]⟩ ++ P) ++ ⟨#[125, 125]⟩) = some ([⟨0, 7, ⟨#[]⟩, ⟨#[]⟩, 0⟩, ⟨1, 7, key, ⟨#[]⟩, 0⟩, ⟨2, 4, key, ⟨#[]⟩, n⟩], 0)) : Rt 18 #[.string key, .int .i64 n, .int .i64 m] w0 := by
  have HT := Aside0.mk ht
  have FA := Aside0.mk h
  have F1 := Aside0.mk h1
  have F2 := Aside0.mk h2
  have FN : Aside0 (∀ (B : Nat) (w : World), JTabs w → w.heap[B]? = some (.cells #[.string K] 9 (0, 0)) → Calls Tryd.prog 48 #[.int .i64 n, .pointer (some ⟨B, 0, none⟩)] w fun e w' => e = .returned (.string (K ++ ⟨#[58]⟩ ++ P)) ∧ Below w.heap.size w w') := ⟨fun B w hj hc => twice_calls K P n B w hj hc hKz hPz hp⟩
  have FM : Aside0 (∀ (B : Nat) (w : World), JTabs w → w.heap[B]? = some (.cells #[.string K] 9 (0, 0)) → Calls Tryd.prog 48 #[.int .i64 m, .pointer (some ⟨B, 0, none⟩)] w fun e w' => e = .returned (.string (K ++ ⟨#[58]⟩ ++ Q)) ∧ Below w.heap.size w w') := ⟨fun B w hj hc => twice_calls K Q m B w hj hc hKz hQz hq⟩
  have c1 : decide (200 < (key.size : Int)) = false := decide_eq_false (by omega)
  have hu59 := Tryd.underlying59
  have hmf : ∀ (fn : Fn) (first cap : Array Value) (w : World), (Instr.makeFunc fn first cap).run Tryd.prog w = .ok (.func fn first cap) w := fun _ _ _ _ => rfl
  obtain ⟨kp, hkp⟩ : ∃ x, K ++ ⟨#[58]⟩ ++ P = x := ⟨_, rfl⟩
  obtain ⟨kq, hkq⟩ : ∃ x, K ++ ⟨#[58]⟩ ++ Q = x := ⟨_, rfl⟩
  have zp : kp.size ≤ 10001 := by rw [← hkp]; simp only [ByteArray.size_append]; show K.size + 1 + P.size ≤ _; omega
  have zq : kq.size ≤ 10001 := by rw [← hkq]; simp only [ByteArray.size_append]; show K.size + 1 + Q.size ≤ _; omega
  rw [hkp] at FN F1 F2
  rw [hkq] at FM F1
  have q1 : (9223372036854775807 < 2 + kp.size) = False := eq_false (by omega)
  have q2 : (9223372036854775807 < 2 + kp.size + 1) = False := eq_false (by omega)
  have q3 : (9223372036854775807 < 2 + kp.size + 1 + kq.size) = False := eq_false (by omega)
  have q4 : (9223372036854775807 < 2 + kp.size + 1 + kq.size + 2) = False := eq_false (by omega)
  have q5 : (9223372036854775807 < 1 + K.size) = False := eq_false (by omega)
  have q6 : (9223372036854775807 < 1 + K.size + 2) = False := eq_false (by omega)
  have q7 : (9223372036854775807 < 1 + K.size + 2 + kp.size) = False := eq_false (by omega)
  have q8 : (9223372036854775807 < 1 + K.size + 2 + kp.size + 2) = False := eq_false (by omega)
  clear ht h h1 h2 hp hq hkp hkq hz hKz hPz hQz zp zq
  have HB := Aside0.mk (Below.refl w0.heap.size w0)
  go_enter Tryd.func18, Tryd.ntmps18
  go_upto_region 6 with (first
    | (go_at_call 34; with_reducible refine (cracknelref07_Write.calls k key K true _ FA.out).mono ?_; rintro e w1 ⟨rfl, hb⟩; have HB := Aside0.mk (below_alloc (below_step HB.out hb) (.cells #[.string K] 9)); clear hb)
    | (go_at_call 48; with_reducible refine (FN.out w1.heap.size (w1.alloc _) (HT.out.step HB.out) (heap_alloc_new _ _)).mono ?_; rintro e w2 ⟨rfl, hb⟩; have HC := Aside0.mk ((hb.block w1.heap.size (lt_of_block (heap_alloc_new _ _))).trans (heap_alloc_new _ _)); have HB := Aside0.mk (below_step HB.out hb); clear hb)
    | (go_at_call 48; with_reducible refine (FM.out _ _ (HT.out.step HB.out) HC.out).mono ?_; rintro e w3 ⟨rfl, hb⟩; have HC := Aside0.mk ((hb.block _ (lt_of_block HC.out)).trans HC.out); have HB := Aside0.mk (below_step HB.out hb); clear hb)
    | (go_at_call 46; (with_reducible refine (json_Parse.calls k _ [] 82 _ F1.out (HT.out.step HB.out)).mono ?_); rintro e w4 ⟨v1, rfl, ho1, hb⟩; have HC := Aside0.mk ((hb.block _ (lt_of_block HC.out)).trans HC.out); have HB := Aside0.mk (below_step HB.out hb); clear ho1 hb))
  obtain ⟨B, hB⟩ : ∃ B, w1.heap.size = B := ⟨_, rfl⟩
  rw [hB] at HC ⊢
  have hcell := cell_of_one HC.out
  have HD : Aside0 (Below w4.heap.size w4 w4.drew ∧ w4.drew.heap[B]? = some (.cells #[.string K] 9 (0, 0))) := ⟨below_drew (Below.refl _ _), HC.out⟩
  have HC4 := Aside0.mk hcell
  refine wp_region_held_drew (S := fun w' => Below w4.heap.size w4 w' ∧ w'.cell? ⟨B, 0, none⟩ = some (.string K)) (by kernel_rfl) ⟨HD.out.1, hcell⟩ (fun hHeld => ?_)
  refine wpAnyH_take (i := 0) (oi := { dst := some 43, op := _, type := _, pos := _, after := _, guard := _ }) (v := ?_) rfl (by kernel_rfl) (by kernel_rfl) (by kernel_rfl) (fun _ _ _ h => h) (Or.inl ⟨by rfl, ?_⟩) (by assumption) ?_
  rotate_left
  · intro w hSw
    (try dsimp only at hSw)
    go_simp
    (try with_reducible rfl)
  (try simp only [Act.put, List.setIfInBounds_toArray, List.set_cons_zero, List.set_cons_succ])
  refine wpAnyH_take (i := 1) (oi := { dst := some 44, op := _, type := _, pos := _, after := _, guard := _ }) (v := ?_) rfl (by kernel_rfl) (by kernel_rfl) (by kernel_rfl) (fun _ _ _ h => h) (Or.inl ⟨by rfl, ?_⟩) (by assumption) ?_
  rotate_left
  · intro w hSw
    (try dsimp only at hSw)
    go_simp
    (try with_reducible rfl)
  (try simp only [Act.put, List.setIfInBounds_toArray, List.set_cons_zero, List.set_cons_succ])
  refine wpAnyH_take (i := 2) (oi := { dst := some 45, op := _, type := _, pos := _, after := _, guard := _ }) (v := ?_) rfl (by kernel_rfl) (by kernel_rfl) (by kernel_rfl) (fun _ _ _ h => h) (Or.inl ⟨by rfl, ?_⟩) (by assumption) ?_
  rotate_left
  · intro w hSw
    (try dsimp only at hSw)
    go_simp
    (try with_reducible rfl)
  (try simp only [Act.put, List.setIfInBounds_toArray, List.set_cons_zero, List.set_cons_succ])
  refine wpAnyH_take (i := 3) (oi := { dst := some 46, op := _, type := _, pos := _, after := _, guard := _ }) (v := ?_) rfl (by kernel_rfl) (by kernel_rfl) (by kernel_rfl) (fun _ _ _ h => h) (Or.inl ⟨by rfl, ?_⟩) (by assumption) ?_
  rotate_left
  · intro w hSw
    (try dsimp only at hSw)
    go_simp
    (try with_reducible rfl)
  (try simp only [Act.put, List.setIfInBounds_toArray, List.set_cons_zero, List.set_cons_succ])
  refine wpAnyH_take (i := 4) (oi := { dst := some 47, op := _, type := _, pos := _, after := _, guard := _ }) (v := ?_) rfl (by kernel_rfl) (by kernel_rfl) (by kernel_rfl) (fun _ _ _ h => h) (Or.inl ⟨by rfl, ?_⟩) (by assumption) ?_
  rotate_left
  · intro w hSw
    (try dsimp only at hSw)
    go_simp
    (try with_reducible rfl)
  (try simp only [Act.put, List.setIfInBounds_toArray, List.set_cons_zero, List.set_cons_succ])
  refine wpAnyH_ready (rs := [5]) (by kernel_rfl) (by simp) ?_
  refine AllReadyH.cons (o := { dst := some 48, op := _, type := _, pos := _, after := _, guard := _ }) rfl (fun K hK => ?_) AllReadyH.nil
  go_simp
  (go_at_call 48; with_reducible refine (FN.out B _ (HT.out.step (below_step HB.out HD.out.1)) HD.out.2).mono ?_; rintro e w5 ⟨rfl, hb⟩; have HE := Aside0.mk (below_step HD.out.1 hb); clear hb)
  refine hK.out _ _ ?_ (fun hHeld => ?_)
  · exact ⟨HE.out, (HE.out.cell (World.block_lt_of_cell? _ _ HC4.out)).trans HC4.out⟩
  clear hK K
  (try simp only [Act.put, List.setIfInBounds_toArray, List.set_cons_zero, List.set_cons_succ])
  refine wpAnyH_take (i := 6) (oi := { dst := some 49, op := _, type := _, pos := _, after := _, guard := _ }) (v := ?_) rfl (by kernel_rfl) (by kernel_rfl) (by kernel_rfl) (fun _ _ _ h => h) (Or.inl ⟨by rfl, ?_⟩) (by assumption) ?_
  rotate_left
  · intro w hSw
    (try dsimp only at hSw)
    go_simp
    (try with_reducible rfl)
  (try simp only [Act.put, List.setIfInBounds_toArray, List.set_cons_zero, List.set_cons_succ])
  refine wpAnyH_take (i := 7) (oi := { dst := some 50, op := _, type := _, pos := _, after := _, guard := _ }) (v := ?_) rfl (by kernel_rfl) (by kernel_rfl) (by kernel_rfl) (fun _ _ _ h => h) (Or.inl ⟨by rfl, ?_⟩) (by assumption) ?_
  rotate_left
  · intro w hSw
    (try dsimp only at hSw)
    go_simp
    (try with_reducible rfl)
  (try simp only [Act.put, List.setIfInBounds_toArray, List.set_cons_zero, List.set_cons_succ])
  refine wpAnyH_ready (rs := [8]) (by kernel_rfl) (by simp) ?_
  refine AllReadyH.cons (o := { dst := some 51, op := _, type := _, pos := _, after := _, guard := _ }) rfl (fun K hK => ?_) AllReadyH.nil
  go_simp
  (go_at_call 46; (with_reducible refine (json_Parse.calls k _ _ 0 _ F2.out (HT.out.step (below_step HB.out HE.out))).mono ?_); rintro e w6 ⟨v6, rfl, ho6, hb⟩; have HO6 := Aside0.mk ho6; have HF := Aside0.mk (below_step HE.out hb); clear ho6 hb)
  refine hK.out _ _ ?_ (fun hHeld => ?_)
  · exact ⟨HF.out, (HF.out.cell (World.block_lt_of_cell? _ _ HC4.out)).trans HC4.out⟩
  clear hK K
  (try simp only [Act.put, List.setIfInBounds_toArray, List.set_cons_zero, List.set_cons_succ])
  refine wpAnyH_take (i := 9) (oi := { dst := some 42, op := _, type := _, pos := _, after := _, guard := _ }) (v := ?_) rfl (by kernel_rfl) (by kernel_rfl) (by kernel_rfl) (fun _ _ _ h => h) (Or.inl ⟨by rfl, ?_⟩) (by assumption) ?_
  rotate_left
  · intro w hSw
    (try dsimp only at hSw)
    go_simp
    (try with_reducible rfl)
  (try simp only [Act.put, List.setIfInBounds_toArray, List.set_cons_zero, List.set_cons_succ])
  refine wpAnyH_take (i := 10) (oi := { dst := some 52, op := _, type := _, pos := _, after := _, guard := _ }) (v := ?_) rfl (by kernel_rfl) (by kernel_rfl) (by kernel_rfl) (fun _ _ _ h => h) (Or.inl ⟨by rfl, ?_⟩) (by assumption) ?_
  rotate_left
  · intro w hSw
    (try dsimp only at hSw)
    go_simp
    (try with_reducible rfl)
  (try simp only [Act.put, List.setIfInBounds_toArray, List.set_cons_zero, List.set_cons_succ])
  refine wpAnyH_take (i := 11) (oi := { dst := some 53, op := _, type := _, pos := _, after := _, guard := _ }) (v := ?_) rfl (by kernel_rfl) (by kernel_rfl) (by kernel_rfl) (fun _ _ _ h => h) (Or.inl ⟨by rfl, ?_⟩) (by assumption) ?_
  rotate_left
  · intro w hSw
    (try dsimp only at hSw)
    go_simp
    (try with_reducible rfl)
  (try simp only [Act.put, List.setIfInBounds_toArray, List.set_cons_zero, List.set_cons_succ])
  refine wpAnyH_take (i := 12) (oi := { dst := some 12, op := _, type := _, pos := _, after := _, guard := _ }) (v := ?_) rfl (by kernel_rfl) (by kernel_rfl) (by kernel_rfl) (fun _ _ _ h => h) (Or.inl ⟨by rfl, ?_⟩) (by assumption) ?_
  rotate_left
  · intro w hSw
    (try dsimp only at hSw)
    go_simp
    (try with_reducible rfl)
  (try simp only [Act.put, List.setIfInBounds_toArray, List.set_cons_zero, List.set_cons_succ])
  refine wpAnyH_take (i := 13) (oi := { dst := some 13, op := _, type := _, pos := _, after := _, guard := _ }) (v := ?_) rfl (by kernel_rfl) (by kernel_rfl) (by kernel_rfl) (fun _ _ _ h => h) (Or.inl ⟨by rfl, ?_⟩) (by assumption) ?_
  rotate_left
  · intro w hSw
    (try dsimp only at hSw)
    go_simp
    (try with_reducible rfl)
  (try simp only [Act.put, List.setIfInBounds_toArray, List.set_cons_zero, List.set_cons_succ])
  refine wpAnyH_done (by kernel_rfl) ?_ _
  obtain ⟨G, cc, rfl, _, _, _⟩ := Kd.R_form HO6.out (show 0 < 3 by decide)
  have hC := (Kd.R_reads' HO6.out).2.2
  have hl3 : ([⟨0, 7, ⟨#[]⟩, ⟨#[]⟩, 0⟩, ⟨1, 7, key, ⟨#[]⟩, 0⟩, ⟨2, 4, key, ⟨#[]⟩, n⟩] : List S59).length = 3 := rfl
  obtain ⟨ad, hA, a0, a1, a2, a3, a4⟩ := at_T59 hC 1 (by decide) (show (1 : Int) < (3 : Nat) by decide)
  injection hA with hA
  subst hA
  obtain ⟨ad, hA, b0, b1, b2, b3, b4⟩ := at_T59 hC 2 (by decide) (show (2 : Int) < (3 : Nat) by decide)
  injection hA with hA
  subst hA
  have a2 : w6.cell? ⟨G, 7, none⟩ = some (.string key) := a2
  have b0 : w6.cell? ⟨G, 10, none⟩ = some (.int .i64 2) := b0
  have b1 : w6.cell? ⟨G, 11, none⟩ = some (.int .i64 4) := b1
  have b2 : w6.cell? ⟨G, 12, none⟩ = some (.string key) := b2
  have b3 : w6.cell? ⟨G, 13, none⟩ = some (.string ⟨#[]⟩) := b3
  have b4 : w6.cell? ⟨G, 14, none⟩ = some (.int .i64 n) := b4
  clear hC a0 a1 a3 a4
  have HB6 := Aside0.mk (below_step HB.out HF.out)
  go_wp2_with (first
    | (go_at_call 40; with_reducible refine (cracknellaw08_alive.calls true _ rfl (HT.out.step HB6.out)).mono ?_; rintro e w7 ⟨rfl, hb⟩; have a2 := (hb.cell (World.block_lt_of_cell? _ _ a2)).trans a2; have b0 := (hb.cell (World.block_lt_of_cell? _ _ b0)).trans b0; have b1 := (hb.cell (World.block_lt_of_cell? _ _ b1)).trans b1; have b2 := (hb.cell (World.block_lt_of_cell? _ _ b2)).trans b2; have b3 := (hb.cell (World.block_lt_of_cell? _ _ b3)).trans b3; have b4 := (hb.cell (World.block_lt_of_cell? _ _ b4)).trans b4; have HB7 := Aside0.mk (below_step HB6.out hb)))
  go_ret
  exact ⟨rfl, HB7.out⟩
end Go.Proofs.YthhmmaihbjhhgaaDoor.Giv
namespace Go.Proofs.YthhmmaihbjhhgaaDoor.Giv
open Go.RowKit Go.Proofs.YthhmmaihbjhhgaaDoorW.PrintWords Go.Proofs.YthhmmaihbjhhgaaDoorW.PrintLast Go.Proofs.YthhmmaihbjhhgaaDoorW.PrintMore
open Go.Proofs.YthhmmaihbjhhgaaDoor.U1 Go.Proofs.YthhmmaihbjhhgaaDoor.Q1 Go.Proofs.YthhmmaihbjhhgaaDoor.J0 Go.Proofs.YthhmmaihbjhhgaaDoor.J1
set_option linter.unusedSimpArgs false
set_option linter.unusedVariables false
theorem pk_dup (key : ByteArray) (keys : List ByteArray) (x : B) (h : Lib.validD key.data.toList = true) (hn : key ∈ keys) : pk (quoted key.data.toList ++ x) keys = (e0, [], 82) := by
  have hb : notblank (quoted key.data.toList ++ x) := (rfl : blank 34 = false)
  have hh : hd (quoted key.data.toList ++ x) = 34 := by rw [hd_id hb]; rfl
  have hk : hasB key keys = true := (hasB_iff key keys).2 hn
  unfold pk
  rw [hh, if_pos rfl, sk_id hb, rq_quoted key h, if_pos rfl, if_pos hk]
theorem pml_ob (n : Nat) (l : B) (d : Nat) (keys : List ByteArray) (h : (tk1 l (en true)) = (false, l)) (e : Int) (hm : (pml n l d true []).1 = e) : (pms (n + 1) l d true).1 = e := by
  rw [pms, h, if_neg (show ¬ false = true from Bool.noConfusion)]
  exact hm
theorem pma_e (L : B → Int × B × List S59) (V : Int × B × List S59) (ob : Bool) (e : Int) (he : e ≠ 0) (h : V.1 = e) : (pma L V ob).1 = e := by
  unfold pma
  rw [if_neg (by omega)]
  exact h
/-- an object that has a key twice, in an array -/
theorem top_twice (key : ByteArray) (hk : Lib.validD key.data.toList = true) (n : Int) (hn : I64 n) (z : B) : topS (91 :: 123 :: (quoted key.data.toList ++ (58 :: (Lib.itoa n ++ (44 :: (quoted key.data.toList ++ z)))))) = ([], 82) := by
  have hl : ∀ N, (pv (N + 8) (91 :: 123 :: (quoted key.data.toList ++ (58 :: (Lib.itoa n ++ (44 :: (quoted key.data.toList ++ z)))))) 0 e0).1 = 82 := by
    intro N
    -- the object's members
    have m3 : (pml (N + 2) (quoted key.data.toList ++ z) 1 true ([] ++ [key])).1 = 82 := by
      rw [pml, if_pos rfl, pk_dup key _ z hk (by simp)]
      simp
    have m2 : (pml (N + 3) (quoted key.data.toList ++ (58 :: (Lib.itoa n ++ (44 :: (quoted key.data.toList ++ z))))) 1 true []).1 = 82 := by
      rw [pml, if_pos rfl, pk_quoted key [] _ hk (by simp), if_pos rfl]
      simp only
      rw [pv_num (N + 1) n (44 :: (quoted key.data.toList ++ z)) 2 key hn (rfl : numB 44 = false)]
      unfold pma
      rw [if_pos rfl]
      simp only
      rw [cont_more]
      exact m3
    have m1 : (pms (N + 4) (quoted key.data.toList ++ (58 :: (Lib.itoa n ++ (44 :: (quoted key.data.toList ++ z))))) 1 true).1 = 82 :=
      pml_ob _ _ _ [] (tk1_no (quoted key.data.toList ++ (58 :: (Lib.itoa n ++ (44 :: (quoted key.data.toList ++ z))))) (en true) (rfl : blank 34 = false) (show (34 : Nat) ≠ 125 by decide)) 82 m2
    have v1 : (pv (N + 5) (123 :: (quoted key.data.toList ++ (58 :: (Lib.itoa n ++ (44 :: (quoted key.data.toList ++ z)))))) 1 e0).1 = 82 := by
      have hb : notblank (123 :: (quoted key.data.toList ++ (58 :: (Lib.itoa n ++ (44 :: (quoted key.data.toList ++ z)))))) := (rfl : blank 123 = false)
      have hh : hd (123 :: (quoted key.data.toList ++ (58 :: (Lib.itoa n ++ (44 :: (quoted key.data.toList ++ z)))))) = 123 := by rw [hd_id hb]; rfl
      rw [pv, hh, sk_id hb, if_neg (by decide), if_pos rfl, if_neg (by decide)]
      exact m1
    have v0 : (pml (N + 6) (123 :: (quoted key.data.toList ++ (58 :: (Lib.itoa n ++ (44 :: (quoted key.data.toList ++ z)))))) 0 false []).1 = 82 := by
      rw [pml, if_neg (by decide)]
      exact pma_e _ _ _ 82 (by decide) v1
    have hb : notblank (91 :: 123 :: (quoted key.data.toList ++ (58 :: (Lib.itoa n ++ (44 :: (quoted key.data.toList ++ z)))))) := (rfl : blank 91 = false)
    have hh : hd (91 :: 123 :: (quoted key.data.toList ++ (58 :: (Lib.itoa n ++ (44 :: (quoted key.data.toList ++ z)))))) = 91 := by rw [hd_id hb]; rfl
    rw [pv, hh, sk_id hb, if_pos rfl, if_neg (by decide)]
    show (pms (N + 7) (123 :: (quoted key.data.toList ++ (58 :: (Lib.itoa n ++ (44 :: (quoted key.data.toList ++ z)))))) 0 false).1 = 82
    have ht : tk1 (123 :: (quoted key.data.toList ++ (58 :: (Lib.itoa n ++ (44 :: (quoted key.data.toList ++ z)))))) (en false) = (false, 123 :: (quoted key.data.toList ++ (58 :: (Lib.itoa n ++ (44 :: (quoted key.data.toList ++ z)))))) := tk1_no _ _ (rfl : blank 123 = false) (show (123 : Nat) ≠ 93 by decide)
    rw [pms, ht, if_neg (show ¬ false = true from Bool.noConfusion)]
    exact v0
  generalize (91 :: 123 :: (quoted key.data.toList ++ (58 :: (Lib.itoa n ++ (44 :: (quoted key.data.toList ++ z))))) : B) = l at hl
  have hu := pv_up (3 * l.length + 1) (3 * l.length + 8) l 0 e0 (Nat.le_refl _) (by omega)
  unfold topS
  rw [← hu, hl (3 * l.length), if_neg (by decide)]
theorem jv_num (d : Nat) (key : ByteArray) (n : Int) (hn : I64 n) : JV (.v d key) [row d 4 key e0 n] (Lib.itoa n) := JV.num d key n hn
theorem jv_within (key : ByteArray) (hk : Lib.validD key.data.toList = true) (n : Int) (hn : I64 n) :
    JV (.v 0 e0) [row 0 7 e0 e0 0, row 1 7 key e0 0, row 2 4 key e0 n] (123 :: (quoted key.data.toList ++ (58 :: 123 :: (quoted key.data.toList ++ (58 :: (Lib.itoa n ++ [125, 125])))))) := by
  have m2 := JV.memb 2 [] true key hk (by simp) _ _ [] [] (jv_num 2 key n hn) (JV.none 2 true _ false)
  have v1 := JV.obj 1 key _ _ (by decide) m2
  have m1 := JV.memb 1 [] true key hk (by simp) _ _ [] [] v1 (JV.none 1 true _ false)
  have v0 := JV.obj 0 e0 _ _ (by decide) m1
  simp only [List.append_nil, sep_true] at v0
  have e : (123 : UInt8) :: (quoted key.data.toList ++ 58 :: (123 :: (quoted key.data.toList ++ 58 :: Lib.itoa n ++ [125])) ++ [125]) = 123 :: (quoted key.data.toList ++ (58 :: 123 :: (quoted key.data.toList ++ (58 :: (Lib.itoa n ++ [125, 125]))))) := by simp
  rw [← e]
  exact v0
theorem jsonTwice_walk (key : ByteArray) (n m : Int) (w : World) (hz : key.size ≤ 1048576) (hnw : (Lit.int .i64 n).wf = true) (hmw : (Lit.int .i64 m).wf = true) (tj : JTabs w) (tb : Tabs w) : Calls Tryd.prog 18 #[.string key, .int .i64 n, .int .i64 m] w fun e w' => e = .returned (.bool true) ∧ Below w.heap.size w w' := by
  have hn : I64 n := bounds_i64 hnw
  have hm : I64 m := bounds_i64 hmw
  have hw := refWrite 2000000 key (by omega) hz
  by_cases hv : Lib.validD key.data.toList = true
  · rw [writeS_yes key hv] at hw
    by_cases hs : 200 < key.size
    · exact twice_big 2000000 key _ n m w tj hs hw
    · have jn := jv_num 0 e0 n hn
      have jm := jv_num 0 e0 m hm
      have ln : (Lib.itoa n).length + 6 * e0.size + 4 ≤ 30 * wt [row 0 4 e0 e0 n] := jn.len
      have lm : (Lib.itoa m).length + 6 * e0.size + 4 ≤ 30 * wt [row 0 4 e0 e0 m] := jm.len
      have w1 : ∀ x, wt [row 0 4 e0 e0 x] = 1 := fun _ => rfl
      rw [w1] at ln lm
      have lq : (quoted key.data.toList).length ≤ 6 * key.size + 2 := by
        rw [quoted_len]
        have := inner_size key
        omega
      have sK : (⟨(quoted key.data.toList).toArray⟩ : ByteArray).size ≤ 1202 := by rw [size_mk]; omega
      have j2 := jv_within key hv n hn
      have e1 : (⟨#[91, 123]⟩ : ByteArray) ++ (⟨(quoted key.data.toList).toArray⟩ ++ ⟨#[58]⟩ ++ ⟨(Lib.itoa n).toArray⟩) ++ ⟨#[44]⟩ ++ (⟨(quoted key.data.toList).toArray⟩ ++ ⟨#[58]⟩ ++ ⟨(Lib.itoa m).toArray⟩) ++ ⟨#[125, 93]⟩
          = ⟨(91 :: 123 :: (quoted key.data.toList ++ (58 :: (Lib.itoa n ++ (44 :: (quoted key.data.toList ++ (58 :: (Lib.itoa m ++ [125, 93]))))))) : B).toArray⟩ := by
        apply ofList_eq
        simp [ByteArray.data_append]
      have e2 : (⟨#[123]⟩ : ByteArray) ++ ⟨(quoted key.data.toList).toArray⟩ ++ ⟨#[58, 123]⟩ ++ (⟨(quoted key.data.toList).toArray⟩ ++ ⟨#[58]⟩ ++ ⟨(Lib.itoa n).toArray⟩) ++ ⟨#[125, 125]⟩
          = ⟨(123 :: (quoted key.data.toList ++ (58 :: 123 :: (quoted key.data.toList ++ (58 :: (Lib.itoa n ++ [125, 125]))))) : B).toArray⟩ := by
        apply ofList_eq
        simp [ByteArray.data_append]
      refine twice_yes 2000000 key _ ⟨(Lib.itoa n).toArray⟩ ⟨(Lib.itoa m).toArray⟩ n m w tj (by omega) (by omega) (by rw [size_mk]; omega) (by rw [size_mk]; omega) hw (jn.print_f (by omega)) (jm.print_f (by omega)) ?_ ?_
      · rw [e1, parse_top _ (by rw [size_mk]; simp only [List.length_cons, List.length_append, List.length_nil]; omega) 2000000 (by rw [size_mk]; simp only [List.length_cons, List.length_append, List.length_nil]; omega)]
        exact congrArg some (top_twice key hv n hn _)
      · rw [e2, parse_top _ (by rw [size_mk]; simp only [List.length_cons, List.length_append, List.length_nil]; omega) 2000000 (by rw [size_mk]; simp only [List.length_cons, List.length_append, List.length_nil]; omega)]
        exact congrArg some (top_text j2)
  · rw [writeS_no key hv] at hw
    exact twice_no 2000000 key _ n m w tj hw
end Go.Proofs.YthhmmaihbjhhgaaDoor.Giv
