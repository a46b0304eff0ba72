/- The contract of utf.Runes: the letters of a valid text, by the model's own decoding. -/
import Derived.Test.YthhmmaihbjhhgaaDoorUtfB
namespace Go.Proofs.YthhmmaihbjhhgaaDoor.Giv
open Go.RowKit Go.Proofs.YthhmmaihbjhhgaaDoorW.PrintWords Go.Proofs.YthhmmaihbjhhgaaDoorW.PrintLast Go.Proofs.YthhmmaihbjhhgaaDoorW.PrintMore
open Go.Proofs.YthhmmaihbjhhgaaDoor.U1

def iterTo (w : World) (g : Nat) (s : ByteArray) (p : Nat) : World := { w with heap := w.heap.setIfInBounds g (.stringIter s p) }
theorem iterTo_at {w : World} {g : Nat} {s : ByteArray} {p q : Nat} (h : w.heap[g]? = some (.stringIter s p)) : (iterTo w g s q).heap[g]? = some (.stringIter s q) := by
  have hlt := (Array.getElem?_eq_some_iff.1 h).1
  simp [iterTo, hlt]
theorem iterTo_far (w : World) (g : Nat) (s : ByteArray) (q k : Nat) (hk : k ≠ g) : (iterTo w g s q).heap[k]? = w.heap[k]? := by
  simp [iterTo, Ne.symm hk]
theorem next_in {P : Program} {w : World} {g : Nat} {s : ByteArray} {p : Nat} (ty : TypeId) (h : w.heap[g]? = some (.stringIter s p)) (hp : p < s.size) :
    (Instr.next (.pointer (some ⟨g, 0, none⟩)) true ty).run P w = .ok (.tuple #[.bool true, .int .i64 p, .int .i32 ((Utf8.decode s p).1 : Nat)]) (iterTo w g s (p + (Utf8.decode s p).2)) := by
  simp only [Instr.next, getObj, setObj, Sem.run_bind, Sem.run, h, Result.andThen, hp, if_true]
  simp [goInt, iterTo]
theorem next_end {P : Program} {w : World} {g : Nat} {s : ByteArray} {p : Nat} (ty : TypeId) (h : w.heap[g]? = some (.stringIter s p)) (hp : ¬ p < s.size) :
    (Instr.next (.pointer (some ⟨g, 0, none⟩)) true ty).run P w = .ok (.tuple #[.bool false]) w := by
  simp [Instr.next, getObj, Sem.run, h, hp]

theorem below_iter {w W : World} {g : Nat} (s : ByteArray) (q : Nat) (h : Below w.heap.size w W) (hg : w.heap.size ≤ g) : Below w.heap.size w (iterTo W g s q) :=
  h.trans ⟨rfl, rfl, rfl, by simp [iterTo], fun k hk => iterTo_far _ _ _ _ _ (by omega)⟩
/-- the letters from a place on -/
def runesP (s : ByteArray) : Nat → Nat → List Int
  | 0, _ => []
  | n + 1, p => if p < s.size then ((Utf8.decode s p).1 : Int) :: runesP s n (p + (Utf8.decode s p).2) else []
theorem runesP_len (s : ByteArray) : ∀ n p, (runesP s n p).length ≤ n
  | 0, _ => Nat.le_refl _
  | n + 1, p => by
    rw [runesP]; split
    · rw [List.length_cons]; have := runesP_len s n (p + (Utf8.decode s p).2); omega
    · exact Nat.zero_le _
theorem decode_pos (s : ByteArray) (p : Nat) : 1 ≤ (Utf8.decode s p).2 := by
  unfold Utf8.decode; simp only; repeat' split
  all_goals simp
theorem decode_hi (s : ByteArray) (p : Nat) : (Utf8.decode s p).1 ≤ 2147483647 := decode_le s p
def runesS (s : ByteArray) : List Int × Bool := if Lib.validD s.data.toList = true then (runesP s s.size 0, true) else ([], false)

theorem info3 : (Tryd.prog.info? 3).map (fun i => (i.zero, i.size, i.bytes)) = some (some (.int .i64 0), 1, 8) := by kernel_rfl

set_option maxHeartbeats 8000000 in
set_option maxRecDepth 100000 in
theorem runes_yes (s : ByteArray) (w : World) (ht : Tabs w) (hs : 8 * (s.size + 1) ≤ 140737488355328) (hv : Lib.validD s.data.toList = true) :
    Calls Tryd.prog 28 #[.string s] w fun e w' => ∃ v0_ : Value, e = .returned (.tuple #[v0_, .bool true]) ∧ Kd.R (Kd.int .i64) 3 w' w.heap.size (fun _ => True) v0_ (runesP s s.size 0) ∧ Below w.heap.size w w' := by
  have HV : Aside0 (utf_Valid.f s = some true) := ⟨by unfold utf_Valid.f utf8_ValidString.f; rw [if_pos (by omega), hv]; rfl⟩
  obtain ⟨L, hL⟩ : ∃ L, runesP s s.size 0 = L := ⟨_, rfl⟩
  rw [hL]
  have HL := Aside0.mk hL
  clear hv hL
  go_enter Tryd.func28, Tryd.ntmps28
  go_wp2_with (first
    | (go_at_call 30; refine (utf_Valid.calls _ _ _ HV.out ht).mono ?_; rintro e w1 ⟨rfl, B1⟩))
  obtain ⟨g, hg⟩ : ∃ g, w1.heap.size = g := ⟨_, rfl⟩
  have I0 : Aside0 ((w1.iter s 0).heap[g]? = some (.stringIter s 0)) := ⟨by rw [← hg]; exact World.iter_heap w1 s 0⟩
  have BI : Aside0 (Below w.heap.size w (w1.iter s 0)) := ⟨below_alloc B1 _⟩
  have G0 : Aside0 (w.heap.size ≤ g ∧ g < (w1.iter s 0).heap.size) := ⟨by have := B1.size; simp [World.iter]; omega⟩
  rw [hg]
  generalize w1.iter s 0 = W at I0 BI G0 ⊢
  clear hg B1
  go_loopg [4] s.size (fun kq v4 wr => ∃ (p : Nat) (xs : List Int), Aside0 (s.size ≤ kq + p) ∧ Aside0 (L = xs ++ runesP s kq p) ∧ Aside0 (wr.heap[g]? = some (.stringIter s p)) ∧ Aside0 (Kd.R (Kd.int .i64) 3 wr w.heap.size (fun k => k ≠ g) v4 xs) ∧ Aside0 (Below w.heap.size w wr) ∧ Aside0 (kq ≤ s.size))
  case atStart => exact ⟨0, [], ⟨Nat.le_refl _⟩, ⟨HL.out.symm⟩, I0, ⟨Kd.R_nil _ _ _ _ _⟩, BI, ⟨Nat.le_refl _⟩⟩
  case round =>
    obtain ⟨p, xs, HK, HX, HI, HO, HB, HQ⟩ := hrel
    by_cases hp : p < s.size
    · have hnx := fun ty => next_in (P := Tryd.prog) ty HI.out hp
      have hr1 := decode_hi s p
      have hq1 := decode_pos s p
      have hne : gk ≠ 0 := by have := HK.out; omega
      obtain ⟨k1, rfl⟩ : ∃ m, gk = m + 1 := ⟨gk - 1, by omega⟩
      have hx := HX.out
      rw [runesP, if_pos hp] at hx
      obtain ⟨r, hr⟩ : ∃ r, (Utf8.decode s p).1 = r := ⟨_, rfl⟩
      obtain ⟨q, hq⟩ : ∃ q, (Utf8.decode s p).2 = q := ⟨_, rfl⟩
      rw [hr, hq] at hx
      rw [hr] at hr1
      rw [hq] at hq1
      have HN := Aside0.mk hx
      have hxl : xs.length ≤ s.size := by
        have h1 := congrArg List.length HL.out
        have h2 := runesP_len s s.size 0
        rw [HX.out, List.length_append] at h1
        omega
      rw [hr, hq] at hnx
      have HI2 : Aside0 ((iterTo wr g s (p + q)).heap[g]? = some (.stringIter s (p + q))) := ⟨iterTo_at HI.out⟩
      have HB2 : Aside0 (Below w.heap.size w (iterTo wr g s (p + q))) := ⟨below_iter s (p + q) HB.out G0.out.1⟩
      have HG2 : Aside0 (g < (iterTo wr g s (p + q)).heap.size) := ⟨(Array.getElem?_eq_some_iff.1 HI2.out).1⟩
      have HK2 : Aside0 (s.size ≤ k1 + (p + q)) := ⟨by have := HK.out; omega⟩
      have HXL : Aside0 ((xs.length + 1) * 8 ≤ 140737488355328) := ⟨by omega⟩
      clear hp hx hne hxl hr hq hq1
      go_wp2_with (at_builtin; refine Kd.R_append (Kd.int .i64) (W := iterTo wr g s (p + q)) w.heap.size rfl (.tmp 15) (.tmp 18) 29 3 (.int .i64 0) 8 rfl Tryd.underlying29 info3 rfl (by decide) (by decide) _ xs (r : Int) [.int .i64 (r : Int)] (fun k => k ≠ g) (fun _ => False) rfl rfl rfl (fun _ h => h.elim) (fun k hk => by have := HG2.out; omega) (Kd.R_step HO.out (fun k hk _ => iterTo_far _ _ _ _ _ hk)) HB2.out HB2.out.size HXL.out ?_; intro v1 w2 hO2 hB2 hg2 _)
      go_roundg k1
      case measure => omega
      case rel =>
        have hgr : some g ≠ u4.ownBlock := fun e => HO.out.1 g e.symm rfl
        refine ⟨p + q, xs ++ [(r : Int)], HK2, ⟨by rw [List.append_assoc]; exact HN.out⟩, ⟨?_⟩, ⟨hO2⟩, ⟨hB2⟩, ⟨by have := HQ.out; omega⟩⟩
        exact (hg2.block g HG2.out hgr).trans HI2.out
    · have hnx := fun ty => next_end (P := Tryd.prog) ty HI.out hp
      have hx := HX.out
      have hnil : runesP s gk p = [] := by cases gk with | zero => rfl | succ n => rw [runesP, if_neg hp]
      rw [hnil, List.append_nil] at hx
      have HN := Aside0.mk hx
      clear hp hx hnil
      go_wp2
      go_ret2
      refine ⟨_, rfl, ?_, HB.out⟩
      rw [HN.out]
      exact Kd.R_mono HO.out (fun _ _ => trivial)

set_option maxHeartbeats 4000000 in
set_option maxRecDepth 100000 in
theorem runes_no (s : ByteArray) (w : World) (ht : Tabs w) (hs : 8 * (s.size + 1) ≤ 140737488355328) (hv : Lib.validD s.data.toList = false) :
    Calls Tryd.prog 28 #[.string s] w fun e w' => e = .returned (.tuple #[.slice none 0 0, .bool false]) ∧ Below w.heap.size w w' := by
  have HV : Aside0 (utf_Valid.f s = some false) := ⟨by unfold utf_Valid.f utf8_ValidString.f; rw [if_pos (by omega), hv]; rfl⟩
  clear hv
  go_enter Tryd.func28, Tryd.ntmps28
  go_wp2_with (first
    | (go_at_call 30; refine (utf_Valid.calls _ _ _ HV.out ht).mono ?_; rintro e w1 ⟨rfl, B1⟩))
  go_ret2
  exact ⟨rfl, B1⟩
def utf_Runes.f (s : ByteArray) : Option (List Int × Bool) := if 8 * (s.size + 1) ≤ 140737488355328 then some (runesS s) else none
theorem utf_Runes.calls (a0 : ByteArray) (r1 : List Int) (r2 : Bool) (w : World) (h : utf_Runes.f a0 = some (r1, r2)) (ht : Tabs w := by first | assumption | (refine Tabs.step (by assumption) ?_; repeat (first | exact Aside0.out (by assumption) | apply below_alloc | apply pw_below_drewN | apply below_drew1 | exact Below.refl _ _))) :
    Calls Tryd.prog 28 #[.string a0] w fun e w' => ∃ v0_ : Value, e = .returned (.tuple #[v0_, .bool r2]) ∧ Kd.R (Kd.int .i64) 3 w' w.heap.size (fun _ => True) v0_ r1 ∧ Below w.heap.size w w' := by
  unfold utf_Runes.f at h
  split at h
  · rename_i hs
    have h2 := Option.some.inj h
    have e1 : r1 = (runesS a0).1 := by rw [h2]
    have e2 : r2 = (runesS a0).2 := by rw [h2]
    subst e1 e2
    unfold runesS
    by_cases hv : Lib.validD a0.data.toList = true
    · rw [if_pos hv]; exact runes_yes a0 w ht hs hv
    · rw [if_neg hv]
      exact (runes_no a0 w ht hs (by simpa using hv)).mono fun e w' ⟨he, hb⟩ => ⟨_, he, Kd.R_nil _ _ _ _ _, hb⟩
  · cases h
end Go.Proofs.YthhmmaihbjhhgaaDoor.Giv
