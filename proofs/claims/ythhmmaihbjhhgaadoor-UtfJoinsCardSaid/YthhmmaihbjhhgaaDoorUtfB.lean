/- The contracts of utf.Text and utf.Runes. -/
import Derived.Test.YthhmmaihbjhhgaaDoorU1x1
import Derived.Lib.Hide
namespace Go.Proofs.YthhmmaihbjhhgaaDoor.Giv
open Go.RowKit Go.Proofs.YthhmmaihbjhhgaaDoorW.PrintWords Go.Proofs.YthhmmaihbjhhgaaDoorW.PrintLast Go.Proofs.YthhmmaihbjhhgaaDoorW.PrintMore
open Go.Proofs.YthhmmaihbjhhgaaDoor.U1

def letterB (r : Int) : Bool := decide (0 ≤ r ∧ r ≤ 1114111 ∧ (r < 55296 ∨ 57343 < r))
theorem validRune_f (k : Nat) (r : Int) (hk : 0 < k) (h0 : 0 ≤ r) (h1 : r ≤ 1114111) : utf8_ValidRune.f k r = some (decide (r < 55296 ∨ 57343 < r)) := by
  obtain ⟨k, rfl⟩ : ∃ m, k = m + 1 := ⟨k - 1, by omega⟩
  unfold utf8_ValidRune.f
  rw [if_pos h0]
  simp only [utf8_ValidRune.j0]
  by_cases h2 : r < 55296
  · rw [decide_eq_true h2, if_pos rfl, decide_eq_true (Or.inl h2)]
  · rw [decide_eq_false h2, if_neg (by decide)]
    by_cases h3 : 57343 < r
    · rw [if_pos h3, if_pos h1, decide_eq_true (Or.inr h3)]
    · rw [if_neg h3, decide_eq_false (by omega)]
theorem put_f (k : Nat) (r : Int) (hk : 0 < k) : utf_Put.f k r = some (if letterB r = true then (Utf8.encode r, true) else (⟨#[]⟩, false)) := by
  unfold utf_Put.f utf_letter.f letterB
  by_cases h0 : 0 ≤ r
  · by_cases h1 : r ≤ 1114111
    · have hw : wrap32 r = r := by unfold wrap32; omega
      rw [if_pos h0, if_pos h1, hw, validRune_f k r hk h0 h1]
      simp only [Option.bind_some]
      by_cases h2 : r < 55296 ∨ 57343 < r
      · rw [decide_eq_true h2, if_pos rfl, decide_eq_true ⟨h0, h1, h2⟩, if_pos rfl]
      · rw [decide_eq_false h2, if_neg (by decide), decide_eq_false (fun h => h2 h.2.2), if_neg (by decide)]
    · rw [if_pos h0, if_neg h1, decide_eq_false (fun h => h1 h.2.1), if_neg (by decide)]; rfl
  · rw [if_neg h0, decide_eq_false (fun h => h0 h.1), if_neg (by decide)]; rfl
theorem encode_size (r : Int) : (Utf8.encode r).size ≤ 4 := by
  unfold Utf8.encode
  generalize (if Utf8.valid r = true then r.toNat else Utf8.runeError) = c
  simp only
  split
  · exact Nat.le_of_ble_eq_true rfl
  · split
    · exact Nat.le_of_ble_eq_true rfl
    · split <;> exact Nat.le_of_ble_eq_true rfl

/-- the letters' bytes, up to a place -/
def textN (l : List Int) : Nat → List UInt8
  | 0 => []
  | k + 1 => textN l k ++ (Utf8.encode (rd l (k : Int))).data.toList
theorem textN_len (l : List Int) : ∀ k, (textN l k).length ≤ 4 * k
  | 0 => Nat.le_refl _
  | k + 1 => by
    have h := encode_size (rd l (k : Int))
    have h2 := textN_len l k
    rw [textN, List.length_append, data_length]; omega
def textS (l : List Int) : ByteArray × Bool := if (∀ j : Nat, j < l.length → letterB (rd l (j : Int)) = true) then (⟨(textN l l.length).toArray⟩, true) else (⟨#[]⟩, false)

theorem hz68 (w : World) : (zeroValue 68).run Tryd.prog w = .ok (.agg #[.pointer none, .slice none 0 0]) w := by kernel_rfl
theorem builder_drewN {B b : Nat} {bs : List Value} {w : World} (h : Lib.IsBuilder 68 5 B b bs w) (n : Nat) : Lib.IsBuilder 68 5 B b bs (w.drewN n) := h
theorem builder_new (w : World) : Lib.IsBuilder 68 5 w.heap.size w.heap.size [] (w.alloc (.cells #[.pointer none, .slice none 0 0] 68)) :=
  .inl ⟨Nat.le_refl _, .slice none 0 0, heap_alloc_new _ _, World.ownsRow_nil _ _ _ _, by simp [Value.ownBlock]⟩

set_option maxHeartbeats 4000000 in
set_option maxRecDepth 100000 in
theorem text_some (a : Addr) (c : Nat) (l : List Int) (w : World) (hr : Kd.C (Kd.int .i64) w (some a) l.length l) (hl : 4 * l.length ≤ 140737488355328) :
    Calls Tryd.prog 26 #[.slice (some a) l.length c] w fun e w' => e = .returned (.tuple #[.string (textS l).1, .bool (textS l).2]) ∧ Below w.heap.size w w' := by
  have HC : Aside0 (∀ i : Nat, i < l.length → w.cell? (a.add i) = some (.int .i64 (rd l i))) := ⟨fun i hi => Kd.foot_int hr i (by omega) (by omega)⟩
  obtain ⟨R, hR⟩ : ∃ R, textS l = R := ⟨_, rfl⟩
  rw [hR]
  have HR := Aside0.mk hR
  clear hr hR
  have h0 := hz68
  have NB := Aside0.mk (builder_new w)
  go_enter Tryd.func26, Tryd.ntmps26
  go_wp2_with fail
  clear h0
  go_loopw [11] (fun v11 wr => ∃ k : Nat, k ≤ l.length ∧ v11 = .int .i64 k ∧ (∀ j : Nat, j < k → letterB (rd l (j : Int)) = true) ∧ Lib.IsBuilder 68 5 w.heap.size w.heap.size (Lib.byteCells (textN l k)) wr ∧ Below w.heap.size w wr) (fun v11 _ => l.length - (intOf v11).toNat)
  case atStart => exact ⟨0, by omega, rfl, fun j hj => absurd hj (Nat.not_lt_zero _), NB.out, below_alloc (Below.refl _ _) _⟩
  case round =>
    obtain ⟨k, hk, rfl, hall, hbl, hbe⟩ := hrel
    have HA := Aside0.mk hall
    have HBL := Aside0.mk hbl
    have HB := Aside0.mk hbe
    clear hall hbl hbe
    by_cases hlt : k < l.length
    · have hcell : wr.cell? (a.add k) = some (.int .i64 (rd l k)) := pw_cell_below HB.out (HC.out k hlt)
      obtain ⟨x, hx⟩ : ∃ x, rd l (k : Int) = x := ⟨_, rfl⟩
      have HX := Aside0.mk hx
      rw [hx] at hcell
      clear hx
      have hput := put_f 1 x (by decide)
      by_cases hlet : letterB x = true
      · rw [if_pos hlet] at hput
        have HP := Aside0.mk hput
        have HT := Aside0.mk hlet
        clear hput hlet
        go_wp2_with (first
          | (go_at_call 21; refine (utf_Put.calls 1 _ _ _ _ HP.out).mono ?_; rintro e w' ⟨rfl, ⟨nd, rfl⟩⟩)
          | (go_at_call 54; refine (Tryd.Builder_WriteString w.heap.size w.heap.size (Lib.byteCells (textN l k)) (Utf8.encode x) _ (builder_drewN HBL.out nd) (by have h1 := encode_size x; have h2 := textN_len l k; rw [Lib.byteCells_length]; omega) (by have := HB.out.size; simpa using this)).mono ?_; rintro e w' ⟨rfl, hb1, hb2⟩))
        go_roundw
        case rel =>
          refine ⟨k + 1, by omega, by go_num, ?_, ?_, (pw_below_drewN HB.out nd).trans hb2⟩
          · intro j hj
            by_cases hjk : j = k
            · subst hjk; rw [HX.out]; exact HT.out
            · exact HA.out j (by omega)
          · rw [textN, HX.out]
            unfold Lib.byteCells
            rw [List.map_append]
            exact .inr hb1
        case measure => simp [intOf]; omega
      · rw [if_neg hlet] at hput
        have HP := Aside0.mk hput
        have HT := Aside0.mk hlet
        clear hput hlet
        go_wp2_with (first
          | (go_at_call 21; refine (utf_Put.calls 1 _ _ _ _ HP.out).mono ?_; rintro e w' ⟨rfl, ⟨nd, rfl⟩⟩))
        go_ret2
        refine ⟨?_, pw_below_drewN HB.out nd⟩
        have hS : textS l = (⟨#[]⟩, false) := by
          unfold textS; rw [if_neg]; intro h; exact HT.out (by rw [← HX.out]; exact h k hlt)
        rw [← HR.out, hS]; rfl
    · obtain rfl : k = l.length := by omega
      go_wp2_with (first
        | (go_at_call 55; refine (Tryd.Builder_String_any w.heap.size w.heap.size (textN l l.length) _ HBL.out (by have := HB.out.size; simpa using this)).mono ?_; rintro e w' ⟨rfl, hb2⟩))
      go_ret2
      refine ⟨?_, HB.out.trans hb2⟩
      have hS : textS l = (⟨(textN l l.length).toArray⟩, true) := by
        unfold textS; rw [if_pos HA.out]
      rw [← HR.out, hS]; rfl

set_option maxHeartbeats 4000000 in
set_option maxRecDepth 100000 in
theorem text_none (A : Option Addr) (c : Nat) (w : World) :
    Calls Tryd.prog 26 #[.slice A 0 c] w fun e w' => e = .returned (.tuple #[.string (textS []).1, .bool (textS []).2]) ∧ Below w.heap.size w w' := by
  have h0 := hz68
  have NB := Aside0.mk (builder_new w)
  go_enter Tryd.func26, Tryd.ntmps26
  go_wp2_with fail
  clear h0
  go_loop [11] (fun v11 => v11 = .int .i64 0) (fun _ => 0)
  case atStart => exact rfl
  case round =>
    obtain rfl := hrel
    go_wp2_with (first
      | (go_at_call 55; refine (Tryd.Builder_String_any w.heap.size w.heap.size [] _ NB.out (by simp)).mono ?_; rintro e w' ⟨rfl, hb2⟩))
    go_ret2
    refine ⟨?_, (below_alloc (Below.refl _ _) _).trans hb2⟩
    have hS : textS [] = (⟨#[]⟩, true) := by unfold textS; rw [if_pos (by intro j hj; simp at hj)]; rfl
    rw [hS]; rfl
def utf_Text.f (l : List Int) : Option (ByteArray × Bool) := if 4 * l.length ≤ 140737488355328 then some (textS l) else none
theorem utf_Text.calls (A0 : Option Addr) (c0 : Nat) (l0 : List Int) (r1 : ByteArray) (r2 : Bool) (w : World) (hr0 : Kd.C (Kd.int .i64) w A0 l0.length l0) (hc0 : l0.length ≤ c0) (h : utf_Text.f l0 = some (r1, r2)) :
    Calls Tryd.prog 26 #[.slice A0 l0.length c0] w fun e w' => e = .returned (.tuple #[.string r1, .bool r2]) ∧ Below w.heap.size w w' := by
  unfold utf_Text.f at h
  split at h
  · rename_i hl
    have h2 := Option.some.inj h
    have e1 : r1 = (textS l0).1 := by rw [h2]
    have e2 : r2 = (textS l0).2 := by rw [h2]
    subst e1 e2
    by_cases hn : 0 < l0.length
    · obtain ⟨ad, rfl, _⟩ := hr0.2.2 hn
      exact text_some ad c0 l0 w hr0 hl
    · obtain rfl : l0 = [] := List.eq_nil_of_length_eq_zero (by omega)
      exact text_none A0 c0 w
  · cases h
end Go.Proofs.YthhmmaihbjhhgaaDoor.Giv
