/- quote.Write: what it answers, walked by hand (a strings.Builder, by the shelf's contracts). -/
import Derived.Test.YthhmmaihbjhhgaaDoorQ1x1
namespace Go.Proofs.YthhmmaihbjhhgaaDoor.Giv
open Go.RowKit Go.Proofs.YthhmmaihbjhhgaaDoorW.PrintWords Go.Proofs.YthhmmaihbjhhgaaDoorW.PrintLast Go.Proofs.YthhmmaihbjhhgaaDoorW.PrintMore
open Go.Proofs.YthhmmaihbjhhgaaDoor.U1 Go.Proofs.YthhmmaihbjhhgaaDoor.Q1

def hexN (n : Nat) : UInt8 := (if n < 10 then 48 + n else 87 + n).toUInt8
/-- a byte's piece in quotes -/
def pieceN (c : Nat) : List UInt8 :=
  if c = 8 then [92, 98] else if c = 9 then [92, 116] else if c = 10 then [92, 110] else if c = 12 then [92, 102] else if c = 13 then [92, 114]
  else if c = 34 ∨ c = 92 then [92, c.toUInt8] else if c < 32 then [92, 117, 48, 48, hexN (c / 16), hexN (c % 16)] else [c.toUInt8]
theorem pieceN_len (c : Nat) : (pieceN c).length ≤ 6 := by
  unfold pieceN; repeat' split
  all_goals simp
set_option maxRecDepth 100000 in
theorem piece_all : ∀ n : Nat, n < 256 → (quote_piece.f 3 (n : Int)).map (fun s => s.data.toList) = some (pieceN n) := by decide +kernel
theorem piece_f (n : Nat) (h : n < 256) : quote_piece.f 3 (n : Int) = some ⟨(pieceN n).toArray⟩ := by
  have := piece_all n h
  cases hq : quote_piece.f 3 (n : Int) with
  | none => rw [hq] at this; cases this
  | some s =>
    rw [hq] at this
    have e := Option.some.inj this
    congr 1
    cases s; rename_i d; cases d; simp at e; subst e; rfl
/-- what stands in quotes, of bytes -/
def inner : List UInt8 → List UInt8
  | [] => []
  | c :: l => pieceN c.toNat ++ inner l
theorem inner_app : ∀ a b : List UInt8, inner (a ++ b) = inner a ++ inner b
  | [], _ => rfl
  | c :: a, b => by rw [List.cons_append, inner, inner, inner_app a b, List.append_assoc]
theorem inner_len : ∀ a : List UInt8, (inner a).length ≤ 6 * a.length
  | [] => Nat.le_refl _
  | c :: a => by
    have := inner_len a
    have h := pieceN_len c.toNat
    rw [inner, List.length_append, List.length_cons]; omega
def quoted (l : List UInt8) : List UInt8 := 34 :: inner l ++ [34]
def writeS (s : ByteArray) : ByteArray × Bool := if Lib.validD s.data.toList = true then (⟨(quoted s.data.toList).toArray⟩, true) else (⟨#[]⟩, false)
theorem wrapN (k : Nat) (h : k < 1152921504606846976) : wrap64 ((k : Int) + 1) = ((k + 1 : Nat) : Int) := by unfold wrap64; omega
theorem cells_first (l : List UInt8) : Lib.byteCells (34 :: inner (l.take 0)) = [] ++ [Value.int IntKind.u8 34] := by
  rw [List.take_zero]; rfl
theorem cells_last (s : ByteArray) : Lib.byteCells (quoted s.data.toList) = Lib.byteCells (34 :: inner (s.data.toList.take s.size)) ++ [Value.int IntKind.u8 34] := by
  rw [quoted, List.take_of_length_le (by rw [data_length]; exact Nat.le_refl _)]
  unfold Lib.byteCells
  rw [List.map_append]; rfl
theorem piece_g (n : Nat) (h : n < 256) : ∃ P : ByteArray, quote_piece.f 3 (n : Int) = some P ∧ P.size ≤ 6 ∧ P.data.toList = pieceN n := ⟨_, piece_f n h, by
  have := pieceN_len n
  show (pieceN n).toArray.size ≤ 6
  rw [List.size_toArray]; exact this, rfl⟩
theorem cells_step (a : List UInt8) (P : ByteArray) (b : List UInt8) (h : P.data.toList = b) : Lib.byteCells (34 :: a) ++ Lib.byteCells P.data.toList = Lib.byteCells (34 :: (a ++ b)) := by
  rw [h]
  unfold Lib.byteCells
  rw [← List.map_append, List.cons_append]
theorem take_byte (s : ByteArray) (k : Nat) (h : k < s.size) : s.data.toList.take (k + 1) = s.data.toList.take k ++ [(s[k]'h)] := by
  rw [List.take_add_one]
  congr 1
  have hl : k < s.data.toList.length := by rw [data_length]; exact h
  rw [List.getElem?_eq_getElem hl]; rfl

theorem builder_below {B b : Nat} {bs : List Value} {w w' : World} (h : Lib.IsBuilder 68 5 B b bs w) (hb : Below w.heap.size w w') : Lib.IsBuilder 68 5 B b bs w' := by
  have f : ∀ p, Lib.BuilderAt 68 5 B b p bs w → Lib.BuilderAt 68 5 B b p bs w' := by
    rintro p ⟨h0, v, hv, ho, hn⟩
    exact ⟨h0, v, (hb.block b (Array.getElem?_eq_some_iff.1 hv).1).trans hv, pw_own_below ho hb, hn⟩
  rcases h with h | h
  · exact .inl (f _ h)
  · exact .inr (f _ h)
set_option maxHeartbeats 4000000 in
set_option maxRecDepth 100000 in
theorem write_yes (s : ByteArray) (w : World) (ht : Tabs w) (hs : 6 * s.size + 2 ≤ 140737488355328) (hv : Lib.validD s.data.toList = true) :
    Calls Tryd.prog 33 #[.string s] w fun e w' => e = .returned (.tuple #[.string ⟨(quoted s.data.toList).toArray⟩, .bool true]) ∧ Below w.heap.size w w' := by
  have HV : Aside0 (utf_Valid.f s = some true) := ⟨by unfold utf_Valid.f utf8_ValidString.f; rw [if_pos (by omega), hv]; rfl⟩
  have HS := Aside0.mk hs
  obtain ⟨R, hR⟩ : ∃ R, quoted s.data.toList = R := ⟨_, rfl⟩
  rw [hR]
  have HR := Aside0.mk hR
  have HT := Aside0.mk ht
  clear hv hR hs ht
  have h0 := hz68
  go_enter Tryd.func33, Tryd.ntmps33
  go_wp2_with (first
    | (go_at_call 30; refine (utf_Valid.calls _ _ _ HV.out HT.out).mono ?_; rintro e w1 ⟨rfl, B1⟩)
    | (go_at_call 57; refine (Tryd.Builder_WriteByte w1.heap.size w1.heap.size [] 34 _ (builder_new w1) (by rw [List.length_nil]; omega) (by simp)).mono ?_; rintro e w2 ⟨rfl, C1, C2⟩))
  clear h0
  obtain ⟨B, hB⟩ : ∃ B, w1.heap.size = B := ⟨_, rfl⟩
  have HW : Aside0 (Below w.heap.size w w2) := ⟨(below_alloc B1 _).trans (C2.mono B1.size)⟩
  have HB0 : Aside0 (B ≤ w2.heap.size) := ⟨by have := C2.size; simp at this; omega⟩
  have HBW : Aside0 (w.heap.size ≤ B) := ⟨by have := B1.size; omega⟩
  have HI : Aside0 (Lib.IsBuilder 68 5 B B (Lib.byteCells (34 :: inner (s.data.toList.take 0))) w2) := ⟨by rw [← hB, cells_first]; exact .inr C1⟩
  rw [hB]
  clear B1 C1 C2 hB
  go_loopw [12] (fun v12 wr => ∃ k : Nat, k ≤ s.size ∧ v12 = .int .i64 k ∧ Lib.IsBuilder 68 5 B B (Lib.byteCells (34 :: inner (s.data.toList.take k))) wr ∧ Below w.heap.size w wr ∧ B ≤ wr.heap.size) (fun v12 _ => s.size - (intOf v12).toNat)
  case atStart => exact ⟨0, by omega, rfl, HI.out, HW.out, HB0.out⟩
  case round =>
    obtain ⟨k, hk, rfl, hbl, hbe, hbz⟩ := hrel
    have HBL := Aside0.mk hbl
    have HBE := Aside0.mk hbe
    have HBZ := Aside0.mk hbz
    clear hbl hbe hbz
    have hlen := inner_len (s.data.toList.take k)
    rw [List.length_take, data_length] at hlen
    have HLN := Aside0.mk hlen
    clear hlen
    by_cases hlt : k < s.size
    · obtain ⟨c, hc⟩ : ∃ c, (s[k]'hlt) = c := ⟨_, rfl⟩
      obtain ⟨P, hp1, hp2, hp3⟩ := piece_g c.toNat (UInt8.toNat_lt c)
      have HP := Aside0.mk hp1
      have HPL := Aside0.mk hp2
      have HN : Aside0 (Lib.byteCells (34 :: inner (s.data.toList.take k)) ++ Lib.byteCells P.data.toList = Lib.byteCells (34 :: inner (s.data.toList.take (k + 1)))) := ⟨by rw [cells_step _ P _ hp3, take_byte s k hlt, inner_app, hc, inner, inner, List.append_nil]⟩
      clear hp1 hp2 hp3
      have hs1 := HS.out
      have HK : Aside0 ((Lib.byteCells (34 :: inner (s.data.toList.take k))).length + P.size ≤ 140737488355328) := ⟨by
        rw [Lib.byteCells_length, List.length_cons]; have := HPL.out; have := HLN.out; have := HS.out; omega⟩
      go_wp2_with (first
        | (go_at_call 58; refine (quote_piece.calls 3 _ _ _ HP.out).mono ?_; rintro e w3 ⟨rfl, D1⟩; have HZ3 : Aside0 (B ≤ w3.heap.size) := ⟨Nat.le_trans HBZ.out D1.size⟩)
        | (go_at_call 54; refine (Tryd.Builder_WriteString B B (Lib.byteCells (34 :: inner (s.data.toList.take k))) P _ (builder_below HBL.out D1) HK.out HZ3.out).mono ?_; rintro e w4 ⟨rfl, E1, E2⟩))
      go_roundw
      case rel =>
        refine ⟨k + 1, by omega, by go_num, ?_, ?_, Nat.le_trans HZ3.out E2.size⟩
        · rw [← HN.out]; exact .inr E1
        · exact (HBE.out.trans (D1.mono HBE.out.size)).trans (E2.mono HBW.out)
      case measure => simp [intOf]; omega
    · obtain rfl : k = s.size := by omega
      have HL : Aside0 (Lib.byteCells R = Lib.byteCells (34 :: inner (s.data.toList.take s.size)) ++ [Value.int IntKind.u8 34]) := ⟨by
        rw [← HR.out]; exact cells_last s⟩
      go_wp2_with (first
        | (go_at_call 57; refine (Tryd.Builder_WriteByte B B (Lib.byteCells (34 :: inner (s.data.toList.take s.size))) 34 _ HBL.out (by rw [Lib.byteCells_length, List.length_cons]; have := HLN.out; have := HS.out; omega) HBZ.out).mono ?_; rintro e w3 ⟨rfl, E1, E2⟩)
        | (go_at_call 55; refine (Tryd.Builder_String_any B B R _ (by rw [HL.out]; exact .inr E1) (by have := E2.size; have := HBZ.out; simp at *; omega)).mono ?_; rintro e w4 ⟨rfl, F2⟩))
      go_ret2
      exact ⟨rfl, (HBE.out.trans (E2.mono HBW.out)).trans (F2.mono HBW.out)⟩

set_option maxHeartbeats 4000000 in
set_option maxRecDepth 100000 in
theorem write_no (s : ByteArray) (w : World) (ht : Tabs w) (hs : 6 * s.size + 2 ≤ 140737488355328) (hv : Lib.validD s.data.toList = false) :
    Calls Tryd.prog 33 #[.string s] w fun e w' => e = .returned (.tuple #[.string ⟨#[]⟩, .bool false]) ∧ Below w.heap.size w w' := by
  have HV : Aside0 (utf_Valid.f s = some false) := ⟨by unfold utf_Valid.f utf8_ValidString.f; rw [if_pos (by omega), hv]; rfl⟩
  clear hv
  go_enter Tryd.func33, Tryd.ntmps33
  go_wp2_with (first
    | (go_at_call 30; refine (utf_Valid.calls _ _ _ HV.out ht).mono ?_; rintro e w1 ⟨rfl, B1⟩))
  go_ret2
  exact ⟨rfl, B1⟩
def quote_Write.f (s : ByteArray) : Option (ByteArray × Bool) := if 6 * s.size + 2 ≤ 140737488355328 then some (writeS s) else none
theorem quote_Write.calls (a0 : ByteArray) (r1 : ByteArray) (r2 : Bool) (w : World) (h : quote_Write.f a0 = some (r1, r2)) (ht : Tabs w := by first | assumption | (refine Tabs.step (by assumption) ?_; repeat (first | exact Aside0.out (by assumption) | apply below_alloc | apply pw_below_drewN | apply below_drew1 | exact Below.refl _ _))) :
    Calls Tryd.prog 33 #[.string a0] w fun e w' => e = .returned (.tuple #[.string r1, .bool r2]) ∧ Below w.heap.size w w' := by
  unfold quote_Write.f at h
  split at h
  · rename_i hs
    have h2 := Option.some.inj h
    unfold writeS at h2
    by_cases hv : Lib.validD a0.data.toList = true
    · rw [if_pos hv] at h2
      cases h2
      exact write_yes a0 w ht hs hv
    · rw [if_neg hv] at h2
      cases h2
      exact write_no a0 w ht hs (Bool.eq_false_iff.2 hv)
  · cases h
end Go.Proofs.YthhmmaihbjhhgaaDoor.Giv
