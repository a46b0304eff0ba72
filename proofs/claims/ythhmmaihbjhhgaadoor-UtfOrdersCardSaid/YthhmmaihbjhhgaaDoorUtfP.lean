/- UtfOrders in plain bytes: of two letters the lesser one has the lesser bytes. -/
import Derived.Test.YthhmmaihbjhhgaaDoorUtfO
namespace Go.Proofs.YthhmmaihbjhhgaaDoor.Giv
open Go.RowKit Go.Proofs.YthhmmaihbjhhgaaDoorW.PrintWords Go.Proofs.YthhmmaihbjhhgaaDoorW.PrintLast Go.Proofs.YthhmmaihbjhhgaaDoorW.PrintMore
open Go.Proofs.YthhmmaihbjhhgaaDoor.U1 Go.Proofs.YthhmmaihbjhhgaaDoor.U2

/-- a letter's bytes as numbers -/
def encN (n : Nat) : List Nat :=
  if n < 128 then [n] else if n < 2048 then [192 + n / 64, 128 + n % 64] else if n < 65536 then [224 + n / 4096, 128 + n / 64 % 64, 128 + n % 64] else [240 + n / 262144, 128 + n / 4096 % 64, 128 + n / 64 % 64, 128 + n % 64]
theorem enc_N (n : Nat) (h : letterB (n : Int) = true) : enc (n : Int) = (encN n).map Nat.toUInt8 ∧ ∀ x ∈ encN n, x < 256 := by
  obtain ⟨h0, h1, h2⟩ := (letter_iff _).1 h
  unfold enc Lib.encodeRune encN
  by_cases a : n < 128
  · rw [Lib.encodeRuneZ, if_pos (by omega), if_pos a]
    exact ⟨by simp, by intro x hx; simp at hx; omega⟩
  · by_cases b : n < 2048
    · rw [Lib.encodeRuneZ, if_neg (by omega), if_pos (by omega), if_neg a, if_pos b]
      have e0 : ((192 : Int) + (n : Int) / 64).toNat = 192 + n / 64 := by omega
      have e1 : ((128 : Int) + (n : Int) % 64).toNat = 128 + n % 64 := by omega
      exact ⟨by simp only [List.map_cons, List.map_nil, e0, e1], by intro x hx; simp at hx; omega⟩
    · by_cases c : n < 65536
      · rw [Lib.encodeRuneZ, if_neg (by omega), if_neg (by omega), if_pos (by omega), if_neg a, if_neg b, if_pos c]
        have e0 : ((224 : Int) + (n : Int) / 4096).toNat = 224 + n / 4096 := by omega
        have e1 : ((128 : Int) + (n : Int) / 64 % 64).toNat = 128 + n / 64 % 64 := by omega
        have e2 : ((128 : Int) + (n : Int) % 64).toNat = 128 + n % 64 := by omega
        exact ⟨by simp only [List.map_cons, List.map_nil, e0, e1, e2], by intro x hx; simp at hx; omega⟩
      · rw [Lib.encodeRuneZ, if_neg (by omega), if_neg (by omega), if_neg (by omega), if_pos (by omega), if_neg a, if_neg b, if_neg c]
        have e0 : ((240 : Int) + (n : Int) / 262144).toNat = 240 + n / 262144 := by omega
        have e1 : ((128 : Int) + (n : Int) / 4096 % 64).toNat = 128 + n / 4096 % 64 := by omega
        have e2 : ((128 : Int) + (n : Int) / 64 % 64).toNat = 128 + n / 64 % 64 := by omega
        have e3 : ((128 : Int) + (n : Int) % 64).toNat = 128 + n % 64 := by omega
        exact ⟨by simp only [List.map_cons, List.map_nil, e0, e1, e2, e3], by intro x hx; simp at hx; omega⟩
def natLess : List Nat → List Nat → Bool
  | _, [] => false
  | [], _ :: _ => true
  | a :: x, b :: y => decide (a < b) || (decide (a = b) && natLess x y)
theorem less_map : ∀ (x y : List Nat), (∀ a ∈ x, a < 256) → (∀ b ∈ y, b < 256) → Op.bytesLess (x.map Nat.toUInt8) (y.map Nat.toUInt8) = natLess x y
  | x, [], _, _ => by cases x <;> rfl
  | [], b :: y, _, _ => rfl
  | a :: x, b :: y, hx, hy => by
    have ih := less_map x y (fun c hc => hx c (List.mem_cons_of_mem _ hc)) (fun c hc => hy c (List.mem_cons_of_mem _ hc))
    have ha := u8 a (hx a (List.mem_cons_self ..))
    have hb := u8 b (hy b (List.mem_cons_self ..))
    simp only [List.map_cons, Op.bytesLess, natLess, ih]
    have e1 : decide (a.toUInt8 < b.toUInt8) = decide (a < b) := by rw [decide_eq_decide, UInt8.lt_iff_toNat_lt, ha, hb]
    have e2 : (a.toUInt8 == b.toUInt8) = decide (a = b) := by
      rw [Bool.eq_iff_iff, beq_iff_eq, decide_eq_true_iff]
      constructor
      · intro e; have := congrArg UInt8.toNat e; rw [ha, hb] at this; exact this
      · intro e; rw [e]
    rw [e1, e2]
theorem less_enc (a b : Nat) (ha : a ≤ 1114111) (hb : b ≤ 1114111) : natLess (encN a) (encN b) = decide (a < b) := by
  unfold encN
  repeat' split
  all_goals (rw [Bool.eq_iff_iff, decide_eq_true_iff]; simp only [natLess, Bool.or_eq_true, Bool.and_eq_true, decide_eq_true_iff, Bool.false_eq_true, and_false, or_false]; first | done | omega)
theorem eq_enc (a b : Nat) (ha : letterB (a : Int) = true) (hb : letterB (b : Int) = true) : enc (a : Int) = enc (b : Int) ↔ a = b := by
  constructor
  · intro e
    have h1 := tk_enc a ha []
    have h2 := tk_enc b hb []
    rw [e, h2] at h1
    exact ((Prod.mk.inj (Option.some.inj h1)).1).symm
  · intro e; rw [e]
theorem UtfOrders : cracknellaw05_UtfOrders.Pure := by
  intro a0 a1 w0 w1
  refine ⟨1, ?_⟩
  unfold cracknellaw05_UtfOrders.f
  rw [put_S 1 _ (by decide), put_S 1 _ (by decide), Option.bind_some, Option.bind_some, alive05 1 (by decide), Option.bind_some, if_pos rfl]
  by_cases h : letterB a0 = true
  · by_cases h' : letterB a1 = true
    · obtain ⟨p0, p1, p2⟩ := (letter_iff a0).1 h
      obtain ⟨q0, q1, q2⟩ := (letter_iff a1).1 h'
      obtain ⟨a, rfl⟩ : ∃ n : Nat, a0 = n := ⟨a0.toNat, by omega⟩
      obtain ⟨b, rfl⟩ : ∃ n : Nat, a1 = n := ⟨a1.toNat, by omega⟩
      have ea : putS (a : Int) = (⟨(enc (a : Int)).toArray⟩, true) := by unfold putS; rw [if_pos h]
      have eb : putS (b : Int) = (⟨(enc (b : Int)).toArray⟩, true) := by unfold putS; rw [if_pos h']
      rw [ea, eb, if_pos rfl, if_pos rfl, Lib.toList_data, Lib.toList_data]
      show (if (Op.bytesLess (enc (a : Int)) (enc (b : Int)) == decide ((a : Int) < b)) = true then some ((enc (a : Int) == enc (b : Int)) == ((a : Int) == (b : Int))) else some false) = some true
      have hl : Op.bytesLess (enc (a : Int)) (enc (b : Int)) = decide (a < b) := by
        rw [(enc_N a h).1, (enc_N b h').1, less_map _ _ (enc_N a h).2 (enc_N b h').2, less_enc a b (by omega) (by omega)]
      have hd : decide ((a : Int) < b) = decide (a < b) := by rw [decide_eq_decide]; omega
      rw [hl, hd, if_pos (by simp)]
      congr 1
      rw [beq_iff_eq, Bool.eq_iff_iff, beq_iff_eq, beq_iff_eq, eq_enc a b h h']
      omega
    · have eb : putS a1 = (⟨#[]⟩, false) := by unfold putS; rw [if_neg h']
      have ea : (putS a0).2 = true := by unfold putS; rw [if_pos h]
      rw [if_pos ea, eb, if_neg (by decide)]
  · have ea : putS a0 = (⟨#[]⟩, false) := by unfold putS; rw [if_neg h]
    rw [ea, if_neg (by decide)]
end Go.Proofs.YthhmmaihbjhhgaaDoor.Giv
