/- Plain arithmetic of the sum: what the table, a step and the reference's functions are, over natural numbers and their bits. -/
import Derived.Test.YtgpbdfkhpkijcaaS1x2
namespace Go.Proofs.Ytgpbdfkhpkijcaa.Crc
open Go.RowKit Go.Proofs.YtgpbdfkhpkijcaaW.PrintWords Go.Proofs.YtgpbdfkhpkijcaaW.PrintLast Go.Proofs.YtgpbdfkhpkijcaaW.PrintMore

def P : Nat := 3988292384
def M (n : Nat) : Nat := if n % 2 = 1 then (n / 2) ^^^ P else n / 2
def Mi : Nat → Nat → Nat
  | 0, n => n
  | i + 1, n => Mi i (M n)
def stepN (s b : Nat) : Nat := (s / 256) ^^^ Mi 8 ((s % 256) ^^^ b)

theorem P_lt : P < 2 ^ 32 := by decide
theorem M_lt {n : Nat} (h : n < 2 ^ 32) : M n < 2 ^ 32 := by
  unfold M
  split
  · exact Nat.xor_lt_two_pow (by omega) P_lt
  · omega
theorem Mi_lt (i : Nat) : ∀ {n : Nat}, n < 2 ^ 32 → Mi i n < 2 ^ 32 := by
  induction i with
  | zero => exact fun h => h
  | succ i ih => exact fun h => ih (M_lt h)
theorem xor_mod2 (a b : Nat) : (a ^^^ b) % 2 = (a + b) % 2 := by
  have h := Nat.testBit_xor a b 0
  rw [Nat.testBit_zero, Nat.testBit_zero, Nat.testBit_zero] at h
  rcases Nat.mod_two_eq_zero_or_one a with ha | ha <;> rcases Nat.mod_two_eq_zero_or_one b with hb | hb <;> rcases Nat.mod_two_eq_zero_or_one (a ^^^ b) with hc | hc <;> rw [ha, hb, hc] at h <;> first | (exact absurd h (by decide)) | omega
theorem M_xor (a b : Nat) : M (a ^^^ b) = M a ^^^ M b := by
  unfold M
  have h2 : (a ^^^ b) / 2 = (a / 2) ^^^ (b / 2) := Nat.xor_div_two
  have h1 : (a ^^^ b) % 2 = (a + b) % 2 := xor_mod2 a b
  rw [h2, h1]
  rcases Nat.mod_two_eq_zero_or_one a with ha | ha <;> rcases Nat.mod_two_eq_zero_or_one b with hb | hb
  · rw [if_neg (by omega), if_neg (by omega), if_neg (by omega)]
  · rw [if_pos (by omega), if_neg (by omega), if_pos (by omega), Nat.xor_assoc]
  · rw [if_pos (by omega), if_pos (by omega), if_neg (by omega), Nat.xor_assoc, Nat.xor_assoc, Nat.xor_comm P]
  · rw [if_neg (by omega), if_pos (by omega), if_pos (by omega)]
    rw [Nat.xor_assoc, Nat.xor_comm P, Nat.xor_assoc, Nat.xor_self, Nat.xor_zero]
theorem Mi_xor (i : Nat) : ∀ a b, Mi i (a ^^^ b) = Mi i a ^^^ Mi i b := by
  induction i with
  | zero => exact fun _ _ => rfl
  | succ i ih => intro a b; simp only [Mi]; rw [M_xor, ih]
theorem Mi_zero (i : Nat) : Mi i 0 = 0 := by
  induction i with
  | zero => rfl
  | succ i ih => simpa [Mi, M] using ih
theorem Mi_add (i j : Nat) : ∀ n, Mi (i + j) n = Mi j (Mi i n) := by
  induction i with
  | zero => intro n; simp [Mi]
  | succ i ih => intro n; rw [Nat.succ_add]; exact ih (M n)
/-- a number whose low bits are 0 is shifted -/
theorem Mi_shift (i : Nat) : ∀ n, n % 2 ^ i = 0 → Mi i n = n / 2 ^ i := by
  induction i with
  | zero => intro n _; simp [Mi]
  | succ i ih =>
    intro n h
    have h2 : n % 2 = 0 := by
      have : n % 2 ^ (i + 1) % 2 = 0 := by rw [h]
      rwa [Nat.mod_mod_of_dvd _ (by rw [Nat.pow_succ]; exact Nat.dvd_mul_left 2 _)] at this
    have hm : M n = n / 2 := by unfold M; rw [if_neg (by omega)]
    have hd : n / 2 % 2 ^ i = 0 := by
      have h3 : n = 2 * (n / 2) := by omega
      rw [h3, Nat.pow_succ, Nat.mul_comm _ 2, Nat.mul_mod_mul_left] at h
      omega
    rw [Mi, hm, ih _ hd, Nat.div_div_eq_div_mul, Nat.pow_succ, Nat.mul_comm]
theorem split8 (s : Nat) : s = (s / 256 * 256) ^^^ (s % 256) := by
  have h := Nat.two_pow_add_eq_or_of_lt (i := 8) (b := s % 256) (by omega) (s / 256)
  have h2 : 2 ^ 8 * (s / 256) ||| s % 256 = 2 ^ 8 * (s / 256) ^^^ s % 256 := by
    apply Nat.eq_of_testBit_eq
    intro j
    rw [Nat.testBit_or, Nat.testBit_xor, Nat.testBit_two_pow_mul]
    by_cases hj : 8 ≤ j
    · rw [Nat.testBit_lt_two_pow (x := s % 256) (Nat.lt_of_lt_of_le (by omega) (Nat.pow_le_pow_right (by decide) hj) : s % 256 < 2 ^ j)]; simp
    · simp [hj]
  have h3 : s = 2 ^ 8 * (s / 256) + s % 256 := by omega
  rw [Nat.mul_comm (s / 256) 256]
  rw [h2] at h
  exact h3.trans h
/-- the byte-wise step is eight bit-wise ones -/
theorem stepN_eq (s b : Nat) : stepN s b = Mi 8 (s ^^^ b) := by
  have h : s ^^^ b = (s / 256 * 256) ^^^ ((s % 256) ^^^ b) := by
    rw [← Nat.xor_assoc, ← split8]
  rw [h, Mi_xor, stepN, Mi_shift 8 (s / 256 * 256) (by omega)]
  congr 1
  omega

theorem wrap64_nat {x : Int} (h0 : -9223372036854775808 ≤ x) (h1 : x ≤ 9223372036854775807) : wrap64 x = x := by unfold wrap64; omega
theorem bits_xor32 (a b : Nat) (ha : a < 2 ^ 32) (hb : b < 2 ^ 32) : Go.bits .xor .u32 (a : Int) (b : Int) = ((a ^^^ b : Nat) : Int) := by
  have hx := Nat.xor_lt_two_pow ha hb
  unfold Go.bits
  simp only [IntKind.wrap_u32]
  rw [BitVec.toNat_xor, BitVec.ofInt_natCast, BitVec.ofInt_natCast, BitVec.toNat_ofNat, BitVec.toNat_ofNat]
  show (((a % 2 ^ 32) ^^^ (b % 2 ^ 32) : Nat) : Int) % 4294967296 = _
  rw [Nat.mod_eq_of_lt ha, Nat.mod_eq_of_lt hb]
  omega
theorem bits_xor8 (a b : Nat) (ha : a < 2 ^ 8) (hb : b < 2 ^ 8) : Go.bits .xor .u8 (a : Int) (b : Int) = ((a ^^^ b : Nat) : Int) := by
  have hx := Nat.xor_lt_two_pow ha hb
  unfold Go.bits
  simp only [IntKind.wrap_u8]
  rw [BitVec.toNat_xor, BitVec.ofInt_natCast, BitVec.ofInt_natCast, BitVec.toNat_ofNat, BitVec.toNat_ofNat]
  show (((a % 2 ^ 8) ^^^ (b % 2 ^ 8) : Nat) : Int) % 256 = _
  rw [Nat.mod_eq_of_lt ha, Nat.mod_eq_of_lt hb]
  omega
theorem bits_and1 (a : Nat) (ha : a < 2 ^ 32) : Go.bits .and .u32 (a : Int) 1 = ((a % 2 : Nat) : Int) := by
  have h := bits_mask .u32 32 (by decide) (fun n h0 h1 => by rw [IntKind.wrap_u32]; omega) 1 (by decide) (a : Int) (by omega) (by omega)
  have e : (2 : Int) ^ 1 - 1 = 1 := by decide
  rw [e] at h
  rw [h]; omega

theorem entry_l0 (i : Nat) : ∀ (k n : Nat), n < 2 ^ 32 → i ≤ 8 → i < k → S1.crc_entry.l0 k (n : Int) ((8 - i : Nat) : Int) = some ((Mi i n : Nat) : Int) := by
  induction i with
  | zero =>
    intro k n hn hi hk
    obtain ⟨k, rfl⟩ : ∃ m, k = m + 1 := ⟨k - 1, by omega⟩
    simp only [S1.crc_entry.l0]; rw [if_neg (by omega)]; rfl
  | succ i ih =>
    intro k n hn hi hk
    obtain ⟨k, rfl⟩ : ∃ m, k = m + 1 := ⟨k - 1, by omega⟩
    have e8 : (8 - (i + 1) : Nat) + 1 = 8 - i := by omega
    simp only [S1.crc_entry.l0]; rw [if_pos (by omega), bits_and1 n hn, wrap64_nat (by omega) (by omega)]
    have hd : (n : Int) / 2 = ((n / 2 : Nat) : Int) := by omega
    have he : ((8 - (i + 1) : Nat) : Int) + 1 = ((8 - i : Nat) : Int) := by omega
    rw [hd, he]
    by_cases h1 : n % 2 = 1
    · have hx : Go.bits .xor .u32 ((n / 2 : Nat) : Int) 3988292384 = ((M n : Nat) : Int) := by
        have := bits_xor32 (n / 2) P (by omega) P_lt
        unfold M; rw [if_pos h1]; exact this
      rw [if_pos (by omega), hx]
      exact ih k (M n) (M_lt hn) (by omega) (by omega)
    · have hx : n / 2 = M n := by unfold M; rw [if_neg h1]
      rw [if_neg (by omega), hx]
      exact ih k (M n) (M_lt hn) (by omega) (by omega)
theorem entry_f (k n : Nat) (hn : n < 2 ^ 32) (hk : 8 < k) : S1.crc_entry.f k (n : Int) = some ((Mi 8 n : Nat) : Int) := by
  unfold S1.crc_entry.f
  rw [show (n : Int) % 4294967296 = n by omega]
  exact entry_l0 8 k n hn (by omega) hk

theorem bit_l0 (j : Nat) : ∀ (k n : Nat), n < 2 ^ 62 → j < k → j < 100 → S1.cracknelref04_bit.l0 k (n : Int) (j : Int) = some ((n / 2 ^ j % 2 : Nat) : Int) := by
  induction j with
  | zero =>
    intro k n hn hk hj
    obtain ⟨k, rfl⟩ : ∃ m, k = m + 1 := ⟨k - 1, by omega⟩
    simp only [S1.cracknelref04_bit.l0]; rw [if_neg (by omega), Int.tmod_eq_emod_of_nonneg (by omega)]
    congr 1; simp
  | succ j ih =>
    intro k n hn hk hj
    obtain ⟨k, rfl⟩ : ∃ m, k = m + 1 := ⟨k - 1, by omega⟩
    simp only [S1.cracknelref04_bit.l0]; rw [if_pos (by omega), Int.tdiv_eq_ediv_of_nonneg (by omega), wrap64_nat (by omega) (by omega), wrap64_nat (by omega) (by omega)]
    have hd : (n : Int) / 2 = ((n / 2 : Nat) : Int) := by omega
    have he : ((j + 1 : Nat) : Int) - 1 = (j : Int) := by omega
    rw [hd, he, ih k (n / 2) (by omega) (by omega) (by omega), Nat.div_div_eq_div_mul, Nat.pow_succ, Nat.mul_comm]

theorem xor_bit (a b j : Nat) : (a ^^^ b) % 2 ^ (j + 1) = (a ^^^ b) % 2 ^ j + (if a / 2 ^ j % 2 = b / 2 ^ j % 2 then 0 else 2 ^ j) := by
  have h1 : (a ^^^ b) % 2 ^ (j + 1) = (a ^^^ b) % 2 ^ j + 2 ^ j * ((a ^^^ b) / 2 ^ j % 2) := by
    rw [Nat.pow_succ, Nat.mod_mul]
  have h2 : (a ^^^ b) / 2 ^ j % 2 = (a / 2 ^ j + b / 2 ^ j) % 2 := by rw [Nat.xor_div_two_pow, xor_mod2]
  rw [h1, h2]
  rcases Nat.mod_two_eq_zero_or_one (a / 2 ^ j) with ha | ha <;> rcases Nat.mod_two_eq_zero_or_one (b / 2 ^ j) with hb | hb
  · rw [if_pos (by omega)]; rw [show (a / 2 ^ j + b / 2 ^ j) % 2 = 0 by omega]; simp
  · rw [if_neg (by omega)]; rw [show (a / 2 ^ j + b / 2 ^ j) % 2 = 1 by omega]; simp
  · rw [if_neg (by omega)]; rw [show (a / 2 ^ j + b / 2 ^ j) % 2 = 1 by omega]; simp
  · rw [if_pos (by omega)]; rw [show (a / 2 ^ j + b / 2 ^ j) % 2 = 0 by omega]; simp

theorem turn_l0 (d : Nat) : ∀ (k a b : Nat), a < 2 ^ 32 → b < 2 ^ 32 → d ≤ 32 → d + 40 < k →
    S1.cracknelref04_turn.l0 k (a : Int) (b : Int) (((a ^^^ b) % 2 ^ (32 - d) : Nat) : Int) ((2 ^ (32 - d) : Nat) : Int) ((32 - d : Nat) : Int) = some ((a ^^^ b : Nat) : Int) := by
  induction d with
  | zero =>
    intro k a b ha hb hd hk
    obtain ⟨k, rfl⟩ : ∃ m, k = m + 1 := ⟨k - 1, by omega⟩
    simp only [S1.cracknelref04_turn.l0]; rw [if_neg (by omega)]
    rw [Nat.mod_eq_of_lt (Nat.xor_lt_two_pow ha hb)]
  | succ d ih =>
    intro k a b ha hb hd hk
    obtain ⟨k, rfl⟩ : ∃ m, k = m + 1 := ⟨k - 1, by omega⟩
    have hj : 32 - d = (32 - (d + 1)) + 1 := by omega
    obtain ⟨j, hje⟩ : ∃ j, 32 - (d + 1) = j := ⟨_, rfl⟩
    have ih' := ih k a b ha hb (by omega) (by omega)
    rw [hj, hje, xor_bit, Nat.pow_succ] at ih'
    rw [hje]
    have hj32 : j < 32 := by omega
    have hp : 2 ^ j ≤ 2 ^ 31 := Nat.pow_le_pow_right (by decide) (by omega)
    have hm : (a ^^^ b) % 2 ^ j < 2 ^ j := Nat.mod_lt _ (Nat.pow_pos (by decide))
    simp only [S1.cracknelref04_turn.l0]; rw [if_pos (by omega)]
    unfold S1.cracknelref04_bit.f
    rw [bit_l0 j k a (by omega) (by omega) (by omega), bit_l0 j k b (by omega) (by omega) (by omega)]
    simp only [Option.bind_some]
    generalize 2 ^ j = p at *
    generalize (a ^^^ b) % p = m at *
    generalize a / p % 2 = u at *
    generalize b / p % 2 = v at *
    rw [wrap64_nat (x := 2 * (p : Int)) (by omega) (by omega), wrap64_nat (x := (j : Int) + 1) (by omega) (by omega), wrap64_nat (x := (m : Int) + p) (by omega) (by omega)]
    by_cases hc : u = v
    · rw [if_pos (by omega)]; rw [if_pos hc] at ih'
      rw [show (2 : Int) * p = ((p * 2 : Nat) : Int) by omega]; exact ih'
    · rw [if_neg (by omega)]; rw [if_neg hc] at ih'
      rw [show (2 : Int) * p = ((p * 2 : Nat) : Int) by omega, show (m : Int) + p = ((m + p : Nat) : Int) by omega]; exact ih'
theorem turn_f (k a b : Nat) (ha : a < 2 ^ 32) (hb : b < 2 ^ 32) (hk : 72 < k) : S1.cracknelref04_turn.f k (a : Int) (b : Int) = some ((a ^^^ b : Nat) : Int) := by
  have h := turn_l0 32 k a b ha hb (by omega) (by omega)
  simpa [S1.cracknelref04_turn.f, Nat.mod_one] using h
end Go.Proofs.Ytgpbdfkhpkijcaa.Crc
