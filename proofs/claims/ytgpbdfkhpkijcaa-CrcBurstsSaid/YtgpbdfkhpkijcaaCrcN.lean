/- Plain law of the sum: crc's functions and the reference's compute the same, at every text. -/
import Derived.Test.YtgpbdfkhpkijcaaCrcM
import Derived.Test.YtgpbdfkhpkijcaaCrcC
namespace Go.Proofs.Ytgpbdfkhpkijcaa.Crc
open Go.RowKit Go.Proofs.YtgpbdfkhpkijcaaW.PrintWords Go.Proofs.YtgpbdfkhpkijcaaW.PrintLast Go.Proofs.YtgpbdfkhpkijcaaW.PrintMore

theorem ent_nat : ∀ c : Nat, c < 256 → ent c = ((Mi 8 c : Nat) : Int) := by
  have h : ∀ c : Fin 256, ent c.val = ((Mi 8 c.val : Nat) : Int) := by decide +kernel
  exact fun c hc => h ⟨c, hc⟩
theorem stepN_lt {s b : Nat} (hs : s < 2 ^ 32) (hb : b < 256) : stepN s b < 2 ^ 32 := by
  unfold stepN
  exact Nat.xor_lt_two_pow (by omega) (Mi_lt 8 (Nat.lt_of_lt_of_le (Nat.xor_lt_two_pow (n := 8) (by omega) (by omega)) (by decide)))
theorem stepT_nat {s b : Nat} (hs : s < 2 ^ 32) (hb : b < 256) : stepT (s : Int) (b : Int) = ((stepN s b : Nat) : Int) := by
  have hx : ((s % 256) ^^^ b) < 256 := Nat.xor_lt_two_pow (n := 8) (by omega) (by omega)
  unfold stepT stepN
  rw [show (s : Int) % 256 = ((s % 256 : Nat) : Int) by omega, show (s : Int) / 256 = ((s / 256 : Nat) : Int) by omega]
  rw [bits_xor8 _ _ (by omega) (by omega), Int.toNat_natCast, ent_nat _ hx, bits_xor32 _ _ (by omega) (Mi_lt 8 (by omega))]
def stN (s : Nat) (l : List UInt8) : Nat := l.foldl (fun s b => stepN s b.toNat) s
theorem stN_lt : ∀ (l : List UInt8) {s : Nat}, s < 2 ^ 32 → stN s l < 2 ^ 32
  | [], _, h => h
  | b :: l, _, h => stN_lt l (stepN_lt h (UInt8.toNat_lt b))
theorem stN_append (s : Nat) (l m : List UInt8) : stN s (l ++ m) = stN (stN s l) m := List.foldl_append ..
theorem bt_get (x : ByteArray) (k : Nat) (h : k < x.data.toList.length) : bt x (k : Int) = ((x.data.toList[k]).toNat : Int) := by
  have hk : ((k : Int)).toNat < x.size := by rw [Int.toNat_natCast]; simpa using h
  rw [← bt_at x k hk]; rfl
theorem runB_nat (x : ByteArray) {s : Nat} (hs : s < 2 ^ 32) : ∀ k, k ≤ x.size → runB (s : Int) x k = ((stN s (x.data.toList.take k) : Nat) : Int)
  | 0, _ => rfl
  | k + 1, h => by
    have hk : k < x.data.toList.length := by rw [data_length]; omega
    rw [runB, runB_nat x hs k (by omega), bt_get x k hk, stepT_nat (stN_lt _ hs) (UInt8.toNat_lt _), List.take_succ_eq_append_getElem hk, stN_append]
    rfl
def bytes (l : List ByteArray) : List UInt8 := (l.map (fun x => x.data.toList)).flatten
theorem runS_nat (l : List ByteArray) : ∀ i, i ≤ l.length → runS l i = ((stN 4294967295 (bytes (l.take i)) : Nat) : Int)
  | 0, _ => rfl
  | i + 1, h => by
    have hg : rdOf ByteArray.empty l (i : Int) = l[i] := by
      unfold rdOf; rw [Int.toNat_natCast, List.getD_eq_getElem?_getD, List.getElem?_eq_getElem (by omega)]; rfl
    have htk : l.take (i + 1) = l.take i ++ [l[i]] := List.take_succ_eq_append_getElem (by omega)
    rw [runS, runS_nat l i (by omega), hg, runB_nat _ (stN_lt _ (by decide)) _ (Nat.le_refl _), htk]
    have ht : List.take l[i].size l[i].data.toList = l[i].data.toList := List.take_of_length_le (by rw [data_length]; exact Nat.le_refl _)
    have hb2 : bytes (l.take i ++ [l[i]]) = bytes (l.take i) ++ l[i].data.toList := by unfold bytes; rw [List.map_append, List.flatten_append]; simp
    rw [ht, hb2, stN_append]
theorem not_xor {s : Nat} (h : s < 2 ^ 32) : 4294967295 ^^^ s = 4294967295 - s := by
  apply Nat.eq_of_testBit_eq
  intro j
  have e : (4294967295 - s : Nat) = 2 ^ 32 - (s + 1) := by omega
  rw [e, Nat.testBit_two_pow_sub_succ h, Nat.testBit_xor, show (4294967295 : Nat) = 2 ^ 32 - 1 by decide, Nat.testBit_two_pow_sub_one]
  by_cases hj : j < 32
  · simp [hj]
  · rw [Nat.testBit_lt_two_pow (x := s) (Nat.lt_of_lt_of_le h (Nat.pow_le_pow_right (by decide) (by omega)))]; simp [hj]
def sumN (l : List UInt8) : Nat := 4294967295 - stN 4294967295 l
theorem sumN_lt (l : List UInt8) : sumN l < 2 ^ 32 := by unfold sumN; omega
theorem small (l : List ByteArray) (n : Nat) (hn : n < 4611686018427387904) (h : ∀ x ∈ l, x.size ≤ n) : l.all (fun s => decide (s.size < 4611686018427387904)) = true := by
  rw [List.all_eq_true]; intro x hx; have := h x hx; exact decide_eq_true (by omega)
theorem sum_f (l : List ByteArray) (n : Nat) (hn : n < 4611686018427387904) (h : ∀ x ∈ l, x.size ≤ n) : crc_Sum.f l = some ((sumN (bytes l) : Nat) : Int) := by
  unfold crc_Sum.f
  have hlt := stN_lt (bytes l) (s := 4294967295) (by decide)
  rw [if_pos (small l n hn h), runS_nat l _ (Nat.le_refl _), List.take_length, show IntKind.u32.max = ((4294967295 : Nat) : Int) by decide, bits_xor32 _ _ (by decide) hlt, not_xor hlt]
  rfl
def tailN (n : Nat) : ByteArray := strOfNums [((n % 256 : Nat) : Int), ((n / 256 % 256 : Nat) : Int), ((n / 65536 % 256 : Nat) : Int), ((n / 16777216 % 256 : Nat) : Int)]
theorem tail_f (l : List ByteArray) (n : Nat) (hn : n < 4611686018427387904) (h : ∀ x ∈ l, x.size ≤ n) : S1.crc_Tail.f l = some (tailN (sumN (bytes l))) := by
  unfold S1.crc_Tail.f
  rw [sum_f l n hn h]
  simp only [Option.bind_some, tailN]
  generalize sumN (bytes l) = s
  congr 2

theorem ref_entry_l0 (i : Nat) : ∀ (k n : Nat), n < 2 ^ 32 → i ≤ 8 → i + 80 < k → S1.cracknelref04_Entry.l0 k (n : Int) ((8 - i : Nat) : Int) = some ((Mi i n : Nat) : Int) := by
  induction i with
  | zero =>
    intro k n hn hi hk
    obtain ⟨k, rfl⟩ : ∃ m, k = m + 1 := ⟨k - 1, by omega⟩
    simp only [S1.cracknelref04_Entry.l0]; rw [if_neg (by omega)]; rfl
  | succ i ih =>
    intro k n hn hi hk
    obtain ⟨k, rfl⟩ : ∃ m, k = m + 1 := ⟨k - 1, by omega⟩
    simp only [S1.cracknelref04_Entry.l0]
    rw [if_pos (by omega), Int.tmod_eq_emod_of_nonneg (by omega), Int.tdiv_eq_ediv_of_nonneg (by omega), wrap64_nat (x := (n : Int) / 2) (by omega) (by omega), wrap64_nat (by omega) (by omega)]
    have hd : (n : Int) / 2 = ((n / 2 : Nat) : Int) := by omega
    have he : ((8 - (i + 1) : Nat) : Int) + 1 = ((8 - i : Nat) : Int) := by omega
    rw [hd, he]
    by_cases h1 : n % 2 = 1
    · have hm : M n = (n / 2) ^^^ P := by unfold M; rw [if_pos h1]
      have ht := turn_f k (n / 2) P (by omega) P_lt (by omega)
      rw [← hm] at ht
      rw [if_pos (by omega), show (3988292384 : Int) = ((P : Nat) : Int) by decide, ht]
      simp only [Option.bind_some]
      exact ih k (M n) (M_lt hn) (by omega) (by omega)
    · have hm : n / 2 = M n := by unfold M; rw [if_neg h1]
      rw [if_neg (by omega), hm]
      exact ih k (M n) (M_lt hn) (by omega) (by omega)
theorem ref_entry (k n : Nat) (hn : n < 2 ^ 32) (hk : 88 < k) : S1.cracknelref04_Entry.f k (n : Int) = some ((Mi 8 n : Nat) : Int) := by
  unfold S1.cracknelref04_Entry.f; exact ref_entry_l0 8 k n hn (by omega) (by omega)
theorem ref_step (k s b : Nat) (hs : s < 2 ^ 32) (hb : b < 256) (hk : 88 < k) : S1.cracknelref04_Step.f k (s : Int) (b : Int) = some ((stepN s b : Nat) : Int) := by
  have hx : (b ^^^ (s % 256)) < 2 ^ 8 := Nat.xor_lt_two_pow (n := 8) (by omega) (by omega)
  unfold S1.cracknelref04_Step.f
  rw [Int.tmod_eq_emod_of_nonneg (by omega), Int.tdiv_eq_ediv_of_nonneg (by omega), wrap64_nat (by omega) (by omega)]
  rw [show (s : Int) % 256 = ((s % 256 : Nat) : Int) by omega, show (s : Int) / 256 = ((s / 256 : Nat) : Int) by omega]
  rw [turn_f k b (s % 256) (by omega) (by omega) (by omega)]
  simp only [Option.bind_some]
  rw [ref_entry k _ (by omega) hk]
  simp only [Option.bind_some]
  rw [turn_f k (s / 256) _ (by omega) (Mi_lt 8 (by omega)) (by omega)]
  simp only [Option.bind_some]
  rw [stepN, Nat.xor_comm b]
theorem ref_sum_l0 (x : ByteArray) (hx : x.size < 2 ^ 60) (d : Nat) : ∀ (k s i : Nat), s < 2 ^ 32 → i + d = x.size → d + 100 < k →
    S1.cracknelref04_Sum.l0 k x (s : Int) (i : Int) = some ((4294967295 - stN s (x.data.toList.drop i) : Nat) : Int) := by
  induction d with
  | zero =>
    intro k s i hs hi hk
    obtain ⟨k, rfl⟩ : ∃ m, k = m + 1 := ⟨k - 1, by omega⟩
    simp only [S1.cracknelref04_Sum.l0]
    rw [if_neg (by omega), List.drop_of_length_le (by rw [data_length]; omega), wrap64_nat (by omega) (by omega)]
    congr 1
    show _ = ((4294967295 - s : Nat) : Int)
    omega
  | succ d ih =>
    intro k s i hs hi hk
    obtain ⟨k, rfl⟩ : ∃ m, k = m + 1 := ⟨k - 1, by omega⟩
    have hl : i < x.data.toList.length := by rw [data_length]; omega
    have hb := UInt8.toNat_lt (x.data.toList[i])
    simp only [S1.cracknelref04_Sum.l0]
    rw [if_pos (by omega), if_pos (by omega), bt_get x i hl, wrap64_nat (by omega) (by omega), wrap64_nat (by omega) (by omega), ref_step k s _ hs hb (by omega)]
    simp only [Option.bind_some]
    rw [show (i : Int) + 1 = ((i + 1 : Nat) : Int) by omega, ih k _ (i + 1) (stepN_lt hs hb) (by omega) (by omega), List.drop_eq_getElem_cons hl]
    rfl
theorem ref_sum (x : ByteArray) (hx : x.size < 2 ^ 60) (k : Nat) (hk : x.size + 100 < k) : S1.cracknelref04_Sum.f k x = some ((sumN x.data.toList : Nat) : Int) := by
  have h := ref_sum_l0 x hx x.size k 4294967295 0 (by decide) (by omega) hk
  rw [List.drop_zero] at h
  exact h
theorem ref_tail (x : ByteArray) (hx : x.size < 2 ^ 60) (k : Nat) (hk : x.size + 100 < k) : S1.cracknelref04_Tail.f k x = some (tailN (sumN x.data.toList)) := by
  unfold S1.cracknelref04_Tail.f
  rw [ref_sum x hx k hk]
  simp only [Option.bind_some, tailN]
  have hlt := sumN_lt x.data.toList
  generalize sumN x.data.toList = s at hlt
  repeat rw [Int.tmod_eq_emod_of_nonneg (by first | omega | (unfold wrap64; rw [Int.tdiv_eq_ediv_of_nonneg (by omega)]; omega))]
  repeat rw [Int.tdiv_eq_ediv_of_nonneg (by omega)]
  repeat rw [wrap64_nat (by omega) (by omega)]
  congr 3
  · omega
  · congr 1
    · omega
    · congr 1
      congr 1
      omega

theorem bytes_one (x : ByteArray) : bytes [x] = x.data.toList := by simp [bytes]
theorem right_f (x : ByteArray) (hx : x.size < 2 ^ 60) : S1.crc_Right.f x = some (if 4 ≤ x.size then (x.extract (x.size - 4) x.size).toList == (tailN (sumN (x.extract 0 (x.size - 4)).data.toList)).toList else false) := by
  unfold S1.crc_Right.f
  rw [wrap64_nat (by omega) (by omega)]
  by_cases h : 4 ≤ x.size
  · have hs : (x.extract 0 (x.size - 4)).size ≤ x.size := by rw [ByteArray.size_extract]; omega
    rw [if_pos (by omega), if_pos (by omega), if_pos (by omega), if_pos h, show ((x.size : Int) - 4).toNat = x.size - 4 by omega]
    rw [tail_f [x.extract 0 (x.size - 4)] x.size (by omega) (by intro y hy; rw [List.mem_singleton] at hy; subst hy; exact hs), bytes_one]
    rfl
  · rw [if_neg (by omega), if_neg h]
theorem ref_right (x : ByteArray) (hx : x.size < 2 ^ 60) (k : Nat) (hk : x.size + 100 < k) : S1.cracknelref04_Right.f k x = some (if 4 ≤ x.size then (x.extract (x.size - 4) x.size).toList == (tailN (sumN (x.extract 0 (x.size - 4)).data.toList)).toList else false) := by
  unfold S1.cracknelref04_Right.f
  by_cases h : 4 ≤ x.size
  · have hs : (x.extract 0 (x.size - 4)).size ≤ x.size := by rw [ByteArray.size_extract]; omega
    rw [if_pos (by omega), wrap64_nat (by omega) (by omega), if_pos (by omega), if_pos (by omega), if_pos h, show ((x.size : Int) - 4).toNat = x.size - 4 by omega]
    rw [ref_tail _ (by omega) k (by omega)]
    rfl
  · rw [if_neg (by omega), if_neg h]
theorem step_f (k s b : Nat) (hs : s < 2 ^ 32) (hb : b < 256) (hk : 8 < k) : S1.crc_Step.f k (s : Int) (b : Int) = some ((stepN s b : Nat) : Int) := by
  have hx : ((s % 256) ^^^ b) < 256 := Nat.xor_lt_two_pow (n := 8) (by omega) (by omega)
  unfold S1.crc_Step.f
  rw [show (s : Int) % 256 = ((s % 256 : Nat) : Int) by omega, show (s : Int) / 256 = ((s / 256 : Nat) : Int) by omega]
  rw [bits_xor8 _ _ (by omega) (by omega), entry_f k _ (by omega) hk]
  simp only [Option.bind_some]
  rw [bits_xor32 _ _ (by omega) (Mi_lt 8 (by omega))]
  rfl
theorem alive_f : cracknellaw04_alive.f = some true := rfl
end Go.Proofs.Ytgpbdfkhpkijcaa.Crc
