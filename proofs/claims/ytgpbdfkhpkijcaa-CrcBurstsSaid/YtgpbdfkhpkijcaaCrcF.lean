/- Plain law of bursts: a text with its sum is right; bits turned within 32 in a row, it is right no longer. -/
import Derived.Test.YtgpbdfkhpkijcaaCrcE
import Derived.Lib.Strings
namespace Go.Proofs.Ytgpbdfkhpkijcaa.Crc
open Go.RowKit Go.Proofs.YtgpbdfkhpkijcaaW.PrintWords Go.Proofs.YtgpbdfkhpkijcaaW.PrintLast Go.Proofs.YtgpbdfkhpkijcaaW.PrintMore

theorem M_zero {x : Nat} (hx : x < 2 ^ 32) (h : M x = 0) : x = 0 := by
  unfold M at h
  split at h
  · have h2 : x / 2 = P := by
      have := congrArg (· ^^^ P) h
      simp only [Nat.xor_assoc, Nat.xor_self, Nat.xor_zero, Nat.zero_xor] at this
      exact this
    have : P = 3988292384 := rfl
    omega
  · omega
theorem Mi_inj0 (i : Nat) : ∀ {x : Nat}, x < 2 ^ 32 → Mi i x = 0 → x = 0 := by
  induction i with
  | zero => exact fun _ h => h
  | succ i ih => exact fun hx h => M_zero hx (ih (M_lt hx) h)
theorem xor_zero_eq {x y : Nat} (h : x ^^^ y = 0) : x = y := by
  have := congrArg (· ^^^ y) h
  simp only [Nat.xor_assoc, Nat.xor_self, Nat.xor_zero, Nat.zero_xor] at this
  exact this
theorem Mi_inj {i x y : Nat} (hx : x < 2 ^ 32) (hy : y < 2 ^ 32) (h : Mi i x = Mi i y) : x = y := by
  refine xor_zero_eq (Mi_inj0 i (Nat.xor_lt_two_pow hx hy) ?_)
  rw [Mi_xor, h, Nat.xor_self]

def LEn : List Nat → Nat
  | [] => 0
  | b :: l => b ^^^ (LEn l * 256)
def stM (v : Nat) (l : List Nat) : Nat := l.foldl stepN v
theorem stM_LE : ∀ (l : List Nat) (v : Nat), stM v l = Mi (8 * l.length) (v ^^^ LEn l)
  | [], v => by simp [stM, LEn, Mi]
  | b :: l, v => by
    have ih := stM_LE l (stepN v b)
    show stM (stepN v b) l = _
    rw [ih, List.length_cons, Nat.mul_succ, Nat.add_comm, Mi_add, LEn, ← Nat.xor_assoc, Mi_xor 8, Mi_shift 8 (LEn l * 256) (by omega), ← stepN_eq]
    congr 2
    omega
theorem stN_stM (v : Nat) (l : List UInt8) : stN v l = stM v (l.map UInt8.toNat) := by
  unfold stN stM; rw [List.foldl_map]
theorem mul256_xor (a b : Nat) : (a ^^^ b) * 256 = (a * 256) ^^^ (b * 256) := by
  have h := Nat.shiftLeft_xor_distrib (a := a) (b := b) (i := 8)
  simpa [Nat.shiftLeft_eq] using h
theorem mul2_xor (a b j : Nat) : (a ^^^ b) * 2 ^ j = (a * 2 ^ j) ^^^ (b * 2 ^ j) := by
  have h := Nat.shiftLeft_xor_distrib (a := a) (b := b) (i := j)
  simpa [Nat.shiftLeft_eq] using h
theorem LEn_set (j : Nat) : ∀ (l : List Nat) (i : Nat), i < l.length → LEn (l.set i (l.getD i 0 ^^^ 2 ^ j)) = LEn l ^^^ 2 ^ (8 * i + j)
  | [], i, h => absurd h (Nat.not_lt_zero _)
  | b :: l, 0, _ => by
    simp only [List.set_cons_zero, LEn, List.getD_cons_zero, Nat.mul_zero, Nat.zero_add]
    rw [Nat.xor_assoc, Nat.xor_comm (2 ^ j), ← Nat.xor_assoc]
  | b :: l, i + 1, h => by
    have ih := LEn_set j l i (by simpa using h)
    simp only [List.set_cons_succ, LEn, List.getD_cons_succ]
    rw [ih, mul256_xor, ← Nat.xor_assoc]
    congr 1
    rw [show 8 * (i + 1) + j = 8 * i + j + 8 by omega, Nat.pow_add 2 (8 * i + j) 8]

def C0 : Nat := Mi 32 4294967295
theorem xor256 (b c : Nat) (hb : b < 256) : b ^^^ (c * 256) = b + 256 * c := by
  have h := split8 (b + 256 * c)
  rw [show (b + 256 * c) / 256 = c by omega, show (b + 256 * c) % 256 = b by omega, Nat.xor_comm] at h
  exact h.symm
theorem four (t0 t1 t2 t3 v : Nat) (h0 : t0 < 256) (h1 : t1 < 256) (h2 : t2 < 256) (h3 : t3 < 256) (hv : v < 2 ^ 32) :
    (t0 = (4294967295 - v) % 256 ∧ t1 = (4294967295 - v) / 256 % 256 ∧ t2 = (4294967295 - v) / 65536 % 256 ∧ t3 = (4294967295 - v) / 16777216 % 256) ↔ stM v [t0, t1, t2, t3] = C0 := by
  rw [stM_LE]
  have hl : LEn [t0, t1, t2, t3] = t0 + 256 * (t1 + 256 * (t2 + 256 * t3)) := by
    simp only [LEn]
    rw [Nat.zero_mul, Nat.xor_zero, xor256 t2 t3 h2, xor256 t1 _ h1, xor256 t0 _ h0]
  have hlt : LEn [t0, t1, t2, t3] < 2 ^ 32 := by rw [hl]; omega
  constructor
  · rintro ⟨e0, e1, e2, e3⟩
    have e : LEn [t0, t1, t2, t3] = 4294967295 - v := by rw [hl]; omega
    show Mi 32 _ = _
    rw [e, ← not_xor hv, Nat.xor_comm, Nat.xor_assoc, Nat.xor_self, Nat.xor_zero]; rfl
  · intro h
    have e := Mi_inj (i := 32) (Nat.xor_lt_two_pow hv hlt) (by decide) h
    have e2 : LEn [t0, t1, t2, t3] = 4294967295 - v := by
      have h3 := congrArg (v ^^^ ·) e
      simp only [← Nat.xor_assoc, Nat.xor_self, Nat.zero_xor] at h3
      rw [h3, Nat.xor_comm, not_xor hv]
    rw [hl] at e2
    omega

/-- which texts are right, by all their bytes at once -/
theorem right_iff (x : ByteArray) (hx : x.size < 2 ^ 60) (h4 : 4 ≤ x.size) : S1.crc_Right.f x = some (decide (stM 4294967295 (x.data.toList.map UInt8.toNat) = C0)) := by
  rw [right_f x hx, if_pos h4]
  congr 1
  have hlen : x.data.toList.length = x.size := data_length x
  have e1 : (x.extract 0 (x.size - 4)).data.toList = x.data.toList.take (x.size - 4) := by
    rw [ByteArray.data_extract, Array.toList_extract]; simp
  have e2 : (x.extract (x.size - 4) x.size).data.toList = x.data.toList.drop (x.size - 4) := by
    rw [ByteArray.data_extract, Array.toList_extract, List.extract_eq_take_drop]; exact List.take_of_length_le (by rw [List.length_drop, hlen]; exact Nat.le_refl _)
  obtain ⟨p, hp⟩ : ∃ p, x.data.toList.take (x.size - 4) = p := ⟨_, rfl⟩
  obtain ⟨t, ht⟩ : ∃ t, x.data.toList.drop (x.size - 4) = t := ⟨_, rfl⟩
  have hpt : x.data.toList = p ++ t := by rw [← hp, ← ht, List.take_append_drop]
  have htl : t.length = 4 := by rw [← ht, List.length_drop]; omega
  rw [e1, hp, hpt, List.map_append]
  have hsplit : stM 4294967295 (p.map UInt8.toNat ++ t.map UInt8.toNat) = stM (stN 4294967295 p) (t.map UInt8.toNat) := by
    rw [stN_stM]; unfold stM; rw [List.foldl_append]
  rw [hsplit]
  have hv := stN_lt p (s := 4294967295) (by decide)
  have hs : sumN p = 4294967295 - stN 4294967295 p := rfl
  rw [hs]
  generalize stN 4294967295 p = v at hv
  match t, htl with
  | [b0, b1, b2, b3], _ =>
    have h := four b0.toNat b1.toNat b2.toNat b3.toNat v (UInt8.toNat_lt _) (UInt8.toNat_lt _) (UInt8.toNat_lt _) (UInt8.toNat_lt _) hv
    have hT : (tailN (4294967295 - v)).data.toList = [UInt8.ofNat ((4294967295 - v) % 256), UInt8.ofNat ((4294967295 - v) / 256 % 256), UInt8.ofNat ((4294967295 - v) / 65536 % 256), UInt8.ofNat ((4294967295 - v) / 16777216 % 256)] := by
      unfold tailN; rw [strOfNums_data]; rfl
    have hto : ∀ y : ByteArray, y.toList = y.data.toList := fun y => Lib.toList_data y
    rw [hto, hto, hT, e2, ht]
    generalize 4294967295 - v = N at h
    rw [Bool.eq_iff_iff, beq_iff_eq, decide_eq_true_iff]
    refine Iff.trans ?_ h
    simp only [List.cons.injEq, and_true]
    have hu : ∀ (b : UInt8) (m : Nat), m < 256 → (b = UInt8.ofNat m ↔ b.toNat = m) := by
      intro b m hm
      constructor
      · intro e; rw [e, UInt8.toNat_ofNat']; exact Nat.mod_eq_of_lt hm
      · intro e; rw [← e, UInt8.ofNat_toNat]
    rw [hu _ _ (by omega), hu _ _ (by omega), hu _ _ (by omega), hu _ _ (by omega)]

def casts (l : List Nat) : List Int := l.map fun (b : Nat) => (b : Int)
theorem rd_casts (l : List Nat) (i : Nat) : rd (casts l) (i : Int) = ((l.getD i 0 : Nat) : Int) := by
  unfold rd casts
  rw [Int.toNat_natCast, List.getD_eq_getElem?_getD, List.getElem?_map, List.getD_eq_getElem?_getD]
  cases l[i]? <;> rfl
/-- what the rounds have turned, as one number over the text's bits -/
theorem bst_inv (a mask n : Nat) (ys : List Nat) (hn : ys.length = n) (hb : ∀ y ∈ ys, y < 256) : ∀ k, ∃ zs m, bst a mask n (casts ys) k = (casts zs, decide (m ≠ 0)) ∧ zs.length = n ∧ (∀ z ∈ zs, z < 256) ∧ m < 2 ^ k ∧ LEn zs = LEn ys ^^^ (m * 2 ^ a)
  | 0 => ⟨ys, 0, rfl, hn, hb, by decide, by simp⟩
  | k + 1 => by
    obtain ⟨zs, m, h1, h2, h3, h4, h5⟩ := bst_inv a mask n ys hn hb k
    by_cases hon : onB a mask n k = true
    · have hin : a + k < 8 * n := by
        unfold onB at hon; rw [Bool.and_eq_true] at hon; exact of_decide_eq_true hon.2
      have hidx : (a + k) / 8 < zs.length := by omega
      have hj : (a + k) % 8 < 8 := Nat.mod_lt _ (by decide)
      have hp : 2 ^ ((a + k) % 8) < 2 ^ 8 := Nat.pow_lt_pow_right (by decide) hj
      have hz : zs.getD ((a + k) / 8) 0 < 2 ^ 8 := by
        rw [List.getD_eq_getElem?_getD, List.getElem?_eq_getElem hidx]; exact h3 _ (List.getElem_mem _)
      refine ⟨zs.set ((a + k) / 8) (zs.getD ((a + k) / 8) 0 ^^^ 2 ^ ((a + k) % 8)), m ^^^ 2 ^ k, ?_, by rw [List.length_set]; exact h2, ?_, ?_, ?_⟩
      · have hne : m ^^^ 2 ^ k ≠ 0 := fun e => by have := xor_zero_eq e; omega
        rw [bst_yes hon, h1]
        simp only [decide_eq_true hne]
        rw [rd_casts, bits_xor8 _ _ hz hp]
        unfold casts
        rw [List.map_set]
      · intro z hz'
        rcases List.mem_or_eq_of_mem_set hz' with h | h
        · exact h3 z h
        · rw [h]; exact Nat.xor_lt_two_pow (n := 8) hz hp
      · exact Nat.xor_lt_two_pow (Nat.lt_of_lt_of_le h4 (Nat.pow_le_pow_right (by decide) (by omega))) (Nat.pow_lt_pow_right (by decide) (by omega))
      · rw [LEn_set _ _ _ hidx, h5, mul2_xor, ← Nat.xor_assoc]
        congr 1
        rw [← Nat.pow_add]
        congr 1
        omega
    · have hoff : onB a mask n k = false := by cases h : onB a mask n k with | true => exact absurd h hon | false => rfl
      refine ⟨zs, m, by rw [bst_no hoff]; exact h1, h2, h3, Nat.lt_of_lt_of_le h4 (Nat.pow_le_pow_right (by decide) (by omega)), h5⟩

theorem bursts_pure (s T : ByteArray) (hT4 : T.size = 4) (hs : s.size ≤ 300) (hself : S1.crc_Right.f (s ++ T) = some true) (a mask : Nat) (ha : a < 8 * (s.size + 4)) :
    S1.crc_Right.f (strOfNums (bst a mask (s.size + 4) (bytesOf (s ++ T)) 32).1) = some (!(bst a mask (s.size + 4) (bytesOf (s ++ T)) 32).2) := by
  have hsz : (s ++ T).size = s.size + 4 := by rw [ByteArray.size_append, hT4]
  have hys : bytesOf (s ++ T) = casts ((s ++ T).data.toList.map UInt8.toNat) := by
    unfold bytesOf casts; rw [List.map_map]; rfl
  obtain ⟨ys, hye⟩ : ∃ ys, (s ++ T).data.toList.map UInt8.toNat = ys := ⟨_, rfl⟩
  have hyl : ys.length = s.size + 4 := by rw [← hye, List.length_map, data_length, hsz]
  have hyb : ∀ y ∈ ys, y < 256 := by
    intro y hy; rw [← hye] at hy; obtain ⟨b, _, rfl⟩ := List.mem_map.1 hy; exact UInt8.toNat_lt b
  obtain ⟨zs, m, h1, h2, h3, h4, h5⟩ := bst_inv a mask (s.size + 4) ys hyl hyb 32
  rw [right_iff _ (by omega) (by omega), hye] at hself
  have hC : stM 4294967295 ys = C0 := by simpa using hself
  rw [hys, hye, h1]
  have hzd : (strOfNums (casts zs)).data.toList.map UInt8.toNat = zs := by
    rw [strOfNums_data]; unfold casts; rw [List.map_map, List.map_map]
    have : ∀ z ∈ zs, ((UInt8.toNat ∘ fun n : Int => UInt8.ofNat n.toNat) ∘ fun (b : Nat) => (b : Int)) z = z := by
      intro z hz; show (UInt8.ofNat ((z : Int).toNat)).toNat = z
      rw [Int.toNat_natCast, UInt8.toNat_ofNat']; exact Nat.mod_eq_of_lt (h3 z hz)
    rw [List.map_congr_left this, List.map_id']
  have hzs : (strOfNums (casts zs)).size = s.size + 4 := by rw [strOfNums_size]; unfold casts; rw [List.length_map, h2]
  show S1.crc_Right.f (strOfNums (casts zs)) = some (!(decide (m ≠ 0)))
  rw [right_iff _ (by omega) (by omega), hzd]
  congr 1
  rw [stM_LE] at hC ⊢
  rw [hyl] at hC
  rw [h2, h5, ← Nat.xor_assoc, Mi_xor, hC]
  have hm : Mi (8 * (s.size + 4)) (m * 2 ^ a) = Mi (8 * (s.size + 4) - a) m := by
    have e : 8 * (s.size + 4) = a + (8 * (s.size + 4) - a) := by omega
    rw [e, Mi_add, Mi_shift a _ (by rw [Nat.mul_mod_left]), Nat.mul_div_cancel _ (Nat.pow_pos (by decide))]
    congr 1; omega
  rw [hm]
  by_cases h0 : m = 0
  · subst h0; rw [Mi_zero, Nat.xor_zero]; simp
  · have hne : C0 ^^^ Mi (8 * (s.size + 4) - a) m ≠ C0 := by
      intro e
      have h6 := congrArg (C0 ^^^ ·) e
      simp only [← Nat.xor_assoc, Nat.xor_self, Nat.zero_xor] at h6
      exact h0 (Mi_inj0 _ h4 h6)
    rw [decide_eq_false hne]; simp [h0]

theorem tail_size (n : Nat) : (tailN n).size = 4 := by unfold tailN; rw [strOfNums_size]; rfl
theorem right_gen (x t : ByteArray) (hx : x.size < 2 ^ 50) (ht : t.size = 4) (h : tailN (sumN x.data.toList) = t) : S1.crc_Right.f (x ++ t) = some true := by
  have hsz : (x ++ t).size = x.size + 4 := by rw [ByteArray.size_append, ht]
  have e1 : (x ++ t).extract 0 ((x ++ t).size - 4) = x := by
    rw [hsz]; exact ByteArray.extract_append_eq_left (by omega)
  have e2 : (x ++ t).extract ((x ++ t).size - 4) (x ++ t).size = t := by
    rw [hsz]; exact ByteArray.extract_append_eq_right (by omega) (by omega)
  rw [right_f _ (by omega), if_pos (by omega), e1, e2, h]
  simp
/-- the law's walk at any text, place and mask -/
theorem CrcBursts_walk (s : ByteArray) (a m : Int) (W : World) (ws : s.size ≤ 140737488351232) (wa : (Lit.int .i64 a).wf = true) (wm : (Lit.int .u32 m).wf = true) :
    Calls Try.prog 9 #[.string s, .int .i64 a, .int .u32 m] W fun e w' => e = .returned (.bool true) ∧ Below W.heap.size W w' := by
  have hone : ∀ y ∈ [s], y.size ≤ s.size := by intro y hy; rw [List.mem_singleton] at hy; subst hy; exact Nat.le_refl _
  have hT := tail_f [s] s.size (by omega) hone
  rw [bytes_one] at hT
  have hT4 := tail_size (sumN s.data.toList)
  by_cases h : 300 < s.size
  · exact bursts_long s a m _ hT hT4 ws h W
  · by_cases h0 : a < 0
    · exact bursts_neg s a m _ hT hT4 ws (by omega) h0 W
    · by_cases h1 : 8 * ((s.size : Int) + 4) ≤ a
      · exact bursts_far s a m _ hT hT4 ws (by omega) (by omega) h1 W
      · have bm := bounds_u32 wm
        obtain ⟨a', rfl⟩ : ∃ a' : Nat, a = a' := ⟨a.toNat, by omega⟩
        obtain ⟨m', rfl⟩ : ∃ m' : Nat, m = m' := ⟨m.toNat, by omega⟩
        exact bursts_walk s a' m' _ hT (by omega) hT4 (by omega) (by omega) (bursts_pure s _ hT4 (by omega) (right_gen s _ (by omega) hT4 rfl) a' m' (by omega)) W
end Go.Proofs.Ytgpbdfkhpkijcaa.Crc
