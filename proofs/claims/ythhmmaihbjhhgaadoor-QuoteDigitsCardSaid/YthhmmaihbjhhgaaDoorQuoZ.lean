/- The law QuoteDigits, walked by hand: whatever the letter, it returns true. -/
import Derived.Test.YthhmmaihbjhhgaaDoorQuoW
import Derived.Test.YthhmmaihbjhhgaaDoorQuoY
namespace Go.Proofs.YthhmmaihbjhhgaaDoor.Giv
open Go.RowKit Go.Proofs.YthhmmaihbjhhgaaDoorW.PrintWords Go.Proofs.YthhmmaihbjhhgaaDoorW.PrintLast Go.Proofs.YthhmmaihbjhhgaaDoorW.PrintMore
open Go.Proofs.YthhmmaihbjhhgaaDoor.U1 Go.Proofs.YthhmmaihbjhhgaaDoor.Q1 Go.Proofs.YthhmmaihbjhhgaaDoor.Q2

def signS (g : Bool) : ByteArray := if g = true then ⟨#[48, 49, 50, 51, 52, 53, 54, 55, 56, 57, 65, 66, 67, 68, 69, 70]⟩ else ⟨#[48, 49, 50, 51, 52, 53, 54, 55, 56, 57, 97, 98, 99, 100, 101, 102]⟩
theorem sign_at : ∀ g : Bool, ∀ x : Nat, x < 16 → (signS g).data.toList.getD x 0 = signN g x := by decide +kernel
theorem bits_and (m e : Nat) (h : m < 1099511627776) (he : e ≤ 20) : Go.bits .and .i64 (m : Int) ((2 ^ e - 1 : Nat) : Int) = ((m % 2 ^ e : Nat) : Int) := by
  have h2 : 2 ^ e ≤ 2 ^ 20 := Nat.pow_le_pow_right (by omega) he
  have h3 : 1 ≤ 2 ^ e := Nat.one_le_two_pow
  have e1 : (BitVec.ofInt 64 (m : Int)).toNat = m := by
    rw [BitVec.ofInt_natCast, BitVec.toNat_ofNat]; exact Nat.mod_eq_of_lt (by omega)
  have e2 : (BitVec.ofInt 64 ((2 ^ e - 1 : Nat) : Int)).toNat = 2 ^ e - 1 := by
    rw [BitVec.ofInt_natCast, BitVec.toNat_ofNat]; exact Nat.mod_eq_of_lt (by omega)
  show IntKind.i64.wrap ((BitVec.ofInt 64 (m : Int) &&& BitVec.ofInt 64 ((2 ^ e - 1 : Nat) : Int)).toNat : Int) = _
  rw [BitVec.toNat_and, e1, e2, Nat.and_two_pow_sub_one_eq_mod, i64_w]
  have := Nat.mod_lt m (show 0 < 2 ^ e by omega)
  exact w64 (by omega) (by omega)
theorem bits_and15 (m : Nat) (h : m < 1099511627776) : Go.bits .and .i64 (m : Int) 15 = ((m % 16 : Nat) : Int) := bits_and m 4 h (by decide)
theorem bits_and1023 (m : Nat) (h : m < 1099511627776) : Go.bits .and .i64 (m : Int) 1023 = ((m % 1024 : Nat) : Int) := bits_and m 10 h (by decide)
theorem sign_get (g : Bool) (x : Nat) (hx : x < 16) : ∀ h : x < (signS g).size, (((signS g)[x]'h).toNat : Int) = ((signN g x).toNat : Int) := by
  intro h
  have h1 := bt_at (signS g) (x : Int) h
  rw [byte_bt, sign_at g x hx] at h1
  exact h1
theorem nums_digs (g : Bool) (n : Nat) : strOfNums [92, 117, ((signN g (n / 4096 % 16)).toNat : Int), ((signN g (n / 256 % 16)).toNat : Int), ((signN g (n / 16 % 16)).toNat : Int), ((signN g (n % 16)).toNat : Int)] = ⟨(digs g n).toArray⟩ := by
  apply ofList_eq
  rw [strOfNums_list]
  unfold digs
  simp
/-- the closure writes a number's four digits -/
theorem four_g (g : Bool) (a : Int) (n : Nat) (ha : a = (n : Int)) (hn : n < 1114112) (B : Nat) (w : World) (hc : w.heap[B]? = some (.cells #[.string (signS g)] 9 (0, 0))) :
    Calls Tryd.prog 38 #[.int .i64 a, .pointer (some ⟨B, 0, none⟩)] w fun e w' => e = .returned (.string ⟨(digs g n).toArray⟩) ∧ Below w.heap.size w w' := by
  subst ha
  have := four_calls (signS g) (by cases g <;> rfl) n (n / 4096 % 16) (n / 256 % 16) (n / 16 % 16) (n % 16) (signN g (n / 4096 % 16)).toNat (signN g (n / 256 % 16)).toNat (signN g (n / 16 % 16)).toNat (signN g (n % 16)).toNat B w hc
    (by rw [show (n : Int) / 4096 = ((n / 4096 : Nat) : Int) by omega]; exact bits_and15 _ (by omega))
    (by rw [show (n : Int) / 256 = ((n / 256 : Nat) : Int) by omega]; exact bits_and15 _ (by omega))
    (by rw [show (n : Int) / 16 = ((n / 16 : Nat) : Int) by omega]; exact bits_and15 _ (by omega))
    (bits_and15 n (by omega)) (by omega) (by omega) (by omega) (by omega)
    (sign_get g _ (by omega)) (sign_get g _ (by omega)) (sign_get g _ (by omega)) (sign_get g _ (by omega))
  rw [nums_digs] at this
  exact this

set_option maxHeartbeats 4000000 in
set_option maxRecDepth 100000 in
theorem digits_small (g : Bool) (S : ByteArray) (hS : signS g = S) (k r : Nat) (P D : ByteArray) (w : World) (ht : Tabs w) (hP : cracknelref05_Put.f (r : Int) = some (P, true)) (h : r < 65536) (hD : (⟨(digs g r).toArray⟩ : ByteArray) = D) (hDs : D.size ≤ 12)
    (hR : quote_Read.f k ((⟨#[34]⟩ ++ D) ++ ⟨#[34]⟩) = some (P, (D.size : Int) + 2, 0)) (hal : cracknellaw07_alive.f k = some true) :
    Calls Tryd.prog 11 #[.int .i64 r, .bool g] w fun e w' => e = .returned (.bool true) ∧ Below w.heap.size w w' := by
  have FP := Aside0.mk hP
  have FR := Aside0.mk hR
  have FL := Aside0.mk hal
  have HB := Aside0.mk (Below.refl w.heap.size w)
  have c1 : decide (65536 ≤ (r : Int)) = false := decide_eq_false (by omega)
  have hmf : ∀ (fn : Fn) (first cap : Array Value) (w : World), (Instr.makeFunc fn first cap).run Tryd.prog w = .ok (.func fn first cap) w := fun _ _ _ _ => rfl
  have F4 : Aside0 (∀ (B : Nat) (w : World), w.heap[B]? = some (.cells #[.string S] 9 (0, 0)) → Calls Tryd.prog 38 #[.int .i64 r, .pointer (some ⟨B, 0, none⟩)] w fun e w' => e = .returned (.string D) ∧ Below w.heap.size w w') := ⟨by
    intro B w hc
    rw [← hD]
    rw [← hS] at hc
    exact four_g g _ r rfl (by omega) B w hc⟩
  have q1 : (9223372036854775807 < 1 + D.size) = False := eq_false (by omega)
  have q2 : (9223372036854775807 < 1 + D.size + 1) = False := eq_false (by omega)
  clear hP hR hal hD
  cases g with
  | false =>
    obtain rfl := hS
    go_enter Tryd.func11, Tryd.ntmps11
    go_wp2_with (first
      | (go_at_call 22; with_reducible refine (cracknelref05_Put.calls (r : Int) _ _ _ FP.out).mono ?_; rintro e w1 ⟨rfl, hb⟩; have HB := Aside0.mk (below_step HB.out hb); clear hb)
      | (go_at_call 38; refine (F4.out w1.heap.size (w1.alloc _) (heap_alloc_new _ _)).mono ?_; rintro e w2 ⟨rfl, hb⟩; have HB := Aside0.mk (below_step (below_alloc HB.out _) hb); clear hb)
      | (go_at_call 35; with_reducible refine (quote_Read.calls k _ _ _ _ _ FR.out).mono ?_; rintro e w3 ⟨rfl, hb⟩; have HB := Aside0.mk (below_step HB.out hb); clear hb)
      | (go_at_call 32; with_reducible refine (cracknellaw07_alive.calls k _ _ FL.out).mono ?_; rintro e w1 ⟨rfl, hb⟩; have HB := Aside0.mk (below_step HB.out hb); clear hb))
    go_ret
    exact ⟨rfl, HB.out⟩
  | true =>
    obtain rfl := hS
    go_enter Tryd.func11, Tryd.ntmps11
    go_wp2_with (first
      | (go_at_call 22; with_reducible refine (cracknelref05_Put.calls (r : Int) _ _ _ FP.out).mono ?_; rintro e w1 ⟨rfl, hb⟩; have HB := Aside0.mk (below_step HB.out hb); clear hb)
      | (go_at_call 38; refine (F4.out w1.heap.size (w1.alloc _) (heap_alloc_new _ _)).mono ?_; rintro e w2 ⟨rfl, hb⟩; have HB := Aside0.mk (below_step (below_alloc HB.out _) hb); clear hb)
      | (go_at_call 35; with_reducible refine (quote_Read.calls k _ _ _ _ _ FR.out).mono ?_; rintro e w3 ⟨rfl, hb⟩; have HB := Aside0.mk (below_step HB.out hb); clear hb)
      | (go_at_call 32; with_reducible refine (cracknellaw07_alive.calls k _ _ FL.out).mono ?_; rintro e w1 ⟨rfl, hb⟩; have HB := Aside0.mk (below_step HB.out hb); clear hb))
    go_ret
    exact ⟨rfl, HB.out⟩
set_option maxHeartbeats 4000000 in
set_option maxRecDepth 100000 in
theorem digits_wide (g : Bool) (S : ByteArray) (hS : signS g = S) (k r m hi lo : Nat) (P D H L : ByteArray) (w : World) (ht : Tabs w) (hP : cracknelref05_Put.f (r : Int) = some (P, true)) (h : 65536 ≤ r) (h1 : r ≤ 1114111)
    (em : r - 65536 = m) (eh : m / 1024 = hi) (el : m % 1024 = lo) (hD : (⟨(digs g r).toArray⟩ : ByteArray) = D) (hH : (⟨(digs g (55296 + hi)).toArray⟩ : ByteArray) = H) (hL : (⟨(digs g (56320 + lo)).toArray⟩ : ByteArray) = L) (hHs : H.size = 6) (hLs : L.size = 6)
    (hR : quote_Read.f k ((⟨#[34]⟩ ++ (H ++ L)) ++ ⟨#[34]⟩) = some (P, ((H ++ L).size : Int) + 2, 0)) (hal : cracknellaw07_alive.f k = some true) :
    Calls Tryd.prog 11 #[.int .i64 r, .bool g] w fun e w' => e = .returned (.bool true) ∧ Below w.heap.size w w' := by
  have FP := Aside0.mk hP
  have FR := Aside0.mk hR
  have FL := Aside0.mk hal
  have HB := Aside0.mk (Below.refl w.heap.size w)
  have c1 : decide (65536 ≤ (r : Int)) = true := decide_eq_true (by omega)
  have hmf : ∀ (fn : Fn) (first cap : Array Value) (w : World), (Instr.makeFunc fn first cap).run Tryd.prog w = .ok (.func fn first cap) w := fun _ _ _ _ => rfl
  have F (q : Nat) (a : Int) (ha : a = (q : Int)) (hq : q < 1114112) : Aside0 (∀ (B : Nat) (w : World), w.heap[B]? = some (.cells #[.string S] 9 (0, 0)) → Calls Tryd.prog 38 #[.int .i64 a, .pointer (some ⟨B, 0, none⟩)] w fun e w' => e = .returned (.string ⟨(digs g q).toArray⟩) ∧ Below w.heap.size w w') := ⟨by
    intro B w hc
    rw [← hS] at hc
    exact four_g g a q ha hq B w hc⟩
  have F4 := F r (r : Int) rfl (by omega)
  have FH := F (55296 + hi) (55296 + (hi : Int)) (by omega) (by omega)
  have FW := F (56320 + lo) (56320 + (lo : Int)) (by omega) (by omega)
  rw [hD] at F4
  rw [hH] at FH
  rw [hL] at FW
  clear F
  have e1 : (r : Int) - 65536 = (m : Int) := by omega
  have e2 : (m : Int) / 1024 = (hi : Int) := by omega
  have e3 : Go.bits .and .i64 (m : Int) 1023 = (lo : Int) := by rw [bits_and1023 m (by omega)]; omega
  have e4 : (H ++ L).size = 12 := by rw [ByteArray.size_append]; omega
  have hlo : lo < 1024 := by omega
  have hhi : hi < 1024 := by omega
  clear hP hR hal hD hH hL em eh el
  cases g with
  | false =>
    obtain rfl : S = ⟨#[48, 49, 50, 51, 52, 53, 54, 55, 56, 57, 97, 98, 99, 100, 101, 102]⟩ := hS.symm
    go_enter Tryd.func11, Tryd.ntmps11
    go_wp2_with (first
      | (go_at_call 22; with_reducible refine (cracknelref05_Put.calls (r : Int) _ _ _ FP.out).mono ?_; rintro e w1 ⟨rfl, hb⟩; have HB := Aside0.mk (below_step HB.out hb); clear hb)
      | (go_at_call 38; with_reducible refine (F4.out w1.heap.size (w1.alloc _) (heap_alloc_new _ _)).mono ?_; rintro e w2 ⟨rfl, hb⟩; have HC := Aside0.mk ((hb.block w1.heap.size (lt_of_block (heap_alloc_new _ _))).trans (heap_alloc_new _ _)); have HB := Aside0.mk (below_step (below_alloc HB.out _) hb); clear hb)
      | (go_at_call 38; with_reducible refine (FH.out _ _ HC.out).mono ?_; rintro e w4 ⟨rfl, hb⟩; have HC := Aside0.mk ((hb.block _ (lt_of_block HC.out)).trans HC.out); have HB := Aside0.mk (below_step HB.out hb); clear hb)
      | (go_at_call 38; with_reducible refine (FW.out _ _ HC.out).mono ?_; rintro e w5 ⟨rfl, hb⟩; have HB := Aside0.mk (below_step HB.out hb); clear hb)
      | (go_at_call 35; with_reducible refine (quote_Read.calls k _ _ _ _ _ FR.out).mono ?_; rintro e w3 ⟨rfl, hb⟩; have HB := Aside0.mk (below_step HB.out hb); clear hb)
      | (go_at_call 32; with_reducible refine (cracknellaw07_alive.calls k _ _ FL.out).mono ?_; rintro e w1 ⟨rfl, hb⟩; have HB := Aside0.mk (below_step HB.out hb); clear hb))
    go_ret
    exact ⟨rfl, HB.out⟩
  | true =>
    obtain rfl : S = ⟨#[48, 49, 50, 51, 52, 53, 54, 55, 56, 57, 65, 66, 67, 68, 69, 70]⟩ := hS.symm
    go_enter Tryd.func11, Tryd.ntmps11
    go_wp2_with (first
      | (go_at_call 22; with_reducible refine (cracknelref05_Put.calls (r : Int) _ _ _ FP.out).mono ?_; rintro e w1 ⟨rfl, hb⟩; have HB := Aside0.mk (below_step HB.out hb); clear hb)
      | (go_at_call 38; with_reducible refine (F4.out w1.heap.size (w1.alloc _) (heap_alloc_new _ _)).mono ?_; rintro e w2 ⟨rfl, hb⟩; have HC := Aside0.mk ((hb.block w1.heap.size (lt_of_block (heap_alloc_new _ _))).trans (heap_alloc_new _ _)); have HB := Aside0.mk (below_step (below_alloc HB.out _) hb); clear hb)
      | (go_at_call 38; with_reducible refine (FH.out _ _ HC.out).mono ?_; rintro e w4 ⟨rfl, hb⟩; have HC := Aside0.mk ((hb.block _ (lt_of_block HC.out)).trans HC.out); have HB := Aside0.mk (below_step HB.out hb); clear hb)
      | (go_at_call 38; with_reducible refine (FW.out _ _ HC.out).mono ?_; rintro e w5 ⟨rfl, hb⟩; have HB := Aside0.mk (below_step HB.out hb); clear hb)
      | (go_at_call 35; with_reducible refine (quote_Read.calls k _ _ _ _ _ FR.out).mono ?_; rintro e w3 ⟨rfl, hb⟩; have HB := Aside0.mk (below_step HB.out hb); clear hb)
      | (go_at_call 32; with_reducible refine (cracknellaw07_alive.calls k _ _ FL.out).mono ?_; rintro e w1 ⟨rfl, hb⟩; have HB := Aside0.mk (below_step HB.out hb); clear hb))
    go_ret
    exact ⟨rfl, HB.out⟩
set_option maxHeartbeats 4000000 in
set_option maxRecDepth 100000 in
theorem digits_none (g : Bool) (k : Nat) (r : Int) (P : ByteArray) (w : World) (ht : Tabs w) (hP : cracknelref05_Put.f r = some (P, false)) (hal : cracknellaw07_alive.f k = some true) :
    Calls Tryd.prog 11 #[.int .i64 r, .bool g] w fun e w' => e = .returned (.bool true) ∧ Below w.heap.size w w' := by
  have FP := Aside0.mk hP
  have FL := Aside0.mk hal
  have HB := Aside0.mk (Below.refl w.heap.size w)
  clear hP hal
  go_enter Tryd.func11, Tryd.ntmps11
  go_wp2_with (first
    | (go_at_call 22; with_reducible refine (cracknelref05_Put.calls r _ _ _ FP.out).mono ?_; rintro e w1 ⟨rfl, hb⟩; have HB := Aside0.mk (below_step HB.out hb); clear hb)
    | (go_at_call 32; with_reducible refine (cracknellaw07_alive.calls k _ _ FL.out).mono ?_; rintro e w1 ⟨rfl, hb⟩; have HB := Aside0.mk (below_step HB.out hb); clear hb))
  go_ret
  exact ⟨rfl, HB.out⟩
theorem digs_size (g : Bool) (n : Nat) : (⟨(digs g n).toArray⟩ : ByteArray).size = 6 := rfl
theorem in_quotes (l : List UInt8) : ((((⟨#[34]⟩ : ByteArray) ++ ⟨l.toArray⟩) ++ ⟨#[34]⟩ : ByteArray)).data.toList = 34 :: l ++ [34] := by
  rw [ByteArray.data_append, Array.toList_append, ByteArray.data_append, Array.toList_append]
  rfl
theorem join_list (a b : List UInt8) : (⟨a.toArray⟩ ++ ⟨b.toArray⟩ : ByteArray) = ⟨(a ++ b).toArray⟩ := by
  apply ofList_eq
  rw [ByteArray.data_append, Array.toList_append]
theorem size_list (l : List UInt8) : (⟨l.toArray⟩ : ByteArray).size = l.length := by
  show l.toArray.size = _
  rw [List.size_toArray]
theorem digits_walk (r : Int) (g : Bool) (w : World) (_ : (Lit.int .i64 r).wf = true) (ht : Tabs w) :
    Calls Tryd.prog 11 #[.int .i64 r, .bool g] w fun e w' => e = .returned (.bool true) ∧ Below w.heap.size w w' := by
  by_cases h : letterB r = true
  · obtain ⟨h0, h1, h2⟩ := (letter_iff r).1 h
    obtain ⟨n, rfl⟩ : ∃ n : Nat, r = n := ⟨r.toNat, by omega⟩
    have hP : cracknelref05_Put.f (n : Int) = some (⟨(enc (n : Int)).toArray⟩, true) := by rw [refPut]; unfold putS; rw [if_pos h]
    have hl := byDigs_len g n
    by_cases h6 : n < 65536
    · have e : byDigs g n = digs g n := by unfold byDigs; rw [if_pos h6]
      have hd := readS_digs g n h _ (by rw [e]; exact in_quotes (digs g n))
      rw [e] at hd
      have hq := read_S 3 100 _ _ hd (by omega) (by omega) (by rw [ByteArray.size_append, ByteArray.size_append, digs_size]; decide)
      exact digits_small g _ rfl 100 n _ _ w ht hP h6 rfl (by rw [digs_size]; decide) hq (alive07 100 (by decide))
    · have e : byDigs g n = digs g (55296 + (n - 65536) / 1024) ++ digs g (56320 + (n - 65536) % 1024) := by unfold byDigs; rw [if_neg h6]
      have hd := readS_digs g n h _ (in_quotes (byDigs g n))
      have hq := read_S 3 100 _ _ hd (by omega) (by omega) (by rw [ByteArray.size_append, ByteArray.size_append]; show 1 + (⟨(byDigs g n).toArray⟩ : ByteArray).size + 1 ≤ _; have := size_list (byDigs g n); omega)
      have hj := join_list (digs g (55296 + (n - 65536) / 1024)) (digs g (56320 + (n - 65536) % 1024))
      rw [← e] at hj
      exact digits_wide g _ rfl 100 n _ _ _ _ _ _ _ w ht hP (by omega) (by omega) rfl rfl rfl rfl rfl rfl (digs_size _ _) (digs_size _ _) (by rw [hj, size_list]; exact hq) (alive07 100 (by decide))
  · exact digits_none g 100 r _ w ht (by rw [refPut]; unfold putS; rw [if_neg h]) (alive07 100 (by decide))
end Go.Proofs.YthhmmaihbjhhgaaDoor.Giv
