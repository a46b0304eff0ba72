/- The walk of the law CrcBursts: what it does to the bytes of the text with its sum, round by round. -/
import Derived.Test.YtgpbdfkhpkijcaaCrcN
import Derived.OpenShut
namespace Go.Proofs.Ytgpbdfkhpkijcaa.Crc
open Go.RowKit Go.Proofs.YtgpbdfkhpkijcaaW.PrintWords Go.Proofs.YtgpbdfkhpkijcaaW.PrintLast Go.Proofs.YtgpbdfkhpkijcaaW.PrintMore
open Go.Proofs.Ytgpbdfkhpkijcaa.S1

def OwnB (w : World) (g : Nat) (xs : List Int) : Prop := ∀ i : Nat, i < xs.length → w.cell? ⟨g, i, none⟩ = some (.int .u8 (rd xs i)) ∧ w.frozen? ⟨g, i, none⟩ = false
theorem OwnB.set {w : World} {g : Nat} {xs : List Int} (h : OwnB w g xs) (i : Nat) (hi : i < xs.length) (x : Int) : OwnB (w.setCell ⟨g, i, none⟩ (.int .u8 x)) g (xs.set i x) := by
  intro j hj
  rw [List.length_set] at hj
  obtain ⟨h1, h2⟩ := h j hj
  refine ⟨?_, by rw [World.frozen?_setCell]; exact h2⟩
  by_cases e : j = i
  · subst e
    rw [World.cell?_setCell_same' _ _ _ (by rw [h1]; rfl)]
    simp [rd, hi]
  · rw [World.cell?_setCell_other]
    · rw [h1]; simp [rd, List.getElem?_set_ne (Ne.symm e)]
    · intro hh; injection hh with _ h3; exact e h3.symm

theorem bytes_own (w : World) (s : ByteArray) : OwnB (Lib.bytesWorld w 5 s) w.heap.size (bytesOf s) := by
  intro i hi
  rw [bytesOf_length] at hi
  refine ⟨?_, ?_⟩
  · rw [Lib.bytesWorld_cell w 5 s i hi]
    have h' : i < s.data.toList.length := by rw [data_length]; exact hi
    simp [bytesOf, rd, List.getD_eq_getElem?_getD, List.getElem?_eq_getElem h']
  · have hh := Lib.bytesWorld_at_new w 5 s
    have hsz : i < (Lib.bytesCells w 5 s).size := by
      unfold Lib.bytesCells
      rw [Array.size_append, Array.size_map]
      have : s.data.size = s.size := rfl
      omega
    simp only [World.frozen?, hh]
    simp; omega
def onB (a mask n k : Nat) : Bool := (mask / 2 ^ k % 2 == 1) && decide (a + k < 8 * n)
def bst (a mask n : Nat) (xs0 : List Int) : Nat → List Int × Bool
  | 0 => (xs0, false)
  | k + 1 => if onB a mask n k = true then ((bst a mask n xs0 k).1.set ((a + k) / 8) (Go.bits .xor .u8 (rd (bst a mask n xs0 k).1 (((a + k) / 8 : Nat) : Int)) ((2 ^ ((a + k) % 8) : Nat) : Int)), true) else bst a mask n xs0 k
theorem bst_len (a mask n : Nat) (xs0 : List Int) : ∀ k, (bst a mask n xs0 k).1.length = xs0.length
  | 0 => rfl
  | k + 1 => by rw [bst]; split <;> simp [bst_len a mask n xs0 k]
theorem bst_no {a mask n k : Nat} {xs0 : List Int} (h : onB a mask n k = false) : bst a mask n xs0 (k + 1) = bst a mask n xs0 k := by rw [bst, h]; rfl
theorem bst_yes {a mask n k : Nat} {xs0 : List Int} (h : onB a mask n k = true) : bst a mask n xs0 (k + 1) = ((bst a mask n xs0 k).1.set ((a + k) / 8) (Go.bits .xor .u8 (rd (bst a mask n xs0 k).1 (((a + k) / 8 : Nat) : Int)) ((2 ^ ((a + k) % 8) : Nat) : Int)), true) := by rw [bst, h]; rfl
theorem onB_out {a mask n k : Nat} (h : ¬ a + k < 8 * n) : onB a mask n k = false := by simp [onB, h]
theorem bit_of (mask k : Nat) (hm : mask < 4294967296) : Go.bits .and .u32 ((mask : Int) / 2 ^ k) 1 = ((mask / 2 ^ k % 2 : Nat) : Int) := by
  have h : ((mask : Int) / 2 ^ k) = ((mask / 2 ^ k : Nat) : Int) := by simp
  rw [h, bits_and1 _ (Nat.lt_of_le_of_lt (Nat.div_le_self _ _) hm)]
theorem onB_bit {a mask n k : Nat} (hm : mask < 4294967296) (h : ¬ Go.bits .and .u32 ((mask : Int) / 2 ^ k) 1 = 1) : onB a mask n k = false := by
  rw [bit_of _ _ hm] at h
  have h2 : (mask / 2 ^ k % 2 == 1) = false := by rw [beq_eq_false_iff_ne]; omega
  simp [onB, h2]
theorem onB_yes {a mask n k : Nat} (hm : mask < 4294967296) (h : Go.bits .and .u32 ((mask : Int) / 2 ^ k) 1 = 1) (hin : a + k < 8 * n) : onB a mask n k = true := by
  rw [bit_of _ _ hm] at h
  have h2 : (mask / 2 ^ k % 2 == 1) = true := by rw [beq_iff_eq]; omega
  simp [onB, h2, hin]
theorem pow_byte : ∀ j, j < 8 → ((2 ^ j : Nat) : Int) = (2 : Int) ^ j % 256 := by decide
theorem conv_own {wr w2 : World} {g n : Nat} {xs : List Int} (hb : Below wr.heap.size wr w2) (h : OwnB wr g xs) (hl : xs.length = n) (hn : n ≤ 9223372036854775807) (cp : Nat) :
    (convert 37 9 (.slice (some ⟨g, 0, none⟩) n cp)).run Try.prog w2 = .ok (.string (strOfNums xs)) w2 := by
  refine string_of_reads Try.underlying37 Try.underlying5 Try.underlying9 ⟨hl, hn, fun _ => ⟨_, rfl, fun j hj => ?_⟩⟩
  rw [add_plain, pw_cell_below hb (h j (by omega)).1]
  rfl
set_option maxHeartbeats 4000000 in
set_option maxRecDepth 100000 in
theorem bursts_walk (s : ByteArray) (a mask : Nat) (T : ByteArray) (hT : S1.crc_Tail.f [s] = some T) (hs : s.size ≤ 300) (hT4 : T.size = 4) (ha : a < 8 * (s.size + 4)) (hm : mask < 4294967296) (hR : S1.crc_Right.f (strOfNums (bst a mask (s.size + 4) (bytesOf (s ++ T)) 32).1) = some (!(bst a mask (s.size + 4) (bytesOf (s ++ T)) 32).2)) (w : World) :
    Calls Try.prog 9 #[.string s, .int .i64 (a : Int), .int .u32 (mask : Int)] w fun e w' => e = .returned (.bool true) ∧ Below w.heap.size w w' := by
  have FT := Aside0.mk hT
  have hX : (s ++ T).size = s.size + 4 := by rw [ByteArray.size_append, hT4]
  obtain ⟨X, hXe⟩ : ∃ X, s ++ T = X := ⟨_, rfl⟩
  rw [hXe] at hX
  have HX := Aside0.mk hX
  clear hT hXe
  have kb := fun W => print_bytes (P := Try.prog) 9 37 5 Try.underlying9 Try.underlying37 Try.underlying5 (s ++ T) W
  go_enter Try.func9, Try.ntmps9
  go_wp2_with (first
    | (go_at_call 15; refine (crc_Tail.calls _ _ [s] T _ (C_strs _ _ [s] (by simp) (by simp) _ rfl) (Nat.le_refl _) FT.out).mono ?_; rintro e w1 ⟨rfl, B1⟩))
  clear kb
  have hd : (s ++ T).data.toList.length = s.size + 4 := by rw [data_length, ByteArray.size_append, hT4]
  have OW : Aside0 (OwnB (Lib.bytesWorld w1 5 (s ++ T)) w1.heap.size (bytesOf (s ++ T))) := ⟨bytes_own w1 (s ++ T)⟩
  have BW : Aside0 (Below w.heap.size w (Lib.bytesWorld w1 5 (s ++ T))) := ⟨bytes_below (below_then (below_alloc (Below.refl _ _) _) (by simp) B1) (by have := B1.size; simp at this; omega) 5 _⟩
  obtain ⟨xs0, hxs⟩ : ∃ xs0, bytesOf (s ++ T) = xs0 := ⟨_, rfl⟩
  have L0 : Aside0 (xs0.length = s.size + 4) := ⟨by rw [← hxs, bytesOf_length, ByteArray.size_append, hT4]⟩
  generalize Lib.bytesWorld w1 5 (s ++ T) = W at OW BW ⊢
  generalize grownCap w1 (s.size + 4) 0 5 = cp
  have hg0 : w.heap.size ≤ w1.heap.size := by have := B1.size; simp at this; omega
  generalize w1.heap.size = g at OW hg0 ⊢
  rw [hxs] at OW hR
  have HXS := Aside0.mk hxs
  clear hxs hd B1
  go_loopw [8, 32] (fun v8 v32 wr => ∃ k : Nat, k ≤ 32 ∧ v32 = .int .i64 k ∧ v8 = .bool (bst a mask (s.size + 4) xs0 k).2 ∧ OwnB wr g (bst a mask (s.size + 4) xs0 k).1 ∧ Below w.heap.size w wr) (fun _ v32 _ => 32 - (intOf v32).toNat)
  case atStart => exact ⟨0, by omega, rfl, rfl, OW.out, BW.out⟩
  case round =>
    obtain ⟨k, hk, rfl, rfl, how, hb⟩ := hrel
    have HB := Aside0.mk hb
    have HOW := Aside0.mk how
    have hlen := (bst_len a mask (s.size + 4) xs0 k).trans L0.out
    clear hb how
    obtain ⟨xs, hxs⟩ : ∃ xs, (bst a mask (s.size + 4) xs0 k).1 = xs := ⟨_, rfl⟩
    obtain ⟨tu, htu⟩ : ∃ tu, (bst a mask (s.size + 4) xs0 k).2 = tu := ⟨_, rfl⟩
    have HE : Aside0 (bst a mask (s.size + 4) xs0 k = (xs, tu)) := ⟨by rw [← hxs, ← htu]⟩
    rw [hxs] at HOW hlen
    rw [htu]
    have HL := Aside0.mk hlen
    clear hxs htu hlen
    by_cases hlt : k < 32
    · by_cases hin : a + k < 8 * (s.size + 4)
      · have hcell := HOW.out ((a + k) / 8) (by rw [HL.out]; omega)
        obtain ⟨hc1, hc2⟩ := hcell
        have hi1 : ((a : Int) + (k : Int)) / 8 < (s.size : Int) + 4 := by omega
        have hi0 : 0 ≤ ((a : Int) + (k : Int)) / 8 := by omega
        by_cases hbit : (Go.bits .and .u32 ((mask : Int) / 2 ^ k) 1) = 1
        · have hbit2 : ((Go.bits .and .u32 ((mask : Int) / 2 ^ k) 1) == 1) = true := beq_iff_eq.mpr hbit
          have HBI := Aside0.mk hbit
          clear hbit
          go_wp2
          go_region
          go_wp2
          go_roundw
          case rel =>
            have hy := bst_yes (xs0 := xs0) (onB_yes hm HBI.out hin)
            rw [HE.out] at hy
            have hset := HOW.out.set ((a + k) / 8) (by rw [HL.out]; omega) (Go.bits .xor .u8 (rd xs (((a + k) / 8 : Nat) : Int)) ((2 ^ ((a + k) % 8) : Nat) : Int))
            have e1 : (((a + k) / 8 : Nat) : Int) = ((a : Int) + (k : Int)) / 8 := by omega
            have e2 : ((2 ^ ((a + k) % 8) : Nat) : Int) = (2 : Int) ^ ((a + k) % 8) % 256 := pow_byte ((a + k) % 8) (Nat.mod_lt _ (by decide))
            rw [e1, e2] at hset hy
            exact ⟨k + 1, by omega, by go_num, by rw [hy], by rw [hy]; exact hset, below_drew (below_set HB.out hg0)⟩
          case measure => simp [intOf]; omega
        · have hbit2 : ((Go.bits .and .u32 ((mask : Int) / 2 ^ k) 1) == 1) = false := beq_eq_false_iff_ne.mpr hbit
          have HBI := Aside0.mk hbit
          clear hbit
          go_wp2
          go_roundw
          case rel => exact ⟨k + 1, by omega, by go_num, by rw [bst_no (onB_bit hm HBI.out), HE.out], by rw [bst_no (onB_bit hm HBI.out), HE.out]; exact HOW.out, HB.out⟩
          case measure => simp [intOf]; omega
      · go_wp2
        all_goals
          go_roundw
          case rel => exact ⟨k + 1, by omega, by go_num, by rw [bst_no (onB_out hin), HE.out], by rw [bst_no (onB_out hin), HE.out]; exact HOW.out, HB.out⟩
          case measure => simp [intOf]; omega
    · obtain rfl : k = 32 := by omega
      rw [HE.out] at hR
      have HR := Aside0.mk hR
      have FI := Aside0.mk HOW.out
      go_wp2_with (first
        | (go_at_call 11; refine (alive_any _).mono ?_; rintro e w2 ⟨rfl, hb2⟩; have hcv := conv_own hb2 FI.out HL.out (by omega) cp)
        | (go_at_call 19; refine (crc_Right.calls _ _ _ HR.out).mono ?_; rintro e w3 ⟨rfl, hb3⟩))
      go_ret
      exact ⟨by simp, below_step (below_step HB.out hb2) hb3⟩

set_option maxHeartbeats 4000000 in
set_option maxRecDepth 100000 in
theorem bursts_long (s : ByteArray) (a m : Int) (T : ByteArray) (hT : S1.crc_Tail.f [s] = some T) (hT4 : T.size = 4) (hs47 : s.size ≤ 140737488351232) (h : 300 < s.size) (w : World) :
    Calls Try.prog 9 #[.string s, .int .i64 a, .int .u32 m] w fun e w' => e = .returned (.bool true) ∧ Below w.heap.size w w' := by
  have FT := Aside0.mk hT
  clear hT
  have kb := fun W => print_bytes (P := Try.prog) 9 37 5 Try.underlying9 Try.underlying37 Try.underlying5 (s ++ T) W
  go_enter Try.func9, Try.ntmps9
  go_wp2_with (first
    | (go_at_call 15; refine (crc_Tail.calls _ _ [s] T _ (C_strs _ _ [s] (by simp) (by simp) _ rfl) (Nat.le_refl _) FT.out).mono ?_; rintro e w1 ⟨rfl, B1⟩)
    | (go_at_call 11; refine (alive_any _).mono ?_; rintro e w2 ⟨rfl, hb2⟩))
  go_ret
  have B0 := bytes_below (below_then (below_alloc (Below.refl _ _) _) (by simp) B1) (by have := B1.size; simp at this; omega) 5 (s ++ T)
  exact ⟨rfl, below_step B0 hb2⟩

set_option maxHeartbeats 4000000 in
set_option maxRecDepth 100000 in
theorem bursts_neg (s : ByteArray) (a m : Int) (T : ByteArray) (hT : S1.crc_Tail.f [s] = some T) (hT4 : T.size = 4) (hs47 : s.size ≤ 140737488351232) (h : s.size ≤ 300) (ha : a < 0) (w : World) :
    Calls Try.prog 9 #[.string s, .int .i64 a, .int .u32 m] w fun e w' => e = .returned (.bool true) ∧ Below w.heap.size w w' := by
  have FT := Aside0.mk hT
  clear hT
  have kb := fun W => print_bytes (P := Try.prog) 9 37 5 Try.underlying9 Try.underlying37 Try.underlying5 (s ++ T) W
  go_enter Try.func9, Try.ntmps9
  go_wp2_with (first
    | (go_at_call 15; refine (crc_Tail.calls _ _ [s] T _ (C_strs _ _ [s] (by simp) (by simp) _ rfl) (Nat.le_refl _) FT.out).mono ?_; rintro e w1 ⟨rfl, B1⟩)
    | (go_at_call 11; refine (alive_any _).mono ?_; rintro e w2 ⟨rfl, hb2⟩))
  go_ret
  have B0 := bytes_below (below_then (below_alloc (Below.refl _ _) _) (by simp) B1) (by have := B1.size; simp at this; omega) 5 (s ++ T)
  exact ⟨rfl, below_step B0 hb2⟩

set_option maxHeartbeats 4000000 in
set_option maxRecDepth 100000 in
theorem bursts_far (s : ByteArray) (a m : Int) (T : ByteArray) (hT : S1.crc_Tail.f [s] = some T) (hT4 : T.size = 4) (hs47 : s.size ≤ 140737488351232) (h : s.size ≤ 300) (ha0 : 0 ≤ a) (ha : 8 * ((s.size : Int) + 4) ≤ a) (w : World) :
    Calls Try.prog 9 #[.string s, .int .i64 a, .int .u32 m] w fun e w' => e = .returned (.bool true) ∧ Below w.heap.size w w' := by
  have FT := Aside0.mk hT
  clear hT
  have kb := fun W => print_bytes (P := Try.prog) 9 37 5 Try.underlying9 Try.underlying37 Try.underlying5 (s ++ T) W
  go_enter Try.func9, Try.ntmps9
  go_wp2_with (first
    | (go_at_call 15; refine (crc_Tail.calls _ _ [s] T _ (C_strs _ _ [s] (by simp) (by simp) _ rfl) (Nat.le_refl _) FT.out).mono ?_; rintro e w1 ⟨rfl, B1⟩)
    | (go_at_call 11; refine (alive_any _).mono ?_; rintro e w2 ⟨rfl, hb2⟩))
  go_ret
  have B0 := bytes_below (below_then (below_alloc (Below.refl _ _) _) (by simp) B1) (by have := B1.size; simp at this; omega) 5 (s ++ T)
  exact ⟨rfl, below_step B0 hb2⟩
end Go.Proofs.Ytgpbdfkhpkijcaa.Crc
