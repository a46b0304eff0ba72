/- CrcParts: the sum of texts is that of the one that they are together; Step goes on with it: any row of texts, any byte. -/
import Derived.Test.YtgpbdfkhpkijcaaQCrcPartsx1
import Derived.Test.YtgpbdfkhpkijcaaCrcN
import Derived.OpenShut
namespace Go.Proofs.Ytgpbdfkhpkijcaa.Pure
open Go.RowKit Go.Proofs.Ytgpbdfkhpkijcaa.QCrcParts Go.Proofs.Ytgpbdfkhpkijcaa.Crc Go.Proofs.YtgpbdfkhpkijcaaW.PrintWords Go.Proofs.YtgpbdfkhpkijcaaW.PrintLast

theorem one_byte (c : Nat) : (strOfNums [(c : Int)]).data.toList = [UInt8.ofNat c] := by
  rw [strOfNums_data]
  rfl
theorem max_xor (s : Nat) (h : s < 2 ^ 32) : Go.bits .xor .u32 IntKind.u32.max (s : Int) = ((4294967295 - s : Nat) : Int) := by
  rw [show IntKind.u32.max = ((4294967295 : Nat) : Int) by decide, bits_xor32 _ _ (by decide) h, not_xor h]
theorem last (k : Nat) (hk : 8 < k) (l : List ByteArray) (x : ByteArray) (c : Nat) (hc : c < 256) (hl : ∀ y ∈ l, y.size ≤ 200) (hx : x.data.toList = Crc.bytes l) (hxs : x.size ≤ 10000) :
    ((cracknellaw04_alive.f).bind fun t107 => (if t107 = true then ((crc_Sum.f l).bind fun t108 => ((crc_Sum.f (([x] : List ByteArray))).bind fun t112 => (if t108 = t112 then ((S1.crc_Tail.f l).bind fun t113 => ((S1.crc_Tail.f (([x] : List ByteArray))).bind fun t117 => (if t113.toList = t117.toList then ((crc_Sum.f (([x, strOfNums (([(c : Int)] : List Int))] : List ByteArray))).bind fun t121 => ((crc_Sum.f (([x] : List ByteArray))).bind fun t125 => ((S1.crc_Step.f k (Go.bits .xor .u32 IntKind.u32.max t125) (c : Int)).bind fun t126 => (if t121 = (Go.bits .xor .u32 IntKind.u32.max t126) then ((crc_Sum.f ([] : List ByteArray)).bind fun t127 => (some (t127 == 0))) else (some false))))) else (some false)))) else (some false)))) else (some false))) = some true := by
  have hs1 : (strOfNums [(c : Int)]).size = 1 := by rw [strOfNums_size]; rfl
  have hx1 : ∀ y ∈ [x], y.size ≤ 10000 := by intro y hy; rw [List.mem_singleton] at hy; subst hy; omega
  have hx2 : ∀ y ∈ [x, strOfNums [(c : Int)]], y.size ≤ 10000 := by
    intro y hy
    rcases List.mem_cons.1 hy with rfl | hy
    · omega
    · rw [List.mem_singleton] at hy; subst hy; omega
  have h1 := sum_f l 200 (by omega) hl
  have h2 := sum_f [x] 10000 (by omega) hx1
  have h3 := tail_f l 200 (by omega) hl
  have h4 := tail_f [x] 10000 (by omega) hx1
  have h5 := sum_f [x, strOfNums [(c : Int)]] 10000 (by omega) hx2
  have h6 := sum_f [] 0 (by omega) (by intro y hy; cases hy)
  have hb2 : Crc.bytes [x, strOfNums [(c : Int)]] = Crc.bytes l ++ [UInt8.ofNat c] := by
    simp only [Crc.bytes, List.map_cons, List.map_nil, List.flatten_cons, List.flatten_nil, List.append_nil]
    rw [hx, one_byte c]; rfl
  rw [bytes_one, hx] at h2 h4
  rw [hb2] at h5
  have hst := stN_lt (Crc.bytes l) (s := 4294967295) (by decide)
  have hcn : (UInt8.ofNat c).toNat = c := by rw [UInt8.toNat_ofNat']; exact Nat.mod_eq_of_lt hc
  have e5 : sumN (Crc.bytes l ++ [UInt8.ofNat c]) = 4294967295 - stepN (stN 4294967295 (Crc.bytes l)) c := by
    unfold sumN; rw [stN_append]; show 4294967295 - stepN _ (UInt8.ofNat c).toNat = _; rw [hcn]
  have e1 : sumN (Crc.bytes l) = 4294967295 - stN 4294967295 (Crc.bytes l) := rfl
  rw [e5] at h5
  rw [e1] at h1 h2 h3 h4
  generalize stN 4294967295 (Crc.bytes l) = s at h1 h2 h3 h4 h5 hst
  have hm := max_xor (4294967295 - s) (by omega)
  have hss : 4294967295 - (4294967295 - s) = s := by omega
  rw [hss] at hm
  have h7 := step_f k s c hst hc hk
  have hlt := stepN_lt hst hc
  have hm2 := max_xor (stepN s c) hlt
  rw [alive_f, h1, h2, h3, h4, h5, h6]
  rw [Option.bind_some, if_pos rfl, Option.bind_some, Option.bind_some, if_pos rfl, Option.bind_some, Option.bind_some, if_pos rfl, Option.bind_some, Option.bind_some, hm, h7, Option.bind_some, hm2, if_pos rfl, Option.bind_some]
  rfl

theorem loop (l : List ByteArray) (c : Nat) (hc : c < 256) (d : Nat) : ∀ (k i : Nat) (x : ByteArray), i + d = l.length → d + 20 < k → l.length ≤ 9223372036854775807 → (0 < i → l.length ≤ 50) →
    (∀ y ∈ l.take i, y.size ≤ 200) → x.data.toList = Crc.bytes (l.take i) → x.size ≤ 200 * i → cracknellaw04_CrcParts.l0 k l (c : Int) x l (l.length : Int) (i : Int) = some true := by
  induction d with
  | zero =>
    intro k i x hi hk hn h50 hall hx hxs
    obtain ⟨k, rfl⟩ : ∃ m, k = m + 1 := ⟨k - 1, by omega⟩
    have hil : i = l.length := by omega
    rw [hil, List.take_length] at hall hx
    simp only [cracknellaw04_CrcParts.l0]
    rw [if_neg (by omega)]
    refine last k (by omega) l x c hc hall hx ?_
    by_cases h0 : 0 < i
    · have := h50 h0; omega
    · have : i = 0 := by omega
      subst this; omega
  | succ d ih =>
    intro k i x hi hk hn h50 hall hx hxs
    obtain ⟨k, rfl⟩ : ∃ m, k = m + 1 := ⟨k - 1, by omega⟩
    have hil : i < l.length := by omega
    have hg : rdOf ByteArray.empty l (i : Int) = l[i] := by
      unfold rdOf; rw [Int.toNat_natCast, List.getD_eq_getElem?_getD, List.getElem?_eq_getElem (by omega)]; rfl
    have htk : l.take (i + 1) = l.take i ++ [l[i]] := List.take_succ_eq_append_getElem hil
    simp only [cracknellaw04_CrcParts.l0]
    rw [if_pos (by omega), if_pos (by omega), if_pos (by omega), hg]
    by_cases h5 : (l.length : Int) > 50
    · rw [if_pos h5]; rfl
    · rw [if_neg h5]
      by_cases h2 : (l[i].size : Int) > 200
      · rw [if_pos h2]; rfl
      · rw [if_neg h2, if_pos (by omega), wrap64_nat (by omega) (by omega), show (i : Int) + 1 = ((i + 1 : Nat) : Int) by omega]
        refine ih k (i + 1) _ (by omega) (by omega) hn (fun _ => by omega) ?_ ?_ ?_
        · rw [htk]; intro y hy
          rcases List.mem_append.1 hy with hy | hy
          · exact hall y hy
          · rw [List.mem_singleton] at hy; subst hy; omega
        · rw [htk, ByteArray.data_append, Array.toList_append, hx]
          unfold Crc.bytes; rw [List.map_append, List.flatten_append]; simp
        · rw [ByteArray.size_append]; omega
/-- any row (as long as a row can be), any byte -/
theorem CrcParts (l : List ByteArray) (c : Nat) (hc : c < 256) (hl : l.length ≤ 9223372036854775807) : cracknellaw04_CrcParts.f (l.length + 21) l (c : Int) = some true :=
  loop l c hc l.length _ 0 _ (by omega) (by omega) hl (fun h => absurd h (Nat.lt_irrefl 0)) (by intro y hy; cases hy) rfl (Nat.le_refl _)
theorem CrcParts_walk (a0 : Option Addr) (len cap : Nat) (z : List ByteArray) (a1 : Int) (W : World) (C : Kd.C Kd.string W a0 z.length z) (L : z.length = len) (h : len ≤ cap) (w1 : (Lit.int .u8 a1).wf = true) :
    Calls Try.prog 7 #[.slice a0 len cap, .int .u8 a1] W fun e w' => e = .returned (.bool true) ∧ Below W.heap.size W w' := by
  have b := bounds_u8 w1
  obtain ⟨c, rfl⟩ : ∃ c : Nat, a1 = c := ⟨a1.toNat, by omega⟩
  subst L
  exact cracknellaw04_CrcParts.calls _ a0 cap z c true W C h (CrcParts z c (by omega) C.2.1)
end Go.Proofs.Ytgpbdfkhpkijcaa.Pure
