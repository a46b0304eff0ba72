/- What the proof of chapter 8's laws, part 2, stands on: cut and merged by a program out of this session's texts. -/
import Derived.Test.YthhmmaihbjhhgaaGreatDoorKY1
import Derived.Test.YthhmmaihbjhhgaaGreatDoorProg
import Derived.Shelf.Strings.BuilderK
import Derived.Shelf.Small.Utf8
import Derived.Shelf.Unicode.DecodeAny
import Derived.Shelf.Unicode.ValidAny
import Derived.Test.YthhmmaihbjhhgaaGreatDoorRows
import Derived.Lib.LaidIn
import Derived.Lib.LaidU8T
import Derived.Deep.DeepWitnessRowRef
import Derived.Shelf.Strings.Builder1
import Derived.Shelf.Strings.Builder2
import Derived.Shelf.Small.Strs
import Derived.Shelf.Strings.BuilderF
import Derived.Shelf.Strconv.Atoi
import Derived.Shelf.Strconv.Itoa0
import Derived.Shelf.Strconv.Itoa1
import Derived.Shelf.LaysM
import Derived.Shelf.Strconv.Itoa2
import Derived.Shelf.Strconv.Itoa3
import Derived.Shelf.Strconv.AtoiErrFast
import Derived.Shelf.Strconv.ParseIntEmpty
import Derived.Shelf.Strconv.AtoiFail
import Derived.Shelf.Strconv.Clone
import Derived.Shelf.Strconv.SyntaxError
import Derived.Shelf.LaysC
import Derived.Shelf.Strconv.ToError
import Derived.Shelf.Strconv.AtoiErr
import Derived.Shelf.Strconv.Lower
import Derived.Shelf.Strconv.ParseUint10
import Derived.Shelf.Strconv.ParseUint10Empty
import Derived.Shelf.Strconv.ParseUint10Any
import Derived.Shelf.Strconv.ParseInt10
import Derived.Shelf.Strconv.AtoiLong
import Derived.Shelf.Strconv.AtoiInnerAll
import Derived.Shelf.Strconv.RangeError
import Derived.Shelf.Strconv.ToErrorRange
import Derived.Shelf.Strconv.AtoiAll
import Derived.Shelf.Strings.Search1
import Derived.Shelf.Strings.Prefix
import Derived.Shelf.Unicode.Decode
import Derived.Shelf.Bits.Mul64
import Derived.Shelf.Strings.Repeat
import Derived.Shelf.Unicode.DecodeSlow
import Derived.Lib.AppendIntMem
import Derived.WalkMore
import Derived.Lib.LaidTab
import Derived.Below
import Derived.Deep.Draws
import Derived.Deep.AppendLies
import Derived.Maps.AppendAt
import Derived.OwnWalk
import Derived.Laws.BytesArg
import Derived.Laws.MakeOwn
import Derived.Laws.OwnMore
import Derived.Deep.OwnRows
import Derived.Tactics
import Derived.Lib.ConvBytes
import Derived.Laws.Slices
import Derived.WalkKit
import Derived.KernelRfl
import Derived.RowKit3
import Derived.Deep.LoopGhost
import Derived.Deep.QuietTactic
import Derived.BigQuiet
import Derived.WideLaws
import Derived.Deep.DeepCutAuto
import Derived.Deep.CutBlock
import Derived.Deep.RegionHeld3
import Derived.Laws.Rows
import Derived.Lib.AppendStr
import Derived.ArgAppend
import Derived.Laws.IdiomCopy
import Derived.OrdersHeld
import Derived.Laws.BitsLemmas
import Derived.RowKit
import Derived.Lib.Hide
import Derived.Laws.EntriesVeiled
import Derived.Lib.Strings
import Derived.Lib.MapLaws
import Derived.OpenShut
set_option linter.unusedVariables false
set_option linter.unusedSimpArgs false
set_option linter.unusedSectionVars false
set_option maxHeartbeats 8000000
set_option maxRecDepth 100000
namespace Go.Proofs
open Go.Shelf
def Tryz.lays167_ren : Go.Shelf.Ren := ⟨fun | 167 => 17 | 240 => 33 | 276 => 54 | n => n, fun | 0 => 0 | 3 => 3 | 4 => 4 | 5 => 5 | 9 => 9 | 20 => 20 | 37 => 43 | 70 => 42 | 72 => 45 | 75 => 50 | 80 => 54 | 164 => 92 | n => n, fun  | n => n⟩
theorem Tryz.lays167 : Go.Proofs.Lays.n167 Tryz.prog Tryz.lays167_ren := {
 mixed := by kernel_rfl
 f167 := Tryz.func17.trans (congrArg some (by kernel_rfl))
 f240 := Tryz.func33.trans (congrArg some (by kernel_rfl))
 f276 := Tryz.func54.trans (congrArg some (by kernel_rfl))
 t0 := Tryz.underlying0
 a0 := Tryz.isAgg0
 z0 := Tryz.sizeOf0
 v0 := Tryz.zeroValue0
 t4 := Tryz.underlying4
 a4 := Tryz.isAgg4
 z4 := Tryz.sizeOf4
 v4 := Tryz.zeroValue4
 t5 := Tryz.underlying5
 a5 := Tryz.isAgg5
 z5 := Tryz.sizeOf5
 v5 := Tryz.zeroValue5
 t9 := Tryz.underlying9
 a9 := Tryz.isAgg9
 z9 := Tryz.sizeOf9
 v9 := Tryz.zeroValue9
 t20 := Tryz.underlying20
 a20 := Tryz.isAgg20
 z20 := Tryz.sizeOf20
 v20 := Tryz.zeroValue20
 t37 := Tryz.underlying43
 a37 := Tryz.isAgg43
 z37 := Tryz.sizeOf43
 v37 := Tryz.zeroValue43
 t70 := Tryz.underlying42
 a70 := Tryz.isAgg42
 z70 := Tryz.sizeOf42
 v70 := Tryz.zeroValue42
 t72 := Tryz.underlying45
 a72 := Tryz.isAgg45
 z72 := Tryz.sizeOf45
 v72 := Tryz.zeroValue45
 t75 := Tryz.underlying50
 a75 := Tryz.isAgg50
 z75 := Tryz.sizeOf50
 v75 := Tryz.zeroValue50
 t164 := Tryz.underlying92
 a164 := Tryz.isAgg92
 z164 := Tryz.sizeOf92
 v164 := Tryz.zeroValue92 }
theorem Tryz.Builder_Extra_167 : Builder.Extra Tryz.prog Tryz.lays167_ren := {
 sizeBuilder := by kernel_rfl
 liesBuilder := by kernel_rfl
 t5 := Tryz.underlying5
 a5 := Tryz.isAgg5
 z5 := Tryz.sizeOf5
 v5 := Tryz.zeroValue5
 infoByte := by kernel_rfl
 cellsByte := by kernel_rfl
 sizeByte := by kernel_rfl
 neB5 := by decide }
def Tryz.lays166_ren : Go.Shelf.Ren := ⟨fun | 166 => 35 | 240 => 33 | 276 => 54 | n => n, fun | 0 => 0 | 3 => 3 | 4 => 4 | 5 => 5 | 9 => 9 | 20 => 20 | 37 => 43 | 70 => 42 | 72 => 45 | 75 => 50 | 80 => 54 | 164 => 92 | n => n, fun  | n => n⟩
theorem Tryz.lays166 : Go.Proofs.Lays.n166 Tryz.prog Tryz.lays166_ren := {
 mixed := by kernel_rfl
 f166 := Tryz.func35.trans (congrArg some (by kernel_rfl))
 f240 := Tryz.func33.trans (congrArg some (by kernel_rfl))
 f276 := Tryz.func54.trans (congrArg some (by kernel_rfl))
 t0 := Tryz.underlying0
 a0 := Tryz.isAgg0
 z0 := Tryz.sizeOf0
 v0 := Tryz.zeroValue0
 t3 := Tryz.underlying3
 a3 := Tryz.isAgg3
 z3 := Tryz.sizeOf3
 v3 := Tryz.zeroValue3
 t4 := Tryz.underlying4
 a4 := Tryz.isAgg4
 z4 := Tryz.sizeOf4
 v4 := Tryz.zeroValue4
 t9 := Tryz.underlying9
 a9 := Tryz.isAgg9
 z9 := Tryz.sizeOf9
 v9 := Tryz.zeroValue9
 t20 := Tryz.underlying20
 a20 := Tryz.isAgg20
 z20 := Tryz.sizeOf20
 v20 := Tryz.zeroValue20
 t37 := Tryz.underlying43
 a37 := Tryz.isAgg43
 z37 := Tryz.sizeOf43
 v37 := Tryz.zeroValue43
 t70 := Tryz.underlying42
 a70 := Tryz.isAgg42
 z70 := Tryz.sizeOf42
 v70 := Tryz.zeroValue42
 t72 := Tryz.underlying45
 a72 := Tryz.isAgg45
 z72 := Tryz.sizeOf45
 v72 := Tryz.zeroValue45
 t75 := Tryz.underlying50
 a75 := Tryz.isAgg50
 z75 := Tryz.sizeOf50
 v75 := Tryz.zeroValue50
 t164 := Tryz.underlying92
 a164 := Tryz.isAgg92
 z164 := Tryz.sizeOf92
 v164 := Tryz.zeroValue92 }
theorem Tryz.Builder_Extra_166 : Builder.Extra Tryz.prog Tryz.lays166_ren := {
 sizeBuilder := by kernel_rfl
 liesBuilder := by kernel_rfl
 t5 := Tryz.underlying5
 a5 := Tryz.isAgg5
 z5 := Tryz.sizeOf5
 v5 := Tryz.zeroValue5
 infoByte := by kernel_rfl
 cellsByte := by kernel_rfl
 sizeByte := by kernel_rfl
 neB5 := by decide }
open Go.RowKit in
theorem Tryz.Builder_WriteByte (B b : Nat) (bs : List Value) (c : Int) (w : World) (h : Lib.IsBuilder 45 5 B b bs w) (hlen : bs.length + 1 ≤ 140737488355328) (hBw : B ≤ w.heap.size) :
  Calls Tryz.prog 17 #[.pointer (some ⟨b, 0, none⟩), .int .u8 c] w fun e w' => e = .returned .nilIface ∧ (Lib.BuilderAt 45 5 B b (.pointer (some ⟨b, 0, none⟩)) (bs ++ [.int .u8 c]) w' ∧ Below B w w') := Any.Builder_WriteByte Tryz.lays167 Tryz.Builder_Extra_167 B b bs c w h hlen hBw
open Go.RowKit in
theorem Tryz.Builder_WriteString (B b : Nat) (bs : List Value) (s : ByteArray) (w : World) (h : Lib.IsBuilder 45 5 B b bs w) (hlen : bs.length + s.size ≤ 140737488355328) (hBw : B ≤ w.heap.size) :
  Calls Tryz.prog 35 #[.pointer (some ⟨b, 0, none⟩), .string s] w fun e w' => e = .returned (.tuple #[.int .i64 s.size, .nilIface]) ∧ (Lib.BuilderAt 45 5 B b (.pointer (some ⟨b, 0, none⟩)) (bs ++ Lib.byteCells s.data.toList) w' ∧ Below B w w') := Any.Builder_WriteString Tryz.lays166 Tryz.Builder_Extra_166 B b bs s w h hlen hBw
def Tryz.lays169_ren : Go.Shelf.Ren := ⟨fun | 169 => 20 | n => n, fun | 70 => 42 | 9 => 9 | 0 => 0 | 72 => 45 | 37 => 43 | 127 => 80 | 3 => 3 | 5 => 5 | n => n, fun | n => n⟩
theorem Tryz.lays169 : Go.Proofs.Lays.n169 Tryz.prog Tryz.lays169_ren := {
 mixed := by kernel_rfl
 f169 := Tryz.func20.trans (congrArg some (by kernel_rfl))
 t0 := Tryz.underlying0
 a0 := Tryz.isAgg0
 z0 := Tryz.sizeOf0
 v0 := Tryz.zeroValue0
 t3 := Tryz.underlying3
 a3 := Tryz.isAgg3
 z3 := Tryz.sizeOf3
 v3 := Tryz.zeroValue3
 t9 := Tryz.underlying9
 a9 := Tryz.isAgg9
 z9 := Tryz.sizeOf9
 v9 := Tryz.zeroValue9
 t37 := Tryz.underlying43
 a37 := Tryz.isAgg43
 z37 := Tryz.sizeOf43
 v37 := Tryz.zeroValue43
 t70 := Tryz.underlying42
 a70 := Tryz.isAgg42
 z70 := Tryz.sizeOf42
 v70 := Tryz.zeroValue42
 t72 := Tryz.underlying45
 a72 := Tryz.isAgg45
 z72 := Tryz.sizeOf45
 v72 := Tryz.zeroValue45
 t127 := Tryz.underlying80
 a127 := Tryz.isAgg80
 z127 := Tryz.sizeOf80
 v127 := Tryz.zeroValue80 }
theorem Tryz.Builder_Extra_169 : Builder.Extra Tryz.prog Tryz.lays169_ren := {
 sizeBuilder := by kernel_rfl
 liesBuilder := by kernel_rfl
 t5 := Tryz.underlying5
 a5 := Tryz.isAgg5
 z5 := Tryz.sizeOf5
 v5 := Tryz.zeroValue5
 infoByte := by kernel_rfl
 cellsByte := by kernel_rfl
 sizeByte := by kernel_rfl
 neB5 := by decide }
open Go.RowKit in
theorem Tryz.Builder_String_any (B b : Nat) (l : List UInt8) (w : World) (h : Lib.IsBuilder 45 5 B b (Lib.byteCells l) w) (hBw : B ≤ w.heap.size) :
  Calls Tryz.prog 20 #[.pointer (some ⟨b, 0, none⟩)] w fun e w' => e = .returned (.string ⟨l.toArray⟩) ∧ Below B w w' := Any.Builder_String_any Tryz.lays169 Tryz.Builder_Extra_169 B b l w h hBw
def Tryz.lays196_ren : Go.Shelf.Ren := ⟨fun | 196 => 52 | 259 => 70 | n => n, fun | 9 => 9 | 4 => 4 | 3 => 3 | 5 => 5 | 12 => 12 | 119 => 111 | 0 => 0 | 46 => 115 | 139 => 114 | 138 => 113 | 53 => 96 | n => n, fun | 3 => 0 | 4 => 1 | n => n⟩
theorem Tryz.lays196 : Go.Proofs.Lays.n196 Tryz.prog Tryz.lays196_ren := {
 mixed := by kernel_rfl
 f196 := Tryz.func52.trans (congrArg some (by kernel_rfl))
 f259 := Tryz.func70.trans (congrArg some (by kernel_rfl))
 t0 := Tryz.underlying0
 a0 := Tryz.isAgg0
 z0 := Tryz.sizeOf0
 v0 := Tryz.zeroValue0
 t3 := Tryz.underlying3
 a3 := Tryz.isAgg3
 z3 := Tryz.sizeOf3
 v3 := Tryz.zeroValue3
 t4 := Tryz.underlying4
 a4 := Tryz.isAgg4
 z4 := Tryz.sizeOf4
 v4 := Tryz.zeroValue4
 t5 := Tryz.underlying5
 a5 := Tryz.isAgg5
 z5 := Tryz.sizeOf5
 v5 := Tryz.zeroValue5
 t9 := Tryz.underlying9
 a9 := Tryz.isAgg9
 z9 := Tryz.sizeOf9
 v9 := Tryz.zeroValue9
 t12 := Tryz.underlying12
 a12 := Tryz.isAgg12
 z12 := Tryz.sizeOf12
 v12 := Tryz.zeroValue12
 t46 := Tryz.underlying115
 a46 := Tryz.isAgg115
 z46 := Tryz.sizeOf115
 v46 := Tryz.zeroValue115
 t53 := Tryz.underlying96
 a53 := Tryz.isAgg96
 z53 := Tryz.sizeOf96
 v53 := Tryz.zeroValue96
 t119 := Tryz.underlying111
 a119 := Tryz.isAgg111
 z119 := Tryz.sizeOf111
 t138 := Tryz.underlying113
 a138 := Tryz.isAgg113
 z138 := Tryz.sizeOf113
 v138 := Tryz.zeroValue113
 t139 := Tryz.underlying114
 a139 := Tryz.isAgg114
 z139 := Tryz.sizeOf114
 v139 := Tryz.zeroValue114
 g3 := by kernel_rfl
 g4 := by kernel_rfl }
def Tryz.lays197_ren : Go.Shelf.Ren := ⟨fun | 197 => 110 | 260 => 118 | n => n, fun | 9 => 9 | 21 => 21 | 3 => 3 | 4 => 4 | 5 => 5 | 105 => 152 | 119 => 111 | 0 => 0 | 46 => 115 | 139 => 114 | 138 => 113 | n => n, fun | 3 => 0 | 4 => 1 | n => n⟩
theorem Tryz.lays197 : Go.Proofs.Lays.n197 Tryz.prog Tryz.lays197_ren := {
 mixed := by kernel_rfl
 f197 := Tryz.func110.trans (congrArg some (by kernel_rfl))
 f260 := Tryz.func118.trans (congrArg some (by kernel_rfl))
 t0 := Tryz.underlying0
 a0 := Tryz.isAgg0
 z0 := Tryz.sizeOf0
 v0 := Tryz.zeroValue0
 t3 := Tryz.underlying3
 a3 := Tryz.isAgg3
 z3 := Tryz.sizeOf3
 v3 := Tryz.zeroValue3
 t4 := Tryz.underlying4
 a4 := Tryz.isAgg4
 z4 := Tryz.sizeOf4
 v4 := Tryz.zeroValue4
 t5 := Tryz.underlying5
 a5 := Tryz.isAgg5
 z5 := Tryz.sizeOf5
 v5 := Tryz.zeroValue5
 t9 := Tryz.underlying9
 a9 := Tryz.isAgg9
 z9 := Tryz.sizeOf9
 v9 := Tryz.zeroValue9
 t21 := Tryz.underlying21
 a21 := Tryz.isAgg21
 z21 := Tryz.sizeOf21
 v21 := Tryz.zeroValue21
 t46 := Tryz.underlying115
 a46 := Tryz.isAgg115
 z46 := Tryz.sizeOf115
 v46 := Tryz.zeroValue115
 t105 := Tryz.underlying152
 a105 := Tryz.isAgg152
 z105 := Tryz.sizeOf152
 v105 := Tryz.zeroValue152
 t119 := Tryz.underlying111
 a119 := Tryz.isAgg111
 z119 := Tryz.sizeOf111
 t138 := Tryz.underlying113
 a138 := Tryz.isAgg113
 z138 := Tryz.sizeOf113
 v138 := Tryz.zeroValue113
 t139 := Tryz.underlying114
 a139 := Tryz.isAgg114
 z139 := Tryz.sizeOf114
 v139 := Tryz.zeroValue114
 g3 := by kernel_rfl
 g4 := by kernel_rfl }
open Go.RowKit Go.Lib in
theorem Tryz.utf8_DecodeRuneInString (s : ByteArray) (w : World) (hT : Lib.Utf8Tabs 0 1 w) :
  Calls Tryz.prog 110 #[.string s] w fun e w' => e = .returned (.tuple #[.int .i32 (Lib.decodeGo s).1, .int .i64 (Lib.decodeGo s).2]) ∧ Below w.heap.size w w' := Any.utf8_DecodeRuneInString Tryz.lays197 s w hT
open Go.RowKit Go.Lib in
theorem Tryz.utf8_ValidString (s : ByteArray) (w : World) (hs : s.size ≤ 9223372036854775807) (hT : Lib.Utf8Tabs 0 1 w) :
  Calls Tryz.prog 52 #[.string s] w fun e w' => e = .returned (.bool (Lib.validD s.data.toList)) ∧ Below w.heap.size w w' := Any.utf8_ValidString Tryz.lays196 s w hs hT
end Go.Proofs
namespace Go.Proofs.NGiv
open Go.RowKit Go.Proofs.Wa Go.Proofs.Wb Go.Proofs.Wc
def Tabs (w : World) : Prop := Lib.Utf8Tabs 0 1 w
theorem Tabs.step {w W : World} (h : Tabs w) (hb : Below w.heap.size w W) : Tabs W := Go.Proofs.Utf8Tabs_below h hb
def utf8_DecodeRuneInString.f (s : ByteArray) : Option (Int × Int) := some (((Lib.decodeGo s).1 : Int), ((Lib.decodeGo s).2 : Int))
theorem utf8_DecodeRuneInString.calls (a0 : ByteArray) (r1 r2 : Int) (w : World) (h : utf8_DecodeRuneInString.f a0 = some (r1, r2)) (ht : Tabs w := by first | assumption | (refine Tabs.step (by assumption) ?_; repeat (first | exact Aside0.out (by assumption) | apply Za | apply Ya | apply Xa | exact ybd _ _))) :
  Calls Tryz.prog 110 #[.string a0] w fun e w' => e = .returned (.tuple #[.int .i32 r1, .int .i64 r2]) ∧ Below w.heap.size w w' := by
 unfold utf8_DecodeRuneInString.f at h
 simp only [Option.some.injEq, Prod.mk.injEq] at h
 obtain ⟨rfl, rfl⟩ := h
 exact Tryz.utf8_DecodeRuneInString a0 w ht
def utf8_ValidString.f (s : ByteArray) : Option Bool := if s.size ≤ 9223372036854775807 then some (Lib.validD s.data.toList) else none
theorem utf8_ValidString.calls (a0 : ByteArray) (r : Bool) (w : World) (h : utf8_ValidString.f a0 = some r) (ht : Tabs w := by first | assumption | (refine Tabs.step (by assumption) ?_; repeat (first | exact Aside0.out (by assumption) | apply Za | apply Ya | apply Xa | exact ybd _ _))) :
  Calls Tryz.prog 52 #[.string a0] w fun e w' => e = .returned (.bool r) ∧ Below w.heap.size w w' := by
 unfold utf8_ValidString.f at h
 split at h
 ·rename_i hs
  obtain rfl := Option.some.inj h
  exact Tryz.utf8_ValidString a0 w hs ht
 ·cases h
end Go.Proofs.NGiv
namespace Go.Proofs.YthhmmaihbjhhgaaGreatDoor.LaidW
open Go.ChangeShapes Go.WideShapes Go.ChangeAt Go.RowKit Go.Lib
noncomputable def laidWorld (os : Os) : World :=
 let w0 := World.holding Tryz.prog os ⟨#[], #[], []⟩
 let put (h : Array Obj) (g : Nat) (cs : Array Value) : Array Obj := h.modify g fun
  | .cells _ t frozen => .cells cs t frozen
  | o => o
 let h1 := put w0.heap 0 (Lib.firstTab.map fun z => Value.int .u8 z).toArray
 let h2 := put h1 1 ((List.range 16).flatMap fun i => [Value.int .u8 (Lib.accLo i), Value.int .u8 (Lib.accHi i)]).toArray
 { w0 with heap := h2 }
theorem first_eq : Rows.laid_unicode_utf8_first = Lib.firstData := by kernel_rfl
theorem accept_eq : Rows.laid_unicode_utf8_acceptRanges = Lib.acceptData := by kernel_rfl
theorem tabs (W : World) (laid : List (String × DataW Unit)) (hL : laidMet Tryz.prog laid W) (h1 : ("unicode/utf8.first", Rows.laid_unicode_utf8_first) ∈ laid) (h2 : ("unicode/utf8.acceptRanges", Rows.laid_unicode_utf8_acceptRanges) ∈ laid) : NGiv.Tabs W := by
 rw [first_eq] at h1
 rw [accept_eq] at h2
 exact utf8Tabs_of_readsT (U8Types.of196 Tryz.lays196) ⟨by kernel_rfl, by kernel_rfl, by kernel_rfl, by kernel_rfl, by kernel_rfl, by kernel_rfl, by kernel_rfl⟩ (Lib.laidMet.reads hL h1) (Lib.laidMet.reads hL h2)
end Go.Proofs.YthhmmaihbjhhgaaGreatDoor.LaidW
namespace Go.Proofs
open Go.Shelf
def Tryz.laysM171_ren : Go.Shelf.Ren := ⟨fun | 171 => 56 | 243 => 72 | 246 => 81 | 283 => 89 | 284 => 90 | 285 => 91 | 286 => 92 | 129 => 104 | 317 => 103 | 318 => 105 | 319 => 106 | 320 => 107 | 337 => 115 | 338 => 116 | n => n, fun | 3 => 3 | 9 => 9 | 2 => 2 | 4 => 4 | 171 => 131 | 0 => 0 | 53 => 96 | 37 => 43 | 5 => 5 | 173 => 134 | 212 => 147 | 51 => 148 | 20 => 20 | 213 => 149 | 46 => 115 | 232 => 166 | 233 => 167 | n => n, fun | 17 => 3 | 18 => 6 | 19 => 7 | n => n⟩
theorem Tryz.laysM171 : Go.Proofs.LaysM.n171 Tryz.prog Tryz.laysM171_ren := {
 mixed := by kernel_rfl
 f129 := Tryz.func104.trans (congrArg some (by kernel_rfl))
 f171 := Tryz.func56.trans (congrArg some (by kernel_rfl))
 f243 := Tryz.func72.trans (congrArg some (by kernel_rfl))
 f246 := Tryz.func81.trans (congrArg some (by kernel_rfl))
 f283 := Tryz.func89.trans (congrArg some (by kernel_rfl))
 f284 := Tryz.func90.trans (congrArg some (by kernel_rfl))
 f285 := Tryz.func91.trans (congrArg some (by kernel_rfl))
 f286 := Tryz.func92.trans (congrArg some (by kernel_rfl))
 f317 := Tryz.func103.trans (congrArg some (by kernel_rfl))
 f318 := Tryz.func105.trans (congrArg some (by kernel_rfl))
 f319 := Tryz.func106.trans (congrArg some (by kernel_rfl))
 f320 := Tryz.func107.trans (congrArg some (by kernel_rfl))
 f337 := Tryz.func115.trans (congrArg some (by kernel_rfl))
 f338 := Tryz.func116.trans (congrArg some (by kernel_rfl))
 t0 := Tryz.underlying0
 a0 := Tryz.isAgg0
 z0 := Tryz.sizeOf0
 v0 := Tryz.zeroValue0
 t2 := Tryz.underlying2
 a2 := Tryz.isAgg2
 z2 := Tryz.sizeOf2
 v2 := Tryz.zeroValue2
 t3 := Tryz.underlying3
 a3 := Tryz.isAgg3
 z3 := Tryz.sizeOf3
 v3 := Tryz.zeroValue3
 t4 := Tryz.underlying4
 a4 := Tryz.isAgg4
 z4 := Tryz.sizeOf4
 v4 := Tryz.zeroValue4
 t5 := Tryz.underlying5
 a5 := Tryz.isAgg5
 z5 := Tryz.sizeOf5
 v5 := Tryz.zeroValue5
 t9 := Tryz.underlying9
 a9 := Tryz.isAgg9
 z9 := Tryz.sizeOf9
 v9 := Tryz.zeroValue9
 t20 := Tryz.underlying20
 a20 := Tryz.isAgg20
 z20 := Tryz.sizeOf20
 v20 := Tryz.zeroValue20
 t37 := Tryz.underlying43
 a37 := Tryz.isAgg43
 z37 := Tryz.sizeOf43
 v37 := Tryz.zeroValue43
 t46 := Tryz.underlying115
 a46 := Tryz.isAgg115
 z46 := Tryz.sizeOf115
 v46 := Tryz.zeroValue115
 t51 := Tryz.underlying148
 a51 := Tryz.isAgg148
 z51 := Tryz.sizeOf148
 v51 := Tryz.zeroValue148
 t53 := Tryz.underlying96
 a53 := Tryz.isAgg96
 z53 := Tryz.sizeOf96
 v53 := Tryz.zeroValue96
 t171 := Tryz.underlying131
 a171 := Tryz.isAgg131
 z171 := Tryz.sizeOf131
 v171 := Tryz.zeroValue131
 t173 := Tryz.underlying134
 a173 := Tryz.isAgg134
 z173 := Tryz.sizeOf134
 v173 := Tryz.zeroValue134
 t212 := Tryz.underlying147
 a212 := Tryz.isAgg147
 z212 := Tryz.sizeOf147
 v212 := Tryz.zeroValue147
 t213 := Tryz.underlying149
 a213 := Tryz.isAgg149
 z213 := Tryz.sizeOf149
 t232 := Tryz.underlying166
 a232 := Tryz.isAgg166
 z232 := Tryz.sizeOf166
 v232 := Tryz.zeroValue166
 t233 := Tryz.underlying167
 a233 := Tryz.isAgg167
 z233 := Tryz.sizeOf167
 v233 := Tryz.zeroValue167
 g17 := by kernel_rfl
 g18 := by kernel_rfl
 g19 := by kernel_rfl
 i0 := by kernel_rfl
 i2 := by kernel_rfl
 i3 := by kernel_rfl
 i4 := by kernel_rfl
 i5 := by kernel_rfl
 i9 := by kernel_rfl
 i20 := by kernel_rfl
 i37 := by kernel_rfl
 i46 := by kernel_rfl
 i51 := by kernel_rfl
 i53 := by kernel_rfl
 i171 := by kernel_rfl
 i173 := by kernel_rfl
 i212 := by kernel_rfl
 i232 := by kernel_rfl
 i233 := by kernel_rfl
 m17 := by kernel_rfl
 m18 := by kernel_rfl
 m19 := by kernel_rfl }
open Go.RowKit Go.Sort Go.Lib in
theorem Tryz.strconv_Itoa (n : Int) (h0 : -9223372036854775808 ≤ n) (h1 : n ≤ 9223372036854775807) (w : World) (htab : Lib.TabIs Tryz.prog w "internal/strconv.uint64pow10" .u64 Lib.pow10Tab) :
  Calls Tryz.prog 56 #[.int .i64 n] w fun e w' => e = .returned (.string ⟨(Lib.itoa n).toArray⟩) ∧ ∃ k os, w' = grow (w.drewN k) os := Any.strconv_Itoa Tryz.laysM171 n h0 h1 w htab
def Tryz.laysC172_ren : Go.Shelf.Ren := ⟨fun | 172 => 74 | 244 => 84 | 245 => 85 | 247 => 96 | 279 => 97 | 280 => 98 | 281 => 99 | 282 => 100 | 287 => 111 | 316 => 112 | 171 => 56 | 205 => 113 | 321 => 119 | 322 => 120 | 243 => 72 | 246 => 81 | 283 => 89 | 284 => 90 | 285 => 91 | 286 => 92 | 129 => 104 | 317 => 103 | 318 => 105 | 319 => 106 | 320 => 107 | 337 => 115 | 338 => 116 | n => n, fun | 9 => 9 | 3 => 3 | 75 => 50 | 76 => 77 | 4 => 4 | 5 => 5 | 167 => 137 | 37 => 43 | 0 => 0 | 85 => 138 | 2 => 2 | 168 => 140 | 53 => 96 | 175 => 154 | 46 => 115 | 210 => 158 | 127 => 80 | 145 => 165 | 143 => 163 | 21 => 21 | 171 => 131 | 173 => 134 | 212 => 147 | 51 => 148 | 20 => 20 | 213 => 149 | 232 => 166 | 233 => 167 | 80 => 54 | n => n, fun | 15 => 4 | 16 => 5 | 17 => 3 | 18 => 6 | 19 => 7 | n => n⟩
theorem Tryz.laysC172 : Go.Proofs.LaysC.n172 Tryz.prog Tryz.laysC172_ren := {
 mixed := by kernel_rfl
 f129 := Tryz.func104.trans (congrArg some (by kernel_rfl))
 f171 := Tryz.func56.trans (congrArg some (by kernel_rfl))
 f172 := Tryz.func74.trans (congrArg some (by kernel_rfl))
 f205 := Tryz.func113.trans (congrArg some (by kernel_rfl))
 f243 := Tryz.func72.trans (congrArg some (by kernel_rfl))
 f244 := Tryz.func84.trans (congrArg some (by kernel_rfl))
 f245 := Tryz.func85.trans (congrArg some (by kernel_rfl))
 f246 := Tryz.func81.trans (congrArg some (by kernel_rfl))
 f247 := Tryz.func96.trans (congrArg some (by kernel_rfl))
 f279 := Tryz.func97.trans (congrArg some (by kernel_rfl))
 f280 := Tryz.func98.trans (congrArg some (by kernel_rfl))
 f281 := Tryz.func99.trans (congrArg some (by kernel_rfl))
 f282 := Tryz.func100.trans (congrArg some (by kernel_rfl))
 f283 := Tryz.func89.trans (congrArg some (by kernel_rfl))
 f284 := Tryz.func90.trans (congrArg some (by kernel_rfl))
 f285 := Tryz.func91.trans (congrArg some (by kernel_rfl))
 f286 := Tryz.func92.trans (congrArg some (by kernel_rfl))
 f287 := Tryz.func111.trans (congrArg some (by kernel_rfl))
 f316 := Tryz.func112.trans (congrArg some (by kernel_rfl))
 f317 := Tryz.func103.trans (congrArg some (by kernel_rfl))
 f318 := Tryz.func105.trans (congrArg some (by kernel_rfl))
 f319 := Tryz.func106.trans (congrArg some (by kernel_rfl))
 f320 := Tryz.func107.trans (congrArg some (by kernel_rfl))
 f321 := Tryz.func119.trans (congrArg some (by kernel_rfl))
 f322 := Tryz.func120.trans (congrArg some (by kernel_rfl))
 f337 := Tryz.func115.trans (congrArg some (by kernel_rfl))
 f338 := Tryz.func116.trans (congrArg some (by kernel_rfl))
 t0 := Tryz.underlying0
 a0 := Tryz.isAgg0
 z0 := Tryz.sizeOf0
 v0 := Tryz.zeroValue0
 t2 := Tryz.underlying2
 a2 := Tryz.isAgg2
 z2 := Tryz.sizeOf2
 v2 := Tryz.zeroValue2
 t3 := Tryz.underlying3
 a3 := Tryz.isAgg3
 z3 := Tryz.sizeOf3
 v3 := Tryz.zeroValue3
 t4 := Tryz.underlying4
 a4 := Tryz.isAgg4
 z4 := Tryz.sizeOf4
 v4 := Tryz.zeroValue4
 t5 := Tryz.underlying5
 a5 := Tryz.isAgg5
 z5 := Tryz.sizeOf5
 v5 := Tryz.zeroValue5
 t9 := Tryz.underlying9
 a9 := Tryz.isAgg9
 z9 := Tryz.sizeOf9
 v9 := Tryz.zeroValue9
 t20 := Tryz.underlying20
 a20 := Tryz.isAgg20
 z20 := Tryz.sizeOf20
 v20 := Tryz.zeroValue20
 t21 := Tryz.underlying21
 a21 := Tryz.isAgg21
 z21 := Tryz.sizeOf21
 v21 := Tryz.zeroValue21
 t37 := Tryz.underlying43
 a37 := Tryz.isAgg43
 z37 := Tryz.sizeOf43
 v37 := Tryz.zeroValue43
 t46 := Tryz.underlying115
 a46 := Tryz.isAgg115
 z46 := Tryz.sizeOf115
 v46 := Tryz.zeroValue115
 t51 := Tryz.underlying148
 a51 := Tryz.isAgg148
 z51 := Tryz.sizeOf148
 v51 := Tryz.zeroValue148
 t53 := Tryz.underlying96
 a53 := Tryz.isAgg96
 z53 := Tryz.sizeOf96
 v53 := Tryz.zeroValue96
 t75 := Tryz.underlying50
 a75 := Tryz.isAgg50
 z75 := Tryz.sizeOf50
 v75 := Tryz.zeroValue50
 t76 := Tryz.underlying77
 a76 := Tryz.isAgg77
 z76 := Tryz.sizeOf77
 v76 := Tryz.zeroValue77
 t85 := Tryz.underlying138
 a85 := Tryz.isAgg138
 z85 := Tryz.sizeOf138
 v85 := Tryz.zeroValue138
 t127 := Tryz.underlying80
 a127 := Tryz.isAgg80
 z127 := Tryz.sizeOf80
 v127 := Tryz.zeroValue80
 t143 := Tryz.underlying163
 a143 := Tryz.isAgg163
 z143 := Tryz.sizeOf163
 v143 := Tryz.zeroValue163
 t145 := Tryz.underlying165
 a145 := Tryz.isAgg165
 z145 := Tryz.sizeOf165
 v145 := Tryz.zeroValue165
 t167 := Tryz.underlying137
 a167 := Tryz.isAgg137
 z167 := Tryz.sizeOf137
 v167 := Tryz.zeroValue137
 t168 := Tryz.underlying140
 a168 := Tryz.isAgg140
 z168 := Tryz.sizeOf140
 v168 := Tryz.zeroValue140
 t171 := Tryz.underlying131
 a171 := Tryz.isAgg131
 z171 := Tryz.sizeOf131
 v171 := Tryz.zeroValue131
 t173 := Tryz.underlying134
 a173 := Tryz.isAgg134
 z173 := Tryz.sizeOf134
 v173 := Tryz.zeroValue134
 t175 := Tryz.underlying154
 a175 := Tryz.isAgg154
 z175 := Tryz.sizeOf154
 v175 := Tryz.zeroValue154
 t210 := Tryz.underlying158
 a210 := Tryz.isAgg158
 z210 := Tryz.sizeOf158
 v210 := Tryz.zeroValue158
 t212 := Tryz.underlying147
 a212 := Tryz.isAgg147
 z212 := Tryz.sizeOf147
 v212 := Tryz.zeroValue147
 t213 := Tryz.underlying149
 a213 := Tryz.isAgg149
 z213 := Tryz.sizeOf149
 t232 := Tryz.underlying166
 a232 := Tryz.isAgg166
 z232 := Tryz.sizeOf166
 v232 := Tryz.zeroValue166
 t233 := Tryz.underlying167
 a233 := Tryz.isAgg167
 z233 := Tryz.sizeOf167
 v233 := Tryz.zeroValue167
 g15 := by kernel_rfl
 g16 := by kernel_rfl
 g17 := by kernel_rfl
 g18 := by kernel_rfl
 g19 := by kernel_rfl
 t80 := Tryz.underlying54
 a80 := Tryz.isAgg54
 z80 := Tryz.sizeOf54
 v80 := Tryz.zeroValue54
 i0 := by kernel_rfl
 i2 := by kernel_rfl
 i3 := by kernel_rfl
 i4 := by kernel_rfl
 i5 := by kernel_rfl
 i9 := by kernel_rfl
 i20 := by kernel_rfl
 i21 := by kernel_rfl
 i37 := by kernel_rfl
 i46 := by kernel_rfl
 i51 := by kernel_rfl
 i53 := by kernel_rfl
 i75 := by kernel_rfl
 i76 := by kernel_rfl
 i80 := by kernel_rfl
 i85 := by kernel_rfl
 i127 := by kernel_rfl
 i143 := by kernel_rfl
 i145 := by kernel_rfl
 i167 := by kernel_rfl
 i168 := by kernel_rfl
 i171 := by kernel_rfl
 i173 := by kernel_rfl
 i175 := by kernel_rfl
 i210 := by kernel_rfl
 i212 := by kernel_rfl
 i232 := by kernel_rfl
 i233 := by kernel_rfl
 m15 := by kernel_rfl
 m16 := by kernel_rfl
 m17 := by kernel_rfl
 m18 := by kernel_rfl
 m19 := by kernel_rfl
 c0 := by kernel_rfl
 c2 := by kernel_rfl
 c3 := by kernel_rfl
 c4 := by kernel_rfl
 c5 := by kernel_rfl
 c9 := by kernel_rfl
 c20 := by kernel_rfl
 c21 := by kernel_rfl
 c37 := by kernel_rfl
 c46 := by kernel_rfl
 c51 := by kernel_rfl
 c53 := by kernel_rfl
 c75 := by kernel_rfl
 c76 := by kernel_rfl
 c80 := by kernel_rfl
 c85 := by kernel_rfl
 c127 := by kernel_rfl
 c143 := by kernel_rfl
 c145 := by kernel_rfl
 c167 := by kernel_rfl
 c168 := by kernel_rfl
 c171 := by kernel_rfl
 c173 := by kernel_rfl
 c175 := by kernel_rfl
 c210 := by kernel_rfl
 c212 := by kernel_rfl
 c213 := by kernel_rfl
 c232 := by kernel_rfl
 c233 := by kernel_rfl }
open Go.RowKit in
theorem Tryz.strconv_Atoi_ok (s : ByteArray) (hmax : s.size ≤ 9223372036854775806) (v : Int) (h : Lib.atoiAll s.data.toList = .ok v) (w : World) :
  Calls Tryz.prog 74 #[.string s] w fun e w' => e = .returned (.tuple #[.int .i64 v, .nilIface]) ∧ (w' = w ∨ ∃ t, w' = Lib.bytesWorld w 5 t) := Any.strconv_Atoi_ok Tryz.laysC172 s hmax v h w
open Go.RowKit in
theorem Tryz.strconv_Atoi_syntax (s : ByteArray) (hlim : s.size ≤ 281474976710656) (h : Lib.atoiAll s.data.toList = Lib.atoiAll []) (ev : Value) (w : World) (hv : w.cell? ⟨4, 0, none⟩ = some ev) (hev : ev = .nilIface ∨ ∃ te pe, ev = .iface te pe) :
  Calls Tryz.prog 74 #[.string s] w fun e w' => ∃ N, e = .returned (.tuple #[.int .i64 (0), .iface 140 (.pointer (some ⟨N, 0, none⟩))]) ∧ w.heap.size ≤ N ∧ w'.heap[N]? = some (.cells #[.string ⟨#[65, 116, 111, 105]⟩, .string s, ev] 158 (0, 0)) ∧ Below w.heap.size w w' := Any.strconv_Atoi_syntax Tryz.laysC172 s hlim h ev w hv hev
open Go.RowKit in
theorem Tryz.strconv_Atoi_range (s : ByteArray) (hlim : s.size ≤ 281474976710656) (h : Lib.atoiAll s.data.toList = .range) (ev : Value) (w : World) (hv : w.cell? ⟨5, 0, none⟩ = some ev) (hev : ev = .nilIface ∨ ∃ te pe, ev = .iface te pe) :
  Calls Tryz.prog 74 #[.string s] w fun e w' => ∃ N, e = .returned (.tuple #[.int .i64 (Lib.atoiSat s.data.toList), .iface 140 (.pointer (some ⟨N, 0, none⟩))]) ∧ w.heap.size ≤ N ∧ w'.heap[N]? = some (.cells #[.string ⟨#[65, 116, 111, 105]⟩, .string s, ev] 158 (0, 0)) ∧ Below w.heap.size w w' := Any.strconv_Atoi_range Tryz.laysC172 s hlim h ev w hv hev
end Go.Proofs
namespace Go.Proofs.NGiv
open Go.RowKit Go.Sort Go.Proofs.Wa Go.Proofs.Wb Go.Proofs.Wc
structure JTabs (w : World) : Prop where
 tabs : Tabs w
 pow : Lib.TabIs Tryz.prog w "internal/strconv.uint64pow10" .u64 Lib.pow10Tab
 syn : ∃ ev, w.cell? ⟨4, 0, none⟩ = some ev ∧ (ev = .nilIface ∨ ∃ te pe, ev = .iface te pe)
 rng : ∃ ev, w.cell? ⟨5, 0, none⟩ = some ev ∧ (ev = .nilIface ∨ ∃ te pe, ev = .iface te pe)
theorem yaS {w W : World} (hb : Below w.heap.size w W) {b : Nat} {v : Value} (h : w.cell? ⟨b, 0, none⟩ = some v) : W.cell? ⟨b, 0, none⟩ = some v := by
 have hlt := ybr _ _ h
 exact (World.cell?_of_block (a := ⟨b, 0, none⟩) (hb.block b hlt)).trans h
theorem JTabs.step {w W : World} (h : JTabs w) (hb : Below w.heap.size w W) : JTabs W := by
 refine ⟨h.tabs.step hb, ?_, ?_, ?_⟩
 ·exact (Lib.tabBelow_of_tabIs h.pow) W hb
 ·obtain ⟨ev, h1, h2⟩ := h.syn
  exact ⟨ev, yaS hb h1, h2⟩
 ·obtain ⟨ev, h1, h2⟩ := h.rng
  exact ⟨ev, yaS hb h1, h2⟩
theorem xa3 (w : World) (k : Nat) (os : Array Obj) : Below w.heap.size w (grow (w.drewN k) os) := by
 refine ⟨rfl, rfl, rfl, ?_, ?_⟩
 ·simp [grow]
 ·intro j hj
  simp [grow]
  exact Array.getElem?_append_left hj
def Yy (n : Int) : ByteArray := ⟨(Lib.itoa n).toArray⟩
theorem Yaa (n : Int) (h0 : -9223372036854775808 ≤ n) (h1 : n ≤ 9223372036854775807) (w : World) (ht : JTabs w) :
  Calls Tryz.prog 36 #[.int .i64 n] w fun e w' => e = .returned (.string (Yy n)) ∧ Below w.heap.size w w' := by
 go_enter Tryz.func36, Tryz.ntmps36
 go_wp2_with (first
  | (go_at_call 56; refine (Tryz.strconv_Itoa n h0 h1 _ ht.pow).mono ?_; rintro e w1 ⟨rfl, ⟨k, os, rfl⟩⟩))
 go_ret
 exact ⟨rfl, xa3 _ _ _⟩
def Yu (s : ByteArray) : Int × Bool := if 20 < s.size then (0, false) else match Lib.atoiAll s.data.toList with | .ok v => if Yy v = s then (v, true) else (0, false) | _ => (0, false)
theorem xaS (s : ByteArray) (w : World) (h : 20 < s.size) :
  Calls Tryz.prog 63 #[.string s] w fun e w' => e = .returned (.tuple #[.int .i64 0, .bool false]) ∧ Below w.heap.size w w' := by
 have c1 : decide (20 < (s.size : Int)) = true := decide_eq_true (by omega)
 go_enter Tryz.func63, Tryz.ntmps63
 go_wp2_with fail
 go_ret2
 exact ⟨rfl, ybd _ _⟩
theorem Za3 (s : ByteArray) (v : Int) (w : World) (ht : JTabs w) (h : s.size ≤ 20) (hv : Lib.atoiAll s.data.toList = .ok v) :
  Calls Tryz.prog 63 #[.string s] w fun e w' => e = .returned (.tuple #[.int .i64 (if Yy v = s then v else 0), .bool (decide (Yy v = s))]) ∧ Below w.heap.size w w' := by
 have c1 : decide (20 < (s.size : Int)) = false := zbd (by omega)
 obtain ⟨b0, b1⟩ := Lib.atoiAll_bounds hv
 have HV := Aside0.mk hv
 have HT := Aside0.mk ht
 have HB := Aside0.mk (ybd w.heap.size w)
 have HP : Aside0 (-9223372036854775808 ≤ v ∧ v ≤ 9223372036854775807) := ⟨by omega⟩
 have HM : Aside0 (s.size ≤ 9223372036854775806) := ⟨by omega⟩
 by_cases c : Yy v = s
 ·have c2 : ((Yy v).toList == s.toList) = true := by rw [c]; exact beq_self_eq_true _
  rw [if_pos c, decide_eq_true c]
  clear c hv ht b0 b1
  go_enter Tryz.func63, Tryz.ntmps63
  go_wp2_with (first
   | (go_at_call 74; refine (Tryz.strconv_Atoi_ok s HM.out v HV.out _).mono ?_; rintro e w1 ⟨rfl, hw⟩; have HB1 : Aside0 (Below w.heap.size w w1) := ⟨by rcases hw with rfl | ⟨t, rfl⟩; exact ybd _ _; exact zau (ybd _ _) (Xbc _) _ _⟩; clear hw)
   | (go_at_call 36; refine (Yaa v HP.out.1 HP.out.2 _ (HT.out.step HB1.out)).mono ?_; rintro e w2 ⟨rfl, hb⟩; have HB2 := Aside0.mk (Ze HB1.out hb); clear hb))
  go_ret2
  exact ⟨rfl, HB2.out⟩
 ·have c2 : ((Yy v).toList == s.toList) = false := by
   rw [Ybb, Lib.toList_data, Lib.toList_data]
   intro e
   apply c
   cases hx : Yy v
   cases s
   rw [hx] at e
   simp at e
   rw [e]
  rw [if_neg c, zbd c]
  clear c hv ht b0 b1
  go_enter Tryz.func63, Tryz.ntmps63
  go_wp2_with (first
   | (go_at_call 74; refine (Tryz.strconv_Atoi_ok s HM.out v HV.out _).mono ?_; rintro e w1 ⟨rfl, hw⟩; have HB1 : Aside0 (Below w.heap.size w w1) := ⟨by rcases hw with rfl | ⟨t, rfl⟩; exact ybd _ _; exact zau (ybd _ _) (Xbc _) _ _⟩; clear hw)
   | (go_at_call 36; refine (Yaa v HP.out.1 HP.out.2 _ (HT.out.step HB1.out)).mono ?_; rintro e w2 ⟨rfl, hb⟩; have HB2 := Aside0.mk (Ze HB1.out hb); clear hb))
  go_ret2
  exact ⟨rfl, HB2.out⟩
theorem XaI (s : ByteArray) (w : World) (ht : JTabs w) (h : s.size ≤ 20) (hv : Lib.atoiAll s.data.toList = Lib.atoiAll []) :
  Calls Tryz.prog 63 #[.string s] w fun e w' => e = .returned (.tuple #[.int .i64 0, .bool false]) ∧ Below w.heap.size w w' := by
 have c1 : decide (20 < (s.size : Int)) = false := zbd (by omega)
 obtain ⟨ev, he1, he2⟩ := ht.syn
 have HV := Aside0.mk hv
 have H1 := Aside0.mk he1
 have H2 := Aside0.mk he2
 have HM : Aside0 (s.size ≤ 281474976710656) := ⟨by omega⟩
 clear hv ht he1 he2
 go_enter Tryz.func63, Tryz.ntmps63
 go_wp2_with (first
  | (go_at_call 74; refine (Tryz.strconv_Atoi_syntax s HM.out HV.out ev _ H1.out H2.out).mono ?_; rintro e w1 ⟨N, rfl, hN, hb, hB⟩; have HB := Aside0.mk hB; clear hN hb hB))
 go_ret2
 exact ⟨rfl, HB.out⟩
theorem xaQ (s : ByteArray) (w : World) (ht : JTabs w) (h : s.size ≤ 20) (hv : Lib.atoiAll s.data.toList = .range) :
  Calls Tryz.prog 63 #[.string s] w fun e w' => e = .returned (.tuple #[.int .i64 0, .bool false]) ∧ Below w.heap.size w w' := by
 have c1 : decide (20 < (s.size : Int)) = false := zbd (by omega)
 obtain ⟨ev, he1, he2⟩ := ht.rng
 have HV := Aside0.mk hv
 have H1 := Aside0.mk he1
 have H2 := Aside0.mk he2
 have HM : Aside0 (s.size ≤ 281474976710656) := ⟨by omega⟩
 clear hv ht he1 he2
 go_enter Tryz.func63, Tryz.ntmps63
 go_wp2_with (first
  | (go_at_call 74; refine (Tryz.strconv_Atoi_range s HM.out HV.out ev _ H1.out H2.out).mono ?_; rintro e w1 ⟨N, rfl, hN, hb, hB⟩; have HB := Aside0.mk hB; clear hN hb hB))
 go_ret2
 exact ⟨rfl, HB.out⟩
theorem xaj (s : ByteArray) (w : World) (ht : JTabs w) :
  Calls Tryz.prog 63 #[.string s] w fun e w' => e = .returned (.tuple #[.int .i64 (Yu s).1, .bool (Yu s).2]) ∧ Below w.heap.size w w' := by
 unfold Yu
 by_cases h : 20 < s.size
 ·rw [if_pos h]; exact xaS s w h
 ·rw [if_neg h]
  cases hv : Lib.atoiAll s.data.toList with
  | ok v =>
   have := Za3 s v w ht (by omega) hv
   simp only
   by_cases c : Yy v = s
   ·rw [if_pos c]; rw [if_pos c, decide_eq_true c] at this; exact this
   ·rw [if_neg c]; rw [if_neg c, zbd c] at this; exact this
  | range => exact xaQ s w ht (by omega) hv
  | _ => exact XaI s w ht (by omega) hv
end Go.Proofs.NGiv
namespace Go.Proofs.YthhmmaihbjhhgaaGreatDoor.LaidJ
open Go.ChangeShapes Go.WideShapes Go.ChangeAt Go.RowKit Go.Lib
def lits {H : Type} : DataW H → List Value
 | .agg l => l.map fun | .lit (.int k n) => Value.int k n | _ => undef
 | _ => []
noncomputable def laidWorld (os : Os) : World :=
 let w0 := LaidW.laidWorld os
 let put (h : Array Obj) (g : Nat) (cs : Array Value) : Array Obj := h.modify g fun
  | .cells _ t frozen => .cells cs t frozen
  | o => o
 let n := w0.heap.size
 let h3 := put w0.heap 4 #[.iface 163 (.pointer (some ⟨n, 0, none⟩))]
 let h4 := put h3 5 #[.iface 163 (.pointer (some ⟨n + 1, 0, none⟩))]
 let h5 := put h4 3 (Lib.pow10Tab.map fun z => Value.int .u64 z).toArray
 let h6 := put h5 6 (lits (H := Unit) Rows.laid_math_bits_deBruijn32tab).toArray
 let h7 := put h6 7 (lits (H := Unit) Rows.laid_math_bits_deBruijn64tab).toArray
 { w0 with heap := (h7.push (.cells #[.string ⟨#[105, 110, 118, 97, 108, 105, 100, 32, 115, 121, 110, 116, 97, 120]⟩] 165 (0, 0))).push (.cells #[.string ⟨#[118, 97, 108, 117, 101, 32, 111, 117, 116, 32, 111, 102, 32, 114, 97, 110, 103, 101]⟩] 165 (0, 0)) }
theorem pow_eq : (Rows.laid_internal_strconv_uint64pow10 : DataW Unit) = tabData .u64 Lib.pow10Tab := by kernel_rfl
theorem pow (W : World) (laid : List (String × DataW Unit)) (hL : laidMet Tryz.prog laid W) (h : ("internal/strconv.uint64pow10", (Rows.laid_internal_strconv_uint64pow10 : DataW Unit)) ∈ laid) : Lib.TabIs Tryz.prog W "internal/strconv.uint64pow10" .u64 Lib.pow10Tab := by
 obtain ⟨g, t, cs, fuel, p, hg, hty, hvar, hd⟩ := Lib.laidMet.reads hL h
 rw [pow_eq] at hd
 have e1 : Tryz.prog.globalNamed "internal/strconv.uint64pow10" = some 3 := by kernel_rfl
 obtain rfl := Option.some.inj (e1.symm.trans hg)
 have e2 : (Tryz.prog.globals[3]?).map (·.type) = some 147 := by kernel_rfl
 obtain rfl := Option.some.inj (e2.symm.trans hty)
 unfold Lib.TabIs
 rw [hvar, ← cells_of_tab (n := 20) (e := 96) Tryz.underlying147 Tryz.underlying96 (by kernel_rfl) (by kernel_rfl) hd]
theorem err_of {W : World} {name : String} {g : Nat} {d : DataW Unit} (hg0 : Tryz.prog.globalNamed name = some g) (ht0 : (Tryz.prog.globals[g]?).map (·.type) = some 50) (h : VarReads Tryz.prog W name d) : ∃ ev, W.cell? ⟨g, 0, none⟩ = some ev ∧ (ev = .nilIface ∨ ∃ te pe, ev = .iface te pe) := by
 obtain ⟨g', t, cs, fuel, p, hg, hty, hvar, hd⟩ := h
 obtain rfl := Option.some.inj (hg0.symm.trans hg)
 obtain rfl := Option.some.inj (ht0.symm.trans hty)
 have hc := World.var?_cell hg hvar 0
 obtain ⟨ms, hu⟩ : ∃ ms, Tryz.prog.underlying 50 = some (.interface ms) := ⟨_, Tryz.underlying50⟩
 have hcs : cs.toList = [.nilIface] ∨ ∃ te pe, cs.toList = [.iface te pe] := by
  cases fuel with
  | zero => simp [DataW.trod] at hd
  | succ fuel =>
   unfold DataW.trod at hd
   rw [hu] at hd
   split at hd <;> first | (rename_i e1 e2; exact .inl e2) | (rename_i e1 e2; exact .inr ⟨_, _, e2⟩) | (rename_i e1; injection e1 with e1; cases e1; done) | (rename_i e1 _; injection e1 with e1; cases e1; done) | (rename_i e1 _ _; injection e1 with e1; cases e1; done) | (cases hd; done) | (simp at *; done)
 have hcs2 : cs[0]? = cs.toList[0]? := by simp
 rw [hcs2] at hc
 rcases hcs with h1 | ⟨te, pe, h1⟩
 ·rw [h1] at hc; exact ⟨_, hc, .inl rfl⟩
 ·rw [h1] at hc; exact ⟨_, hc, .inr ⟨te, pe, rfl⟩⟩
theorem jtabs (W : World) (laid : List (String × DataW Unit)) (hL : laidMet Tryz.prog laid W) (h1 : ("unicode/utf8.first", Rows.laid_unicode_utf8_first) ∈ laid) (h2 : ("unicode/utf8.acceptRanges", Rows.laid_unicode_utf8_acceptRanges) ∈ laid)
  (h3 : ("internal/strconv.uint64pow10", (Rows.laid_internal_strconv_uint64pow10 : DataW Unit)) ∈ laid) (h4 : ("strconv.ErrSyntax", (Rows.laid_strconv_ErrSyntax : DataW Unit)) ∈ laid) (h5 : ("strconv.ErrRange", (Rows.laid_strconv_ErrRange : DataW Unit)) ∈ laid) : NGiv.JTabs W :=
 ⟨LaidW.tabs W laid hL h1 h2, pow W laid hL h3, err_of (by kernel_rfl) (by kernel_rfl) (Lib.laidMet.reads hL h4), err_of (by kernel_rfl) (by kernel_rfl) (Lib.laidMet.reads hL h5)⟩
end Go.Proofs.YthhmmaihbjhhgaaGreatDoor.LaidJ
namespace Go.Proofs.NU1
open Go.Proofs.NGiv Go.RowKit Go.Proofs.Wa Go.Proofs.Wb Go.Proofs.Wc
attribute [local go_sem] YL XL YR XR yI xI zM yM
def errW : Option Int → Value
 | none => .nilIface
 | some c => .iface 0 (.int .i64 c)
theorem errW_none : errW none = .nilIface := rfl
theorem Yd (c : Int) : errW (some c) = .iface 0 (.int .i64 c) := rfl
def Zm.j0 : Nat → Int → Bool → Option (Bool)
 | 0, _, _ => none
 | k + 1, x0, x3 => if x3 = true then (some true) else (if 57343 < x0 then (if x0 ≤ 1114111 then (some true) else (some false)) else (some false))
def Zm.f (k : Nat) (a0 : Int) : Option (Bool) := if 0 ≤ a0 then (Zm.j0 k a0 (decide (a0 < 55296))) else (Zm.j0 k a0 false)
theorem Zm.calls (k : Nat) (a0 : Int) (r : Bool) (w : World) (h : Zm.f k a0 = some r) :
  Calls Tryz.prog 117 #[.int .i32 a0] w fun e w' => e = .returned (.bool r) ∧ Drawn0 w w' := by
 have H : (if 0 ≤ a0 then (Zm.j0 k a0 (decide (a0 < 55296))) else (Zm.j0 k a0 false)) = some r := h
 clear h
 have HC2 := Aside0.mk H
 clear H
 go_enter Tryz.func117, Tryz.ntmps117
 go_upto_region 1 with (fail)
 go_cut [3] (fun v3 wc => ∃ (kq : Nat) (x3_1 : Bool), v3 = .bool x3_1 ∧ Aside0 (Zm.j0 kq a0 x3_1 = some r) ∧ Aside0 (kq ≤ k) ∧ Drawn0 w wc)
 case first =>
  have H := HC2.out
  clear HC2
  by_cases c3 : 0 ≤ a0
  ·rw [if_pos c3] at H
   have c3b0 : decide (0 ≤ a0) = true := decide_eq_true c3
   clear c3
   (first | rw [c3b0] | (simp only [i64_w, zn]; rw [c3b0]) | skip)
   have H' := Aside0.mk H
   clear H
   go_wp2
   go_meet
   case rel => exact ⟨_, (decide (a0 < 55296)), (by first | rfl | (simp; done) | (simp [*]; done)), H', ⟨by first | omega | exact Xbc _⟩, by repeat (first | exact Drawn0.refl _ | apply Drawn0.step)⟩
  ·rw [if_neg c3] at H
   have c3b0 : decide (0 ≤ a0) = false := zbd c3
   clear c3
   (first | rw [c3b0] | (simp only [i64_w, zn]; rw [c3b0]) | skip)
   have H' := Aside0.mk H
   clear H
   go_wp2
   go_meet
   case rel => exact ⟨_, (false), (by first | rfl | (simp; done) | (simp [*]; done)), H', ⟨by first | omega | exact Xbc _⟩, by repeat (first | exact Drawn0.refl _ | apply Drawn0.step)⟩
 case rest =>
  clear HC2
  try clear p2
  try clear c3
  try clear c3b0
  obtain ⟨kq, x3_1, rfl, HA, HJ1, ⟨mc1, rfl⟩⟩ := hcut
  cases kq with
  | zero => exact absurd HA.out (by simp [Zm.j0])
  | succ kj1 =>
   have H := HA.out
   clear HA
   simp only [Zm.j0] at H
   by_cases c4 : x3_1 = true
   ·subst c4
    have H1 : (some true) = some r := by rw [if_pos rfl] at H; exact H
    clear H
    have H := H1
    clear H1
    obtain rfl := Option.some.inj H
    go_wp2
    go_ret
    exact ⟨by first | rfl | (simp; done) | (simp [*]; done), by repeat (first | exact Drawn0.refl _ | apply Drawn0.step)⟩
   ·replace c4 := ybh.mpr c4
    subst c4
    have H1 : (if 57343 < a0 then (if a0 ≤ 1114111 then (some true) else (some false)) else (some false)) = some r := by rw [if_neg (show ¬ (false = true) by decide)] at H; exact H
    clear H
    have H := H1
    clear H1
    by_cases c5 : 57343 < a0
    ·rw [if_pos c5] at H
     have c5b0 : decide (57343 < a0) = true := decide_eq_true c5
     clear c5
     by_cases c6 : a0 ≤ 1114111
     ·rw [if_pos c6] at H
      have c6b0 : decide (a0 ≤ 1114111) = true := decide_eq_true c6
      clear c6
      obtain rfl := Option.some.inj H
      go_wp2
      go_ret
      exact ⟨by first | rfl | (simp; done) | (simp [*]; done), by repeat (first | exact Drawn0.refl _ | apply Drawn0.step)⟩
     ·rw [if_neg c6] at H
      have c6b0 : decide (a0 ≤ 1114111) = false := zbd c6
      clear c6
      obtain rfl := Option.some.inj H
      go_wp2
      go_ret
      exact ⟨by first | rfl | (simp; done) | (simp [*]; done), by repeat (first | exact Drawn0.refl _ | apply Drawn0.step)⟩
    ·rw [if_neg c5] at H
     have c5b0 : decide (57343 < a0) = false := zbd c5
     clear c5
     obtain rfl := Option.some.inj H
     go_wp2
     go_ret
     exact ⟨by first | rfl | (simp; done) | (simp [*]; done), by repeat (first | exact Drawn0.refl _ | apply Drawn0.step)⟩
def XI.f (k : Nat) (a0 : Int) : Option (Bool) := if a0 ≥ 0 then (if a0 ≤ 1114111 then ((Zm.f k (wrap32 (a0))).bind fun t101 => (some t101)) else (some false)) else (some false)
theorem XI.calls (k : Nat) (a0 : Int) (r : Bool) (w : World) (h : XI.f k a0 = some r) :
  Calls Tryz.prog 109 #[.int .i64 a0] w fun e w' => e = .returned (.bool r) ∧ Drawn0 w w' := by
 have H : (if a0 ≥ 0 then (if a0 ≤ 1114111 then ((Zm.f k (wrap32 (a0))).bind fun t101 => (some t101)) else (some false)) else (some false)) = some r := h
 clear h
 by_cases c2 : a0 ≥ 0
 ·rw [if_pos c2] at H
  have c2b0 : decide (0 ≤ a0) = true := decide_eq_true c2
  clear c2
  by_cases c3 : a0 ≤ 1114111
  ·rw [if_pos c3] at H
   have c3b0 : decide (a0 ≤ 1114111) = true := decide_eq_true c3
   clear c3
   replace H := Ybe.mp H
   obtain ⟨t101, A40, H⟩ := H
   replace H : (some t101) = some r := H
   have A4 := Aside0.mk A40
   clear A40
   obtain rfl := Option.some.inj H
   go_enter Tryz.func109, Tryz.ntmps109
   go_wp2_with (first | (go_at_call 117; (with_reducible refine (Zm.calls k (wrap32 (a0)) t101 _ A4.out).mono ?_); rintro e w' ⟨rfl, ⟨nd, rfl⟩⟩))
   go_ret
   exact ⟨by first | rfl | (simp; done) | (simp [*]; done), by repeat (first | exact Drawn0.refl _ | apply Drawn0.step)⟩
  ·rw [if_neg c3] at H
   have c3b0 : decide (a0 ≤ 1114111) = false := zbd c3
   clear c3
   obtain rfl := Option.some.inj H
   go_enter Tryz.func109, Tryz.ntmps109
   go_wp2
   go_ret
   exact ⟨by first | rfl | (simp; done) | (simp [*]; done), by repeat (first | exact Drawn0.refl _ | apply Drawn0.step)⟩
 ·rw [if_neg c2] at H
  have c2b0 : decide (0 ≤ a0) = false := zbd c2
  clear c2
  obtain rfl := Option.some.inj H
  go_enter Tryz.func109, Tryz.ntmps109
  go_wp2
  go_ret
  exact ⟨by first | rfl | (simp; done) | (simp [*]; done), by repeat (first | exact Drawn0.refl _ | apply Drawn0.step)⟩
def zK.f (k : Nat) (a0 : Int) : Option (ByteArray × Bool) := (XI.f k a0).bind fun t102 => (if t102 = true then (some (Go.Utf8.encode (wrap32 (a0)), true)) else (some ((⟨#[]⟩ : ByteArray), false)))
theorem zK.calls (k : Nat) (a0 : Int) (r1 : ByteArray) (r2 : Bool) (w : World) (h : zK.f k a0 = some (r1, r2)) :
  Calls Tryz.prog 94 #[.int .i64 a0] w fun e w' => e = .returned (.tuple #[.string r1, .bool r2]) ∧ Drawn0 w w' := by
 have H : ((XI.f k a0).bind fun t102 => (if t102 = true then (some (Go.Utf8.encode (wrap32 (a0)), true)) else (some ((⟨#[]⟩ : ByteArray), false)))) = some (r1, r2) := h
 clear h
 replace H := Ybe.mp H
 obtain ⟨t102, A20, H⟩ := H
 replace H : (if t102 = true then (some (Go.Utf8.encode (wrap32 (a0)), true)) else (some ((⟨#[]⟩ : ByteArray), false))) = some (r1, r2) := H
 have A2 := Aside0.mk A20
 clear A20
 by_cases c3 : t102 = true
 ·subst c3
  have H1 : (some (Go.Utf8.encode (wrap32 (a0)), true)) = some (r1, r2) := by rw [if_pos rfl] at H; exact H
  clear H
  have H := H1
  clear H1
  simp only [Option.some.injEq, Prod.mk.injEq] at H
  obtain ⟨rfl, rfl⟩ := H
  go_enter Tryz.func94, Tryz.ntmps94
  go_wp2_with (first | ((with_reducible refine Xd (f := 109) rfl ?_); refine Xj (some 5) rfl rfl Tryz.func109 (by kernel_rfl) rfl #[.int .i64 a0] rfl (by (try simp only [zbg, Xbf, ybg]); first | done | rfl | (simp only [Zbb, ybc]; rfl)) ?_; (with_reducible refine (XI.calls k a0 true _ A2.out).mono ?_); rintro e w' ⟨rfl, ⟨nd, rfl⟩⟩; refine ⟨_, rfl, ?_⟩))
  go_ret2
  exact ⟨by first | rfl | (simp; done) | (simp [*]; done), by repeat (first | exact Drawn0.refl _ | apply Drawn0.step)⟩
 ·replace c3 := ybh.mpr c3
  subst c3
  have H1 : (some ((⟨#[]⟩ : ByteArray), false)) = some (r1, r2) := by rw [if_neg (show ¬ (false = true) by decide)] at H; exact H
  clear H
  have H := H1
  clear H1
  simp only [Option.some.injEq, Prod.mk.injEq] at H
  obtain ⟨rfl, rfl⟩ := H
  go_enter Tryz.func94, Tryz.ntmps94
  go_wp2_with (first | ((with_reducible refine Xd (f := 109) rfl ?_); refine Xj (some 5) rfl rfl Tryz.func109 (by kernel_rfl) rfl #[.int .i64 a0] rfl (by (try simp only [zbg, Xbf, ybg]); first | done | rfl | (simp only [Zbb, ybc]; rfl)) ?_; (with_reducible refine (XI.calls k a0 false _ A2.out).mono ?_); rintro e w' ⟨rfl, ⟨nd, rfl⟩⟩; refine ⟨_, rfl, ?_⟩))
  go_ret2
  exact ⟨by first | rfl | (simp; done) | (simp [*]; done), by repeat (first | exact Drawn0.refl _ | apply Drawn0.step)⟩
def Xl.f (a0 : Int) : Option (Bool) := if a0 ≥ 0 then (if a0 ≤ 1114111 then (if a0 < 55296 then (some true) else (some (decide (a0 > 57343)))) else (some false)) else (some false)
theorem Xl.calls (a0 : Int) (r : Bool) (w : World) (h : Xl.f a0 = some r) :
  Calls Tryz.prog 101 #[.int .i64 a0] w fun e w' => e = .returned (.bool r) ∧ Drawn0 w w' := by
 have H : (if a0 ≥ 0 then (if a0 ≤ 1114111 then (if a0 < 55296 then (some true) else (some (decide (a0 > 57343)))) else (some false)) else (some false)) = some r := h
 clear h
 by_cases c2 : a0 ≥ 0
 ·rw [if_pos c2] at H
  have c2b0 : decide (0 ≤ a0) = true := decide_eq_true c2
  clear c2
  by_cases c3 : a0 ≤ 1114111
  ·rw [if_pos c3] at H
   have c3b0 : decide (a0 ≤ 1114111) = true := decide_eq_true c3
   clear c3
   by_cases c4 : a0 < 55296
   ·rw [if_pos c4] at H
    have c4b0 : decide (a0 < 55296) = true := decide_eq_true c4
    clear c4
    obtain rfl := Option.some.inj H
    go_enter Tryz.func101, Tryz.ntmps101
    go_wp2
    go_ret
    exact ⟨by first | rfl | (simp; done) | (simp [*]; done), by repeat (first | exact Drawn0.refl _ | apply Drawn0.step)⟩
   ·rw [if_neg c4] at H
    have c4b0 : decide (a0 < 55296) = false := zbd c4
    clear c4
    obtain rfl := Option.some.inj H
    go_enter Tryz.func101, Tryz.ntmps101
    go_wp2
    go_ret
    exact ⟨by first | rfl | (simp; done) | (simp [*]; done), by repeat (first | exact Drawn0.refl _ | apply Drawn0.step)⟩
  ·rw [if_neg c3] at H
   have c3b0 : decide (a0 ≤ 1114111) = false := zbd c3
   clear c3
   obtain rfl := Option.some.inj H
   go_enter Tryz.func101, Tryz.ntmps101
   go_wp2
   go_ret
   exact ⟨by first | rfl | (simp; done) | (simp [*]; done), by repeat (first | exact Drawn0.refl _ | apply Drawn0.step)⟩
 ·rw [if_neg c2] at H
  have c2b0 : decide (0 ≤ a0) = false := zbd c2
  clear c2
  obtain rfl := Option.some.inj H
  go_enter Tryz.func101, Tryz.ntmps101
  go_wp2
  go_ret
  exact ⟨by first | rfl | (simp; done) | (simp [*]; done), by repeat (first | exact Drawn0.refl _ | apply Drawn0.step)⟩
def Ym.f (a0 : Int) : Option (ByteArray × Bool) := (Xl.f a0).bind fun t103 => (if t103 = true then (if a0 < 128 then (some (strOfNums (([(a0) % 256] : List Int)), true)) else (if a0 < 2048 then (some (strOfNums (([(wrap64 (192 + (wrap64 (Int.tdiv a0 64)))) % 256, (wrap64 (128 + (Int.tmod a0 64))) % 256] : List Int)), true)) else (if a0 < 65536 then (some (strOfNums (([(wrap64 (224 + (wrap64 (Int.tdiv a0 4096)))) % 256, (wrap64 (128 + (Int.tmod (wrap64 (Int.tdiv a0 64)) 64))) % 256, (wrap64 (128 + (Int.tmod a0 64))) % 256] : List Int)), true)) else (some (strOfNums (([(wrap64 (240 + (wrap64 (Int.tdiv a0 262144)))) % 256, (wrap64 (128 + (Int.tmod (wrap64 (Int.tdiv a0 4096)) 64))) % 256, (wrap64 (128 + (Int.tmod (wrap64 (Int.tdiv a0 64)) 64))) % 256, (wrap64 (128 + (Int.tmod a0 64))) % 256] : List Int)), true))))) else (some ((⟨#[]⟩ : ByteArray), false)))
theorem Ym.calls (a0 : Int) (r1 : ByteArray) (r2 : Bool) (w : World) (h : Ym.f a0 = some (r1, r2)) :
  Calls Tryz.prog 87 #[.int .i64 a0] w fun e w' => e = .returned (.tuple #[.string r1, .bool r2]) ∧ Below w.heap.size w w' := by
 have HB := Aside0.mk (ybd w.heap.size w)
 have H : ((Xl.f a0).bind fun t103 => (if t103 = true then (if a0 < 128 then (some (strOfNums (([(a0) % 256] : List Int)), true)) else (if a0 < 2048 then (some (strOfNums (([(wrap64 (192 + (wrap64 (Int.tdiv a0 64)))) % 256, (wrap64 (128 + (Int.tmod a0 64))) % 256] : List Int)), true)) else (if a0 < 65536 then (some (strOfNums (([(wrap64 (224 + (wrap64 (Int.tdiv a0 4096)))) % 256, (wrap64 (128 + (Int.tmod (wrap64 (Int.tdiv a0 64)) 64))) % 256, (wrap64 (128 + (Int.tmod a0 64))) % 256] : List Int)), true)) else (some (strOfNums (([(wrap64 (240 + (wrap64 (Int.tdiv a0 262144)))) % 256, (wrap64 (128 + (Int.tmod (wrap64 (Int.tdiv a0 4096)) 64))) % 256, (wrap64 (128 + (Int.tmod (wrap64 (Int.tdiv a0 64)) 64))) % 256, (wrap64 (128 + (Int.tmod a0 64))) % 256] : List Int)), true))))) else (some ((⟨#[]⟩ : ByteArray), false)))) = some (r1, r2) := h
 clear h
 replace H := Ybe.mp H
 obtain ⟨t103, A20, H⟩ := H
 replace H : (if t103 = true then (if a0 < 128 then (some (strOfNums (([(a0) % 256] : List Int)), true)) else (if a0 < 2048 then (some (strOfNums (([(wrap64 (192 + (wrap64 (Int.tdiv a0 64)))) % 256, (wrap64 (128 + (Int.tmod a0 64))) % 256] : List Int)), true)) else (if a0 < 65536 then (some (strOfNums (([(wrap64 (224 + (wrap64 (Int.tdiv a0 4096)))) % 256, (wrap64 (128 + (Int.tmod (wrap64 (Int.tdiv a0 64)) 64))) % 256, (wrap64 (128 + (Int.tmod a0 64))) % 256] : List Int)), true)) else (some (strOfNums (([(wrap64 (240 + (wrap64 (Int.tdiv a0 262144)))) % 256, (wrap64 (128 + (Int.tmod (wrap64 (Int.tdiv a0 4096)) 64))) % 256, (wrap64 (128 + (Int.tmod (wrap64 (Int.tdiv a0 64)) 64))) % 256, (wrap64 (128 + (Int.tmod a0 64))) % 256] : List Int)), true))))) else (some ((⟨#[]⟩ : ByteArray), false))) = some (r1, r2) := H
 have A2 := Aside0.mk A20
 clear A20
 by_cases c3 : t103 = true
 ·subst c3
  have H1 : (if a0 < 128 then (some (strOfNums (([(a0) % 256] : List Int)), true)) else (if a0 < 2048 then (some (strOfNums (([(wrap64 (192 + (wrap64 (Int.tdiv a0 64)))) % 256, (wrap64 (128 + (Int.tmod a0 64))) % 256] : List Int)), true)) else (if a0 < 65536 then (some (strOfNums (([(wrap64 (224 + (wrap64 (Int.tdiv a0 4096)))) % 256, (wrap64 (128 + (Int.tmod (wrap64 (Int.tdiv a0 64)) 64))) % 256, (wrap64 (128 + (Int.tmod a0 64))) % 256] : List Int)), true)) else (some (strOfNums (([(wrap64 (240 + (wrap64 (Int.tdiv a0 262144)))) % 256, (wrap64 (128 + (Int.tmod (wrap64 (Int.tdiv a0 4096)) 64))) % 256, (wrap64 (128 + (Int.tmod (wrap64 (Int.tdiv a0 64)) 64))) % 256, (wrap64 (128 + (Int.tmod a0 64))) % 256] : List Int)), true))))) = some (r1, r2) := by rw [if_pos rfl] at H; exact H
  clear H
  have H := H1
  clear H1
  by_cases c4 : a0 < 128
  ·rw [if_pos c4] at H
   have c4b0 : decide (a0 < 128) = true := decide_eq_true c4
   clear c4
   obtain ⟨y104, hy104⟩ : ∃ y_ : List Int, y_ = (([(a0) % 256] : List Int)) := ⟨_, rfl⟩
   replace H : (some (strOfNums y104, true)) = some (r1, r2) := by first | (rw [hy104]; with_reducible exact H) | (have H2_ := (Zbf _ _).symm.trans H; rw [hy104]; with_reducible exact H2_) | (have H2_ := (Zbf _ _).symm.trans H; with_reducible exact H2_) | with_reducible exact H | (rw [hy104]; exact H) | exact H
   have Ny104 := Aside0.mk hy104
   clear hy104
   simp only [Option.some.injEq, Prod.mk.injEq] at H
   obtain ⟨rfl, rfl⟩ := H
   go_enter Tryz.func87, Tryz.ntmps87
   go_wp2_with (first | ((with_reducible refine Xd (f := 101) rfl ?_); refine Xj (some 7) rfl rfl Tryz.func101 (by kernel_rfl) rfl #[.int .i64 a0] rfl (by (try simp only [zbg, Xbf, ybg]); first | done | rfl | (simp only [Zbb, ybc]; rfl)) ?_; (with_reducible refine (Xl.calls a0 true _ A2.out).mono ?_); rintro e w' ⟨rfl, ⟨nd, rfl⟩⟩; refine ⟨_, rfl, ?_⟩) | ((with_reducible refine yR (N := 13) rfl ?_); refine Kd.R_lit (Kd.int .u8) _ 5 ?hg (N := 13) ?hd (xs := ([(a0) % 256] : List Int)) (inner := [.int .u8 ((a0) % 256)]) (ok := fun _ => True) (okp := fun _ => True) ?hr ?hp (fun _ hk => hk) trivial (ybd _ _) (Xbc _) (by simp) ?_; (case hd => rfl); (case hg => rfl); (case hr => first | (go_simp; done) | (go_simp; rfl)); (case hp => exact (Reps.one (show Kd.M (Kd.int .u8) _ _ _ ((a0) % 256) [.int .u8 ((a0) % 256)] from rfl) (Reps.none _ _))); intro v105 w5 ho6 hb hg_ hnew_; clear hg_ hnew_; (first | rw [← Ny104.out] at ho6 | (simp only [Int.reduceToNat] at ho6; rw [← Ny104.out] at ho6)); have n0_ := Aside0.mk (Kd.R_lower ho6 (xG (by repeat (first | (with_reducible first | exact HB.out | apply Za | apply Ya | apply Xa) | exact HB.out)))); have n1_ := Aside0.mk (Ze (by repeat (first | (with_reducible first | exact HB.out | apply Za | apply Ya | apply Xa) | exact HB.out)) hb); clear HB; have HO106 := n0_; have HB := n1_; clear n0_ n1_; clear hb ho6; have hcv7 := yG (P := Tryz.prog) Tryz.underlying43 Tryz.underlying5 Tryz.underlying9 (Kd.own_of_R HO106.out)))
   go_ret2
   exact ⟨by first | rfl | (simp [errW_none, Yd] <;> rfl) | (simp [*, errW_none, Yd] <;> rfl), by repeat (first | (with_reducible first | exact HB.out | apply Za | apply Ya | apply Xa) | exact HB.out)⟩
  ·rw [if_neg c4] at H
   have c4b0 : decide (a0 < 128) = false := zbd c4
   clear c4
   by_cases c8 : a0 < 2048
   ·rw [if_pos c8] at H
    have c8b0 : decide (a0 < 2048) = true := decide_eq_true c8
    clear c8
    obtain ⟨y107, hy107⟩ : ∃ y_ : List Int, y_ = (([(wrap64 (192 + (wrap64 (Int.tdiv a0 64)))) % 256, (wrap64 (128 + (Int.tmod a0 64))) % 256] : List Int)) := ⟨_, rfl⟩
    replace H : (some (strOfNums y107, true)) = some (r1, r2) := by first | (rw [hy107]; with_reducible exact H) | (have H2_ := (Zbf _ _).symm.trans H; rw [hy107]; with_reducible exact H2_) | (have H2_ := (Zbf _ _).symm.trans H; with_reducible exact H2_) | with_reducible exact H | (rw [hy107]; exact H) | exact H
    have Ny107 := Aside0.mk hy107
    clear hy107
    simp only [Option.some.injEq, Prod.mk.injEq] at H
    obtain ⟨rfl, rfl⟩ := H
    go_enter Tryz.func87, Tryz.ntmps87
    go_wp2_with (first | ((with_reducible refine Xd (f := 101) rfl ?_); refine Xj (some 7) rfl rfl Tryz.func101 (by kernel_rfl) rfl #[.int .i64 a0] rfl (by (try simp only [zbg, Xbf, ybg]); first | done | rfl | (simp only [Zbb, ybc]; rfl)) ?_; (with_reducible refine (Xl.calls a0 true _ A2.out).mono ?_); rintro e w' ⟨rfl, ⟨nd, rfl⟩⟩; refine ⟨_, rfl, ?_⟩) | ((with_reducible refine yR (N := 26) rfl ?_); refine Kd.R_lit (Kd.int .u8) _ 5 ?hg (N := 26) ?hd (xs := ([(wrap64 (192 + (wrap64 (Int.tdiv a0 64)))) % 256, (wrap64 (128 + (Int.tmod a0 64))) % 256] : List Int)) (inner := [.int .u8 ((wrap64 (192 + (wrap64 (Int.tdiv a0 64)))) % 256), .int .u8 ((wrap64 (128 + (Int.tmod a0 64))) % 256)]) (ok := fun _ => True) (okp := fun _ => True) ?hr ?hp (fun _ hk => hk) trivial (ybd _ _) (Xbc _) (by simp) ?_; (case hd => rfl); (case hg => rfl); (case hr => first | (go_simp; done) | (go_simp; rfl)); (case hp => exact (Reps.one (show Kd.M (Kd.int .u8) _ _ _ ((wrap64 (192 + (wrap64 (Int.tdiv a0 64)))) % 256) [.int .u8 ((wrap64 (192 + (wrap64 (Int.tdiv a0 64)))) % 256)] from rfl) (Reps.one (show Kd.M (Kd.int .u8) _ _ _ ((wrap64 (128 + (Int.tmod a0 64))) % 256) [.int .u8 ((wrap64 (128 + (Int.tmod a0 64))) % 256)] from rfl) (Reps.none _ _)))); intro v108 w9 ho10 hb hg_ hnew_; clear hg_ hnew_; (first | rw [← Ny107.out] at ho10 | (simp only [Int.reduceToNat] at ho10; rw [← Ny107.out] at ho10)); have n0_ := Aside0.mk (Kd.R_lower ho10 (xG (by repeat (first | (with_reducible first | exact HB.out | apply Za | apply Ya | apply Xa) | exact HB.out)))); have n1_ := Aside0.mk (Ze (by repeat (first | (with_reducible first | exact HB.out | apply Za | apply Ya | apply Xa) | exact HB.out)) hb); clear HB; have HO109 := n0_; have HB := n1_; clear n0_ n1_; clear hb ho10; have hcv11 := yG (P := Tryz.prog) Tryz.underlying43 Tryz.underlying5 Tryz.underlying9 (Kd.own_of_R HO109.out)))
    go_ret2
    exact ⟨by first | rfl | (simp [errW_none, Yd] <;> rfl) | (simp [*, errW_none, Yd] <;> rfl), by repeat (first | (with_reducible first | exact HB.out | apply Za | apply Ya | apply Xa) | exact HB.out)⟩
   ·rw [if_neg c8] at H
    have c8b0 : decide (a0 < 2048) = false := zbd c8
    clear c8
    by_cases c12 : a0 < 65536
    ·rw [if_pos c12] at H
     have c12b0 : decide (a0 < 65536) = true := decide_eq_true c12
     clear c12
     obtain ⟨y110, hy110⟩ : ∃ y_ : List Int, y_ = (([(wrap64 (224 + (wrap64 (Int.tdiv a0 4096)))) % 256, (wrap64 (128 + (Int.tmod (wrap64 (Int.tdiv a0 64)) 64))) % 256, (wrap64 (128 + (Int.tmod a0 64))) % 256] : List Int)) := ⟨_, rfl⟩
     replace H : (some (strOfNums y110, true)) = some (r1, r2) := by first | (rw [hy110]; with_reducible exact H) | (have H2_ := (Zbf _ _).symm.trans H; rw [hy110]; with_reducible exact H2_) | (have H2_ := (Zbf _ _).symm.trans H; with_reducible exact H2_) | with_reducible exact H | (rw [hy110]; exact H) | exact H
     have Ny110 := Aside0.mk hy110
     clear hy110
     simp only [Option.some.injEq, Prod.mk.injEq] at H
     obtain ⟨rfl, rfl⟩ := H
     go_enter Tryz.func87, Tryz.ntmps87
     go_wp2_with (first | ((with_reducible refine Xd (f := 101) rfl ?_); refine Xj (some 7) rfl rfl Tryz.func101 (by kernel_rfl) rfl #[.int .i64 a0] rfl (by (try simp only [zbg, Xbf, ybg]); first | done | rfl | (simp only [Zbb, ybc]; rfl)) ?_; (with_reducible refine (Xl.calls a0 true _ A2.out).mono ?_); rintro e w' ⟨rfl, ⟨nd, rfl⟩⟩; refine ⟨_, rfl, ?_⟩) | ((with_reducible refine yR (N := 41) rfl ?_); refine Kd.R_lit (Kd.int .u8) _ 5 ?hg (N := 41) ?hd (xs := ([(wrap64 (224 + (wrap64 (Int.tdiv a0 4096)))) % 256, (wrap64 (128 + (Int.tmod (wrap64 (Int.tdiv a0 64)) 64))) % 256, (wrap64 (128 + (Int.tmod a0 64))) % 256] : List Int)) (inner := [.int .u8 ((wrap64 (224 + (wrap64 (Int.tdiv a0 4096)))) % 256), .int .u8 ((wrap64 (128 + (Int.tmod (wrap64 (Int.tdiv a0 64)) 64))) % 256), .int .u8 ((wrap64 (128 + (Int.tmod a0 64))) % 256)]) (ok := fun _ => True) (okp := fun _ => True) ?hr ?hp (fun _ hk => hk) trivial (ybd _ _) (Xbc _) (by simp) ?_; (case hd => rfl); (case hg => rfl); (case hr => first | (go_simp; done) | (go_simp; rfl)); (case hp => exact (Reps.one (show Kd.M (Kd.int .u8) _ _ _ ((wrap64 (224 + (wrap64 (Int.tdiv a0 4096)))) % 256) [.int .u8 ((wrap64 (224 + (wrap64 (Int.tdiv a0 4096)))) % 256)] from rfl) (Reps.one (show Kd.M (Kd.int .u8) _ _ _ ((wrap64 (128 + (Int.tmod (wrap64 (Int.tdiv a0 64)) 64))) % 256) [.int .u8 ((wrap64 (128 + (Int.tmod (wrap64 (Int.tdiv a0 64)) 64))) % 256)] from rfl) (Reps.one (show Kd.M (Kd.int .u8) _ _ _ ((wrap64 (128 + (Int.tmod a0 64))) % 256) [.int .u8 ((wrap64 (128 + (Int.tmod a0 64))) % 256)] from rfl) (Reps.none _ _))))); intro v111 w13 ho14 hb hg_ hnew_; clear hg_ hnew_; (first | rw [← Ny110.out] at ho14 | (simp only [Int.reduceToNat] at ho14; rw [← Ny110.out] at ho14)); have n0_ := Aside0.mk (Kd.R_lower ho14 (xG (by repeat (first | (with_reducible first | exact HB.out | apply Za | apply Ya | apply Xa) | exact HB.out)))); have n1_ := Aside0.mk (Ze (by repeat (first | (with_reducible first | exact HB.out | apply Za | apply Ya | apply Xa) | exact HB.out)) hb); clear HB; have HO112 := n0_; have HB := n1_; clear n0_ n1_; clear hb ho14; have hcv15 := yG (P := Tryz.prog) Tryz.underlying43 Tryz.underlying5 Tryz.underlying9 (Kd.own_of_R HO112.out)))
     go_ret2
     exact ⟨by first | rfl | (simp [errW_none, Yd] <;> rfl) | (simp [*, errW_none, Yd] <;> rfl), by repeat (first | (with_reducible first | exact HB.out | apply Za | apply Ya | apply Xa) | exact HB.out)⟩
    ·rw [if_neg c12] at H
     have c12b0 : decide (a0 < 65536) = false := zbd c12
     clear c12
     obtain ⟨y113, hy113⟩ : ∃ y_ : List Int, y_ = (([(wrap64 (240 + (wrap64 (Int.tdiv a0 262144)))) % 256, (wrap64 (128 + (Int.tmod (wrap64 (Int.tdiv a0 4096)) 64))) % 256, (wrap64 (128 + (Int.tmod (wrap64 (Int.tdiv a0 64)) 64))) % 256, (wrap64 (128 + (Int.tmod a0 64))) % 256] : List Int)) := ⟨_, rfl⟩
     replace H : (some (strOfNums y113, true)) = some (r1, r2) := by first | (rw [hy113]; with_reducible exact H) | (have H2_ := (Zbf _ _).symm.trans H; rw [hy113]; with_reducible exact H2_) | (have H2_ := (Zbf _ _).symm.trans H; with_reducible exact H2_) | with_reducible exact H | (rw [hy113]; exact H) | exact H
     have Ny113 := Aside0.mk hy113
     clear hy113
     simp only [Option.some.injEq, Prod.mk.injEq] at H
     obtain ⟨rfl, rfl⟩ := H
     go_enter Tryz.func87, Tryz.ntmps87
     go_wp2_with (first | ((with_reducible refine Xd (f := 101) rfl ?_); refine Xj (some 7) rfl rfl Tryz.func101 (by kernel_rfl) rfl #[.int .i64 a0] rfl (by (try simp only [zbg, Xbf, ybg]); first | done | rfl | (simp only [Zbb, ybc]; rfl)) ?_; (with_reducible refine (Xl.calls a0 true _ A2.out).mono ?_); rintro e w' ⟨rfl, ⟨nd, rfl⟩⟩; refine ⟨_, rfl, ?_⟩) | ((with_reducible refine yR (N := 54) rfl ?_); refine Kd.R_lit (Kd.int .u8) _ 5 ?hg (N := 54) ?hd (xs := ([(wrap64 (240 + (wrap64 (Int.tdiv a0 262144)))) % 256, (wrap64 (128 + (Int.tmod (wrap64 (Int.tdiv a0 4096)) 64))) % 256, (wrap64 (128 + (Int.tmod (wrap64 (Int.tdiv a0 64)) 64))) % 256, (wrap64 (128 + (Int.tmod a0 64))) % 256] : List Int)) (inner := [.int .u8 ((wrap64 (240 + (wrap64 (Int.tdiv a0 262144)))) % 256), .int .u8 ((wrap64 (128 + (Int.tmod (wrap64 (Int.tdiv a0 4096)) 64))) % 256), .int .u8 ((wrap64 (128 + (Int.tmod (wrap64 (Int.tdiv a0 64)) 64))) % 256), .int .u8 ((wrap64 (128 + (Int.tmod a0 64))) % 256)]) (ok := fun _ => True) (okp := fun _ => True) ?hr ?hp (fun _ hk => hk) trivial (ybd _ _) (Xbc _) (by simp) ?_; (case hd => rfl); (case hg => rfl); (case hr => first | (go_simp; done) | (go_simp; rfl)); (case hp => exact (Reps.one (show Kd.M (Kd.int .u8) _ _ _ ((wrap64 (240 + (wrap64 (Int.tdiv a0 262144)))) % 256) [.int .u8 ((wrap64 (240 + (wrap64 (Int.tdiv a0 262144)))) % 256)] from rfl) (Reps.one (show Kd.M (Kd.int .u8) _ _ _ ((wrap64 (128 + (Int.tmod (wrap64 (Int.tdiv a0 4096)) 64))) % 256) [.int .u8 ((wrap64 (128 + (Int.tmod (wrap64 (Int.tdiv a0 4096)) 64))) % 256)] from rfl) (Reps.one (show Kd.M (Kd.int .u8) _ _ _ ((wrap64 (128 + (Int.tmod (wrap64 (Int.tdiv a0 64)) 64))) % 256) [.int .u8 ((wrap64 (128 + (Int.tmod (wrap64 (Int.tdiv a0 64)) 64))) % 256)] from rfl) (Reps.one (show Kd.M (Kd.int .u8) _ _ _ ((wrap64 (128 + (Int.tmod a0 64))) % 256) [.int .u8 ((wrap64 (128 + (Int.tmod a0 64))) % 256)] from rfl) (Reps.none _ _)))))); intro v114 w16 ho17 hb hg_ hnew_; clear hg_ hnew_; (first | rw [← Ny113.out] at ho17 | (simp only [Int.reduceToNat] at ho17; rw [← Ny113.out] at ho17)); have n0_ := Aside0.mk (Kd.R_lower ho17 (xG (by repeat (first | (with_reducible first | exact HB.out | apply Za | apply Ya | apply Xa) | exact HB.out)))); have n1_ := Aside0.mk (Ze (by repeat (first | (with_reducible first | exact HB.out | apply Za | apply Ya | apply Xa) | exact HB.out)) hb); clear HB; have HO115 := n0_; have HB := n1_; clear n0_ n1_; clear hb ho17; have hcv18 := yG (P := Tryz.prog) Tryz.underlying43 Tryz.underlying5 Tryz.underlying9 (Kd.own_of_R HO115.out)))
     go_ret2
     exact ⟨by first | rfl | (simp [errW_none, Yd] <;> rfl) | (simp [*, errW_none, Yd] <;> rfl), by repeat (first | (with_reducible first | exact HB.out | apply Za | apply Ya | apply Xa) | exact HB.out)⟩
 ·replace c3 := ybh.mpr c3
  subst c3
  have H1 : (some ((⟨#[]⟩ : ByteArray), false)) = some (r1, r2) := by rw [if_neg (show ¬ (false = true) by decide)] at H; exact H
  clear H
  have H := H1
  clear H1
  simp only [Option.some.injEq, Prod.mk.injEq] at H
  obtain ⟨rfl, rfl⟩ := H
  go_enter Tryz.func87, Tryz.ntmps87
  go_wp2_with (first | ((with_reducible refine Xd (f := 101) rfl ?_); refine Xj (some 7) rfl rfl Tryz.func101 (by kernel_rfl) rfl #[.int .i64 a0] rfl (by (try simp only [zbg, Xbf, ybg]); first | done | rfl | (simp only [Zbb, ybc]; rfl)) ?_; (with_reducible refine (Xl.calls a0 false _ A2.out).mono ?_); rintro e w' ⟨rfl, ⟨nd, rfl⟩⟩; refine ⟨_, rfl, ?_⟩))
  go_ret2
  exact ⟨by first | rfl | (simp [errW_none, Yd] <;> rfl) | (simp [*, errW_none, Yd] <;> rfl), by repeat (first | (with_reducible first | exact HB.out | apply Za | apply Ya | apply Xa) | exact HB.out)⟩
def ZM.f (a0 : ByteArray) : Option (Int × Int × Bool) := (utf8_DecodeRuneInString.f a0).bind fun bt116 => (if bt116.1 = 65533 then (if bt116.2 < 2 then (some (0, 0, false)) else (some (wrap64 (bt116.1), bt116.2, true))) else (some (wrap64 (bt116.1), bt116.2, true)))
theorem ZM.calls (a0 : ByteArray) (r1 : Int) (r2 : Int) (r3 : Bool) (w : World) (h : ZM.f a0 = some (r1, r2, r3)) (TB_ : Tabs w := by first | assumption | (refine Tabs.step (by assumption) ?_; repeat (first | exact Aside0.out (by assumption) | apply Za | apply Ya | apply Xa | exact ybd _ _))) :
  Calls Tryz.prog 95 #[.string a0] w fun e w' => e = .returned (.tuple #[.int .i64 r1, .int .i64 r2, .bool r3]) ∧ Below w.heap.size w w' := by
 have HB := Aside0.mk (ybd w.heap.size w)
 have H : ((utf8_DecodeRuneInString.f a0).bind fun bt116 => (if bt116.1 = 65533 then (if bt116.2 < 2 then (some (0, 0, false)) else (some (wrap64 (bt116.1), bt116.2, true))) else (some (wrap64 (bt116.1), bt116.2, true)))) = some (r1, r2, r3) := h
 clear h
 replace H := Ybe.mp H
 obtain ⟨⟨t116, t117⟩, A20, H⟩ := H
 replace H : (if t116 = 65533 then (if t117 < 2 then (some (0, 0, false)) else (some (wrap64 (t116), t117, true))) else (some (wrap64 (t116), t117, true))) = some (r1, r2, r3) := H
 have A2 := Aside0.mk A20
 clear A20
 by_cases c3 : t116 = 65533
 ·rw [if_pos c3] at H
  have c3b0 : (t116 == 65533) = true := Ybf.mpr c3
  have c3b1 : (t116 != 65533) = false := Ybh.mpr c3
  clear c3
  by_cases c4 : t117 < 2
  ·rw [if_pos c4] at H
   have c4b0 : decide (t117 < 2) = true := decide_eq_true c4
   clear c4
   simp only [Option.some.injEq, Prod.mk.injEq] at H
   obtain ⟨rfl, rfl, rfl⟩ := H
   go_enter Tryz.func95, Tryz.ntmps95
   go_wp2_with (first | ((with_reducible refine Xd (f := 110) rfl ?_); refine Xj (some 9) rfl rfl Tryz.func110 (by kernel_rfl) rfl #[.string a0] rfl (by (try simp only [zbg, Xbf, ybg]); first | done | rfl | (simp only [Zbb, ybc]; rfl)) ?_; (with_reducible refine (utf8_DecodeRuneInString.calls a0 t116 t117 _ A2.out).mono ?_); rintro e w5 ⟨rfl, hb⟩; refine ⟨_, rfl, ?_⟩; have n0_ := Aside0.mk (Ze (by repeat (first | (with_reducible first | exact HB.out | apply Za | apply Ya | apply Xa) | exact HB.out)) hb); clear HB; have HB := n0_; clear n0_; (try clear hb); (try clear hb2); (try clear hk); (try clear hi)))
   go_ret3
   exact ⟨by first | rfl | (simp [errW_none, Yd] <;> rfl) | (simp [*, errW_none, Yd] <;> rfl), by repeat (first | (with_reducible first | exact HB.out | apply Za | apply Ya | apply Xa) | exact HB.out)⟩
  ·rw [if_neg c4] at H
   have c4b0 : decide (t117 < 2) = false := zbd c4
   clear c4
   simp only [Option.some.injEq, Prod.mk.injEq] at H
   obtain ⟨rfl, rfl, rfl⟩ := H
   go_enter Tryz.func95, Tryz.ntmps95
   go_wp2_with (first | ((with_reducible refine Xd (f := 110) rfl ?_); refine Xj (some 9) rfl rfl Tryz.func110 (by kernel_rfl) rfl #[.string a0] rfl (by (try simp only [zbg, Xbf, ybg]); first | done | rfl | (simp only [Zbb, ybc]; rfl)) ?_; (with_reducible refine (utf8_DecodeRuneInString.calls a0 t116 t117 _ A2.out).mono ?_); rintro e w6 ⟨rfl, hb⟩; refine ⟨_, rfl, ?_⟩; have n0_ := Aside0.mk (Ze (by repeat (first | (with_reducible first | exact HB.out | apply Za | apply Ya | apply Xa) | exact HB.out)) hb); clear HB; have HB := n0_; clear n0_; (try clear hb); (try clear hb2); (try clear hk); (try clear hi)))
   go_ret3
   exact ⟨by first | rfl | (simp [errW_none, Yd] <;> rfl) | (simp [*, errW_none, Yd] <;> rfl), by repeat (first | (with_reducible first | exact HB.out | apply Za | apply Ya | apply Xa) | exact HB.out)⟩
 ·rw [if_neg c3] at H
  have c3b0 : (t116 == 65533) = false := Ybb.mpr c3
  have c3b1 : (t116 != 65533) = true := Zbh.mpr c3
  simp only [Option.some.injEq, Prod.mk.injEq] at H
  obtain ⟨rfl, rfl, rfl⟩ := H
  go_enter Tryz.func95, Tryz.ntmps95
  go_wp2_with (first | ((with_reducible refine Xd (f := 110) rfl ?_); refine Xj (some 9) rfl rfl Tryz.func110 (by kernel_rfl) rfl #[.string a0] rfl (by (try simp only [zbg, Xbf, ybg]); first | done | rfl | (simp only [Zbb, ybc]; rfl)) ?_; (with_reducible refine (utf8_DecodeRuneInString.calls a0 t116 t117 _ A2.out).mono ?_); rintro e w7 ⟨rfl, hb⟩; refine ⟨_, rfl, ?_⟩; have n0_ := Aside0.mk (Ze (by repeat (first | (with_reducible first | exact HB.out | apply Za | apply Ya | apply Xa) | exact HB.out)) hb); clear HB; have HB := n0_; clear n0_; (try clear hb); (try clear hb2); (try clear hk); (try clear hi)))
  go_ret3
  exact ⟨by first | rfl | (simp [errW_none, Yd] <;> rfl) | (simp [*, errW_none, Yd] <;> rfl), by repeat (first | (with_reducible first | exact HB.out | apply Za | apply Ya | apply Xa) | exact HB.out)⟩
def xbb.f (a0 : ByteArray) : Option (Int) := if 0 < (a0.size : Int) then (if 1 < (a0.size : Int) then (if 2 < (a0.size : Int) then (if 3 < (a0.size : Int) then (if 4 < (a0.size : Int) then (if 5 < (a0.size : Int) then (if 6 < (a0.size : Int) then (if 7 < (a0.size : Int) then (some (Go.bits .or .u64 (Go.bits .or .u64 (Go.bits .or .u64 (Go.bits .or .u64 (Go.bits .or .u64 (Go.bits .or .u64 (Go.bits .or .u64 (IntKind.u64.wrap (bt a0 0)) (IntKind.u64.wrap ((IntKind.u64.wrap (bt a0 1)) * 256))) (IntKind.u64.wrap ((IntKind.u64.wrap (bt a0 2)) * 65536))) (IntKind.u64.wrap ((IntKind.u64.wrap (bt a0 3)) * 16777216))) (IntKind.u64.wrap ((IntKind.u64.wrap (bt a0 4)) * 4294967296))) (IntKind.u64.wrap ((IntKind.u64.wrap (bt a0 5)) * 1099511627776))) (IntKind.u64.wrap ((IntKind.u64.wrap (bt a0 6)) * 281474976710656))) (IntKind.u64.wrap ((IntKind.u64.wrap (bt a0 7)) * 72057594037927936)))) else (none)) else (none)) else (none)) else (none)) else (none)) else (none)) else (none)) else (none)
def zo.f (a0 : ByteArray) : Option (Bool) := (utf8_ValidString.f a0).bind fun t118 => (some t118)
theorem zo.calls (a0 : ByteArray) (r : Bool) (w : World) (h : zo.f a0 = some r) (TB_ : Tabs w := by first | assumption | (refine Tabs.step (by assumption) ?_; repeat (first | exact Aside0.out (by assumption) | apply Za | apply Ya | apply Xa | exact ybd _ _))) :
  Calls Tryz.prog 30 #[.string a0] w fun e w' => e = .returned (.bool r) ∧ Below w.heap.size w w' := by
 have HB := Aside0.mk (ybd w.heap.size w)
 have H : ((utf8_ValidString.f a0).bind fun t118 => (some t118)) = some r := h
 clear h
 replace H := Ybe.mp H
 obtain ⟨t118, A20, H⟩ := H
 replace H : (some t118) = some r := H
 have A2 := Aside0.mk A20
 clear A20
 obtain rfl := Option.some.inj H
 go_enter Tryz.func30, Tryz.ntmps30
 go_wp2_with (first | ((with_reducible refine Xd (f := 52) rfl ?_); refine Xj (some 4) rfl rfl Tryz.func52 (by kernel_rfl) rfl #[.string a0] rfl (by (try simp only [zbg, Xbf, ybg]); first | done | rfl | (simp only [Zbb, ybc]; rfl)) ?_; (with_reducible refine (utf8_ValidString.calls a0 t118 _ A2.out).mono ?_); rintro e w3 ⟨rfl, hb⟩; refine ⟨_, rfl, ?_⟩; have n0_ := Aside0.mk (Ze (by repeat (first | (with_reducible first | exact HB.out | apply Za | apply Ya | apply Xa) | exact HB.out)) hb); clear HB; have HB := n0_; clear n0_; (try clear hb); (try clear hb2); (try clear hk); (try clear hi)))
 go_ret
 exact ⟨by first | rfl | (simp [errW_none, Yd] <;> rfl) | (simp [*, errW_none, Yd] <;> rfl), by repeat (first | (with_reducible first | exact HB.out | apply Za | apply Ya | apply Xa) | exact HB.out)⟩
mutual
def Xc.j0 : Nat → Int → Bool → Option (Int × Int)
 | 0, _, _ => none
 | k + 1, x0, x12 => if x12 = true then (some (2, wrap64 (x0 - 192))) else (if x0 ≥ 224 then (Xc.j1 k x0 (decide (x0 < 240))) else (Xc.j1 k x0 false))
def Xc.j1 : Nat → Int → Bool → Option (Int × Int)
 | 0, _, _ => none
 | k + 1, x0, x20 => if x20 = true then (some (3, wrap64 (x0 - 224))) else (if x0 ≥ 240 then (if x0 < 248 then (some (4, wrap64 (x0 - 240))) else (some (0, 0))) else (some (0, 0)))
end
def Xc.f (k : Nat) (a0 : Int) : Option (Int × Int) := if a0 < 128 then (some (1, a0)) else (if a0 ≥ 192 then (Xc.j0 k a0 (decide (a0 < 224))) else (Xc.j0 k a0 false))
theorem Xc.calls (k : Nat) (a0 : Int) (r1 : Int) (r2 : Int) (w : World) (h : Xc.f k a0 = some (r1, r2)) :
  Calls Tryz.prog 86 #[.int .i64 a0] w fun e w' => e = .returned (.tuple #[.int .i64 r1, .int .i64 r2]) ∧ Drawn0 w w' := by
 have H : (if a0 < 128 then (some (1, a0)) else (if a0 ≥ 192 then (Xc.j0 k a0 (decide (a0 < 224))) else (Xc.j0 k a0 false))) = some (r1, r2) := h
 clear h
 by_cases c2 : a0 < 128
 ·rw [if_pos c2] at H
  have c2b0 : decide (a0 < 128) = true := decide_eq_true c2
  clear c2
  simp only [Option.some.injEq, Prod.mk.injEq] at H
  obtain ⟨rfl, rfl⟩ := H
  go_enter Tryz.func86, Tryz.ntmps86
  go_wp2
  go_ret2
  exact ⟨by first | rfl | (simp; done) | (simp [*]; done), by repeat (first | exact Drawn0.refl _ | apply Drawn0.step)⟩
 ·rw [if_neg c2] at H
  have c2b0 : decide (a0 < 128) = false := zbd c2
  clear c2
  have HC3 := Aside0.mk H
  clear H
  go_enter Tryz.func86, Tryz.ntmps86
  go_upto_region 3 with (fail)
  go_cut [12] (fun v12 wc => ∃ (kq : Nat) (x12_2 : Bool), v12 = .bool x12_2 ∧ Aside0 (Xc.j0 kq a0 x12_2 = some (r1, r2)) ∧ Aside0 (kq ≤ k) ∧ Drawn0 w wc)
  case first =>
   have H := HC3.out
   clear HC3
   by_cases c4 : a0 ≥ 192
   ·rw [if_pos c4] at H
    have c4b0 : decide (192 ≤ a0) = true := decide_eq_true c4
    clear c4
    (first | rw [c4b0] | (simp only [i64_w, zn]; rw [c4b0]) | skip)
    have H' := Aside0.mk H
    clear H
    go_wp2
    go_meet
    case rel => exact ⟨_, (decide (a0 < 224)), (by first | rfl | (simp; done) | (simp [*]; done)), H', ⟨by first | omega | exact Xbc _⟩, by repeat (first | exact Drawn0.refl _ | apply Drawn0.step)⟩
   ·rw [if_neg c4] at H
    have c4b0 : decide (192 ≤ a0) = false := zbd c4
    clear c4
    (first | rw [c4b0] | (simp only [i64_w, zn]; rw [c4b0]) | skip)
    have H' := Aside0.mk H
    clear H
    go_wp2
    go_meet
    case rel => exact ⟨_, (false), (by first | rfl | (simp; done) | (simp [*]; done)), H', ⟨by first | omega | exact Xbc _⟩, by repeat (first | exact Drawn0.refl _ | apply Drawn0.step)⟩
  case rest =>
   clear HC3
   try clear c2
   try clear c2b0
   try clear p2
   try clear c4
   try clear c4b0
   obtain ⟨kq, x12_2, rfl, HA, HJ2, ⟨mc2, rfl⟩⟩ := hcut
   cases kq with
   | zero => exact absurd HA.out (by simp [Xc.j0])
   | succ kj2 =>
    have H := HA.out
    clear HA
    simp only [Xc.j0] at H
    by_cases c5 : x12_2 = true
    ·subst c5
     have H1 : (some (2, wrap64 (a0 - 192))) = some (r1, r2) := by rw [if_pos rfl] at H; exact H
     clear H
     have H := H1
     clear H1
     simp only [Option.some.injEq, Prod.mk.injEq] at H
     obtain ⟨rfl, rfl⟩ := H
     go_wp2
     go_ret2
     exact ⟨by first | rfl | (simp; done) | (simp [*]; done), by repeat (first | exact Drawn0.refl _ | apply Drawn0.step)⟩
    ·replace c5 := ybh.mpr c5
     subst c5
     have H1 : (if a0 ≥ 224 then (Xc.j1 kj2 a0 (decide (a0 < 240))) else (Xc.j1 kj2 a0 false)) = some (r1, r2) := by rw [if_neg (show ¬ (false = true) by decide)] at H; exact H
     clear H
     have H := H1
     clear H1
     have HC6 := Aside0.mk H
     clear H
     go_upto_region 5 with (fail)
     go_cut [20] (fun v20 wc => ∃ (kq : Nat) (x20_5 : Bool), v20 = .bool x20_5 ∧ Aside0 (Xc.j1 kq a0 x20_5 = some (r1, r2)) ∧ Aside0 (kq ≤ kj2) ∧ Drawn0 w wc)
     case first =>
      have H := HC6.out
      clear HC6
      by_cases c7 : a0 ≥ 224
      ·rw [if_pos c7] at H
       have c7b0 : decide (224 ≤ a0) = true := decide_eq_true c7
       clear c7
       (first | rw [c7b0] | (simp only [i64_w, zn]; rw [c7b0]) | skip)
       have H' := Aside0.mk H
       clear H
       go_wp2
       go_meet
       case rel => exact ⟨_, (decide (a0 < 240)), (by first | rfl | (simp; done) | (simp [*]; done)), H', ⟨by have := HJ2.out; first | omega | exact Xbc _⟩, by repeat (first | exact Drawn0.refl _ | apply Drawn0.step)⟩
      ·rw [if_neg c7] at H
       have c7b0 : decide (224 ≤ a0) = false := zbd c7
       clear c7
       (first | rw [c7b0] | (simp only [i64_w, zn]; rw [c7b0]) | skip)
       have H' := Aside0.mk H
       clear H
       go_wp2
       go_meet
       case rel => exact ⟨_, (false), (by first | rfl | (simp; done) | (simp [*]; done)), H', ⟨by have := HJ2.out; first | omega | exact Xbc _⟩, by repeat (first | exact Drawn0.refl _ | apply Drawn0.step)⟩
     case rest =>
      clear HC6
      try clear c2
      try clear c2b0
      try clear p2
      try clear c4
      try clear c4b0
      try clear c5
      try clear p6
      try clear c7
      try clear c7b0
      try clear p2
      obtain ⟨kq, x20_5, rfl, HA, HJ5, ⟨mc5, rfl⟩⟩ := hcut
      cases kq with
      | zero => exact absurd HA.out (by simp [Xc.j1])
      | succ kj5 =>
       have H := HA.out
       clear HA
       simp only [Xc.j1] at H
       by_cases c8 : x20_5 = true
       ·subst c8
        have H1 : (some (3, wrap64 (a0 - 224))) = some (r1, r2) := by rw [if_pos rfl] at H; exact H
        clear H
        have H := H1
        clear H1
        simp only [Option.some.injEq, Prod.mk.injEq] at H
        obtain ⟨rfl, rfl⟩ := H
        go_wp2
        go_ret2
        exact ⟨by first | rfl | (simp; done) | (simp [*]; done), by repeat (first | exact Drawn0.refl _ | apply Drawn0.step)⟩
       ·replace c8 := ybh.mpr c8
        subst c8
        have H1 : (if a0 ≥ 240 then (if a0 < 248 then (some (4, wrap64 (a0 - 240))) else (some (0, 0))) else (some (0, 0))) = some (r1, r2) := by rw [if_neg (show ¬ (false = true) by decide)] at H; exact H
        clear H
        have H := H1
        clear H1
        by_cases c9 : a0 ≥ 240
        ·rw [if_pos c9] at H
         have c9b0 : decide (240 ≤ a0) = true := decide_eq_true c9
         clear c9
         by_cases c10 : a0 < 248
         ·rw [if_pos c10] at H
          have c10b0 : decide (a0 < 248) = true := decide_eq_true c10
          clear c10
          simp only [Option.some.injEq, Prod.mk.injEq] at H
          obtain ⟨rfl, rfl⟩ := H
          go_wp2
          go_ret2
          exact ⟨by first | rfl | (simp; done) | (simp [*]; done), by repeat (first | exact Drawn0.refl _ | apply Drawn0.step)⟩
         ·rw [if_neg c10] at H
          have c10b0 : decide (a0 < 248) = false := zbd c10
          clear c10
          simp only [Option.some.injEq, Prod.mk.injEq] at H
          obtain ⟨rfl, rfl⟩ := H
          go_wp2
          go_ret2
          exact ⟨by first | rfl | (simp; done) | (simp [*]; done), by repeat (first | exact Drawn0.refl _ | apply Drawn0.step)⟩
        ·rw [if_neg c9] at H
         have c9b0 : decide (240 ≤ a0) = false := zbd c9
         clear c9
         simp only [Option.some.injEq, Prod.mk.injEq] at H
         obtain ⟨rfl, rfl⟩ := H
         go_wp2
         go_ret2
         exact ⟨by first | rfl | (simp; done) | (simp [*]; done), by repeat (first | exact Drawn0.refl _ | apply Drawn0.step)⟩
end Go.Proofs.NU1
namespace Go.Proofs.NGiv
open Go.RowKit Go.Proofs.Wa Go.Proofs.Wb Go.Proofs.Wc
open Go.Proofs.NU1
def Xm (r : Int) : Bool := decide (0 ≤ r ∧ r ≤ 1114111 ∧ (r < 55296 ∨ 57343 < r))
theorem xa0 (k : Nat) (r : Int) (hk : 0 < k) (h0 : 0 ≤ r) (h1 : r ≤ 1114111) : Zm.f k r = some (decide (r < 55296 ∨ 57343 < r)) := by
 obtain ⟨k, rfl⟩ : ∃ m, k = m + 1 := ⟨k - 1, by omega⟩
 unfold Zm.f
 rw [if_pos h0]
 simp only [Zm.j0]
 by_cases h2 : r < 55296
 ·rw [decide_eq_true h2, if_pos rfl, decide_eq_true (Or.inl h2)]
 ·rw [zbd h2, if_neg (by decide)]
  by_cases h3 : 57343 < r
  ·rw [if_pos h3, if_pos h1, decide_eq_true (Or.inr h3)]
  ·rw [if_neg h3, zbd (by omega)]
theorem put_f (k : Nat) (r : Int) (hk : 0 < k) : zK.f k r = some (if Xm r = true then (Utf8.encode r, true) else (⟨#[]⟩, false)) := by
 unfold zK.f XI.f Xm
 by_cases h0 : 0 ≤ r
 ·by_cases h1 : r ≤ 1114111
  ·have hw : wrap32 r = r := by unfold wrap32; omega
   rw [if_pos h0, if_pos h1, hw, xa0 k r hk h0 h1]
   simp only [Zbf]
   by_cases h2 : r < 55296 ∨ 57343 < r
   ·rw [decide_eq_true h2, if_pos rfl, decide_eq_true ⟨h0, h1, h2⟩, if_pos rfl]
   ·rw [zbd h2, if_neg (by decide), zbd (fun h => h2 h.2.2), if_neg (by decide)]
  ·rw [if_pos h0, if_neg h1, zbd (fun h => h1 h.2.1), if_neg (by decide)]; rfl
 ·rw [if_neg h0, zbd (fun h => h0 h.1), if_neg (by decide)]; rfl
def textN (l : List Int) : Nat → List UInt8
 | 0 => []
 | k + 1 => textN l k ++ (Utf8.encode (rd l (k : Int))).data.toList
def textS (l : List Int) : ByteArray × Bool := if (∀ j : Nat, j < l.length → Xm (rd l (j : Int)) = true) then (⟨(textN l l.length).toArray⟩, true) else (⟨#[]⟩, false)
theorem hz68 (w : World) : (zeroValue 45).run Tryz.prog w = .ok (.agg #[.pointer none, .slice none 0 0]) w := by kernel_rfl
theorem Yau (w : World) : Lib.IsBuilder 45 5 w.heap.size w.heap.size [] (w.alloc (.cells #[.pointer none, .slice none 0 0] 45)) :=
 .inl ⟨Xbc _, .slice none 0 0, ybi _ _, World.ownsRow_nil _ _ _ _, by simp [Value.ownBlock]⟩
def utf_Text.f (l : List Int) : Option (ByteArray × Bool) := if 4 * l.length ≤ 140737488355328 then some (textS l) else none
def runesP (s : ByteArray) : Nat → Nat → List Int
 | 0, _ => []
 | n + 1, p => if p < s.size then ((Utf8.decode s p).1 : Int) :: runesP s n (p + (Utf8.decode s p).2) else []
def runesS (s : ByteArray) : List Int × Bool := if Lib.validD s.data.toList = true then (runesP s s.size 0, true) else ([], false)
def utf_Runes.f (s : ByteArray) : Option (List Int × Bool) := if 8 * (s.size + 1) ≤ 140737488355328 then some (runesS s) else none
end Go.Proofs.NGiv
namespace Go.Proofs
open Go.Shelf
def Tryz.lays137_ren : Go.Shelf.Ren := ⟨fun | 137 => 44 | 217 => 65 | 266 => 76 | n => n, fun | 9 => 9 | 5 => 5 | 3 => 3 | n => n, fun | n => n⟩
theorem Tryz.lays137 : Go.Proofs.Lays.n137 Tryz.prog Tryz.lays137_ren := {
 mixed := by kernel_rfl
 f137 := Tryz.func44.trans (congrArg some (by kernel_rfl))
 f217 := Tryz.func65.trans (congrArg some (by kernel_rfl))
 f266 := Tryz.func76.trans (congrArg some (by kernel_rfl))
 t3 := Tryz.underlying3
 a3 := Tryz.isAgg3
 z3 := Tryz.sizeOf3
 v3 := Tryz.zeroValue3
 t5 := Tryz.underlying5
 a5 := Tryz.isAgg5
 z5 := Tryz.sizeOf5
 v5 := Tryz.zeroValue5
 t9 := Tryz.underlying9
 a9 := Tryz.isAgg9
 z9 := Tryz.sizeOf9
 v9 := Tryz.zeroValue9 }
open Go.RowKit in
theorem Tryz.strings_IndexByte (s : ByteArray) (c : Int) (w : World) :
  Calls Tryz.prog 44 #[.string s, .int .u8 c] w fun e w' => e = .returned (.int .i64 (Lib.indexByte s.data.toList c.toNat.toUInt8)) ∧ w' = w := Any.strings_IndexByte Tryz.lays137 s c w
namespace NGiv
open Go.RowKit Go.Proofs.Wa Go.Proofs.Wb Go.Proofs.Wc
def strings_IndexByte.f (s : ByteArray) (c : Int) : Option Int := some (Lib.indexByte s.data.toList c.toNat.toUInt8)
theorem strings_IndexByte.calls (a0 : ByteArray) (a1 : Int) (r : Int) (w : World) (h : strings_IndexByte.f a0 a1 = some r) :
  Calls Tryz.prog 44 #[.string a0, .int .u8 a1] w fun e w' => e = .returned (.int .i64 r) ∧ Drawn0 w w' := by
 unfold strings_IndexByte.f at h
 obtain rfl := Option.some.inj h
 refine (Tryz.strings_IndexByte a0 a1 w).mono ?_
 rintro e w' ⟨rfl, rfl⟩
 exact ⟨rfl, Drawn0.refl _⟩
end NGiv
end Go.Proofs
namespace Go.Proofs.NU1
open Go.Proofs.NGiv Go.RowKit Go.Proofs.Wa Go.Proofs.Wb Go.Proofs.Wc
attribute [local go_sem] YL XL YR XR yI xI zM yM
mutual
def Zd.j0 : Nat → ByteArray → Int → Int → Bool → Option (Int × Int × Bool)
 | 0, _, _, _, _ => none
 | k + 1, x0, x5, x6, x27 => if x27 = true then (some (0, 0, false)) else (Zd.l0 k x0 x5 x6 1)
def Zd.l0 : Nat → ByteArray → Int → Int → Int → Option (Int × Int × Bool)
 | 0, _, _, _, _ => none
 | k + 1, x0, x5, x6, x7 => if x7 < x5 then (if 0 ≤ x7 then (if x7 < (x0.size : Int) then (Zd.l0 k x0 x5 (wrap64 ((wrap64 (64 * x6)) + (Int.tmod (wrap64 (bt x0 x7)) 64))) (wrap64 (x7 + 1))) else (none)) else (none)) else ((Ym.f x6).bind fun bt140 => (if bt140.2 = true then (if 0 ≤ x5 then (if x5 ≤ (x0.size : Int) then (if bt140.1.toList = (x0.extract 0 (x5 : Int).toNat).toList then (some (x6, x5, true)) else (some (0, 0, false))) else (none)) else (none)) else (some (0, 0, false))))
end
def Zd.f (k : Nat) (a0 : ByteArray) : Option (Int × Int × Bool) := if (a0.size : Int) = 0 then (some (0, 0, false)) else (if 0 < (a0.size : Int) then ((Xc.f k (wrap64 (bt a0 0))).bind fun bt138 => (if bt138.1 = 0 then (Zd.j0 k a0 bt138.1 bt138.2 true) else (Zd.j0 k a0 bt138.1 bt138.2 (decide (bt138.1 > (a0.size : Int)))))) else (none))
theorem Zd.calls (k : Nat) (a0 : ByteArray) (r1 : Int) (r2 : Int) (r3 : Bool) (w : World) (h : Zd.f k a0 = some (r1, r2, r3)) :
  Calls Tryz.prog 77 #[.string a0] w fun e w' => e = .returned (.tuple #[.int .i64 r1, .int .i64 r2, .bool r3]) ∧ Below w.heap.size w w' := by
 have HB := Aside0.mk (ybd w.heap.size w)
 have H : (if (a0.size : Int) = 0 then (some (0, 0, false)) else (if 0 < (a0.size : Int) then ((Xc.f k (wrap64 (bt a0 0))).bind fun bt138 => (if bt138.1 = 0 then (Zd.j0 k a0 bt138.1 bt138.2 true) else (Zd.j0 k a0 bt138.1 bt138.2 (decide (bt138.1 > (a0.size : Int)))))) else (none))) = some (r1, r2, r3) := h
 clear h
 by_cases c2 : (a0.size : Int) = 0
 ·rw [if_pos c2] at H
  have c2b0 : ((a0.size : Int) == 0) = true := Ybf.mpr c2
  have c2b1 : ((a0.size : Int) != 0) = false := Ybh.mpr c2
  clear c2
  simp only [Option.some.injEq, Prod.mk.injEq] at H
  obtain ⟨rfl, rfl, rfl⟩ := H
  go_enter Tryz.func77, Tryz.ntmps77
  go_wp2
  go_ret3
  exact ⟨by first | rfl | (simp [errW_none, Yd] <;> rfl) | (simp [*, errW_none, Yd] <;> rfl), by repeat (first | (with_reducible first | exact HB.out | apply Za | apply Ya | apply Xa) | exact HB.out)⟩
 ·rw [if_neg c2] at H
  have c2b0 : ((a0.size : Int) == 0) = false := Ybb.mpr c2
  have c2b1 : ((a0.size : Int) != 0) = true := Zbh.mpr c2
  by_cases c3 : 0 < (a0.size : Int)
  ·rw [if_pos c3] at H
   have c3b0 : decide (0 < (a0.size : Int)) = true := decide_eq_true c3
   have c3b1 : decide (0 < a0.size) = true := decide_eq_true (by omega)
   clear c3
   replace H := Ybe.mp H
   obtain ⟨⟨t138, t139⟩, A50, H⟩ := H
   replace H : (if t138 = 0 then (Zd.j0 k a0 t138 t139 true) else (Zd.j0 k a0 t138 t139 (decide (t138 > (a0.size : Int))))) = some (r1, r2, r3) := H
   have A5 := Aside0.mk A50
   clear A50
   have HC6 := Aside0.mk H
   clear H
   have p4 : 0 ≤ (0 : Int) := (by omega)
   have q4 : 0 < a0.size := (by have : (0 : Int) < (a0.size : Int) := xbc (by first | (with_reducible assumption) | assumption); omega)
   have hx4 : ∀ h : 0 < a0.size, ((a0[0]'h).toNat : Int) = bt a0 0 := Xo a0 0
   clear p4
   have qi4 : (0 < (a0.size : Int)) = True := eq_true (xbc (by first | (with_reducible assumption) | assumption))
   replace q4 := eq_true q4
   go_enter Tryz.func77, Tryz.ntmps77
   go_upto_region 4 with (first | ((with_reducible refine Xd (f := 86) rfl ?_); refine Xj (some 17) rfl rfl Tryz.func86 (by kernel_rfl) rfl #[.int .i64 (wrap64 (bt a0 0))] rfl (by (try simp only [zbg, Xbf, ybg]); first | done | rfl | (simp only [Zbb, ybc]; rfl)) ?_; (with_reducible refine (Xc.calls k (wrap64 (bt a0 0)) t138 t139 _ A5.out).mono ?_); rintro e w' ⟨rfl, ⟨nd, rfl⟩⟩; refine ⟨_, rfl, ?_⟩))
   (try simp only [Act.put, qA, qB, qC])
   go_cut [27] (fun v27 wc => ∃ (kq : Nat) (x27_5 : Bool), v27 = .bool x27_5 ∧ Aside0 (Zd.j0 kq a0 t138 t139 x27_5 = some (r1, r2, r3)) ∧ Aside0 (kq ≤ k) ∧ Aside0 (Below w.heap.size w wc))
   case first =>
    have H := HC6.out
    clear HC6
    by_cases c7 : t138 = 0
    ·rw [if_pos c7] at H
     have c7b0 : (t138 == 0) = true := Ybf.mpr c7
     have c7b1 : (t138 != 0) = false := Ybh.mpr c7
     clear c7
     (first | rw [c7b0] | (simp only [i64_w, zn]; rw [c7b0]) | skip)
     have H' := Aside0.mk H
     clear H
     go_wp2
     go_meet
     case rel => exact ⟨_, (true), (by first | rfl | (simp; done) | (simp [*]; done)), H', ⟨by first | omega | exact Xbc _⟩, ⟨by repeat (first | (with_reducible first | exact HB.out | apply Za | apply Ya | apply Xa) | exact HB.out)⟩⟩
    ·rw [if_neg c7] at H
     have c7b0 : (t138 == 0) = false := Ybb.mpr c7
     have c7b1 : (t138 != 0) = true := Zbh.mpr c7
     (first | rw [c7b0] | (simp only [i64_w, zn]; rw [c7b0]) | skip)
     have H' := Aside0.mk H
     clear H
     go_wp2
     go_meet
     case rel => exact ⟨_, (decide (t138 > (a0.size : Int))), (by first | rfl | (simp; done) | (simp [*]; done)), H', ⟨by first | omega | exact Xbc _⟩, ⟨by repeat (first | (with_reducible first | exact HB.out | apply Za | apply Ya | apply Xa) | exact HB.out)⟩⟩
   case rest =>
    clear HC6
    try clear c2
    try clear c2b0
    try clear c2b1
    try clear p2
    try clear c3
    try clear c3b0
    try clear c3b1
    try clear p4
    try clear q4
    try clear hx4
    try clear qi4
    try clear c5
    try clear p6
    try clear c7
    try clear c7b0
    try clear c7b1
    try clear p4
    try clear q4
    obtain ⟨kq, x27_5, rfl, HA, HJ5, HB⟩ := hcut
    cases kq with
    | zero => exact absurd HA.out (by simp [Zd.j0])
    | succ kj5 =>
     have H := HA.out
     clear HA
     simp only [Zd.j0] at H
     by_cases c8 : x27_5 = true
     ·subst c8
      have H1 : (some (0, 0, false)) = some (r1, r2, r3) := by rw [if_pos rfl] at H; exact H
      clear H
      have H := H1
      clear H1
      simp only [Option.some.injEq, Prod.mk.injEq] at H
      obtain ⟨rfl, rfl, rfl⟩ := H
      go_wp2
      go_ret3
      exact ⟨by first | rfl | (simp [errW_none, Yd] <;> rfl) | (simp [*, errW_none, Yd] <;> rfl), by repeat (first | (with_reducible first | exact HB.out | apply Za | apply Ya | apply Xa) | exact HB.out)⟩
     ·replace c8 := ybh.mpr c8
      subst c8
      have H1 : (Zd.l0 kj5 a0 t138 t139 1) = some (r1, r2, r3) := by rw [if_neg (show ¬ (false = true) by decide)] at H; exact H
      clear H
      have H := H1
      clear H1
      have H' := Aside0.mk H
      clear H
      go_wp2
      go_loopg [6, 7] kj5 (fun kq v6 v7 w' => ∃ (x6_2 : Int) (x7_2 : Int), v6 = .int .i64 x6_2 ∧ v7 = .int .i64 x7_2 ∧ Aside0 (Zd.l0 kq a0 t138 x6_2 x7_2 = some (r1, r2, r3)) ∧ Aside0 (kq ≤ kj5) ∧ Aside0 (Below w.heap.size w w'))
      case atStart => exact ⟨(t139), (1), (by first | rfl | (simp; done) | (simp [*]; done)), (by first | rfl | (simp; done) | (simp [*]; done)), H', ⟨Xbc _⟩, ⟨by repeat (first | (with_reducible first | exact HB.out | apply Za | apply Ya | apply Xa) | exact HB.out)⟩⟩
      case round =>
       clear H'
       try clear c2
       try clear c2b0
       try clear c2b1
       try clear p2
       try clear c3
       try clear c3b0
       try clear c3b1
       try clear p4
       try clear q4
       try clear hx4
       try clear qi4
       try clear c5
       try clear p6
       try clear c7
       try clear c7b0
       try clear c7b1
       try clear c8
       try clear p2
       try clear p4
       try clear p6
       try clear q4
       obtain ⟨x6_2, x7_2, rfl, rfl, HA, HK2, HB⟩ := hrel
       cases gk with
       | zero => exact absurd HA.out (by simp [Zd.l0])
       | succ k2 =>
        have H := HA.out
        clear HA
        simp only [Zd.l0] at H
        by_cases c9 : x7_2 < t138
        ·rw [if_pos c9] at H
         have c9b0 : decide (x7_2 < t138) = true := decide_eq_true c9
         clear c9
         by_cases c10 : 0 ≤ x7_2
         ·rw [if_pos c10] at H
          have c10b0 : decide (0 ≤ x7_2) = true := decide_eq_true c10
          clear c10
          by_cases c11 : x7_2 < (a0.size : Int)
          ·rw [if_pos c11] at H
           have c11b0 : decide (x7_2 < (a0.size : Int)) = true := decide_eq_true c11
           clear c11
           have H' := Aside0.mk H
           clear H
           have p12 : 0 ≤ (x7_2 : Int) := xbc (by first | (with_reducible assumption) | assumption)
           have q12 : x7_2 < (a0.size : Int) := xbc (by first | (with_reducible assumption) | assumption)
           have hx12 := Xo a0 x7_2
           replace p12 := eq_true p12
           replace q12 := eq_true q12
           go_wp2
           go_roundg k2
           case measure => have := HJ5.out; have := HK2.out; omega
           case rel => exact ⟨(wrap64 ((wrap64 (64 * x6_2)) + (Int.tmod (wrap64 (bt a0 x7_2)) 64))), (wrap64 (x7_2 + 1)), (by first | rfl | (simp; done) | (simp [*]; done)), (by first | rfl | (simp; done) | (simp [*]; done)), H', ⟨by have := HJ5.out; have := HK2.out; omega⟩, ⟨by repeat (first | (with_reducible first | exact HB.out | apply Za | apply Ya | apply Xa) | exact HB.out)⟩⟩
          ·rw [if_neg c11] at H
           exact absurd H (by simp)
         ·rw [if_neg c10] at H
          exact absurd H (by simp)
        ·rw [if_neg c9] at H
         have c9b0 : decide (x7_2 < t138) = false := zbd c9
         clear c9
         replace H := Ybe.mp H
         obtain ⟨⟨t140, t141⟩, A130, H⟩ := H
         replace H : (if t141 = true then (if 0 ≤ t138 then (if t138 ≤ (a0.size : Int) then (if t140.toList = (a0.extract 0 (t138 : Int).toNat).toList then (some (x6_2, t138, true)) else (some (0, 0, false))) else (none)) else (none)) else (some (0, 0, false))) = some (r1, r2, r3) := H
         have A13 := Aside0.mk A130
         clear A130
         by_cases c14 : t141 = true
         ·subst c14
          have H1 : (if 0 ≤ t138 then (if t138 ≤ (a0.size : Int) then (if t140.toList = (a0.extract 0 (t138 : Int).toNat).toList then (some (x6_2, t138, true)) else (some (0, 0, false))) else (none)) else (none)) = some (r1, r2, r3) := by rw [if_pos rfl] at H; exact H
          clear H
          have H := H1
          clear H1
          by_cases c15 : 0 ≤ t138
          ·rw [if_pos c15] at H
           have c15b0 := eq_true c15
           have c15b1 : decide (0 ≤ t138) = true := decide_eq_true c15
           clear c15
           by_cases c16 : t138 ≤ (a0.size : Int)
           ·rw [if_pos c16] at H
            have c16b0 := eq_true c16
            have c16b1 : decide (t138 ≤ (a0.size : Int)) = true := decide_eq_true c16
            clear c16
            by_cases c17 : t140.toList = (a0.extract 0 (t138 : Int).toNat).toList
            ·rw [if_pos c17] at H
             have c17b0 : (t140.toList == (a0.extract 0 (t138 : Int).toNat).toList) = true := Ybf.mpr c17
             have c17b1 : (t140.toList != (a0.extract 0 (t138 : Int).toNat).toList) = false := Ybh.mpr c17
             clear c17
             simp only [Option.some.injEq, Prod.mk.injEq] at H
             obtain ⟨rfl, rfl, rfl⟩ := H
             go_wp2_with (first | ((with_reducible refine Xd (f := 87) rfl ?_); refine Xj (some 43) rfl rfl Tryz.func87 (by kernel_rfl) rfl #[.int .i64 x6_2] rfl (by (try simp only [zbg, Xbf, ybg]); first | done | rfl | (simp only [Zbb, ybc]; rfl)) ?_; (with_reducible refine (Ym.calls x6_2 t140 true _ A13.out).mono ?_); rintro e w18 ⟨rfl, hb⟩; refine ⟨_, rfl, ?_⟩; have n0_ := Aside0.mk (Ze (by repeat (first | (with_reducible first | exact HB.out | apply Za | apply Ya | apply Xa) | exact HB.out)) hb); clear HB; have HB := n0_; clear n0_; (try clear hb); (try clear hb2); (try clear hk); (try clear hi)))
             go_ret3
             exact ⟨by first | rfl | (simp [errW_none, Yd] <;> rfl) | (simp [*, errW_none, Yd] <;> rfl), by repeat (first | (with_reducible first | exact HB.out | apply Za | apply Ya | apply Xa) | exact HB.out)⟩
            ·rw [if_neg c17] at H
             have c17b0 : (t140.toList == (a0.extract 0 (t138 : Int).toNat).toList) = false := Ybb.mpr c17
             have c17b1 : (t140.toList != (a0.extract 0 (t138 : Int).toNat).toList) = true := Zbh.mpr c17
             simp only [Option.some.injEq, Prod.mk.injEq] at H
             obtain ⟨rfl, rfl, rfl⟩ := H
             go_wp2_with (first | ((with_reducible refine Xd (f := 87) rfl ?_); refine Xj (some 43) rfl rfl Tryz.func87 (by kernel_rfl) rfl #[.int .i64 x6_2] rfl (by (try simp only [zbg, Xbf, ybg]); first | done | rfl | (simp only [Zbb, ybc]; rfl)) ?_; (with_reducible refine (Ym.calls x6_2 t140 true _ A13.out).mono ?_); rintro e w19 ⟨rfl, hb⟩; refine ⟨_, rfl, ?_⟩; have n0_ := Aside0.mk (Ze (by repeat (first | (with_reducible first | exact HB.out | apply Za | apply Ya | apply Xa) | exact HB.out)) hb); clear HB; have HB := n0_; clear n0_; (try clear hb); (try clear hb2); (try clear hk); (try clear hi)))
             go_ret3
             exact ⟨by first | rfl | (simp [errW_none, Yd] <;> rfl) | (simp [*, errW_none, Yd] <;> rfl), by repeat (first | (with_reducible first | exact HB.out | apply Za | apply Ya | apply Xa) | exact HB.out)⟩
           ·rw [if_neg c16] at H
            exact absurd H (by simp)
          ·rw [if_neg c15] at H
           exact absurd H (by simp)
         ·replace c14 := ybh.mpr c14
          subst c14
          have H1 : (some (0, 0, false)) = some (r1, r2, r3) := by rw [if_neg (show ¬ (false = true) by decide)] at H; exact H
          clear H
          have H := H1
          clear H1
          simp only [Option.some.injEq, Prod.mk.injEq] at H
          obtain ⟨rfl, rfl, rfl⟩ := H
          go_wp2_with (first | ((with_reducible refine Xd (f := 87) rfl ?_); refine Xj (some 43) rfl rfl Tryz.func87 (by kernel_rfl) rfl #[.int .i64 x6_2] rfl (by (try simp only [zbg, Xbf, ybg]); first | done | rfl | (simp only [Zbb, ybc]; rfl)) ?_; (with_reducible refine (Ym.calls x6_2 t140 false _ A13.out).mono ?_); rintro e w20 ⟨rfl, hb⟩; refine ⟨_, rfl, ?_⟩; have n0_ := Aside0.mk (Ze (by repeat (first | (with_reducible first | exact HB.out | apply Za | apply Ya | apply Xa) | exact HB.out)) hb); clear HB; have HB := n0_; clear n0_; (try clear hb); (try clear hb2); (try clear hk); (try clear hi)))
          go_ret3
          exact ⟨by first | rfl | (simp [errW_none, Yd] <;> rfl) | (simp [*, errW_none, Yd] <;> rfl), by repeat (first | (with_reducible first | exact HB.out | apply Za | apply Ya | apply Xa) | exact HB.out)⟩
  ·rw [if_neg c3] at H
   exact absurd H (by simp)
def YM.l0 : Nat → List Int → ByteArray → Int → Option (ByteArray × Bool)
 | 0, _, _, _ => none
 | k + 1, x0, x4, x5 => if x5 < (x0.length : Int) then (if 0 ≤ x5 then ((Ym.f (rd x0 x5)).bind fun bt151 => (if bt151.2 = true then (if x4.size + bt151.1.size ≤ 9223372036854775807 then (YM.l0 k x0 (x4 ++ bt151.1) (wrap64 (x5 + 1))) else (none)) else (some ((⟨#[]⟩ : ByteArray), false)))) else (none)) else (some (x4, true))
def YM.f (k : Nat) (l0 : List Int) : Option (ByteArray × Bool) := YM.l0 k l0 (⟨#[]⟩ : ByteArray) 0
def XM.l0 : Nat → List Int → List Int → Int → Option (Bool)
 | 0, _, _, _ => none
 | k + 1, x0, x1, x5 => if x5 < (x0.length : Int) then (if 0 ≤ x5 then (if x5 < (x1.length : Int) then (if (rd x0 x5) = (rd x1 x5) then (XM.l0 k x0 x1 (wrap64 (x5 + 1))) else (some false)) else (none)) else (none)) else (some true)
def XM.f (k : Nat) (l0 : List Int) (l1 : List Int) : Option (Bool) := if (l0.length : Int) = (l1.length : Int) then (XM.l0 k l0 l1 0) else (some false)
def yF.l0 : Nat → ByteArray → List Int → Option (List Int × Bool)
 | 0, _, _ => none
 | k + 1, x0, x4 => if (x0.size : Int) > 0 then ((Zd.f k x0).bind fun bt155 => (if bt155.2.2 = true then (if x4.length < 17592186044416 then (if 0 ≤ bt155.2.1 then (if bt155.2.1 ≤ (x0.size : Int) then (yF.l0 k (x0.extract (bt155.2.1 : Int).toNat x0.size) (x4 ++ [bt155.1])) else (none)) else (none)) else (none)) else (some (([] : List Int), false)))) else (some (x4, true))
def yF.f (k : Nat) (a0 : ByteArray) : Option (List Int × Bool) := yF.l0 k a0 ([] : List Int)
end Go.Proofs.NU1
namespace Go.Proofs.NQ1
open Go.Proofs.NGiv Go.Proofs.NU1 Go.RowKit Go.Proofs.Wa Go.Proofs.Wb Go.Proofs.Wc
attribute [local go_sem] YL XL YR XR yI xI zM yM
def errW : Option Int → Value
 | none => .nilIface
 | some c => .iface 0 (.int .i64 c)
theorem errW_none : errW none = .nilIface := rfl
theorem Yd (c : Int) : errW (some c) = .iface 0 (.int .i64 c) := rfl
def Zk.j0 : Nat → Int → Bool → Option (ByteArray)
 | 0, _, _ => none
 | k + 1, x0, x12 => if x12 = true then (some (strOfNums (([92, x0] : List Int)))) else (if x0 < 32 then (if 0 ≤ (x0 / 16) then (if (x0 / 16) < 16 then (if 0 ≤ (Go.bits .and .u8 x0 15) then (if (Go.bits .and .u8 x0 15) < 16 then (some (strOfNums (([92, 117, 48, 48, bt (⟨#[48, 49, 50, 51, 52, 53, 54, 55, 56, 57, 97, 98, 99, 100, 101, 102]⟩ : ByteArray) (x0 / 16), bt (⟨#[48, 49, 50, 51, 52, 53, 54, 55, 56, 57, 97, 98, 99, 100, 101, 102]⟩ : ByteArray) (Go.bits .and .u8 x0 15)] : List Int)))) else (none)) else (none)) else (none)) else (none)) else (some (strOfNums (([x0] : List Int)))))
def Zk.f (k : Nat) (a0 : Int) : Option (ByteArray) := (strings_IndexByte.f (⟨#[8, 9, 10, 12, 13]⟩ : ByteArray) a0).bind fun t101 => (if t101 ≥ 0 then (if 0 ≤ t101 then (if t101 < 5 then (some (strOfNums (([92, bt (⟨#[98, 116, 110, 102, 114]⟩ : ByteArray) t101] : List Int)))) else (none)) else (none)) else (if a0 = 34 then (Zk.j0 k a0 (a0 == 34)) else (Zk.j0 k a0 (a0 == 92))))
def Zk.T8 : Bool × List (List Nat × List Nat) := (true, [([], []), ([0], [0]), ([1], [1]), ([], []), ([3], [3]), ([4], [4]), ([2, 5], [2, 5]), ([6], [6]), ([7, 0, 1, 2, 3, 4, 5, 6, 7], [7])])
def Zk.B8 : List Nat := [0, 1, 3, 0, 8, 24, 63, 127, 255]
theorem Zk.tab8 : rtab .any (opsOf Tryz.f55 8) = Zk.T8 := by kernel_rfl
theorem Zk.bits8 : Yab Zk.T8.2 Zk.B8 = true := by kernel_rfl
theorem Zk.calls (k : Nat) (a0 : Int) (r : ByteArray) (w : World) (h : Zk.f k a0 = some r) :
  Calls Tryz.prog 55 #[.int .u8 a0] w fun e w' => e = .returned (.string r) ∧ Below w.heap.size w w' := by
 have HB := Aside0.mk (ybd w.heap.size w)
 have H : ((strings_IndexByte.f (⟨#[8, 9, 10, 12, 13]⟩ : ByteArray) a0).bind fun t101 => (if t101 ≥ 0 then (if 0 ≤ t101 then (if t101 < 5 then (some (strOfNums (([92, bt (⟨#[98, 116, 110, 102, 114]⟩ : ByteArray) t101] : List Int)))) else (none)) else (none)) else (if a0 = 34 then (Zk.j0 k a0 (a0 == 34)) else (Zk.j0 k a0 (a0 == 92))))) = some r := h
 clear h
 replace H := Ybe.mp H
 obtain ⟨t101, A20, H⟩ := H
 replace H : (if t101 ≥ 0 then (if 0 ≤ t101 then (if t101 < 5 then (some (strOfNums (([92, bt (⟨#[98, 116, 110, 102, 114]⟩ : ByteArray) t101] : List Int)))) else (none)) else (none)) else (if a0 = 34 then (Zk.j0 k a0 (a0 == 34)) else (Zk.j0 k a0 (a0 == 92)))) = some r := H
 have A2 := Aside0.mk A20
 clear A20
 by_cases c3 : t101 ≥ 0
 ·rw [if_pos c3] at H
  have c3b0 : decide (0 ≤ t101) = true := decide_eq_true c3
  clear c3
  by_cases c4 : 0 ≤ t101
  ·rw [if_pos c4] at H
   have c4b0 : decide (0 ≤ t101) = true := decide_eq_true c4
   clear c4
   by_cases c5 : t101 < 5
   ·rw [if_pos c5] at H
    have c5b0 : decide (t101 < 5) = true := decide_eq_true c5
    clear c5
    obtain ⟨y102, hy102⟩ : ∃ y_ : List Int, y_ = (([92, bt (⟨#[98, 116, 110, 102, 114]⟩ : ByteArray) t101] : List Int)) := ⟨_, rfl⟩
    replace H : (some (strOfNums y102)) = some r := by first | (rw [hy102]; with_reducible exact H) | (have H2_ := (Zbf _ _).symm.trans H; rw [hy102]; with_reducible exact H2_) | (have H2_ := (Zbf _ _).symm.trans H; with_reducible exact H2_) | with_reducible exact H | (rw [hy102]; exact H) | exact H
    have Ny102 := Aside0.mk hy102
    clear hy102
    obtain rfl := Option.some.inj H
    go_enter Tryz.func55, Tryz.ntmps55
    go_wp2_with (first | ((with_reducible refine Xd (f := 44) rfl ?_); refine Xj (some 5) rfl rfl Tryz.func44 (by kernel_rfl) rfl #[.string (⟨#[8, 9, 10, 12, 13]⟩ : ByteArray), .int .u8 a0] rfl (by (try simp only [zbg, Xbf, ybg]); first | done | rfl | (simp only [Zbb, ybc]; rfl)) ?_; (with_reducible refine (strings_IndexByte.calls (⟨#[8, 9, 10, 12, 13]⟩ : ByteArray) a0 t101 _ A2.out).mono ?_); rintro e w' ⟨rfl, ⟨nd, rfl⟩⟩; refine ⟨_, rfl, ?_⟩; have p6 : 0 ≤ (t101 : Int) := xbc (by first | (with_reducible assumption) | assumption); have q6 : t101 < (5 : Int) := xbc (by first | (with_reducible assumption) | assumption); have hx6 := Xo (⟨#[98, 116, 110, 102, 114]⟩ : ByteArray) t101; replace p6 := eq_true p6; replace q6 := eq_true q6) | ((with_reducible refine yR (N := 10) rfl ?_); refine Kd.R_lit (Kd.int .u8) _ 5 ?hg (N := 10) ?hd (xs := ([92, bt (⟨#[98, 116, 110, 102, 114]⟩ : ByteArray) t101] : List Int)) (inner := [.int .u8 92, .int .u8 (bt (⟨#[98, 116, 110, 102, 114]⟩ : ByteArray) t101)]) (ok := fun _ => True) (okp := fun _ => True) ?hr ?hp (fun _ hk => hk) trivial (ybd _ _) (Xbc _) (by simp) ?_; (case hd => rfl); (case hg => rfl); (case hr => first | (go_simp; done) | (go_simp; rfl)); (case hp => exact (Reps.one (show Kd.M (Kd.int .u8) _ _ _ 92 [.int .u8 92] from rfl) (Reps.one (show Kd.M (Kd.int .u8) _ _ _ (bt (⟨#[98, 116, 110, 102, 114]⟩ : ByteArray) t101) [.int .u8 (bt (⟨#[98, 116, 110, 102, 114]⟩ : ByteArray) t101)] from rfl) (Reps.none _ _)))); intro v103 w7 ho8 hb hg_ hnew_; clear hg_ hnew_; (first | rw [← Ny102.out] at ho8 | (simp only [Int.reduceToNat] at ho8; rw [← Ny102.out] at ho8)); have n0_ := Aside0.mk (Kd.R_lower ho8 (xG (by repeat (first | (with_reducible first | exact HB.out | apply Za | apply Ya | apply Xa) | exact HB.out)))); have n1_ := Aside0.mk (Ze (by repeat (first | (with_reducible first | exact HB.out | apply Za | apply Ya | apply Xa) | exact HB.out)) hb); clear HB; have HO104 := n0_; have HB := n1_; clear n0_ n1_; clear hb ho8; have hcv9 := yG (P := Tryz.prog) Tryz.underlying43 Tryz.underlying5 Tryz.underlying9 (Kd.own_of_R HO104.out)))
    go_ret
    exact ⟨by first | rfl | (simp [errW_none, Yd] <;> rfl) | (simp [*, errW_none, Yd] <;> rfl), by repeat (first | (with_reducible first | exact HB.out | apply Za | apply Ya | apply Xa) | exact HB.out)⟩
   ·rw [if_neg c5] at H
    exact absurd H (by simp)
  ·rw [if_neg c4] at H
   exact absurd H (by simp)
 ·rw [if_neg c3] at H
  have c3b0 : decide (0 ≤ t101) = false := zbd c3
  clear c3
  have HC10 := Aside0.mk H
  clear H
  go_enter Tryz.func55, Tryz.ntmps55
  go_upto_if 12 with (first | ((with_reducible refine Xd (f := 44) rfl ?_); refine Xj (some 5) rfl rfl Tryz.func44 (by kernel_rfl) rfl #[.string (⟨#[8, 9, 10, 12, 13]⟩ : ByteArray), .int .u8 a0] rfl (by (try simp only [zbg, Xbf, ybg]); first | done | rfl | (simp only [Zbb, ybc]; rfl)) ?_; (with_reducible refine (strings_IndexByte.calls (⟨#[8, 9, 10, 12, 13]⟩ : ByteArray) a0 t101 _ A2.out).mono ?_); rintro e w' ⟨rfl, ⟨nd, rfl⟩⟩; refine ⟨_, rfl, ?_⟩))
  (try simp only [Act.put, qA, qB, qC])
  go_cut [12] (fun v12 wc => ∃ (kq : Nat) (x12_9 : Bool), v12 = .bool x12_9 ∧ Aside0 (Zk.j0 kq a0 x12_9 = some r) ∧ Aside0 (kq ≤ k) ∧ Aside0 (Below w.heap.size w wc))
  case first =>
   have H := HC10.out
   clear HC10
   by_cases c11 : a0 = 34
   ·rw [if_pos c11] at H
    have c11b0 : (a0 == 34) = true := Ybf.mpr c11
    have c11b1 : (a0 != 34) = false := Ybh.mpr c11
    clear c11
    (first | rw [c11b0] | (simp only [i64_w, zn]; rw [c11b0]) | skip)
    have H' := Aside0.mk H
    clear H
    go_wp2
    go_meet
    case rel => exact ⟨_, ((a0 == 34)), (by first | rfl | (simp; done) | (simp [*]; done)), H', ⟨by first | omega | exact Xbc _⟩, ⟨by repeat (first | (with_reducible first | exact HB.out | apply Za | apply Ya | apply Xa) | exact HB.out)⟩⟩
   ·rw [if_neg c11] at H
    have c11b0 : (a0 == 34) = false := Ybb.mpr c11
    have c11b1 : (a0 != 34) = true := Zbh.mpr c11
    (first | rw [c11b0] | (simp only [i64_w, zn]; rw [c11b0]) | skip)
    have H' := Aside0.mk H
    clear H
    go_wp2
    go_meet
    case rel => exact ⟨_, ((a0 == 92)), (by first | rfl | (simp; done) | (simp [*]; done)), H', ⟨by first | omega | exact Xbc _⟩, ⟨by repeat (first | (with_reducible first | exact HB.out | apply Za | apply Ya | apply Xa) | exact HB.out)⟩⟩
  case rest =>
   clear HC10
   try clear c1
   try clear p2
   try clear c3
   try clear c3b0
   try clear c4
   try clear c4b0
   try clear c5
   try clear c5b0
   try clear p6
   try clear q6
   try clear hx6
   try clear c8
   try clear hcv9
   try clear c11
   try clear c11b0
   try clear c11b1
   try clear p6
   try clear q6
   obtain ⟨kq, x12_9, rfl, HA, HJ9, HB⟩ := hcut
   cases kq with
   | zero => exact absurd HA.out (by simp [Zk.j0])
   | succ kj9 =>
    have H := HA.out
    clear HA
    simp only [Zk.j0] at H
    by_cases c12 : x12_9 = true
    ·subst c12
     have H1 : (some (strOfNums (([92, a0] : List Int)))) = some r := by rw [if_pos rfl] at H; exact H
     clear H
     have H := H1
     clear H1
     obtain ⟨y105, hy105⟩ : ∃ y_ : List Int, y_ = (([92, a0] : List Int)) := ⟨_, rfl⟩
     replace H : (some (strOfNums y105)) = some r := by first | (rw [hy105]; with_reducible exact H) | (have H2_ := (Zbf _ _).symm.trans H; rw [hy105]; with_reducible exact H2_) | (have H2_ := (Zbf _ _).symm.trans H; with_reducible exact H2_) | with_reducible exact H | (rw [hy105]; exact H) | exact H
     have Ny105 := Aside0.mk hy105
     clear hy105
     obtain rfl := Option.some.inj H
     go_wp2_with (first | ((with_reducible refine yR (N := 18) rfl ?_); refine Kd.R_lit (Kd.int .u8) _ 5 ?hg (N := 18) ?hd (xs := ([92, a0] : List Int)) (inner := [.int .u8 92, .int .u8 a0]) (ok := fun _ => True) (okp := fun _ => True) ?hr ?hp (fun _ hk => hk) trivial (ybd _ _) (Xbc _) (by simp) ?_; (case hd => rfl); (case hg => rfl); (case hr => first | (go_simp; done) | (go_simp; rfl)); (case hp => exact (Reps.one (show Kd.M (Kd.int .u8) _ _ _ 92 [.int .u8 92] from rfl) (Reps.one (show Kd.M (Kd.int .u8) _ _ _ a0 [.int .u8 a0] from rfl) (Reps.none _ _)))); intro v106 w13 ho14 hb hg_ hnew_; clear hg_ hnew_; (first | rw [← Ny105.out] at ho14 | (simp only [Int.reduceToNat] at ho14; rw [← Ny105.out] at ho14)); have n0_ := Aside0.mk (Kd.R_lower ho14 (xG (by repeat (first | (with_reducible first | exact HB.out | apply Za | apply Ya | apply Xa) | exact HB.out)))); have n1_ := Aside0.mk (Ze (by repeat (first | (with_reducible first | exact HB.out | apply Za | apply Ya | apply Xa) | exact HB.out)) hb); clear HB; have HO107 := n0_; have HB := n1_; clear n0_ n1_; clear hb ho14; have hcv15 := yG (P := Tryz.prog) Tryz.underlying43 Tryz.underlying5 Tryz.underlying9 (Kd.own_of_R HO107.out)))
     go_ret
     exact ⟨by first | rfl | (simp [errW_none, Yd] <;> rfl) | (simp [*, errW_none, Yd] <;> rfl), by repeat (first | (with_reducible first | exact HB.out | apply Za | apply Ya | apply Xa) | exact HB.out)⟩
    ·replace c12 := ybh.mpr c12
     subst c12
     have H1 : (if a0 < 32 then (if 0 ≤ (a0 / 16) then (if (a0 / 16) < 16 then (if 0 ≤ (Go.bits .and .u8 a0 15) then (if (Go.bits .and .u8 a0 15) < 16 then (some (strOfNums (([92, 117, 48, 48, bt (⟨#[48, 49, 50, 51, 52, 53, 54, 55, 56, 57, 97, 98, 99, 100, 101, 102]⟩ : ByteArray) (a0 / 16), bt (⟨#[48, 49, 50, 51, 52, 53, 54, 55, 56, 57, 97, 98, 99, 100, 101, 102]⟩ : ByteArray) (Go.bits .and .u8 a0 15)] : List Int)))) else (none)) else (none)) else (none)) else (none)) else (some (strOfNums (([a0] : List Int))))) = some r := by rw [if_neg (show ¬ (false = true) by decide)] at H; exact H
     clear H
     have H := H1
     clear H1
     by_cases c16 : a0 < 32
     ·rw [if_pos c16] at H
      have c16b0 : decide (a0 < 32) = true := decide_eq_true c16
      clear c16
      obtain ⟨ji17, hji17⟩ : ∃ j_ : Int, (a0 / 16) = j_ := ⟨_, rfl⟩
      replace H : (if 0 ≤ (ji17) then (if (ji17) < 16 then (if 0 ≤ (Go.bits .and .u8 a0 15) then (if (Go.bits .and .u8 a0 15) < 16 then (some (strOfNums (([92, 117, 48, 48, bt (⟨#[48, 49, 50, 51, 52, 53, 54, 55, 56, 57, 97, 98, 99, 100, 101, 102]⟩ : ByteArray) (ji17), bt (⟨#[48, 49, 50, 51, 52, 53, 54, 55, 56, 57, 97, 98, 99, 100, 101, 102]⟩ : ByteArray) (Go.bits .and .u8 a0 15)] : List Int)))) else (none)) else (none)) else (none)) else (none)) = some r := by first | (rw [hji17] at H; exact H) | (simp only [hji17] at H ⊢; exact H)
      by_cases c18 : 0 ≤ (ji17)
      ·rw [if_pos c18] at H
       have c18b0 : decide (0 ≤ (ji17)) = true := decide_eq_true c18
       clear c18
       by_cases c19 : (ji17) < 16
       ·rw [if_pos c19] at H
        have c19b0 : decide ((ji17) < 16) = true := decide_eq_true c19
        clear c19
        by_cases c21 : 0 ≤ (Go.bits .and .u8 a0 15)
        ·rw [if_pos c21] at H
         have c21b0 : decide (0 ≤ (Go.bits .and .u8 a0 15)) = true := decide_eq_true c21
         clear c21
         by_cases c22 : (Go.bits .and .u8 a0 15) < 16
         ·rw [if_pos c22] at H
          have c22b0 : decide ((Go.bits .and .u8 a0 15) < 16) = true := decide_eq_true c22
          clear c22
          obtain ⟨y108, hy108⟩ : ∃ y_ : List Int, y_ = (([92, 117, 48, 48, bt (⟨#[48, 49, 50, 51, 52, 53, 54, 55, 56, 57, 97, 98, 99, 100, 101, 102]⟩ : ByteArray) (ji17), bt (⟨#[48, 49, 50, 51, 52, 53, 54, 55, 56, 57, 97, 98, 99, 100, 101, 102]⟩ : ByteArray) (Go.bits .and .u8 a0 15)] : List Int)) := ⟨_, rfl⟩
          replace H : (some (strOfNums y108)) = some r := by first | (rw [hy108]; with_reducible exact H) | (have H2_ := (Zbf _ _).symm.trans H; rw [hy108]; with_reducible exact H2_) | (have H2_ := (Zbf _ _).symm.trans H; with_reducible exact H2_) | with_reducible exact H | (rw [hy108]; exact H) | exact H
          have Ny108 := Aside0.mk hy108
          clear hy108
          obtain rfl := Option.some.inj H
          try go_wp2
          have n0_ := Aside0.mk (Xa HB.out)
          clear HB
          have HB := n0_
          clear n0_
          have p20 : 0 ≤ ((ji17) : Int) := xbc (by first | (with_reducible assumption) | assumption)
          have q20 : (ji17) < (16 : Int) := xbc (by first | (with_reducible assumption) | assumption)
          have hx20 := Xo (⟨#[48, 49, 50, 51, 52, 53, 54, 55, 56, 57, 97, 98, 99, 100, 101, 102]⟩ : ByteArray) (ji17)
          replace p20 := eq_true p20
          replace q20 := eq_true q20
          have p23 : 0 ≤ ((Go.bits .and .u8 a0 15) : Int) := xbc (by first | (with_reducible assumption) | assumption)
          have q23 : (Go.bits .and .u8 a0 15) < (16 : Int) := xbc (by first | (with_reducible assumption) | assumption)
          have hx23 := Xo (⟨#[48, 49, 50, 51, 52, 53, 54, 55, 56, 57, 97, 98, 99, 100, 101, 102]⟩ : ByteArray) (Go.bits .and .u8 a0 15)
          replace p23 := eq_true p23
          replace q23 := eq_true q23
          refine ZG (n := 9) (S := fun w' => True) (ds := []) #[false, false, false, false, false, false, false, false, false] (by kernel_rfl) rfl rfl trivial (fun hHeld => ?_); refine with_tabW Zk.tab8 Zk.bits8 (fun HT_ HW_ => ?_)
          generalize wc.drew = w24 at HB hHeld ⊢
          refine pq 0 23 (v := ?_) (a' := ?_) #[true, false, false, false, false, false, false, false, false] rfl (Yak HT_.out (by kernel_rfl)) (.inl ⟨by rfl, ?_⟩) ?_ ?_
          rotate_left
          ·intro w'
           go_simp
           with_reducible rfl
          rotate_left
          ·simp only [Act.put, qA, qB, qC, i64_w, zn]
           rfl
          refine pq 1 24 (v := ?_) (a' := ?_) #[true, true, false, false, false, false, false, false, false] rfl (Yak HT_.out (by kernel_rfl)) (.inl ⟨by rfl, ?_⟩) ?_ ?_
          rotate_left
          ·intro w'
           go_simp
           with_reducible rfl
          rotate_left
          ·simp only [Act.put, qA, qB, qC, i64_w, zn]
           rfl
          refine pq 3 26 (v := ?_) (a' := ?_) #[true, true, false, true, false, false, false, false, false] rfl (Yak HT_.out (by kernel_rfl)) (.inl ⟨by rfl, ?_⟩) ?_ ?_
          rotate_left
          ·intro w'
           go_simp
           with_reducible rfl
          rotate_left
          ·simp only [Act.put, qA, qB, qC, i64_w, zn]
           rfl
          refine pq 4 27 (v := ?_) (a' := ?_) #[true, true, false, true, true, false, false, false, false] rfl (Yak HT_.out (by kernel_rfl)) (.inl ⟨by rfl, ?_⟩) ?_ ?_
          rotate_left
          ·intro w'
           go_simp
           with_reducible rfl
          rotate_left
          ·simp only [Act.put, qA, qB, qC, i64_w, zn]
           rfl
          refine tq 2 25 (v := ?_) (a' := ?_) #[true, true, true, true, true, false, false, false, false] rfl (XaR HT_.out HW_.out (by kernel_rfl)) (.inl ⟨by rfl, ?_⟩) hHeld ?_ ?_
          rotate_left
          ·intro w' _
           go_simp
           with_reducible rfl
          rotate_left
          ·simp only [Act.put, qA, qB, qC, i64_w, zn]
           rfl
          refine tq 5 28 (v := ?_) (a' := ?_) #[true, true, true, true, true, true, false, false, false] rfl (XaR HT_.out HW_.out (by kernel_rfl)) (.inl ⟨by rfl, ?_⟩) hHeld ?_ ?_
          rotate_left
          ·intro w' _
           go_simp
           with_reducible rfl
          rotate_left
          ·simp only [Act.put, qA, qB, qC, i64_w, zn]
           rfl
          refine one_ (i := 6) (N := some 29) #[true, true, true, true, true, true, true, false, false] rfl rfl (one_of HT_.out (by kernel_rfl)) (by decide) (fun K hK => ?_)
          refine Kd.R_lit_step (Kd.int .u8) _ 5 ?hg (N := 29) ?hd (xs := ([92, 117, 48, 48, bt (⟨#[48, 49, 50, 51, 52, 53, 54, 55, 56, 57, 97, 98, 99, 100, 101, 102]⟩ : ByteArray) (ji17), bt (⟨#[48, 49, 50, 51, 52, 53, 54, 55, 56, 57, 97, 98, 99, 100, 101, 102]⟩ : ByteArray) (Go.bits .and .u8 a0 15)] : List Int)) (inner := [.int .u8 92, .int .u8 117, .int .u8 48, .int .u8 48, .int .u8 (bt (⟨#[48, 49, 50, 51, 52, 53, 54, 55, 56, 57, 97, 98, 99, 100, 101, 102]⟩ : ByteArray) (ji17)), .int .u8 (bt (⟨#[48, 49, 50, 51, 52, 53, 54, 55, 56, 57, 97, 98, 99, 100, 101, 102]⟩ : ByteArray) (Go.bits .and .u8 a0 15))]) (ok := fun _ => True) (okp := fun _ => True) ?hr ?hp (fun _ hk => hk) trivial (ybd _ _) (Xbc _) (by simp) ?_; (case hd => rfl); (case hg => rfl); (case hr => first | (go_simp; done) | (go_simp; rfl)); (case hp => exact (Reps.one (show Kd.M (Kd.int .u8) _ _ _ 92 [.int .u8 92] from rfl) (Reps.one (show Kd.M (Kd.int .u8) _ _ _ 117 [.int .u8 117] from rfl) (Reps.one (show Kd.M (Kd.int .u8) _ _ _ 48 [.int .u8 48] from rfl) (Reps.one (show Kd.M (Kd.int .u8) _ _ _ 48 [.int .u8 48] from rfl) (Reps.one (show Kd.M (Kd.int .u8) _ _ _ (bt (⟨#[48, 49, 50, 51, 52, 53, 54, 55, 56, 57, 97, 98, 99, 100, 101, 102]⟩ : ByteArray) (ji17)) [.int .u8 (bt (⟨#[48, 49, 50, 51, 52, 53, 54, 55, 56, 57, 97, 98, 99, 100, 101, 102]⟩ : ByteArray) (ji17))] from rfl) (Reps.one (show Kd.M (Kd.int .u8) _ _ _ (bt (⟨#[48, 49, 50, 51, 52, 53, 54, 55, 56, 57, 97, 98, 99, 100, 101, 102]⟩ : ByteArray) (Go.bits .and .u8 a0 15)) [.int .u8 (bt (⟨#[48, 49, 50, 51, 52, 53, 54, 55, 56, 57, 97, 98, 99, 100, 101, 102]⟩ : ByteArray) (Go.bits .and .u8 a0 15))] from rfl) (Reps.none _ _))))))))
          intro v109 w25 ho26 hb hg_ hnew_
          clear hg_ hnew_
          (first | rw [← Ny108.out] at ho26 | (simp only [Int.reduceToNat] at ho26; rw [← Ny108.out] at ho26))
          have n0_ := Aside0.mk (Kd.R_lower ho26 (xG (by repeat (first | (with_reducible first | exact HB.out | apply Za | apply Ya | apply Xa) | exact HB.out))))
          have n1_ := Aside0.mk (Ze (by repeat (first | (with_reducible first | exact HB.out | apply Za | apply Ya | apply Xa) | exact HB.out)) hb)
          clear HB
          have HO110 := n0_
          have HB := n1_
          clear n0_ n1_
          clear hb ho26
          refine hK.out _ _ trivial (fun hHeld => ?_)
          clear hK K
          refine norm_ (a' := ?_) ?_ ?_
          rotate_left
          ·show Act.put _ (some 29) _ = _
           simp only [Act.put, qA, qB, qC, i64_w, zn]
           rfl
          refine one_ (i := 7) (N := some 30) #[true, true, true, true, true, true, true, true, false] rfl rfl (one_of HT_.out (by kernel_rfl)) (by decide) (fun K hK => ?_)
          have hcv27 := yG (P := Tryz.prog) Tryz.underlying43 Tryz.underlying5 Tryz.underlying9 (Kd.own_of_R HO110.out)
          refine value_ (w1 := ?_) (v := ?_) (by rfl) rfl ?_ ?_
          rotate_left 2
          ·go_simp
           constructor
           ·rfl
           ·rfl
          clear hcv27
          refine hK.out _ _ trivial (fun hHeld => ?_)
          clear hK K
          refine norm_ (a' := ?_) ?_ ?_
          rotate_left
          ·show Act.put _ (some 30) _ = _
           simp only [Act.put, qA, qB, qC, i64_w, zn]
           rfl
          refine pq 8 2 (v := ?_) (a' := ?_) #[true, true, true, true, true, true, true, true, true] rfl (Yak HT_.out (by kernel_rfl)) (.inl ⟨by rfl, ?_⟩) ?_ ?_
          rotate_left
          ·intro w'
           go_simp
           with_reducible rfl
          rotate_left
          ·simp only [Act.put, qA, qB, qC, i64_w, zn]
           rfl
          refine xL (done_of HT_.out (by kernel_rfl)) ?_
          try go_wp2
          go_ret
          exact ⟨by first | rfl | (simp [errW_none, Yd] <;> rfl) | (simp only [← hji17]; first | rfl | (simp [errW_none, Yd] <;> rfl)) | (simp [*, errW_none, Yd] <;> rfl), by repeat (first | (with_reducible first | exact HB.out | apply Za | apply Ya | apply Xa) | exact HB.out)⟩
         ·rw [if_neg c22] at H
          exact absurd H (by simp)
        ·rw [if_neg c21] at H
         exact absurd H (by simp)
       ·rw [if_neg c19] at H
        exact absurd H (by simp)
      ·rw [if_neg c18] at H
       exact absurd H (by simp)
     ·rw [if_neg c16] at H
      have c16b0 : decide (a0 < 32) = false := zbd c16
      clear c16
      obtain ⟨y111, hy111⟩ : ∃ y_ : List Int, y_ = (([a0] : List Int)) := ⟨_, rfl⟩
      replace H : (some (strOfNums y111)) = some r := by first | (rw [hy111]; with_reducible exact H) | (have H2_ := (Zbf _ _).symm.trans H; rw [hy111]; with_reducible exact H2_) | (have H2_ := (Zbf _ _).symm.trans H; with_reducible exact H2_) | with_reducible exact H | (rw [hy111]; exact H) | exact H
      have Ny111 := Aside0.mk hy111
      clear hy111
      obtain rfl := Option.some.inj H
      go_wp2_with (first | ((with_reducible refine yR (N := 32) rfl ?_); refine Kd.R_lit (Kd.int .u8) _ 5 ?hg (N := 32) ?hd (xs := ([a0] : List Int)) (inner := [.int .u8 a0]) (ok := fun _ => True) (okp := fun _ => True) ?hr ?hp (fun _ hk => hk) trivial (ybd _ _) (Xbc _) (by simp) ?_; (case hd => rfl); (case hg => rfl); (case hr => first | (go_simp; done) | (go_simp; rfl)); (case hp => exact (Reps.one (show Kd.M (Kd.int .u8) _ _ _ a0 [.int .u8 a0] from rfl) (Reps.none _ _))); intro v112 w28 ho29 hb hg_ hnew_; clear hg_ hnew_; (first | rw [← Ny111.out] at ho29 | (simp only [Int.reduceToNat] at ho29; rw [← Ny111.out] at ho29)); have n0_ := Aside0.mk (Kd.R_lower ho29 (xG (by repeat (first | (with_reducible first | exact HB.out | apply Za | apply Ya | apply Xa) | exact HB.out)))); have n1_ := Aside0.mk (Ze (by repeat (first | (with_reducible first | exact HB.out | apply Za | apply Ya | apply Xa) | exact HB.out)) hb); clear HB; have HO113 := n0_; have HB := n1_; clear n0_ n1_; clear hb ho29; have hcv30 := yG (P := Tryz.prog) Tryz.underlying43 Tryz.underlying5 Tryz.underlying9 (Kd.own_of_R HO113.out)))
      go_ret
      exact ⟨by first | rfl | (simp [errW_none, Yd] <;> rfl) | (simp [*, errW_none, Yd] <;> rfl), by repeat (first | (with_reducible first | exact HB.out | apply Za | apply Ya | apply Xa) | exact HB.out)⟩
def zi.l0 : Nat → ByteArray → Int → Int → Option (Int)
 | 0, _, _, _ => none
 | k + 1, x0, x3, x9 => if x9 < 4 then (if 0 ≤ x9 then (if x9 < (x0.size : Int) then ((strings_IndexByte.f (⟨#[48, 49, 50, 51, 52, 53, 54, 55, 56, 57, 97, 98, 99, 100, 101, 102]⟩ : ByteArray) (bt x0 x9)).bind fun t115 => (if t115 < 0 then ((strings_IndexByte.f (⟨#[48, 49, 50, 51, 52, 53, 54, 55, 56, 57, 65, 66, 67, 68, 69, 70]⟩ : ByteArray) (bt x0 x9)).bind fun t116 => (if t116 < 0 then (some (-1)) else (zi.l0 k x0 (Go.bits .or .i64 (wrap64 (x3 * 16)) t116) (wrap64 (x9 + 1))))) else (zi.l0 k x0 (Go.bits .or .i64 (wrap64 (x3 * 16)) t115) (wrap64 (x9 + 1))))) else (none)) else (none)) else (some x3)
def zi.f (k : Nat) (a0 : ByteArray) : Option (Int) := if (a0.size : Int) < 4 then (some (-1)) else (zi.l0 k a0 0 0)
theorem zi.calls (k : Nat) (a0 : ByteArray) (r : Int) (w : World) (h : zi.f k a0 = some r) :
  Calls Tryz.prog 108 #[.string a0] w fun e w' => e = .returned (.int .i64 r) ∧ Drawn0 w w' := by
 have H : (if (a0.size : Int) < 4 then (some (-1)) else (zi.l0 k a0 0 0)) = some r := h
 clear h
 by_cases c2 : (a0.size : Int) < 4
 ·rw [if_pos c2] at H
  have c2b0 : decide ((a0.size : Int) < 4) = true := decide_eq_true c2
  have c2b1 : decide (a0.size < 4) = true := decide_eq_true (by omega)
  clear c2
  obtain rfl := Option.some.inj H
  go_enter Tryz.func108, Tryz.ntmps108
  go_wp2
  go_ret
  exact ⟨by first | rfl | (simp; done) | (simp [*]; done), by repeat (first | exact Drawn0.refl _ | apply Drawn0.step)⟩
 ·rw [if_neg c2] at H
  have c2b0 : decide ((a0.size : Int) < 4) = false := zbd c2
  have c2b1 : decide (a0.size < 4) = false := zbd (by omega)
  clear c2
  have H' := Aside0.mk H
  clear H
  go_enter Tryz.func108, Tryz.ntmps108
  go_wp2
  go_loopg [3, 9] k (fun kq v3 v9 w' => ∃ (x3_1 : Int) (x9_1 : Int), v3 = .int .i64 x3_1 ∧ v9 = .int .i64 x9_1 ∧ Aside0 (zi.l0 kq a0 x3_1 x9_1 = some r) ∧ Aside0 (kq ≤ k) ∧ Drawn0 w w')
  case atStart => exact ⟨(0), (0), (by first | rfl | (simp; done) | (simp [*]; done)), (by first | rfl | (simp; done) | (simp [*]; done)), H', ⟨Xbc _⟩, by repeat (first | exact Drawn0.refl _ | apply Drawn0.step)⟩
  case round =>
   clear H'
   try clear c1
   try clear c2
   try clear c2b0
   try clear c2b1
   try clear p2
   obtain ⟨x3_1, x9_1, rfl, rfl, HA, HK1, ⟨m1, rfl⟩⟩ := hrel
   cases gk with
   | zero => exact absurd HA.out (by simp [zi.l0])
   | succ k1 =>
    have H := HA.out
    clear HA
    simp only [zi.l0] at H
    by_cases c3 : x9_1 < 4
    ·rw [if_pos c3] at H
     have c3b0 : decide (x9_1 < 4) = true := decide_eq_true c3
     clear c3
     by_cases c4 : 0 ≤ x9_1
     ·rw [if_pos c4] at H
      have c4b0 : decide (0 ≤ x9_1) = true := decide_eq_true c4
      clear c4
      by_cases c5 : x9_1 < (a0.size : Int)
      ·rw [if_pos c5] at H
       have c5b0 : decide (x9_1 < (a0.size : Int)) = true := decide_eq_true c5
       clear c5
       replace H := Ybe.mp H
       obtain ⟨t115, A70, H⟩ := H
       replace H : (if t115 < 0 then ((strings_IndexByte.f (⟨#[48, 49, 50, 51, 52, 53, 54, 55, 56, 57, 65, 66, 67, 68, 69, 70]⟩ : ByteArray) (bt a0 x9_1)).bind fun t116 => (if t116 < 0 then (some (-1)) else (zi.l0 k1 a0 (Go.bits .or .i64 (wrap64 (x3_1 * 16)) t116) (wrap64 (x9_1 + 1))))) else (zi.l0 k1 a0 (Go.bits .or .i64 (wrap64 (x3_1 * 16)) t115) (wrap64 (x9_1 + 1)))) = some r := H
       have A7 := Aside0.mk A70
       clear A70
       by_cases c8 : t115 < 0
       ·rw [if_pos c8] at H
        have c8b0 : decide (t115 < 0) = true := decide_eq_true c8
        clear c8
        replace H := Ybe.mp H
        obtain ⟨t116, A100, H⟩ := H
        replace H : (if t116 < 0 then (some (-1)) else (zi.l0 k1 a0 (Go.bits .or .i64 (wrap64 (x3_1 * 16)) t116) (wrap64 (x9_1 + 1)))) = some r := H
        have A10 := Aside0.mk A100
        clear A100
        by_cases c11 : t116 < 0
        ·rw [if_pos c11] at H
         have c11b0 : decide (t116 < 0) = true := decide_eq_true c11
         clear c11
         obtain rfl := Option.some.inj H
         have p6 : 0 ≤ (x9_1 : Int) := xbc (by first | (with_reducible assumption) | assumption)
         have q6 : x9_1 < (a0.size : Int) := xbc (by first | (with_reducible assumption) | assumption)
         have hx6 := Xo a0 x9_1
         replace p6 := eq_true p6
         replace q6 := eq_true q6
         go_wp2_with (first | ((with_reducible refine Xd (f := 44) rfl ?_); refine Xj (some 15) rfl rfl Tryz.func44 (by kernel_rfl) rfl #[.string (⟨#[48, 49, 50, 51, 52, 53, 54, 55, 56, 57, 97, 98, 99, 100, 101, 102]⟩ : ByteArray), .int .u8 (bt a0 x9_1)] rfl (by (try simp only [zbg, Xbf, ybg]); first | done | rfl | (simp only [Zbb, ybc]; rfl)) ?_; (with_reducible refine (strings_IndexByte.calls (⟨#[48, 49, 50, 51, 52, 53, 54, 55, 56, 57, 97, 98, 99, 100, 101, 102]⟩ : ByteArray) (bt a0 x9_1) t115 _ A7.out).mono ?_); rintro e w' ⟨rfl, ⟨nd, rfl⟩⟩; refine ⟨_, rfl, ?_⟩; have p9 : 0 ≤ (x9_1 : Int) := xbc (by first | (with_reducible assumption) | assumption); have q9 : x9_1 < (a0.size : Int) := xbc (by first | (with_reducible assumption) | assumption); have hx9 := Xo a0 x9_1; replace p9 := eq_true p9; replace q9 := eq_true q9) | ((with_reducible refine Xd (f := 44) rfl ?_); refine Xj (some 21) rfl rfl Tryz.func44 (by kernel_rfl) rfl #[.string (⟨#[48, 49, 50, 51, 52, 53, 54, 55, 56, 57, 65, 66, 67, 68, 69, 70]⟩ : ByteArray), .int .u8 (bt a0 x9_1)] rfl (by (try simp only [zbg, Xbf, ybg]); first | done | rfl | (simp only [Zbb, ybc]; rfl)) ?_; (with_reducible refine (strings_IndexByte.calls (⟨#[48, 49, 50, 51, 52, 53, 54, 55, 56, 57, 65, 66, 67, 68, 69, 70]⟩ : ByteArray) (bt a0 x9_1) t116 _ A10.out).mono ?_); rintro e w' ⟨rfl, ⟨nd, rfl⟩⟩; refine ⟨_, rfl, ?_⟩))
         go_ret
         exact ⟨by first | rfl | (simp; done) | (simp [*]; done), by repeat (first | exact Drawn0.refl _ | apply Drawn0.step)⟩
        ·rw [if_neg c11] at H
         have c11b0 : decide (t116 < 0) = false := zbd c11
         clear c11
         have H' := Aside0.mk H
         clear H
         have p6 : 0 ≤ (x9_1 : Int) := xbc (by first | (with_reducible assumption) | assumption)
         have q6 : x9_1 < (a0.size : Int) := xbc (by first | (with_reducible assumption) | assumption)
         have hx6 := Xo a0 x9_1
         replace p6 := eq_true p6
         replace q6 := eq_true q6
         go_wp2_with (first | ((with_reducible refine Xd (f := 44) rfl ?_); refine Xj (some 15) rfl rfl Tryz.func44 (by kernel_rfl) rfl #[.string (⟨#[48, 49, 50, 51, 52, 53, 54, 55, 56, 57, 97, 98, 99, 100, 101, 102]⟩ : ByteArray), .int .u8 (bt a0 x9_1)] rfl (by (try simp only [zbg, Xbf, ybg]); first | done | rfl | (simp only [Zbb, ybc]; rfl)) ?_; (with_reducible refine (strings_IndexByte.calls (⟨#[48, 49, 50, 51, 52, 53, 54, 55, 56, 57, 97, 98, 99, 100, 101, 102]⟩ : ByteArray) (bt a0 x9_1) t115 _ A7.out).mono ?_); rintro e w' ⟨rfl, ⟨nd, rfl⟩⟩; refine ⟨_, rfl, ?_⟩; have p9 : 0 ≤ (x9_1 : Int) := xbc (by first | (with_reducible assumption) | assumption); have q9 : x9_1 < (a0.size : Int) := xbc (by first | (with_reducible assumption) | assumption); have hx9 := Xo a0 x9_1; replace p9 := eq_true p9; replace q9 := eq_true q9) | ((with_reducible refine Xd (f := 44) rfl ?_); refine Xj (some 21) rfl rfl Tryz.func44 (by kernel_rfl) rfl #[.string (⟨#[48, 49, 50, 51, 52, 53, 54, 55, 56, 57, 65, 66, 67, 68, 69, 70]⟩ : ByteArray), .int .u8 (bt a0 x9_1)] rfl (by (try simp only [zbg, Xbf, ybg]); first | done | rfl | (simp only [Zbb, ybc]; rfl)) ?_; (with_reducible refine (strings_IndexByte.calls (⟨#[48, 49, 50, 51, 52, 53, 54, 55, 56, 57, 65, 66, 67, 68, 69, 70]⟩ : ByteArray) (bt a0 x9_1) t116 _ A10.out).mono ?_); rintro e w' ⟨rfl, ⟨nd, rfl⟩⟩; refine ⟨_, rfl, ?_⟩))
         go_roundg k1
         case measure => have := HK1.out; omega
         case rel => exact ⟨(Go.bits .or .i64 (wrap64 (x3_1 * 16)) t116), (wrap64 (x9_1 + 1)), (by first | rfl | (simp; done) | (simp [*]; done)), (by first | rfl | (simp; done) | (simp [*]; done)), H', ⟨by have := HK1.out; omega⟩, by repeat (first | exact Drawn0.refl _ | apply Drawn0.step)⟩
       ·rw [if_neg c8] at H
        have c8b0 : decide (t115 < 0) = false := zbd c8
        clear c8
        have H' := Aside0.mk H
        clear H
        have p6 : 0 ≤ (x9_1 : Int) := xbc (by first | (with_reducible assumption) | assumption)
        have q6 : x9_1 < (a0.size : Int) := xbc (by first | (with_reducible assumption) | assumption)
        have hx6 := Xo a0 x9_1
        replace p6 := eq_true p6
        replace q6 := eq_true q6
        go_wp2_with (first | ((with_reducible refine Xd (f := 44) rfl ?_); refine Xj (some 15) rfl rfl Tryz.func44 (by kernel_rfl) rfl #[.string (⟨#[48, 49, 50, 51, 52, 53, 54, 55, 56, 57, 97, 98, 99, 100, 101, 102]⟩ : ByteArray), .int .u8 (bt a0 x9_1)] rfl (by (try simp only [zbg, Xbf, ybg]); first | done | rfl | (simp only [Zbb, ybc]; rfl)) ?_; (with_reducible refine (strings_IndexByte.calls (⟨#[48, 49, 50, 51, 52, 53, 54, 55, 56, 57, 97, 98, 99, 100, 101, 102]⟩ : ByteArray) (bt a0 x9_1) t115 _ A7.out).mono ?_); rintro e w' ⟨rfl, ⟨nd, rfl⟩⟩; refine ⟨_, rfl, ?_⟩))
        go_roundg k1
        case measure => have := HK1.out; omega
        case rel => exact ⟨(Go.bits .or .i64 (wrap64 (x3_1 * 16)) t115), (wrap64 (x9_1 + 1)), (by first | rfl | (simp; done) | (simp [*]; done)), (by first | rfl | (simp; done) | (simp [*]; done)), H', ⟨by have := HK1.out; omega⟩, by repeat (first | exact Drawn0.refl _ | apply Drawn0.step)⟩
      ·rw [if_neg c5] at H
       exact absurd H (by simp)
     ·rw [if_neg c4] at H
      exact absurd H (by simp)
    ·rw [if_neg c3] at H
     have c3b0 : decide (x9_1 < 4) = false := zbd c3
     clear c3
     obtain rfl := Option.some.inj H
     go_wp2
     go_ret
     exact ⟨by first | rfl | (simp; done) | (simp [*]; done), by repeat (first | exact Drawn0.refl _ | apply Drawn0.step)⟩
mutual
def zf.j0 : Nat → ByteArray → Int → Bool → Option (Int × Int)
 | 0, _, _, _ => none
 | k + 1, x0, x4, x13 => if x13 = true then (some (x4, 4)) else (if x4 ≥ 56320 then (zf.j1 k x0 x4 true) else (if (x0.size : Int) < 6 then (zf.j1 k x0 x4 true) else (if 4 < (x0.size : Int) then (if (bt x0 4) = 92 then (if 5 < (x0.size : Int) then (zf.j1 k x0 x4 ((bt x0 5) != 117)) else (none)) else (zf.j1 k x0 x4 true)) else (none))))
def zf.j1 : Nat → ByteArray → Int → Bool → Option (Int × Int)
 | 0, _, _, _ => none
 | k + 1, x0, x4, x31 => if x31 = true then (some ((-1), 0)) else (if 6 ≤ (x0.size : Int) then ((zi.f k (x0.extract 6 x0.size)).bind fun t118 => (if t118 < 56320 then (some ((-1), 0)) else (if t118 ≥ 57344 then (some ((-1), 0)) else (some (wrap64 ((wrap64 ((wrap64 (65536 + (wrap64 ((wrap64 (x4 - 55296)) * 1024)))) + t118)) - 56320), 10))))) else (none))
end
def zf.f (k : Nat) (a0 : ByteArray) : Option (Int × Int) := (zi.f k a0).bind fun t117 => (if t117 < 55296 then (zf.j0 k a0 t117 true) else (zf.j0 k a0 t117 (decide (t117 ≥ 57344))))
theorem zf.calls (k : Nat) (a0 : ByteArray) (r1 : Int) (r2 : Int) (w : World) (h : zf.f k a0 = some (r1, r2)) :
  Calls Tryz.prog 93 #[.string a0] w fun e w' => e = .returned (.tuple #[.int .i64 r1, .int .i64 r2]) ∧ Drawn0 w w' := by
 have H : ((zi.f k a0).bind fun t117 => (if t117 < 55296 then (zf.j0 k a0 t117 true) else (zf.j0 k a0 t117 (decide (t117 ≥ 57344))))) = some (r1, r2) := h
 clear h
 replace H := Ybe.mp H
 obtain ⟨t117, A20, H⟩ := H
 replace H : (if t117 < 55296 then (zf.j0 k a0 t117 true) else (zf.j0 k a0 t117 (decide (t117 ≥ 57344)))) = some (r1, r2) := H
 have A2 := Aside0.mk A20
 clear A20
 have HC3 := Aside0.mk H
 clear H
 go_enter Tryz.func93, Tryz.ntmps93
 go_upto_region 2 with (first | ((with_reducible refine Xd (f := 108) rfl ?_); refine Xj (some 7) rfl rfl Tryz.func108 (by kernel_rfl) rfl #[.string a0] rfl (by (try simp only [zbg, Xbf, ybg]); first | done | rfl | (simp only [Zbb, ybc]; rfl)) ?_; (with_reducible refine (zi.calls k a0 t117 _ A2.out).mono ?_); rintro e w' ⟨rfl, ⟨nd, rfl⟩⟩; refine ⟨_, rfl, ?_⟩))
 (try simp only [Act.put, qA, qB, qC])
 go_cut [13] (fun v13 wc => ∃ (kq : Nat) (x13_2 : Bool), v13 = .bool x13_2 ∧ Aside0 (zf.j0 kq a0 t117 x13_2 = some (r1, r2)) ∧ Aside0 (kq ≤ k) ∧ Drawn0 w wc)
 case first =>
  have H := HC3.out
  clear HC3
  by_cases c4 : t117 < 55296
  ·rw [if_pos c4] at H
   have c4b0 : decide (t117 < 55296) = true := decide_eq_true c4
   clear c4
   (first | rw [c4b0] | (simp only [i64_w, zn]; rw [c4b0]) | skip)
   have H' := Aside0.mk H
   clear H
   go_wp2
   go_meet
   case rel => exact ⟨_, (true), (by first | rfl | (simp; done) | (simp [*]; done)), H', ⟨by first | omega | exact Xbc _⟩, by repeat (first | exact Drawn0.refl _ | apply Drawn0.step)⟩
  ·rw [if_neg c4] at H
   have c4b0 : decide (t117 < 55296) = false := zbd c4
   clear c4
   (first | rw [c4b0] | (simp only [i64_w, zn]; rw [c4b0]) | skip)
   have H' := Aside0.mk H
   clear H
   go_wp2
   go_meet
   case rel => exact ⟨_, (decide (t117 ≥ 57344)), (by first | rfl | (simp; done) | (simp [*]; done)), H', ⟨by first | omega | exact Xbc _⟩, by repeat (first | exact Drawn0.refl _ | apply Drawn0.step)⟩
 case rest =>
  clear HC3
  try clear c1
  try clear p2
  try clear c4
  try clear c4b0
  obtain ⟨kq, x13_2, rfl, HA, HJ2, ⟨mc2, rfl⟩⟩ := hcut
  cases kq with
  | zero => exact absurd HA.out (by simp [zf.j0])
  | succ kj2 =>
   have H := HA.out
   clear HA
   simp only [zf.j0] at H
   by_cases c5 : x13_2 = true
   ·subst c5
    have H1 : (some (t117, 4)) = some (r1, r2) := by rw [if_pos rfl] at H; exact H
    clear H
    have H := H1
    clear H1
    simp only [Option.some.injEq, Prod.mk.injEq] at H
    obtain ⟨rfl, rfl⟩ := H
    go_wp2
    go_ret2
    exact ⟨by first | rfl | (simp; done) | (simp [*]; done), by repeat (first | exact Drawn0.refl _ | apply Drawn0.step)⟩
   ·replace c5 := ybh.mpr c5
    subst c5
    have H1 : (if t117 ≥ 56320 then (zf.j1 kj2 a0 t117 true) else (if (a0.size : Int) < 6 then (zf.j1 kj2 a0 t117 true) else (if 4 < (a0.size : Int) then (if (bt a0 4) = 92 then (if 5 < (a0.size : Int) then (zf.j1 kj2 a0 t117 ((bt a0 5) != 117)) else (none)) else (zf.j1 kj2 a0 t117 true)) else (none)))) = some (r1, r2) := by rw [if_neg (show ¬ (false = true) by decide)] at H; exact H
    clear H
    have H := H1
    clear H1
    have HC6 := Aside0.mk H
    clear H
    go_upto_region 4 with (fail)
    go_cut [31] (fun v31 wc => ∃ (kq : Nat) (x31_5 : Bool), v31 = .bool x31_5 ∧ Aside0 (zf.j1 kq a0 t117 x31_5 = some (r1, r2)) ∧ Aside0 (kq ≤ kj2) ∧ Drawn0 w wc)
    case first =>
     have H := HC6.out
     clear HC6
     by_cases c7 : t117 ≥ 56320
     ·rw [if_pos c7] at H
      have c7b0 : decide (56320 ≤ t117) = true := decide_eq_true c7
      clear c7
      (first | rw [c7b0] | (simp only [i64_w, zn]; rw [c7b0]) | skip)
      have H' := Aside0.mk H
      clear H
      go_wp2
      go_meet
      case rel => exact ⟨_, (true), (by first | rfl | (simp; done) | (simp [*]; done)), H', ⟨by have := HJ2.out; first | omega | exact Xbc _⟩, by repeat (first | exact Drawn0.refl _ | apply Drawn0.step)⟩
     ·rw [if_neg c7] at H
      have c7b0 : decide (56320 ≤ t117) = false := zbd c7
      clear c7
      (first | rw [c7b0] | (simp only [i64_w, zn]; rw [c7b0]) | skip)
      by_cases c8 : (a0.size : Int) < 6
      ·rw [if_pos c8] at H
       have c8b0 : decide ((a0.size : Int) < 6) = true := decide_eq_true c8
       have c8b1 : decide (a0.size < 6) = true := decide_eq_true (by omega)
       clear c8
       have H' := Aside0.mk H
       clear H
       go_wp2
       go_meet
       case rel => exact ⟨_, (true), (by first | rfl | (simp; done) | (simp [*]; done)), H', ⟨by have := HJ2.out; first | omega | exact Xbc _⟩, by repeat (first | exact Drawn0.refl _ | apply Drawn0.step)⟩
      ·rw [if_neg c8] at H
       have c8b0 : decide ((a0.size : Int) < 6) = false := zbd c8
       have c8b1 : decide (a0.size < 6) = false := zbd (by omega)
       clear c8
       by_cases c9 : 4 < (a0.size : Int)
       ·rw [if_pos c9] at H
        have c9b0 : decide (4 < (a0.size : Int)) = true := decide_eq_true c9
        have c9b1 : decide (4 < a0.size) = true := decide_eq_true (by omega)
        clear c9
        by_cases c11 : (bt a0 4) = 92
        ·rw [if_pos c11] at H
         have c11b0 : ((bt a0 4) == 92) = true := Ybf.mpr c11
         have c11b1 : ((bt a0 4) != 92) = false := Ybh.mpr c11
         clear c11
         by_cases c12 : 5 < (a0.size : Int)
         ·rw [if_pos c12] at H
          have c12b0 : decide (5 < (a0.size : Int)) = true := decide_eq_true c12
          have c12b1 : decide (5 < a0.size) = true := decide_eq_true (by omega)
          clear c12
          have H' := Aside0.mk H
          clear H
          have p10 : 0 ≤ (4 : Int) := (by omega)
          have q10 : 4 < a0.size := (by have : (4 : Int) < (a0.size : Int) := xbc (by first | (with_reducible assumption) | assumption); omega)
          have hx10 : ∀ h : 4 < a0.size, ((a0[4]'h).toNat : Int) = bt a0 4 := Xo a0 4
          clear p10
          have qi10 : (4 < (a0.size : Int)) = True := eq_true (xbc (by first | (with_reducible assumption) | assumption))
          replace q10 := eq_true q10
          have p13 : 0 ≤ (5 : Int) := (by omega)
          have q13 : 5 < a0.size := (by have : (5 : Int) < (a0.size : Int) := xbc (by first | (with_reducible assumption) | assumption); omega)
          have hx13 : ∀ h : 5 < a0.size, ((a0[5]'h).toNat : Int) = bt a0 5 := Xo a0 5
          clear p13
          have qi13 : (5 < (a0.size : Int)) = True := eq_true (xbc (by first | (with_reducible assumption) | assumption))
          replace q13 := eq_true q13
          go_wp2
          go_meet
          case rel => exact ⟨_, (((bt a0 5) != 117)), (by first | rfl | (simp; done) | (simp [*]; done)), H', ⟨by have := HJ2.out; first | omega | exact Xbc _⟩, by repeat (first | exact Drawn0.refl _ | apply Drawn0.step)⟩
         ·rw [if_neg c12] at H
          exact absurd H (by simp)
        ·rw [if_neg c11] at H
         have c11b0 : ((bt a0 4) == 92) = false := Ybb.mpr c11
         have c11b1 : ((bt a0 4) != 92) = true := Zbh.mpr c11
         have H' := Aside0.mk H
         clear H
         have p10 : 0 ≤ (4 : Int) := (by omega)
         have q10 : 4 < a0.size := (by have : (4 : Int) < (a0.size : Int) := xbc (by first | (with_reducible assumption) | assumption); omega)
         have hx10 : ∀ h : 4 < a0.size, ((a0[4]'h).toNat : Int) = bt a0 4 := Xo a0 4
         clear p10
         have qi10 : (4 < (a0.size : Int)) = True := eq_true (xbc (by first | (with_reducible assumption) | assumption))
         replace q10 := eq_true q10
         go_wp2
         go_meet
         case rel => exact ⟨_, (true), (by first | rfl | (simp; done) | (simp [*]; done)), H', ⟨by have := HJ2.out; first | omega | exact Xbc _⟩, by repeat (first | exact Drawn0.refl _ | apply Drawn0.step)⟩
       ·rw [if_neg c9] at H
        exact absurd H (by simp)
    case rest =>
     clear HC6
     try clear c1
     try clear p1
     try clear q1
     try clear hx1
     try clear qi1
     try clear c2
     try clear p2
     try clear c4
     try clear c4b0
     try clear c5
     try clear c7
     try clear c7b0
     try clear c8
     try clear c8b0
     try clear c8b1
     try clear c9
     try clear c9b0
     try clear c9b1
     try clear c10
     try clear p10
     try clear q10
     try clear hx10
     try clear qi10
     try clear c11
     try clear c11b0
     try clear c11b1
     try clear c12
     try clear c12b0
     try clear c12b1
     try clear p13
     try clear q13
     try clear hx13
     try clear qi13
     try clear p10
     try clear p13
     try clear p2
     try clear q10
     try clear q13
     obtain ⟨kq, x31_5, rfl, HA, HJ5, ⟨mc5, rfl⟩⟩ := hcut
     cases kq with
     | zero => exact absurd HA.out (by simp [zf.j1])
     | succ kj5 =>
      have H := HA.out
      clear HA
      simp only [zf.j1] at H
      by_cases c14 : x31_5 = true
      ·subst c14
       have H1 : (some ((-1), 0)) = some (r1, r2) := by rw [if_pos rfl] at H; exact H
       clear H
       have H := H1
       clear H1
       simp only [Option.some.injEq, Prod.mk.injEq] at H
       obtain ⟨rfl, rfl⟩ := H
       go_wp2
       go_ret2
       exact ⟨by first | rfl | (simp; done) | (simp [*]; done), by repeat (first | exact Drawn0.refl _ | apply Drawn0.step)⟩
      ·replace c14 := ybh.mpr c14
       subst c14
       have H1 : (if 6 ≤ (a0.size : Int) then ((zi.f kj5 (a0.extract 6 a0.size)).bind fun t118 => (if t118 < 56320 then (some ((-1), 0)) else (if t118 ≥ 57344 then (some ((-1), 0)) else (some (wrap64 ((wrap64 ((wrap64 (65536 + (wrap64 ((wrap64 (t117 - 55296)) * 1024)))) + t118)) - 56320), 10))))) else (none)) = some (r1, r2) := by rw [if_neg (show ¬ (false = true) by decide)] at H; exact H
       clear H
       have H := H1
       clear H1
       by_cases c15 : 6 ≤ (a0.size : Int)
       ·rw [if_pos c15] at H
        have c15b0 := eq_true c15
        have c15b1 : decide (6 ≤ (a0.size : Int)) = true := decide_eq_true c15
        clear c15
        replace H := Ybe.mp H
        obtain ⟨t118, A160, H⟩ := H
        replace H : (if t118 < 56320 then (some ((-1), 0)) else (if t118 ≥ 57344 then (some ((-1), 0)) else (some (wrap64 ((wrap64 ((wrap64 (65536 + (wrap64 ((wrap64 (t117 - 55296)) * 1024)))) + t118)) - 56320), 10)))) = some (r1, r2) := H
        have A16 := Aside0.mk A160
        clear A160
        by_cases c17 : t118 < 56320
        ·rw [if_pos c17] at H
         have c17b0 : decide (t118 < 56320) = true := decide_eq_true c17
         clear c17
         simp only [Option.some.injEq, Prod.mk.injEq] at H
         obtain ⟨rfl, rfl⟩ := H
         go_wp2_with (first | ((with_reducible refine Xd (f := 108) rfl ?_); refine Xj (some 34) rfl rfl Tryz.func108 (by kernel_rfl) rfl #[.string (a0.extract 6 a0.size)] rfl (by (try simp only [zbg, Xbf, ybg]); first | done | rfl | (simp only [Zbb, ybc]; rfl)) ?_; (with_reducible refine (zi.calls kj5 (a0.extract 6 a0.size) t118 _ A16.out).mono ?_); rintro e w' ⟨rfl, ⟨nd, rfl⟩⟩; refine ⟨_, rfl, ?_⟩))
         go_ret2
         exact ⟨by first | rfl | (simp; done) | (simp [*]; done), by repeat (first | exact Drawn0.refl _ | apply Drawn0.step)⟩
        ·rw [if_neg c17] at H
         have c17b0 : decide (t118 < 56320) = false := zbd c17
         clear c17
         by_cases c18 : t118 ≥ 57344
         ·rw [if_pos c18] at H
          have c18b0 : decide (57344 ≤ t118) = true := decide_eq_true c18
          clear c18
          simp only [Option.some.injEq, Prod.mk.injEq] at H
          obtain ⟨rfl, rfl⟩ := H
          go_wp2_with (first | ((with_reducible refine Xd (f := 108) rfl ?_); refine Xj (some 34) rfl rfl Tryz.func108 (by kernel_rfl) rfl #[.string (a0.extract 6 a0.size)] rfl (by (try simp only [zbg, Xbf, ybg]); first | done | rfl | (simp only [Zbb, ybc]; rfl)) ?_; (with_reducible refine (zi.calls kj5 (a0.extract 6 a0.size) t118 _ A16.out).mono ?_); rintro e w' ⟨rfl, ⟨nd, rfl⟩⟩; refine ⟨_, rfl, ?_⟩))
          go_ret2
          exact ⟨by first | rfl | (simp; done) | (simp [*]; done), by repeat (first | exact Drawn0.refl _ | apply Drawn0.step)⟩
         ·rw [if_neg c18] at H
          have c18b0 : decide (57344 ≤ t118) = false := zbd c18
          clear c18
          simp only [Option.some.injEq, Prod.mk.injEq] at H
          obtain ⟨rfl, rfl⟩ := H
          go_wp2_with (first | ((with_reducible refine Xd (f := 108) rfl ?_); refine Xj (some 34) rfl rfl Tryz.func108 (by kernel_rfl) rfl #[.string (a0.extract 6 a0.size)] rfl (by (try simp only [zbg, Xbf, ybg]); first | done | rfl | (simp only [Zbb, ybc]; rfl)) ?_; (with_reducible refine (zi.calls kj5 (a0.extract 6 a0.size) t118 _ A16.out).mono ?_); rintro e w' ⟨rfl, ⟨nd, rfl⟩⟩; refine ⟨_, rfl, ?_⟩))
          go_ret2
          exact ⟨by first | rfl | (simp; done) | (simp [*]; done), by repeat (first | exact Drawn0.refl _ | apply Drawn0.step)⟩
       ·rw [if_neg c15] at H
        exact absurd H (by simp)
def Yl.j0 : Nat → ByteArray → Int → Bool → Option (ByteArray × Int × Int)
 | 0, _, _, _ => none
 | k + 1, x0, x24, x25 => if x25 = true then (if 1 ≤ 2 then (if 2 ≤ (x0.size : Int) then (some (x0.extract 1 2, 2, 0)) else (none)) else (none)) else (if x24 = 117 then (if 2 ≤ (x0.size : Int) then ((zf.f k (x0.extract 2 x0.size)).bind fun bt120 => ((zK.f k bt120.1).bind fun bt122 => (if bt122.2 = true then (some (bt122.1, wrap64 (2 + bt120.2), 0)) else (some ((⟨#[]⟩ : ByteArray), 0, 73))))) else (none)) else (some ((⟨#[]⟩ : ByteArray), 0, 73)))
def Yl.f (k : Nat) (a0 : ByteArray) : Option (ByteArray × Int × Int) := if (a0.size : Int) < 2 then (some ((⟨#[]⟩ : ByteArray), 0, 73)) else (if 1 < (a0.size : Int) then ((strings_IndexByte.f (⟨#[98, 116, 110, 102, 114]⟩ : ByteArray) (bt a0 1)).bind fun t119 => (if t119 ≥ 0 then (if 0 ≤ t119 then (if t119 ≤ (wrap64 (t119 + 1)) then (if (wrap64 (t119 + 1)) ≤ 5 then (some ((⟨#[8, 9, 10, 12, 13]⟩ : ByteArray).extract (t119 : Int).toNat ((wrap64 (t119 + 1)) : Int).toNat, 2, 0)) else (none)) else (none)) else (none)) else (if (bt a0 1) = 34 then (Yl.j0 k a0 (bt a0 1) ((bt a0 1) == 34)) else (if (bt a0 1) = 92 then (Yl.j0 k a0 (bt a0 1) ((bt a0 1) == 92)) else (Yl.j0 k a0 (bt a0 1) ((bt a0 1) == 47)))))) else (none))
theorem Yl.calls (k : Nat) (a0 : ByteArray) (r1 : ByteArray) (r2 : Int) (r3 : Int) (w : World) (h : Yl.f k a0 = some (r1, r2, r3)) :
  Calls Tryz.prog 82 #[.string a0] w fun e w' => e = .returned (.tuple #[.string r1, .int .i64 r2, .int .i64 r3]) ∧ Drawn0 w w' := by
 have H : (if (a0.size : Int) < 2 then (some ((⟨#[]⟩ : ByteArray), 0, 73)) else (if 1 < (a0.size : Int) then ((strings_IndexByte.f (⟨#[98, 116, 110, 102, 114]⟩ : ByteArray) (bt a0 1)).bind fun t119 => (if t119 ≥ 0 then (if 0 ≤ t119 then (if t119 ≤ (wrap64 (t119 + 1)) then (if (wrap64 (t119 + 1)) ≤ 5 then (some ((⟨#[8, 9, 10, 12, 13]⟩ : ByteArray).extract (t119 : Int).toNat ((wrap64 (t119 + 1)) : Int).toNat, 2, 0)) else (none)) else (none)) else (none)) else (if (bt a0 1) = 34 then (Yl.j0 k a0 (bt a0 1) ((bt a0 1) == 34)) else (if (bt a0 1) = 92 then (Yl.j0 k a0 (bt a0 1) ((bt a0 1) == 92)) else (Yl.j0 k a0 (bt a0 1) ((bt a0 1) == 47)))))) else (none))) = some (r1, r2, r3) := h
 clear h
 by_cases c2 : (a0.size : Int) < 2
 ·rw [if_pos c2] at H
  have c2b0 : decide ((a0.size : Int) < 2) = true := decide_eq_true c2
  have c2b1 : decide (a0.size < 2) = true := decide_eq_true (by omega)
  clear c2
  simp only [Option.some.injEq, Prod.mk.injEq] at H
  obtain ⟨rfl, rfl, rfl⟩ := H
  go_enter Tryz.func82, Tryz.ntmps82
  go_wp2
  go_ret3
  exact ⟨by first | rfl | (simp; done) | (simp [*]; done), by repeat (first | exact Drawn0.refl _ | apply Drawn0.step)⟩
 ·rw [if_neg c2] at H
  have c2b0 : decide ((a0.size : Int) < 2) = false := zbd c2
  have c2b1 : decide (a0.size < 2) = false := zbd (by omega)
  clear c2
  by_cases c3 : 1 < (a0.size : Int)
  ·rw [if_pos c3] at H
   have c3b0 : decide (1 < (a0.size : Int)) = true := decide_eq_true c3
   have c3b1 : decide (1 < a0.size) = true := decide_eq_true (by omega)
   clear c3
   replace H := Ybe.mp H
   obtain ⟨t119, A50, H⟩ := H
   replace H : (if t119 ≥ 0 then (if 0 ≤ t119 then (if t119 ≤ (wrap64 (t119 + 1)) then (if (wrap64 (t119 + 1)) ≤ 5 then (some ((⟨#[8, 9, 10, 12, 13]⟩ : ByteArray).extract (t119 : Int).toNat ((wrap64 (t119 + 1)) : Int).toNat, 2, 0)) else (none)) else (none)) else (none)) else (if (bt a0 1) = 34 then (Yl.j0 k a0 (bt a0 1) ((bt a0 1) == 34)) else (if (bt a0 1) = 92 then (Yl.j0 k a0 (bt a0 1) ((bt a0 1) == 92)) else (Yl.j0 k a0 (bt a0 1) ((bt a0 1) == 47))))) = some (r1, r2, r3) := H
   have A5 := Aside0.mk A50
   clear A50
   by_cases c6 : t119 ≥ 0
   ·rw [if_pos c6] at H
    have c6b0 : decide (0 ≤ t119) = true := decide_eq_true c6
    clear c6
    by_cases c7 : 0 ≤ t119
    ·rw [if_pos c7] at H
     have c7b0 := eq_true c7
     have c7b1 : decide (0 ≤ t119) = true := decide_eq_true c7
     clear c7
     by_cases c8 : t119 ≤ (wrap64 (t119 + 1))
     ·rw [if_pos c8] at H
      have c8b0 := eq_true c8
      have c8b1 : decide (t119 ≤ (wrap64 (t119 + 1))) = true := decide_eq_true c8
      by_cases c9 : (wrap64 (t119 + 1)) ≤ 5
      ·rw [if_pos c9] at H
       have c9b0 := eq_true c9
       have c9b1 : decide ((wrap64 (t119 + 1)) ≤ 5) = true := decide_eq_true c9
       simp only [Option.some.injEq, Prod.mk.injEq] at H
       obtain ⟨rfl, rfl, rfl⟩ := H
       have p4 : 0 ≤ (1 : Int) := (by omega)
       have q4 : 1 < a0.size := (by have : (1 : Int) < (a0.size : Int) := xbc (by first | (with_reducible assumption) | assumption); omega)
       have hx4 : ∀ h : 1 < a0.size, ((a0[1]'h).toNat : Int) = bt a0 1 := Xo a0 1
       clear p4
       have qi4 : (1 < (a0.size : Int)) = True := eq_true (xbc (by first | (with_reducible assumption) | assumption))
       replace q4 := eq_true q4
       go_enter Tryz.func82, Tryz.ntmps82
       go_wp2_with (first | ((with_reducible refine Xd (f := 44) rfl ?_); refine Xj (some 17) rfl rfl Tryz.func44 (by kernel_rfl) rfl #[.string (⟨#[98, 116, 110, 102, 114]⟩ : ByteArray), .int .u8 (bt a0 1)] rfl (by (try simp only [zbg, Xbf, ybg]); first | done | rfl | (simp only [Zbb, ybc]; rfl)) ?_; (with_reducible refine (strings_IndexByte.calls (⟨#[98, 116, 110, 102, 114]⟩ : ByteArray) (bt a0 1) t119 _ A5.out).mono ?_); rintro e w' ⟨rfl, ⟨nd, rfl⟩⟩; refine ⟨_, rfl, ?_⟩))
       go_ret3
       exact ⟨by first | rfl | (simp; done) | (simp [*]; done), by repeat (first | exact Drawn0.refl _ | apply Drawn0.step)⟩
      ·rw [if_neg c9] at H
       exact absurd H (by simp)
     ·rw [if_neg c8] at H
      exact absurd H (by simp)
    ·rw [if_neg c7] at H
     exact absurd H (by simp)
   ·rw [if_neg c6] at H
    have c6b0 : decide (0 ≤ t119) = false := zbd c6
    clear c6
    have HC10 := Aside0.mk H
    clear H
    have p4 : 0 ≤ (1 : Int) := (by omega)
    have q4 : 1 < a0.size := (by have : (1 : Int) < (a0.size : Int) := xbc (by first | (with_reducible assumption) | assumption); omega)
    have hx4 : ∀ h : 1 < a0.size, ((a0[1]'h).toNat : Int) = bt a0 1 := Xo a0 1
    clear p4
    have qi4 : (1 < (a0.size : Int)) = True := eq_true (xbc (by first | (with_reducible assumption) | assumption))
    replace q4 := eq_true q4
    go_enter Tryz.func82, Tryz.ntmps82
    go_upto_if 25 with (first | ((with_reducible refine Xd (f := 44) rfl ?_); refine Xj (some 17) rfl rfl Tryz.func44 (by kernel_rfl) rfl #[.string (⟨#[98, 116, 110, 102, 114]⟩ : ByteArray), .int .u8 (bt a0 1)] rfl (by (try simp only [zbg, Xbf, ybg]); first | done | rfl | (simp only [Zbb, ybc]; rfl)) ?_; (with_reducible refine (strings_IndexByte.calls (⟨#[98, 116, 110, 102, 114]⟩ : ByteArray) (bt a0 1) t119 _ A5.out).mono ?_); rintro e w' ⟨rfl, ⟨nd, rfl⟩⟩; refine ⟨_, rfl, ?_⟩))
    (try simp only [Act.put, qA, qB, qC])
    go_cut [25] (fun v25 wc => ∃ (kq : Nat) (x25_9 : Bool), v25 = .bool x25_9 ∧ Aside0 (Yl.j0 kq a0 (bt a0 1) x25_9 = some (r1, r2, r3)) ∧ Aside0 (kq ≤ k) ∧ Drawn0 w wc)
    case first =>
     have H := HC10.out
     clear HC10
     by_cases c11 : (bt a0 1) = 34
     ·rw [if_pos c11] at H
      have c11b0 : ((bt a0 1) == 34) = true := Ybf.mpr c11
      have c11b1 : ((bt a0 1) != 34) = false := Ybh.mpr c11
      clear c11
      (first | rw [c11b0] | (simp only [i64_w, zn]; rw [c11b0]) | skip)
      have H' := Aside0.mk H
      clear H
      go_wp2
      go_meet
      case rel => exact ⟨_, (((bt a0 1) == 34)), (by first | rfl | (simp; done) | (simp [*]; done)), H', ⟨by first | omega | exact Xbc _⟩, by repeat (first | exact Drawn0.refl _ | apply Drawn0.step)⟩
     ·rw [if_neg c11] at H
      have c11b0 : ((bt a0 1) == 34) = false := Ybb.mpr c11
      have c11b1 : ((bt a0 1) != 34) = true := Zbh.mpr c11
      (first | rw [c11b0] | (simp only [i64_w, zn]; rw [c11b0]) | skip)
      by_cases c12 : (bt a0 1) = 92
      ·rw [if_pos c12] at H
       have c12b0 : ((bt a0 1) == 92) = true := Ybf.mpr c12
       have c12b1 : ((bt a0 1) != 92) = false := Ybh.mpr c12
       clear c12
       have H' := Aside0.mk H
       clear H
       go_wp2
       go_meet
       case rel => exact ⟨_, (((bt a0 1) == 92)), (by first | rfl | (simp; done) | (simp [*]; done)), H', ⟨by first | omega | exact Xbc _⟩, by repeat (first | exact Drawn0.refl _ | apply Drawn0.step)⟩
      ·rw [if_neg c12] at H
       have c12b0 : ((bt a0 1) == 92) = false := Ybb.mpr c12
       have c12b1 : ((bt a0 1) != 92) = true := Zbh.mpr c12
       have H' := Aside0.mk H
       clear H
       go_wp2
       go_meet
       case rel => exact ⟨_, (((bt a0 1) == 47)), (by first | rfl | (simp; done) | (simp [*]; done)), H', ⟨by first | omega | exact Xbc _⟩, by repeat (first | exact Drawn0.refl _ | apply Drawn0.step)⟩
    case rest =>
     clear HC10
     try clear c1
     try clear c2
     try clear c2b0
     try clear c2b1
     try clear p2
     try clear c3
     try clear c3b0
     try clear c3b1
     try clear p4
     try clear q4
     try clear hx4
     try clear qi4
     try clear c6
     try clear c6b0
     try clear p6
     try clear c7
     try clear c7b0
     try clear c7b1
     try clear c8
     try clear c8b0
     try clear c8b1
     try clear c9
     try clear c9b0
     try clear c9b1
     try clear c11
     try clear c11b0
     try clear c11b1
     try clear c12
     try clear c12b0
     try clear c12b1
     try clear p4
     try clear q4
     obtain ⟨kq, x25_9, rfl, HA, HJ9, ⟨mc9, rfl⟩⟩ := hcut
     cases kq with
     | zero => exact absurd HA.out (by simp [Yl.j0])
     | succ kj9 =>
      have H := HA.out
      clear HA
      simp only [Yl.j0] at H
      by_cases c13 : x25_9 = true
      ·subst c13
       have H1 : (if 1 ≤ 2 then (if 2 ≤ (a0.size : Int) then (some (a0.extract 1 2, 2, 0)) else (none)) else (none)) = some (r1, r2, r3) := by rw [if_pos rfl] at H; exact H
       clear H
       have H := H1
       clear H1
       by_cases c14 : 1 ≤ 2
       ·rw [if_pos c14] at H
        have c14b0 := eq_true c14
        have c14b1 : decide (1 ≤ 2) = true := decide_eq_true c14
        clear c14
        by_cases c15 : 2 ≤ (a0.size : Int)
        ·rw [if_pos c15] at H
         have c15b0 := eq_true c15
         have c15b1 : decide (2 ≤ (a0.size : Int)) = true := decide_eq_true c15
         clear c15
         simp only [Option.some.injEq, Prod.mk.injEq] at H
         obtain ⟨rfl, rfl, rfl⟩ := H
         go_wp2
         go_ret3
         exact ⟨by first | rfl | (simp; done) | (simp [*]; done), by repeat (first | exact Drawn0.refl _ | apply Drawn0.step)⟩
        ·rw [if_neg c15] at H
         exact absurd H (by simp)
       ·rw [if_neg c14] at H
        exact absurd H (by simp)
      ·replace c13 := ybh.mpr c13
       subst c13
       have H1 : (if (bt a0 1) = 117 then (if 2 ≤ (a0.size : Int) then ((zf.f kj9 (a0.extract 2 a0.size)).bind fun bt120 => ((zK.f kj9 bt120.1).bind fun bt122 => (if bt122.2 = true then (some (bt122.1, wrap64 (2 + bt120.2), 0)) else (some ((⟨#[]⟩ : ByteArray), 0, 73))))) else (none)) else (some ((⟨#[]⟩ : ByteArray), 0, 73))) = some (r1, r2, r3) := by rw [if_neg (show ¬ (false = true) by decide)] at H; exact H
       clear H
       have H := H1
       clear H1
       by_cases c16 : (bt a0 1) = 117
       ·rw [if_pos c16] at H
        have c16b0 : ((bt a0 1) == 117) = true := Ybf.mpr c16
        have c16b1 : ((bt a0 1) != 117) = false := Ybh.mpr c16
        clear c16
        by_cases c17 : 2 ≤ (a0.size : Int)
        ·rw [if_pos c17] at H
         have c17b0 := eq_true c17
         have c17b1 : decide (2 ≤ (a0.size : Int)) = true := decide_eq_true c17
         clear c17
         replace H := Ybe.mp H
         obtain ⟨⟨t120, t121⟩, A180, H⟩ := H
         replace H : ((zK.f kj9 t120).bind fun bt122 => (if bt122.2 = true then (some (bt122.1, wrap64 (2 + t121), 0)) else (some ((⟨#[]⟩ : ByteArray), 0, 73)))) = some (r1, r2, r3) := H
         have A18 := Aside0.mk A180
         clear A180
         replace H := Ybe.mp H
         obtain ⟨⟨t122, t123⟩, A190, H⟩ := H
         replace H : (if t123 = true then (some (t122, wrap64 (2 + t121), 0)) else (some ((⟨#[]⟩ : ByteArray), 0, 73))) = some (r1, r2, r3) := H
         have A19 := Aside0.mk A190
         clear A190
         by_cases c20 : t123 = true
         ·subst c20
          have H1 : (some (t122, wrap64 (2 + t121), 0)) = some (r1, r2, r3) := by rw [if_pos rfl] at H; exact H
          clear H
          have H := H1
          clear H1
          simp only [Option.some.injEq, Prod.mk.injEq] at H
          obtain ⟨rfl, rfl, rfl⟩ := H
          go_wp2_with (first | ((with_reducible refine Xd (f := 93) rfl ?_); refine Xj (some 36) rfl rfl Tryz.func93 (by kernel_rfl) rfl #[.string (a0.extract 2 a0.size)] rfl (by (try simp only [zbg, Xbf, ybg]); first | done | rfl | (simp only [Zbb, ybc]; rfl)) ?_; (with_reducible refine (zf.calls kj9 (a0.extract 2 a0.size) t120 t121 _ A18.out).mono ?_); rintro e w' ⟨rfl, ⟨nd, rfl⟩⟩; refine ⟨_, rfl, ?_⟩) | ((with_reducible refine Xd (f := 94) rfl ?_); refine Xj (some 41) rfl rfl Tryz.func94 (by kernel_rfl) rfl #[.int .i64 t120] rfl (by (try simp only [zbg, Xbf, ybg]); first | done | rfl | (simp only [Zbb, ybc]; rfl)) ?_; (with_reducible refine (zK.calls kj9 t120 t122 true _ A19.out).mono ?_); rintro e w' ⟨rfl, ⟨nd, rfl⟩⟩; refine ⟨_, rfl, ?_⟩))
          go_ret3
          exact ⟨by first | rfl | (simp; done) | (simp [*]; done), by repeat (first | exact Drawn0.refl _ | apply Drawn0.step)⟩
         ·replace c20 := ybh.mpr c20
          subst c20
          have H1 : (some ((⟨#[]⟩ : ByteArray), 0, 73)) = some (r1, r2, r3) := by rw [if_neg (show ¬ (false = true) by decide)] at H; exact H
          clear H
          have H := H1
          clear H1
          simp only [Option.some.injEq, Prod.mk.injEq] at H
          obtain ⟨rfl, rfl, rfl⟩ := H
          go_wp2_with (first | ((with_reducible refine Xd (f := 93) rfl ?_); refine Xj (some 36) rfl rfl Tryz.func93 (by kernel_rfl) rfl #[.string (a0.extract 2 a0.size)] rfl (by (try simp only [zbg, Xbf, ybg]); first | done | rfl | (simp only [Zbb, ybc]; rfl)) ?_; (with_reducible refine (zf.calls kj9 (a0.extract 2 a0.size) t120 t121 _ A18.out).mono ?_); rintro e w' ⟨rfl, ⟨nd, rfl⟩⟩; refine ⟨_, rfl, ?_⟩) | ((with_reducible refine Xd (f := 94) rfl ?_); refine Xj (some 41) rfl rfl Tryz.func94 (by kernel_rfl) rfl #[.int .i64 t120] rfl (by (try simp only [zbg, Xbf, ybg]); first | done | rfl | (simp only [Zbb, ybc]; rfl)) ?_; (with_reducible refine (zK.calls kj9 t120 t122 false _ A19.out).mono ?_); rintro e w' ⟨rfl, ⟨nd, rfl⟩⟩; refine ⟨_, rfl, ?_⟩))
          go_ret3
          exact ⟨by first | rfl | (simp; done) | (simp [*]; done), by repeat (first | exact Drawn0.refl _ | apply Drawn0.step)⟩
        ·rw [if_neg c17] at H
         exact absurd H (by simp)
       ·rw [if_neg c16] at H
        have c16b0 : ((bt a0 1) == 117) = false := Ybb.mpr c16
        have c16b1 : ((bt a0 1) != 117) = true := Zbh.mpr c16
        simp only [Option.some.injEq, Prod.mk.injEq] at H
        obtain ⟨rfl, rfl, rfl⟩ := H
        go_wp2
        go_ret3
        exact ⟨by first | rfl | (simp; done) | (simp [*]; done), by repeat (first | exact Drawn0.refl _ | apply Drawn0.step)⟩
  ·rw [if_neg c3] at H
   exact absurd H (by simp)
def yK.f (a0 : ByteArray) : Option (ByteArray × Int × Int) := (ZM.f a0).bind fun bt124 => (if bt124.2.2 = true then (if 0 ≤ bt124.2.1 then (if bt124.2.1 ≤ (a0.size : Int) then (some (a0.extract 0 (bt124.2.1 : Int).toNat, bt124.2.1, 0)) else (none)) else (none)) else (some ((⟨#[]⟩ : ByteArray), 0, 74)))
theorem yK.calls (a0 : ByteArray) (r1 : ByteArray) (r2 : Int) (r3 : Int) (w : World) (h : yK.f a0 = some (r1, r2, r3)) (TB_ : Tabs w := by first | assumption | (refine Tabs.step (by assumption) ?_; repeat (first | exact Aside0.out (by assumption) | apply Za | apply Ya | apply Xa | exact ybd _ _))) :
  Calls Tryz.prog 83 #[.string a0] w fun e w' => e = .returned (.tuple #[.string r1, .int .i64 r2, .int .i64 r3]) ∧ Below w.heap.size w w' := by
 have HB := Aside0.mk (ybd w.heap.size w)
 have H : ((ZM.f a0).bind fun bt124 => (if bt124.2.2 = true then (if 0 ≤ bt124.2.1 then (if bt124.2.1 ≤ (a0.size : Int) then (some (a0.extract 0 (bt124.2.1 : Int).toNat, bt124.2.1, 0)) else (none)) else (none)) else (some ((⟨#[]⟩ : ByteArray), 0, 74)))) = some (r1, r2, r3) := h
 clear h
 replace H := Ybe.mp H
 obtain ⟨⟨t124, t125, t126⟩, A20, H⟩ := H
 replace H : (if t126 = true then (if 0 ≤ t125 then (if t125 ≤ (a0.size : Int) then (some (a0.extract 0 (t125 : Int).toNat, t125, 0)) else (none)) else (none)) else (some ((⟨#[]⟩ : ByteArray), 0, 74))) = some (r1, r2, r3) := H
 have A2 := Aside0.mk A20
 clear A20
 by_cases c3 : t126 = true
 ·subst c3
  have H1 : (if 0 ≤ t125 then (if t125 ≤ (a0.size : Int) then (some (a0.extract 0 (t125 : Int).toNat, t125, 0)) else (none)) else (none)) = some (r1, r2, r3) := by rw [if_pos rfl] at H; exact H
  clear H
  have H := H1
  clear H1
  by_cases c4 : 0 ≤ t125
  ·rw [if_pos c4] at H
   have c4b0 := eq_true c4
   have c4b1 : decide (0 ≤ t125) = true := decide_eq_true c4
   clear c4
   by_cases c5 : t125 ≤ (a0.size : Int)
   ·rw [if_pos c5] at H
    have c5b0 := eq_true c5
    have c5b1 : decide (t125 ≤ (a0.size : Int)) = true := decide_eq_true c5
    clear c5
    simp only [Option.some.injEq, Prod.mk.injEq] at H
    obtain ⟨rfl, rfl, rfl⟩ := H
    go_enter Tryz.func83, Tryz.ntmps83
    go_wp2_with (first | ((with_reducible refine Xd (f := 95) rfl ?_); refine Xj (some 10) rfl rfl Tryz.func95 (by kernel_rfl) rfl #[.string a0] rfl (by (try simp only [zbg, Xbf, ybg]); first | done | rfl | (simp only [Zbb, ybc]; rfl)) ?_; (with_reducible refine (ZM.calls a0 t124 t125 true _ A2.out).mono ?_); rintro e w6 ⟨rfl, hb⟩; refine ⟨_, rfl, ?_⟩; have n0_ := Aside0.mk (Ze (by repeat (first | (with_reducible first | exact HB.out | apply Za | apply Ya | apply Xa) | exact HB.out)) hb); clear HB; have HB := n0_; clear n0_; (try clear hb); (try clear hb2); (try clear hk); (try clear hi)))
    go_ret3
    exact ⟨by first | rfl | (simp [errW_none, Yd] <;> rfl) | (simp [*, errW_none, Yd] <;> rfl), by repeat (first | (with_reducible first | exact HB.out | apply Za | apply Ya | apply Xa) | exact HB.out)⟩
   ·rw [if_neg c5] at H
    exact absurd H (by simp)
  ·rw [if_neg c4] at H
   exact absurd H (by simp)
 ·replace c3 := ybh.mpr c3
  subst c3
  have H1 : (some ((⟨#[]⟩ : ByteArray), 0, 74)) = some (r1, r2, r3) := by rw [if_neg (show ¬ (false = true) by decide)] at H; exact H
  clear H
  have H := H1
  clear H1
  simp only [Option.some.injEq, Prod.mk.injEq] at H
  obtain ⟨rfl, rfl, rfl⟩ := H
  go_enter Tryz.func83, Tryz.ntmps83
  go_wp2_with (first | ((with_reducible refine Xd (f := 95) rfl ?_); refine Xj (some 10) rfl rfl Tryz.func95 (by kernel_rfl) rfl #[.string a0] rfl (by (try simp only [zbg, Xbf, ybg]); first | done | rfl | (simp only [Zbb, ybc]; rfl)) ?_; (with_reducible refine (ZM.calls a0 t124 t125 false _ A2.out).mono ?_); rintro e w7 ⟨rfl, hb⟩; refine ⟨_, rfl, ?_⟩; have n0_ := Aside0.mk (Ze (by repeat (first | (with_reducible first | exact HB.out | apply Za | apply Ya | apply Xa) | exact HB.out)) hb); clear HB; have HB := n0_; clear n0_; (try clear hb); (try clear hb2); (try clear hk); (try clear hi)))
  go_ret3
  exact ⟨by first | rfl | (simp [errW_none, Yd] <;> rfl) | (simp [*, errW_none, Yd] <;> rfl), by repeat (first | (with_reducible first | exact HB.out | apply Za | apply Ya | apply Xa) | exact HB.out)⟩
def XK.f (k : Nat) (a0 : ByteArray) : Option (Bool) := (yF.f k a0).bind fun bt127 => (some bt127.2)
def Yi.j0 : Nat → Int → Int → Bool → Option (Int)
 | 0, _, _, _ => none
 | k + 1, x0, x3, x4 => if x4 = true then (some x0) else (if x3 = 8 then (some 98) else (if x3 = 9 then (some 116) else (if x3 = 10 then (some 110) else (if x3 = 12 then (some 102) else (if x3 = 13 then (some 114) else (some 0))))))
def Yi.f (k : Nat) (a0 : Int) : Option (Int) := if a0 = 34 then (Yi.j0 k a0 a0 (a0 == 34)) else (Yi.j0 k a0 a0 (a0 == 92))
theorem Yi.calls (k : Nat) (a0 : Int) (r : Int) (w : World) (h : Yi.f k a0 = some r) :
  Calls Tryz.prog 58 #[.int .u8 a0] w fun e w' => e = .returned (.int .u8 r) ∧ Drawn0 w w' := by
 have H : (if a0 = 34 then (Yi.j0 k a0 a0 (a0 == 34)) else (Yi.j0 k a0 a0 (a0 == 92))) = some r := h
 clear h
 have HC2 := Aside0.mk H
 clear H
 go_enter Tryz.func58, Tryz.ntmps58
 go_upto_if 4 with (fail)
 go_cut [4] (fun v4 wc => ∃ (kq : Nat) (x4_1 : Bool), v4 = .bool x4_1 ∧ Aside0 (Yi.j0 kq a0 a0 x4_1 = some r) ∧ Aside0 (kq ≤ k) ∧ Drawn0 w wc)
 case first =>
  have H := HC2.out
  clear HC2
  by_cases c3 : a0 = 34
  ·rw [if_pos c3] at H
   have c3b0 : (a0 == 34) = true := Ybf.mpr c3
   have c3b1 : (a0 != 34) = false := Ybh.mpr c3
   clear c3
   (first | rw [c3b0] | (simp only [i64_w, zn]; rw [c3b0]) | skip)
   have H' := Aside0.mk H
   clear H
   go_wp2
   go_meet
   case rel => exact ⟨_, ((a0 == 34)), (by first | rfl | (simp; done) | (simp [*]; done)), H', ⟨by first | omega | exact Xbc _⟩, by repeat (first | exact Drawn0.refl _ | apply Drawn0.step)⟩
  ·rw [if_neg c3] at H
   have c3b0 : (a0 == 34) = false := Ybb.mpr c3
   have c3b1 : (a0 != 34) = true := Zbh.mpr c3
   (first | rw [c3b0] | (simp only [i64_w, zn]; rw [c3b0]) | skip)
   have H' := Aside0.mk H
   clear H
   go_wp2
   go_meet
   case rel => exact ⟨_, ((a0 == 92)), (by first | rfl | (simp; done) | (simp [*]; done)), H', ⟨by first | omega | exact Xbc _⟩, by repeat (first | exact Drawn0.refl _ | apply Drawn0.step)⟩
 case rest =>
  clear HC2
  try clear p2
  try clear c3
  try clear c3b0
  try clear c3b1
  obtain ⟨kq, x4_1, rfl, HA, HJ1, ⟨mc1, rfl⟩⟩ := hcut
  cases kq with
  | zero => exact absurd HA.out (by simp [Yi.j0])
  | succ kj1 =>
   have H := HA.out
   clear HA
   simp only [Yi.j0] at H
   by_cases c4 : x4_1 = true
   ·subst c4
    have H1 : (some a0) = some r := by rw [if_pos rfl] at H; exact H
    clear H
    have H := H1
    clear H1
    obtain rfl := Option.some.inj H
    go_wp2
    go_ret
    exact ⟨by first | rfl | (simp; done) | (simp [*]; done), by repeat (first | exact Drawn0.refl _ | apply Drawn0.step)⟩
   ·replace c4 := ybh.mpr c4
    subst c4
    have H1 : (if a0 = 8 then (some 98) else (if a0 = 9 then (some 116) else (if a0 = 10 then (some 110) else (if a0 = 12 then (some 102) else (if a0 = 13 then (some 114) else (some 0)))))) = some r := by rw [if_neg (show ¬ (false = true) by decide)] at H; exact H
    clear H
    have H := H1
    clear H1
    by_cases c5 : a0 = 8
    ·rw [if_pos c5] at H
     have c5b0 : (a0 == 8) = true := Ybf.mpr c5
     have c5b1 : (a0 != 8) = false := Ybh.mpr c5
     clear c5
     obtain rfl := Option.some.inj H
     go_wp2
     go_ret
     exact ⟨by first | rfl | (simp; done) | (simp [*]; done), by repeat (first | exact Drawn0.refl _ | apply Drawn0.step)⟩
    ·rw [if_neg c5] at H
     have c5b0 : (a0 == 8) = false := Ybb.mpr c5
     have c5b1 : (a0 != 8) = true := Zbh.mpr c5
     by_cases c6 : a0 = 9
     ·rw [if_pos c6] at H
      have c6b0 : (a0 == 9) = true := Ybf.mpr c6
      have c6b1 : (a0 != 9) = false := Ybh.mpr c6
      clear c6
      obtain rfl := Option.some.inj H
      go_wp2
      go_ret
      exact ⟨by first | rfl | (simp; done) | (simp [*]; done), by repeat (first | exact Drawn0.refl _ | apply Drawn0.step)⟩
     ·rw [if_neg c6] at H
      have c6b0 : (a0 == 9) = false := Ybb.mpr c6
      have c6b1 : (a0 != 9) = true := Zbh.mpr c6
      by_cases c7 : a0 = 10
      ·rw [if_pos c7] at H
       have c7b0 : (a0 == 10) = true := Ybf.mpr c7
       have c7b1 : (a0 != 10) = false := Ybh.mpr c7
       clear c7
       obtain rfl := Option.some.inj H
       go_wp2
       go_ret
       exact ⟨by first | rfl | (simp; done) | (simp [*]; done), by repeat (first | exact Drawn0.refl _ | apply Drawn0.step)⟩
      ·rw [if_neg c7] at H
       have c7b0 : (a0 == 10) = false := Ybb.mpr c7
       have c7b1 : (a0 != 10) = true := Zbh.mpr c7
       by_cases c8 : a0 = 12
       ·rw [if_pos c8] at H
        have c8b0 : (a0 == 12) = true := Ybf.mpr c8
        have c8b1 : (a0 != 12) = false := Ybh.mpr c8
        clear c8
        obtain rfl := Option.some.inj H
        go_wp2
        go_ret
        exact ⟨by first | rfl | (simp; done) | (simp [*]; done), by repeat (first | exact Drawn0.refl _ | apply Drawn0.step)⟩
       ·rw [if_neg c8] at H
        have c8b0 : (a0 == 12) = false := Ybb.mpr c8
        have c8b1 : (a0 != 12) = true := Zbh.mpr c8
        by_cases c9 : a0 = 13
        ·rw [if_pos c9] at H
         have c9b0 : (a0 == 13) = true := Ybf.mpr c9
         have c9b1 : (a0 != 13) = false := Ybh.mpr c9
         clear c9
         obtain rfl := Option.some.inj H
         go_wp2
         go_ret
         exact ⟨by first | rfl | (simp; done) | (simp [*]; done), by repeat (first | exact Drawn0.refl _ | apply Drawn0.step)⟩
        ·rw [if_neg c9] at H
         have c9b0 : (a0 == 13) = false := Ybb.mpr c9
         have c9b1 : (a0 != 13) = true := Zbh.mpr c9
         obtain rfl := Option.some.inj H
         go_wp2
         go_ret
         exact ⟨by first | rfl | (simp; done) | (simp [*]; done), by repeat (first | exact Drawn0.refl _ | apply Drawn0.step)⟩
def XX.f (a0 : Int) : Option (Int) := if a0 < 10 then (some ((48 + a0) % 256)) else (some ((87 + a0) % 256))
def XA.l0 : Nat → ByteArray → List Int → Int → Option (ByteArray × Bool)
 | 0, _, _, _ => none
 | k + 1, x0, x4, x5 => if x5 < (x0.size : Int) then (if 0 ≤ x5 then ((Yi.f k (bt x0 x5)).bind fun t138 => (if t138 = 0 then (if (bt x0 x5) < 32 then ((XX.f ((Int.tdiv (bt x0 x5) 16) % 256)).bind fun t139 => ((XX.f (Int.tmod (bt x0 x5) 16)).bind fun t140 => ((some (([92, 117, 48, 48, t139, t140] : List Int) : List Int)).bind fun y141 => (if x4.length + y141.length < 140737488355328 then (XA.l0 k x0 (x4 ++ y141) (wrap64 (x5 + 1))) else (none))))) else (if x4.length < 140737488355328 then (XA.l0 k x0 (x4 ++ [bt x0 x5]) (wrap64 (x5 + 1))) else (none))) else ((Yi.f k (bt x0 x5)).bind fun t150 => ((some (([92, t150] : List Int) : List Int)).bind fun y151 => (if x4.length + y151.length < 140737488355328 then (XA.l0 k x0 (x4 ++ y151) (wrap64 (x5 + 1))) else (none)))))) else (none)) else (if x4.length < 140737488355328 then (some (strOfNums (x4 ++ [34]), true)) else (none))
def XA.f (k : Nat) (a0 : ByteArray) : Option (ByteArray × Bool) := (XK.f k a0).bind fun t131 => (if t131 = true then (XA.l0 k a0 (([34] : List Int)) 0) else (some ((⟨#[]⟩ : ByteArray), false)))
end Go.Proofs.NQ1
namespace Go.Proofs.NGiv
open Go.RowKit Go.Proofs.Wa Go.Proofs.Wb Go.Proofs.Wc
open Go.Proofs.NU1 Go.Proofs.NQ1
def hexN (n : Nat) : UInt8 := (if n < 10 then 48 + n else 87 + n).toUInt8
def yN (c : Nat) : List UInt8 :=
 if c = 8 then [92, 98] else if c = 9 then [92, 116] else if c = 10 then [92, 110] else if c = 12 then [92, 102] else if c = 13 then [92, 114]
 else if c = 34 ∨ c = 92 then [92, c.toUInt8] else if c < 32 then [92, 117, 48, 48, hexN (c / 16), hexN (c % 16)] else [c.toUInt8]
theorem zaB (c : Nat) : (yN c).length ≤ 6 := by
 unfold yN; repeat' split
 all_goals simp
theorem piece_all : ∀ n : Nat, n < 256 → (Zk.f 3 (n : Int)).map (fun s => s.data.toList) = some (yN n) := by decide +kernel
theorem piece_f (n : Nat) (h : n < 256) : Zk.f 3 (n : Int) = some ⟨(yN n).toArray⟩ := by
 have := piece_all n h
 cases hq : Zk.f 3 (n : Int) with
 | none => rw [hq] at this; cases this
 | some s =>
  rw [hq] at this
  have e := Option.some.inj this
  congr 1
  cases s; rename_i d; cases d; simp at e; subst e; rfl
def inner : List UInt8 → List UInt8
 | [] => []
 | c :: l => yN c.toNat ++ inner l
theorem inner_app : ∀ a b : List UInt8, inner (a ++ b) = inner a ++ inner b
 | [], _ => rfl
 | c :: a, b => by rw [Zbl, inner, inner, inner_app a b, xbj]
theorem Z8 : ∀ a : List UInt8, (inner a).length ≤ 6 * a.length
 | [] => Xbc _
 | c :: a => by
  have := Z8 a
  have h := zaB c.toNat
  rw [inner, Xbb, Xbd]; omega
def YG (l : List UInt8) : List UInt8 := 34 :: inner l ++ [34]
def Xx (s : ByteArray) : ByteArray × Bool := if Lib.validD s.data.toList = true then (⟨(YG s.data.toList).toArray⟩, true) else (⟨#[]⟩, false)
theorem Za0 (l : List UInt8) : Lib.byteCells (34 :: inner (l.take 0)) = [] ++ [Value.int IntKind.u8 34] := by
 rw [List.take_zero]; rfl
theorem Ya3 (s : ByteArray) : Lib.byteCells (YG s.data.toList) = Lib.byteCells (34 :: inner (s.data.toList.take s.size)) ++ [Value.int IntKind.u8 34] := by
 rw [YG, Zbj (by rw [data_length]; exact Xbc _)]
 unfold Lib.byteCells
 rw [xbq]; rfl
theorem piece_g (n : Nat) (h : n < 256) : ∃ P : ByteArray, Zk.f 3 (n : Int) = some P ∧ P.size ≤ 6 ∧ P.data.toList = yN n := ⟨_, piece_f n h, by
 have := zaB n
 show (yN n).toArray.size ≤ 6
 rw [Ybo]; exact this, rfl⟩
theorem Xa3 (a : List UInt8) (P : ByteArray) (b : List UInt8) (h : P.data.toList = b) : Lib.byteCells (34 :: a) ++ Lib.byteCells P.data.toList = Lib.byteCells (34 :: (a ++ b)) := by
 rw [h]
 unfold Lib.byteCells
 rw [← xbq, Zbl]
theorem take_byte (s : ByteArray) (k : Nat) (h : k < s.size) : s.data.toList.take (k + 1) = s.data.toList.take k ++ [(s[k]'h)] := by
 rw [List.take_add_one]
 congr 1
 have hl : k < s.data.toList.length := by rw [data_length]; exact h
 rw [zbf hl]; rfl
theorem zZ {B b : Nat} {bs : List Value} {w w' : World} (h : Lib.IsBuilder 45 5 B b bs w) (hb : Below w.heap.size w w') : Lib.IsBuilder 45 5 B b bs w' := by
 have f : ∀ p, Lib.BuilderAt 45 5 B b p bs w → Lib.BuilderAt 45 5 B b p bs w' := by
  rintro p ⟨h0, v, hv, ho, hn⟩
  exact ⟨h0, v, (hb.block b (Xbk.1 hv).1).trans hv, ZaR ho hb, hn⟩
 rcases h with h | h
 ·exact .inl (f _ h)
 ·exact .inr (f _ h)
theorem write_yes (s : ByteArray) (w : World) (ht : Tabs w) (hs : 6 * s.size + 2 ≤ 140737488355328) (hv : Lib.validD s.data.toList = true) :
  Calls Tryz.prog 34 #[.string s] w fun e w' => e = .returned (.tuple #[.string ⟨(YG s.data.toList).toArray⟩, .bool true]) ∧ Below w.heap.size w w' := by
 have HV : Aside0 (zo.f s = some true) := ⟨by unfold zo.f utf8_ValidString.f; rw [if_pos (by omega), hv]; rfl⟩
 have HS := Aside0.mk hs
 obtain ⟨R, hR⟩ : ∃ R, YG s.data.toList = R := ⟨_, rfl⟩
 rw [hR]
 have HR := Aside0.mk hR
 have HT := Aside0.mk ht
 clear hv hR hs ht
 have h0 := hz68
 go_enter Tryz.func34, Tryz.ntmps34
 go_wp2_with (first
  | (go_at_call 30; refine (zo.calls _ _ _ HV.out HT.out).mono ?_; rintro e w1 ⟨rfl, B1⟩)
  | (go_at_call 17; refine (Tryz.Builder_WriteByte w1.heap.size w1.heap.size [] 34 _ (Yau w1) (by rw [Xbg]; omega) (by simp)).mono ?_; rintro e w2 ⟨rfl, C1, C2⟩))
 clear h0
 obtain ⟨B, hB⟩ : ∃ B, w1.heap.size = B := ⟨_, rfl⟩
 have HW : Aside0 (Below w.heap.size w w2) := ⟨(Za B1 _).trans (C2.mono B1.size)⟩
 have HB0 : Aside0 (B ≤ w2.heap.size) := ⟨by have := C2.size; simp at this; omega⟩
 have HBW : Aside0 (w.heap.size ≤ B) := ⟨by have := B1.size; omega⟩
 have HI : Aside0 (Lib.IsBuilder 45 5 B B (Lib.byteCells (34 :: inner (s.data.toList.take 0))) w2) := ⟨by rw [← hB, Za0]; exact .inr C1⟩
 rw [hB]
 clear B1 C1 C2 hB
 go_loopw [12] (fun v12 wr => ∃ k : Nat, k ≤ s.size ∧ v12 = .int .i64 k ∧ Lib.IsBuilder 45 5 B B (Lib.byteCells (34 :: inner (s.data.toList.take k))) wr ∧ Below w.heap.size w wr ∧ B ≤ wr.heap.size) (fun v12 _ => s.size - (intOf v12).toNat)
 case atStart => exact ⟨0, by omega, rfl, HI.out, HW.out, HB0.out⟩
 case round =>
  obtain ⟨k, hk, rfl, hbl, hbe, hbz⟩ := hrel
  have HBL := Aside0.mk hbl
  have HBE := Aside0.mk hbe
  have HBZ := Aside0.mk hbz
  clear hbl hbe hbz
  have hlen := Z8 (s.data.toList.take k)
  rw [ybc, data_length] at hlen
  have HLN := Aside0.mk hlen
  clear hlen
  by_cases hlt : k < s.size
  ·obtain ⟨c, hc⟩ : ∃ c, (s[k]'hlt) = c := ⟨_, rfl⟩
   obtain ⟨P, hp1, hp2, hp3⟩ := piece_g c.toNat (UInt8.toNat_lt c)
   have HP := Aside0.mk hp1
   have HPL := Aside0.mk hp2
   have HN : Aside0 (Lib.byteCells (34 :: inner (s.data.toList.take k)) ++ Lib.byteCells P.data.toList = Lib.byteCells (34 :: inner (s.data.toList.take (k + 1)))) := ⟨by rw [Xa3 _ P _ hp3, take_byte s k hlt, inner_app, hc, inner, inner, ybk]⟩
   clear hp1 hp2 hp3
   have hs1 := HS.out
   have HK : Aside0 ((Lib.byteCells (34 :: inner (s.data.toList.take k))).length + P.size ≤ 140737488355328) := ⟨by
    rw [Lib.byteCells_length, Xbd]; have := HPL.out; have := HLN.out; have := HS.out; omega⟩
   go_wp2_with (first
    | (go_at_call 55; refine (Zk.calls 3 _ _ _ HP.out).mono ?_; rintro e w3 ⟨rfl, D1⟩; have HZ3 : Aside0 (B ≤ w3.heap.size) := ⟨Ybg HBZ.out D1.size⟩)
    | (go_at_call 35; refine (Tryz.Builder_WriteString B B (Lib.byteCells (34 :: inner (s.data.toList.take k))) P _ (zZ HBL.out D1) HK.out HZ3.out).mono ?_; rintro e w4 ⟨rfl, E1, E2⟩))
   go_roundw
   case rel =>
    refine ⟨k + 1, by omega, by go_num, ?_, ?_, Ybg HZ3.out E2.size⟩
    ·rw [← HN.out]; exact .inr E1
    ·exact (HBE.out.trans (D1.mono HBE.out.size)).trans (E2.mono HBW.out)
   case measure => simp [intOf]; omega
  ·obtain rfl : k = s.size := by omega
   have HL : Aside0 (Lib.byteCells R = Lib.byteCells (34 :: inner (s.data.toList.take s.size)) ++ [Value.int IntKind.u8 34]) := ⟨by
    rw [← HR.out]; exact Ya3 s⟩
   go_wp2_with (first
    | (go_at_call 17; refine (Tryz.Builder_WriteByte B B (Lib.byteCells (34 :: inner (s.data.toList.take s.size))) 34 _ HBL.out (by rw [Lib.byteCells_length, Xbd]; have := HLN.out; have := HS.out; omega) HBZ.out).mono ?_; rintro e w3 ⟨rfl, E1, E2⟩)
    | (go_at_call 20; refine (Tryz.Builder_String_any B B R _ (by rw [HL.out]; exact .inr E1) (by have := E2.size; have := HBZ.out; simp at *; omega)).mono ?_; rintro e w4 ⟨rfl, F2⟩))
   go_ret2
   exact ⟨rfl, (HBE.out.trans (E2.mono HBW.out)).trans (F2.mono HBW.out)⟩
theorem write_no (s : ByteArray) (w : World) (ht : Tabs w) (hs : 6 * s.size + 2 ≤ 140737488355328) (hv : Lib.validD s.data.toList = false) :
  Calls Tryz.prog 34 #[.string s] w fun e w' => e = .returned (.tuple #[.string ⟨#[]⟩, .bool false]) ∧ Below w.heap.size w w' := by
 have HV : Aside0 (zo.f s = some false) := ⟨by unfold zo.f utf8_ValidString.f; rw [if_pos (by omega), hv]; rfl⟩
 clear hv
 go_enter Tryz.func34, Tryz.ntmps34
 go_wp2_with (first
  | (go_at_call 30; refine (zo.calls _ _ _ HV.out ht).mono ?_; rintro e w1 ⟨rfl, B1⟩))
 go_ret2
 exact ⟨rfl, B1⟩
def xK.f (s : ByteArray) : Option (ByteArray × Bool) := if 6 * s.size + 2 ≤ 140737488355328 then some (Xx s) else none
theorem xK.calls (a0 : ByteArray) (r1 : ByteArray) (r2 : Bool) (w : World) (h : xK.f a0 = some (r1, r2)) (ht : Tabs w := by first | assumption | (refine Tabs.step (by assumption) ?_; repeat (first | exact Aside0.out (by assumption) | apply Za | apply Ya | apply Xa | exact ybd _ _))) :
  Calls Tryz.prog 34 #[.string a0] w fun e w' => e = .returned (.tuple #[.string r1, .bool r2]) ∧ Below w.heap.size w w' := by
 unfold xK.f at h
 split at h
 ·rename_i hs
  have h2 := Option.some.inj h
  unfold Xx at h2
  by_cases hv : Lib.validD a0.data.toList = true
  ·rw [if_pos hv] at h2
   cases h2
   exact write_yes a0 w ht hs hv
  ·rw [if_neg hv] at h2
   cases h2
   exact write_no a0 w ht hs (ybh.2 hv)
 ·cases h
theorem hz78 (w : World) : (zeroValue 118).run Tryz.prog w = .ok (.agg #[.nilFunc]) w := by kernel_rfl
theorem of_slash (w : World) :
  Calls Tryz.prog 73 #[.int .u8 92] w fun e w' => e = .returned (.agg #[.func (.func 82) #[] #[]]) ∧ Below w.heap.size w w' := by
 have h0 := hz78
 go_enter Tryz.func73, Tryz.ntmps73
 go_wp2
 (try simp only [Exit.inBlock, Exit.then])
 refine bodyPost_ret (results_cell_row rfl _ _ w.heap.size 118 #[.func (.func 82) #[] #[]] (0, 0) _ rfl ?_ Tryz.underlying118 rfl (by kernel_rfl)) rfl ⟨rfl, ?_⟩
 ·exact ybi _ _
 ·exact Za (ybd _ _) _
theorem of_other (c : Int) (w : World) (hc : c ≠ 92) :
  Calls Tryz.prog 73 #[.int .u8 c] w fun e w' => e = .returned (.agg #[.func (.func 83) #[] #[]]) ∧ Below w.heap.size w w' := by
 have h0 := hz78
 have hb : (c == 92) = false := Ybb.mpr hc
 go_enter Tryz.func73, Tryz.ntmps73
 go_wp2
 (try simp only [Exit.inBlock, Exit.then])
 refine bodyPost_ret (results_cell_row rfl _ _ w.heap.size 118 #[.func (.func 83) #[] #[]] (0, 0) _ rfl ?_ Tryz.underlying118 rfl (by kernel_rfl)) rfl ⟨rfl, ?_⟩
 ·exact ybi _ _
 ·exact Za (ybd _ _) _
theorem fld78 (f : FuncId) (w : World) : (Instr.field 118 (.agg #[.func (.func f) #[] #[]]) 0).run Tryz.prog w = .ok (.func (.func f) #[] #[]) w := by kernel_rfl
theorem yaB (o t : ByteArray) : Lib.byteCells (o ++ t).data.toList = Lib.byteCells o.data.toList ++ Lib.byteCells t.data.toList := by
 rw [Ybq, Array.toList_append]
 unfold Lib.byteCells
 rw [xbq]
def Zj.one (k : Nat) (s : ByteArray) (p : Nat) : Option (ByteArray × Int × Int) :=
 if bt s p = 92 then Yl.f k (s.extract p s.size) else yK.f (s.extract p s.size)
def Zj.l0 : Nat → ByteArray → ByteArray → Nat → Option (ByteArray × Int × Int)
 | 0, _, _, _ => none
 | k + 1, s, o, p => if p = s.size then some (⟨#[]⟩, 0, 71) else if s.size < p then none else if bt s p = 34 then some (o, (p : Int) + 1, 0) else if bt s p < 32 then some (⟨#[]⟩, 0, 72) else
   (Zj.one k s p).bind fun r => if r.2.2 = 0 then (if o.size + r.1.size ≤ 140737488355328 then (if 0 ≤ r.2.1 then (if (p : Int) + r.2.1 ≤ s.size then Zj.l0 k s (o ++ r.1) (p + r.2.1.toNat) else none) else none) else none) else some (⟨#[]⟩, 0, r.2.2)
def Zj.f (k : Nat) (s : ByteArray) : Option (ByteArray × Int × Int) :=
 if s.size ≤ 4611686018427387904 then (if s.size = 0 then some (⟨#[]⟩, 0, 70) else if bt s 0 = 34 then Zj.l0 k s ⟨#[]⟩ 1 else some (⟨#[]⟩, 0, 70)) else none
theorem read_loop (k : Nat) (s : ByteArray) (r1 : ByteArray) (r2 r3 : Int) (w : World) (ht : Tabs w) (hs : s.size ≤ 4611686018427387904) (h0 : s.size ≠ 0) (hq : bt s 0 = 34) (h : Zj.l0 k s ⟨#[]⟩ 1 = some (r1, r2, r3)) :
  Calls Tryz.prog 62 #[.string s] w fun e w' => e = .returned (.tuple #[.string r1, .int .i64 r2, .int .i64 r3]) ∧ Below w.heap.size w w' := by
 have HT := Aside0.mk ht
 have HQ := Aside0.mk hq
 have HL := Aside0.mk h
 have NB := Aside0.mk (Yau w)
 have hz := hz68
 have hE : (s.toList == ([] : List UInt8)) = false := by
  rw [Ybb, Lib.toList_data]
  intro e; apply h0; rw [← data_length, e]; rfl
 have hb : (bt s 0 != 34) = false := Ybh.mpr hq
 have hx : ∀ h : 0 < s.size, ((s[0]'h).toNat : Int) = bt s 0 := Xo s 0
 have q0 : (0 < s.size) = True := eq_true (by omega)
 have q1 : (0 < (s.size : Int)) = True := eq_true (by omega)
 clear ht h hq
 go_enter Tryz.func62, Tryz.ntmps62
 go_wp2_with fail
 go_step3
 go_wp2_with fail
 go_step3
 go_wp2_with fail
 clear hz hE hb hx q0 q1
 go_loopg [6] k (fun kq v6 wr => ∃ (p : Nat) (o : ByteArray), v6 = .int .i64 p ∧ Aside0 (Zj.l0 kq s o p = some (r1, r2, r3)) ∧ Aside0 (Lib.IsBuilder 45 5 w.heap.size w.heap.size (Lib.byteCells o.data.toList) wr) ∧ Aside0 (Below w.heap.size w wr))
 case atStart => exact ⟨1, ⟨#[]⟩, rfl, HL, NB, ⟨Za (ybd _ _) _⟩⟩
 case round =>
  obtain ⟨p, o, rfl, HA, HI, HB⟩ := hrel
  cases gk with
  | zero => exact absurd HA.out (by simp [Zj.l0])
  | succ k1 =>
   have H := HA.out
   clear HA
   simp only [Zj.l0] at H
   by_cases e1 : p = s.size
   ·rw [if_pos e1] at H
    subst e1
    cases H
    have c1 : ((s.size : Int) == (s.size : Int)) = true := beq_self_eq_true _
    go_wp2_with fail
    simp only [Exit.noGoto_ret]
    go_ret3
    exact ⟨rfl, HB.out⟩
   ·rw [if_neg e1] at H
    by_cases e2 : s.size < p
    ·rw [if_pos e2] at H; cases H
    ·rw [if_neg e2] at H
     have hlt : p < s.size := by omega
     have c1 : ((p : Int) == (s.size : Int)) = false := Ybb.mpr (by omega)
     have hx : ∀ h : p < s.size, ((s[p]'h).toNat : Int) = bt s (p : Int) := fun h => Xo s (p : Int) h
     by_cases e3 : bt s (p : Int) = 34
     ·rw [if_pos e3] at H
      cases H
      have c3 : (bt s (p : Int) == 34) = true := Ybf.mpr e3
      clear e3
      go_wp2_with (first
       | (go_at_call 20; refine (Tryz.Builder_String_any w.heap.size w.heap.size r1.data.toList _ HI.out HB.out.size).mono ?_; rintro e w4 ⟨rfl, F2⟩))
      simp only [Exit.noGoto_ret]
      go_ret3
      exact ⟨rfl, HB.out.trans F2⟩
     ·rw [if_neg e3] at H
      have c3 : (bt s (p : Int) == 34) = false := Ybb.mpr e3
      by_cases e4 : bt s (p : Int) < 32
      ·rw [if_pos e4] at H
       cases H
       have c4 : decide (bt s (p : Int) < 32) = true := decide_eq_true e4
       clear e3 e4
       go_wp2_with fail
       simp only [Exit.noGoto_ret]
       go_ret3
       exact ⟨rfl, HB.out⟩
      ·rw [if_neg e4] at H
       have c4 : decide (bt s (p : Int) < 32) = false := zbd e4
       clear e3 e4
       replace H := Ybe.mp H
       obtain ⟨⟨t, n, er⟩, hone, H⟩ := H
       simp only at H
       unfold Zj.one at hone
       have q1 : (0 ≤ (p : Int)) = True := eq_true (by omega)
       have q2 : ((p : Int) ≤ (s.size : Int)) = True := eq_true (by omega)
       have HH := Aside0.mk H
       clear H
       by_cases e5 : bt s (p : Int) = 92
       ·rw [if_pos e5] at hone
        rw [e5] at hx c3 c4
        have hfl := fld78 82
        have HO := Aside0.mk hone
        clear hone e5
        go_wp2_with fail
        go_region_held3 (fun w' => Below wr.heap.size wr w')
         (first
          | assumption
          | exact Z0 (ybd _ _)
          | exact Z0 (by assumption)
          | exact Za (by assumption) _)
         (first
          | (go_at_call 73; refine (of_slash _).mono ?_; rintro e w' ⟨rfl, hb⟩; have hB2 := Ze ‹Below wr.heap.size wr _› hb)
          | (go_at_call 82; refine (Yl.calls k1 _ t n er _ HO.out).mono ?_; rintro e w' ⟨rfl, ⟨nd, rfl⟩⟩; have hB2 := Ya ‹Below wr.heap.size wr _› nd))
        have HW : Aside0 (Below wr.heap.size wr (w'.drewN nd)) := ⟨hB2⟩
        clear hB2
        generalize w'.drewN nd = W at HW ⊢
        have H := HH.out
        clear HH HO
        by_cases z : er = 0
        ·subst z
         rw [if_pos rfl] at H
         by_cases z1 : o.size + t.size ≤ 140737488355328
         ·rw [if_pos z1] at H
          by_cases z2 : 0 ≤ n
          ·rw [if_pos z2] at H
           obtain ⟨m, rfl⟩ : ∃ m : Nat, n = m := ⟨n.toNat, by omega⟩
           by_cases z3 : (p : Int) + (m : Int) ≤ s.size
           ·rw [if_pos z3, Ybd] at H
            have H' := Aside0.mk H
            clear H
            have HZ : Aside0 (w.heap.size ≤ W.heap.size) := ⟨Ybg HB.out.size HW.out.size⟩
            have HL1 : Aside0 ((Lib.byteCells o.data.toList).length + t.size ≤ 140737488355328) := ⟨by rw [Lib.byteCells_length, data_length]; exact z1⟩
            clear z1
            go_wp2_with (first
             | (go_at_call 35; refine (Tryz.Builder_WriteString w.heap.size w.heap.size (Lib.byteCells o.data.toList) t _ (zZ HI.out HW.out) HL1.out HZ.out).mono ?_; rintro e w4 ⟨rfl, E1, E2⟩))
            go_roundg k1
            case measure => omega
            case rel => exact ⟨p + m, o ++ t, by go_num, H', ⟨by rw [yaB]; exact .inr E1⟩, ⟨(HB.out.trans (HW.out.mono HB.out.size)).trans E2⟩⟩
           ·rw [if_neg z3] at H; cases H
          ·rw [if_neg z2] at H; cases H
         ·rw [if_neg z1] at H; cases H
        ·rw [if_neg z] at H
         have c9 : (er != 0) = true := Zbh.mpr z
         cases H
         go_wp2_with fail
         simp only [Exit.noGoto_ret]
         go_ret3
         exact ⟨rfl, HB.out.trans (HW.out.mono HB.out.size)⟩
       ·rw [if_neg e5] at hone
        have H5 := Aside0.mk e5
        have hfl := fld78 83
        have HO := Aside0.mk hone
        clear hone e5
        go_wp2_with fail
        go_region_held3 (fun w' => Below wr.heap.size wr w')
         (first
          | assumption
          | exact Z0 (ybd _ _)
          | exact Z0 (by assumption)
          | exact Za (by assumption) _)
         (first
          | (go_at_call 73; refine (of_other _ _ H5.out).mono ?_; rintro e w' ⟨rfl, hb⟩; have hB2 := Ze ‹Below wr.heap.size wr _› hb)
          | (go_at_call 83; refine (yK.calls _ t n er _ HO.out (Tabs.step HT.out (HB.out.trans (Below.mono ‹Below wr.heap.size wr _› HB.out.size)))).mono ?_; rintro e w' ⟨rfl, hb⟩; have hB2 := Ze ‹Below wr.heap.size wr _› hb))
        have HW : Aside0 (Below wr.heap.size wr (w')) := ⟨hB2⟩
        clear hB2
        generalize w' = W at HW ⊢
        have H := HH.out
        clear HH HO
        by_cases z : er = 0
        ·subst z
         rw [if_pos rfl] at H
         by_cases z1 : o.size + t.size ≤ 140737488355328
         ·rw [if_pos z1] at H
          by_cases z2 : 0 ≤ n
          ·rw [if_pos z2] at H
           obtain ⟨m, rfl⟩ : ∃ m : Nat, n = m := ⟨n.toNat, by omega⟩
           by_cases z3 : (p : Int) + (m : Int) ≤ s.size
           ·rw [if_pos z3, Ybd] at H
            have H' := Aside0.mk H
            clear H
            have HZ : Aside0 (w.heap.size ≤ W.heap.size) := ⟨Ybg HB.out.size HW.out.size⟩
            have HL1 : Aside0 ((Lib.byteCells o.data.toList).length + t.size ≤ 140737488355328) := ⟨by rw [Lib.byteCells_length, data_length]; exact z1⟩
            clear z1
            go_wp2_with (first
             | (go_at_call 35; refine (Tryz.Builder_WriteString w.heap.size w.heap.size (Lib.byteCells o.data.toList) t _ (zZ HI.out HW.out) HL1.out HZ.out).mono ?_; rintro e w4 ⟨rfl, E1, E2⟩))
            go_roundg k1
            case measure => omega
            case rel => exact ⟨p + m, o ++ t, by go_num, H', ⟨by rw [yaB]; exact .inr E1⟩, ⟨(HB.out.trans (HW.out.mono HB.out.size)).trans E2⟩⟩
           ·rw [if_neg z3] at H; cases H
          ·rw [if_neg z2] at H; cases H
         ·rw [if_neg z1] at H; cases H
        ·rw [if_neg z] at H
         have c9 : (er != 0) = true := Zbh.mpr z
         cases H
         go_wp2_with fail
         simp only [Exit.noGoto_ret]
         go_ret3
         exact ⟨rfl, HB.out.trans (HW.out.mono HB.out.size)⟩
theorem read_none (s : ByteArray) (w : World) (h : s.size = 0) :
  Calls Tryz.prog 62 #[.string s] w fun e w' => e = .returned (.tuple #[.string ⟨#[]⟩, .int .i64 0, .int .i64 70]) ∧ Below w.heap.size w w' := by
 have hE : (s.toList == ([] : List UInt8)) = true := by
  rw [Ybf, Lib.toList_data]
  exact xbg (by rw [data_length]; exact h)
 go_enter Tryz.func62, Tryz.ntmps62
 go_wp2_with fail
 go_step3
 go_wp2_with fail
 simp only [Exit.noGoto_ret]
 go_ret3
 exact ⟨rfl, ybd _ _⟩
theorem read_not (s : ByteArray) (w : World) (h0 : s.size ≠ 0) (hq : bt s 0 ≠ 34) :
  Calls Tryz.prog 62 #[.string s] w fun e w' => e = .returned (.tuple #[.string ⟨#[]⟩, .int .i64 0, .int .i64 70]) ∧ Below w.heap.size w w' := by
 have hE : (s.toList == ([] : List UInt8)) = false := by
  rw [Ybb, Lib.toList_data]
  intro e; apply h0; rw [← data_length, e]; rfl
 have hb : (bt s 0 != 34) = true := Zbh.mpr hq
 have hx : ∀ h : 0 < s.size, ((s[0]'h).toNat : Int) = bt s 0 := Xo s 0
 have q0 : (0 < s.size) = True := eq_true (by omega)
 have q1 : (0 < (s.size : Int)) = True := eq_true (by omega)
 clear hq
 go_enter Tryz.func62, Tryz.ntmps62
 go_wp2_with fail
 go_step3
 go_wp2_with fail
 simp only [Exit.noGoto_ret]
 go_ret3
 exact ⟨rfl, ybd _ _⟩
theorem Zj.calls (k : Nat) (a0 : ByteArray) (r1 : ByteArray) (r2 r3 : Int) (w : World) (h : Zj.f k a0 = some (r1, r2, r3)) (ht : Tabs w := by first | assumption | (refine Tabs.step (by assumption) ?_; repeat (first | exact Aside0.out (by assumption) | apply Za | apply Ya | apply Xa | exact ybd _ _))) :
  Calls Tryz.prog 62 #[.string a0] w fun e w' => e = .returned (.tuple #[.string r1, .int .i64 r2, .int .i64 r3]) ∧ Below w.heap.size w w' := by
 unfold Zj.f at h
 split at h
 ·rename_i hs
  split at h
  ·rename_i h0; cases h; exact read_none a0 w h0
  ·rename_i h0
   split at h
   ·rename_i hq; exact read_loop k a0 r1 r2 r3 w ht hs h0 hq h
   ·rename_i hq; cases h; exact read_not a0 w h0 hq
 ·cases h
end Go.Proofs.NGiv
namespace Go.Proofs.NGiv
open Go.RowKit Go.Proofs.Wa Go.Proofs.Wb Go.Proofs.Wc
open Go.Proofs.NU1
theorem w64 {x : Int} (h0 : -9223372036854775808 ≤ x) (h1 : x ≤ 9223372036854775807) : wrap64 x = x := by unfold wrap64; omega
theorem Xv (r : Int) : Xm r = true ↔ (0 ≤ r ∧ r ≤ 1114111 ∧ (r < 55296 ∨ 57343 < r)) := by unfold Xm; exact decide_eq_true_iff
abbrev enc (r : Int) : List UInt8 := Lib.encodeRune r
theorem xA {a b : ByteArray} (h : a.data.toList = b.data.toList) : a = b := by
 cases a; cases b; simp at h; congr
theorem za4 (r : Int) (h : Xm r = true) : Utf8.encode r = ⟨(enc r).toArray⟩ := by
 obtain ⟨h0, h1, h2⟩ := (Xv r).1 h
 obtain ⟨n, rfl⟩ : ∃ n : Nat, r = n := ⟨r.toNat, by omega⟩
 have hv : Utf8.valid (n : Int) = true := by unfold Utf8.valid; simp; omega
 unfold Utf8.encode enc Lib.encodeRune
 simp only [hv, if_true, Ybd]
 by_cases a : n < 128
 ·rw [if_pos a, Lib.encodeRuneZ, if_pos (by omega)]; simp [Nat.toUInt8]
 ·rw [if_neg a]
  by_cases b : n < 2048
  ·rw [if_pos b, Lib.encodeRuneZ, if_neg (by omega), if_pos (by omega)]
   have e1 : ((192 : Int) + (n : Int) / 64).toNat = 192 + n / 64 := by omega
   have e2 : ((128 : Int) + (n : Int) % 64).toNat = 128 + n % 64 := by omega
   simp only [Xbf, ybg, e1, e2]
  ·rw [if_neg b]
   by_cases c : n < 65536
   ·rw [if_pos c, Lib.encodeRuneZ, if_neg (by omega), if_neg (by omega), if_pos (by omega)]
    have e1 : ((224 : Int) + (n : Int) / 4096).toNat = 224 + n / 4096 := by omega
    have e2 : ((128 : Int) + (n : Int) / 64 % 64).toNat = 128 + n / 64 % 64 := by omega
    have e3 : ((128 : Int) + (n : Int) % 64).toNat = 128 + n % 64 := by omega
    simp only [Xbf, ybg, e1, e2, e3]
   ·rw [if_neg c, Lib.encodeRuneZ, if_neg (by omega), if_neg (by omega), if_neg (by omega), if_pos (by omega)]
    have e1 : ((240 : Int) + (n : Int) / 262144).toNat = 240 + n / 262144 := by omega
    have e2 : ((128 : Int) + (n : Int) / 4096 % 64).toNat = 128 + n / 4096 % 64 := by omega
    have e3 : ((128 : Int) + (n : Int) / 64 % 64).toNat = 128 + n / 64 % 64 := by omega
    have e4 : ((128 : Int) + (n : Int) % 64).toNat = 128 + n % 64 := by omega
    simp only [Xbf, ybg, e1, e2, e3, e4]
def putS (r : Int) : ByteArray × Bool := if Xm r = true then (⟨(enc r).toArray⟩, true) else (⟨#[]⟩, false)
theorem put_S (k : Nat) (r : Int) (hk : 0 < k) : zK.f k r = some (putS r) := by
 rw [put_f k r hk, putS]
 by_cases h : Xm r = true
 ·rw [if_pos h, if_pos h, za4 r h]
 ·rw [if_neg h, if_neg h]
theorem refLetter (r : Int) : Xl.f r = some (Xm r) := by
 unfold Xl.f Xm
 by_cases h0 : 0 ≤ r
 ·by_cases h1 : r ≤ 1114111
  ·by_cases h2 : r < 55296
   ·rw [if_pos h0, if_pos h1, if_pos h2, decide_eq_true ⟨h0, h1, .inl h2⟩]
   ·rw [if_pos h0, if_pos h1, if_neg h2]
    congr 1
    rw [decide_eq_decide]
    omega
  ·rw [if_pos h0, if_neg h1, zbd (by omega)]
 ·rw [if_neg h0, zbd (by omega)]
theorem refPut (r : Int) : Ym.f r = some (putS r) := by
 unfold Ym.f
 rw [refLetter]
 simp only [Zbf]
 unfold putS
 by_cases h : Xm r = true
 ·rw [if_pos h, if_pos h]
  obtain ⟨h0, h1, h2⟩ := (Xv r).1 h
  rw [Int.tdiv_eq_ediv_of_nonneg h0, Int.tdiv_eq_ediv_of_nonneg h0, Int.tdiv_eq_ediv_of_nonneg h0, zbs h0]
  rw [w64 (x := r / 64) (by omega) (by omega), w64 (x := r / 4096) (by omega) (by omega), w64 (x := r / 262144) (by omega) (by omega)]
  rw [zbs (a := r / 64) (by omega), zbs (a := r / 4096) (by omega)]
  rw [w64 (x := 192 + r / 64) (by omega) (by omega), w64 (x := 128 + r % 64) (by omega) (by omega), w64 (x := 224 + r / 4096) (by omega) (by omega), w64 (x := 128 + r / 64 % 64) (by omega) (by omega), w64 (x := 240 + r / 262144) (by omega) (by omega), w64 (x := 128 + r / 4096 % 64) (by omega) (by omega)]
  have fin : ∀ xs : List Int, (xs = Lib.encodeRuneZ r) → some (strOfNums xs, true) = some ((⟨(enc r).toArray⟩ : ByteArray), true) := by
   intro xs e; subst e; congr 2
  by_cases a : r < 128
  ·rw [if_pos a]; exact fin _ (by rw [Lib.encodeRuneZ, if_pos (by omega)]; congr 1; omega)
  ·rw [if_neg a]
   by_cases b : r < 2048
   ·rw [if_pos b]; exact fin _ (by rw [Lib.encodeRuneZ, if_neg (by omega), if_pos (by omega)]; congr 1; omega; congr 1; omega)
   ·rw [if_neg b]
    by_cases c : r < 65536
    ·rw [if_pos c]; exact fin _ (by rw [Lib.encodeRuneZ, if_neg (by omega), if_neg (by omega), if_pos (by omega)]; congr 1; omega; congr 1; omega; congr 1; omega)
    ·rw [if_neg c]; exact fin _ (by rw [Lib.encodeRuneZ, if_neg (by omega), if_neg (by omega), if_neg (by omega), if_pos (by omega)]; congr 1; omega; congr 1; omega; congr 1; omega; congr 1; omega)
 ·rw [if_neg h, if_neg h]
theorem ya4 (s : ByteArray) (h : s.data.toList ≠ []) : Lib.decodeGo s = Lib.decodeL s.data.toList := by
 unfold Lib.decodeGo
 have hs : s.size ≠ 0 := by
  intro e; apply h; apply xbg; rw [data_length]; exact e
 rw [if_neg hs, ← Lib.decodeL_drop s 0, xbt]
def tk (l : List UInt8) : Option (Nat × Nat) := if l = [] ∨ ((Lib.decodeL l).1 = 65533 ∧ (Lib.decodeL l).2 = 1) then none else some (Lib.decodeL l)
def zaq (s : ByteArray) : Int × Int × Bool := match tk s.data.toList with | none => (0, 0, false) | some (r, n) => ((r : Int), (n : Int), true)
theorem xa4 (l : List UInt8) : (Lib.decodeL l).1 ≤ 2147483647 := by unfold Lib.decodeL; exact decode_le _ _
theorem take_S (s : ByteArray) : ZM.f s = some (zaq s) := by
 unfold ZM.f utf8_DecodeRuneInString.f zaq tk
 rw [Zbf]
 by_cases hl : s.data.toList = []
 ·rw [if_pos (Or.inl hl)]
  have hs : s.size = 0 := by rw [← data_length, hl]; rfl
  unfold Lib.decodeGo
  rw [if_pos hs]; rfl
 ·rw [ya4 s hl]
  have h1 := Lib.decodeL_width s.data.toList
  have h2 := xa4 s.data.toList
  generalize Lib.decodeL s.data.toList = d at h1 h2
  obtain ⟨r, n⟩ := d
  simp only at h1 h2 ⊢
  by_cases a : r = 65533
  ·by_cases b : n = 1
   ·rw [if_pos (Or.inr ⟨a, b⟩), if_pos (by omega), if_pos (by omega)]
   ·rw [if_pos (show (r : Int) = 65533 by omega), if_neg (show ¬ (n : Int) < 2 by omega), if_neg (show ¬ (s.data.toList = [] ∨ (r = 65533 ∧ n = 1)) from fun hh => hh.elim hl (fun h => b h.2)), w64 (by omega) (by omega)]
  ·rw [if_neg (show ¬ (r : Int) = 65533 by omega), if_neg (show ¬ (s.data.toList = [] ∨ (r = 65533 ∧ n = 1)) from fun hh => hh.elim hl (fun h => a h.1)), w64 (by omega) (by omega)]
theorem u8 (n : Nat) (h : n < 256) : (n.toUInt8).toNat = n := by simp [Nat.toUInt8]; omega
theorem Za4 (n : Nat) (h : Xm (n : Int) = true) (x : List UInt8) : Lib.decodeL (enc (n : Int) ++ x) = (n, (enc (n : Int)).length) := by
 obtain ⟨h0, h1, h2⟩ := (Xv _).1 h
 rw [Lib.decodeL_N]
 unfold enc Lib.encodeRune
 by_cases a : n < 128
 ·rw [Lib.encodeRuneZ, if_pos (by omega)]
  have e : ((n : Int).toNat.toUInt8).toNat = n := by rw [Ybd]; exact u8 n (by omega)
  simp only [Xbf, ybg, Zbl, Xbi, xbn, e]
  unfold Lib.decodeN
  rw [if_pos a]; rfl
 ·by_cases b : n < 2048
  ·rw [Lib.encodeRuneZ, if_neg (by omega), if_pos (by omega)]
   have e0 : (((192 : Int) + (n : Int) / 64).toNat.toUInt8).toNat = 192 + n / 64 := by rw [show ((192 : Int) + (n : Int) / 64).toNat = 192 + n / 64 by omega]; exact u8 _ (by omega)
   have e1 : (((128 : Int) + (n : Int) % 64).toNat.toUInt8).toNat = 128 + n % 64 := by rw [show ((128 : Int) + (n : Int) % 64).toNat = 128 + n % 64 by omega]; exact u8 _ (by omega)
   simp only [Xbf, ybg, Zbl, Xbi, xbn, Xbs, e0, e1, Xbd, Xbg]
   unfold Lib.decodeN
   rw [if_neg (by omega), if_pos (by omega), if_pos (by omega)]
   congr 1; omega
  ·by_cases c : n < 65536
   ·rw [Lib.encodeRuneZ, if_neg (by omega), if_neg (by omega), if_pos (by omega)]
    have e0 : (((224 : Int) + (n : Int) / 4096).toNat.toUInt8).toNat = 224 + n / 4096 := by rw [show ((224 : Int) + (n : Int) / 4096).toNat = 224 + n / 4096 by omega]; exact u8 _ (by omega)
    have e1 : (((128 : Int) + (n : Int) / 64 % 64).toNat.toUInt8).toNat = 128 + n / 64 % 64 := by rw [show ((128 : Int) + (n : Int) / 64 % 64).toNat = 128 + n / 64 % 64 by omega]; exact u8 _ (by omega)
    have e2 : (((128 : Int) + (n : Int) % 64).toNat.toUInt8).toNat = 128 + n % 64 := by rw [show ((128 : Int) + (n : Int) % 64).toNat = 128 + n % 64 by omega]; exact u8 _ (by omega)
    simp only [Xbf, ybg, Zbl, Xbi, xbn, Xbs, e0, e1, e2, Xbd, Xbg]
    unfold Lib.decodeN
    rw [if_neg (by omega), if_neg (by omega), if_pos (by omega), if_pos (by omega)]
    congr 1; omega
   ·rw [Lib.encodeRuneZ, if_neg (by omega), if_neg (by omega), if_neg (by omega), if_pos (by omega)]
    have e0 : (((240 : Int) + (n : Int) / 262144).toNat.toUInt8).toNat = 240 + n / 262144 := by rw [show ((240 : Int) + (n : Int) / 262144).toNat = 240 + n / 262144 by omega]; exact u8 _ (by omega)
    have e1 : (((128 : Int) + (n : Int) / 4096 % 64).toNat.toUInt8).toNat = 128 + n / 4096 % 64 := by rw [show ((128 : Int) + (n : Int) / 4096 % 64).toNat = 128 + n / 4096 % 64 by omega]; exact u8 _ (by omega)
    have e2 : (((128 : Int) + (n : Int) / 64 % 64).toNat.toUInt8).toNat = 128 + n / 64 % 64 := by rw [show ((128 : Int) + (n : Int) / 64 % 64).toNat = 128 + n / 64 % 64 by omega]; exact u8 _ (by omega)
    have e3 : (((128 : Int) + (n : Int) % 64).toNat.toUInt8).toNat = 128 + n % 64 := by rw [show ((128 : Int) + (n : Int) % 64).toNat = 128 + n % 64 by omega]; exact u8 _ (by omega)
    simp only [Xbf, ybg, Zbl, Xbi, xbn, Xbs, e0, e1, e2, e3, Xbd, Xbg]
    unfold Lib.decodeN
    rw [if_neg (by omega), if_neg (by omega), if_neg (by omega), if_pos (by omega), if_pos (by omega)]
    congr 1; omega
theorem Ya0 (r : Int) : 1 ≤ (enc r).length := by
 unfold enc Lib.encodeRune Lib.encodeRuneZ
 rw [xbk]
 repeat' split
 all_goals simp
theorem enc_ne (r : Int) : enc r ≠ [] := fun e => by have := Ya0 r; rw [e] at this; simp at this
theorem enc_len3 (r : Int) (h : 2048 ≤ r) : 3 ≤ (enc r).length := by
 unfold enc Lib.encodeRune Lib.encodeRuneZ
 rw [xbk]
 repeat' split
 all_goals first | (simp; done) | omega
theorem tk_enc (n : Nat) (h : Xm (n : Int) = true) (x : List UInt8) : tk (enc (n : Int) ++ x) = some (n, (enc (n : Int)).length) := by
 unfold tk
 rw [Za4 n h x, if_neg]
 rintro (e | ⟨e1, e2⟩)
 ·exact enc_ne _ (List.append_eq_nil_iff.1 e).1
 ·simp only at e1 e2
  have := enc_len3 (n : Int) (by omega)
  omega
theorem yS {l : List UInt8} {r n : Nat} (h : tk l = some (r, n)) : Xm (r : Int) = true ∧ enc (r : Int) = l.take n ∧ n ≤ l.length ∧ 1 ≤ n := by
 unfold tk at h
 split at h
 ·cases h
 ·rename_i hc
  have hne : l ≠ [] := fun e => hc (.inl e)
  have hv : ¬ ((Lib.decodeL l).1 = 65533 ∧ (Lib.decodeL l).2 = 1) := fun e => hc (.inr e)
  have he := Lib.encode_decode l hne hv
  have hle := Lib.decodeL_le l hne
  have hw := Lib.decodeL_width l
  have hd := Option.some.inj h
  rw [hd] at he hle hw hv
  refine ⟨?_, he, hle, hw⟩
  rw [Xv]
  rw [Lib.decodeL_N] at hd
  rcases Lib.decodeN_shape l.length (l.getD 0 0).toNat (l.getD 1 0).toNat (l.getD 2 0).toNat (l.getD 3 0).toNat with ⟨c, e⟩ | ⟨c1, c2, c3, cv, e⟩ | ⟨c1, c2, c3, c4, cv, cs, e⟩ | ⟨c1, c2, c3, c4, c5, cv, cs, e⟩ | e
  all_goals rw [e] at hd; simp only [Prod.mk.injEq] at hd; obtain ⟨rfl, rfl⟩ := hd
  ·omega
  ·omega
  ·omega
  ·omega
  ·exact absurd ⟨rfl, rfl⟩ hv
theorem tk_of {l : List UInt8} {r : Nat} (hr : Xm (r : Int) = true) {n : Nat} (h : enc (r : Int) = l.take n) (hn : n ≤ l.length) : tk l = some (r, n) := by
 have h2 := tk_enc r hr (l.drop n)
 rw [h, List.take_append_drop] at h2
 rw [h2, ybc]
 congr 2; omega
theorem btL (s : ByteArray) (i : Nat) : bt s (i : Int) = (((s.data.toList.getD i 0).toNat : Nat) : Int) := by
 unfold bt
 split
 ·rename_i h
  rw [Ybd] at h
  have hl : i < s.data.toList.length := by rw [data_length]; exact h
  rw [zbe, zbf hl]; simp; rfl
 ·rename_i h
  rw [Ybd] at h
  have hl : s.data.toList.length ≤ i := by rw [data_length]; omega
  rw [zbe, Zbk hl]; rfl
def finR (s : ByteArray) (n : Int) (long : Nat) : Int × Int × Bool := if Xm n = true ∧ enc n = s.data.toList.take long then (n, (long : Int), true) else (0, 0, false)
theorem yaq (k : Nat) (s : ByteArray) (long : Nat) (n i : Int) (hk : 0 < k) (hi : (long : Int) ≤ i) (hl : long ≤ s.size) : Zd.l0 k s (long : Int) n i = some (finR s n long) := by
 obtain ⟨k, rfl⟩ : ∃ m, k = m + 1 := ⟨k - 1, by omega⟩
 simp only [Zd.l0]
 rw [if_neg (by omega), refPut, Zbf]
 unfold putS finR
 by_cases h : Xm n = true
 ·rw [if_pos h, if_pos (show ((⟨(enc n).toArray⟩ : ByteArray), true).2 = true from rfl), if_pos (by omega), if_pos (by omega), Ybd]
  have e : (s.extract 0 long).toList = s.data.toList.take long := by
   rw [Lib.toList_data, zbo, zbp]; simp
  rw [e]
  show (if (⟨(enc n).toArray⟩ : ByteArray).toList = _ then _ else _) = _
  rw [Lib.toList_data]
  by_cases h2 : enc n = s.data.toList.take long
  ·rw [if_pos h2, if_pos ⟨h, h2⟩]
  ·rw [if_neg h2, if_neg (fun hh => h2 hh.2)]
 ·rw [if_neg h, if_neg (by decide), if_neg (fun hh => h hh.1)]
theorem Z3 (k : Nat) (s : ByteArray) (long i m : Nat) (hi : i < long) (hl : long ≤ s.size) (hs : long ≤ 4) (hm : m < 1048576000000) :
  Zd.l0 (k + 1) s (long : Int) (m : Int) (i : Int) = Zd.l0 k s (long : Int) ((64 * m + (s.data.toList.getD i 0).toNat % 64 : Nat) : Int) ((i + 1 : Nat) : Int) := by
 have hb := UInt8.toNat_lt (s.data.toList.getD i 0)
 rw [Zd.l0, if_pos (by omega), if_pos (by omega), if_pos (by omega), btL, w64 (x := (((s.data.toList.getD i 0).toNat : Nat) : Int)) (by omega) (by omega), zbs (by omega), w64 (x := 64 * (m : Int)) (by omega) (by omega), w64 (by omega) (by omega), w64 (by omega) (by omega)]
 congr 1
def fstR (b : Nat) : Nat × Nat := if b < 128 then (1, b) else if 192 ≤ b ∧ b < 224 then (2, b - 192) else if 224 ≤ b ∧ b < 240 then (3, b - 224) else if 240 ≤ b ∧ b < 248 then (4, b - 240) else (0, 0)
theorem first_R (k b : Nat) (hk : 2 < k) (hb : b < 256) : Xc.f k (b : Int) = some (((fstR b).1 : Int), ((fstR b).2 : Int)) := by
 obtain ⟨k, rfl⟩ : ∃ m, k = m + 1 + 1 := ⟨k - 2, by omega⟩
 unfold Xc.f fstR
 by_cases a : b < 128
 ·rw [if_pos (by omega), if_pos a]; rfl
 ·rw [if_neg (show ¬ (b : Int) < 128 by omega), if_neg a]
  by_cases c : 192 ≤ b ∧ b < 224
  ·rw [if_pos (show (b : Int) ≥ 192 by omega), decide_eq_true (show (b : Int) < 224 by omega), if_pos c, Xc.j0, if_pos rfl, w64 (by omega) (by omega)]
   congr 2; omega
  ·rw [if_neg c]
   by_cases d : 224 ≤ b ∧ b < 240
   ·rw [if_pos (show (b : Int) ≥ 192 by omega), zbd (show ¬ (b : Int) < 224 by omega), if_pos d, Xc.j0, if_neg (by decide), if_pos (show (b : Int) ≥ 224 by omega), decide_eq_true (show (b : Int) < 240 by omega), Xc.j1, if_pos rfl, w64 (by omega) (by omega)]
    congr 2; omega
   ·rw [if_neg d]
    by_cases e : 240 ≤ b ∧ b < 248
    ·rw [if_pos (show (b : Int) ≥ 192 by omega), zbd (show ¬ (b : Int) < 224 by omega), if_pos e, Xc.j0, if_neg (by decide), if_pos (show (b : Int) ≥ 224 by omega), zbd (show ¬ (b : Int) < 240 by omega), Xc.j1, if_neg (by decide), if_pos (show (b : Int) ≥ 240 by omega), if_pos (show (b : Int) < 248 by omega), w64 (by omega) (by omega)]
     congr 2; omega
    ·rw [if_neg e]
     by_cases f : 192 ≤ b
     ·rw [if_pos (show (b : Int) ≥ 192 by omega), zbd (show ¬ (b : Int) < 224 by omega), Xc.j0, if_neg (by decide), if_pos (show (b : Int) ≥ 224 by omega), zbd (show ¬ (b : Int) < 240 by omega), Xc.j1, if_neg (by decide), if_pos (show (b : Int) ≥ 240 by omega), if_neg (show ¬ (b : Int) < 248 by omega)]; rfl
     ·rw [if_neg (show ¬ (b : Int) ≥ 192 by omega), Xc.j0, if_neg (by decide), if_neg (show ¬ (b : Int) ≥ 224 by omega), Xc.j1, if_neg (by decide), if_neg (show ¬ (b : Int) ≥ 240 by omega)]; rfl
def acc (l : List UInt8) : Nat → Nat → Nat
 | 2, n => 64 * n + (l.getD 1 0).toNat % 64
 | 3, n => 64 * (64 * n + (l.getD 1 0).toNat % 64) + (l.getD 2 0).toNat % 64
 | 4, n => 64 * (64 * (64 * n + (l.getD 1 0).toNat % 64) + (l.getD 2 0).toNat % 64) + (l.getD 3 0).toNat % 64
 | _, n => n
def Y4 (s : ByteArray) : Int × Int × Bool :=
 let d := fstR (s.data.toList.getD 0 0).toNat
 if s.size = 0 ∨ d.1 = 0 ∨ s.size < d.1 then (0, 0, false) else finR s ((acc s.data.toList d.1 d.2 : Nat) : Int) d.1
theorem fst_bd (b : Nat) (hb : b < 256) : (fstR b).1 ≤ 4 ∧ (fstR b).2 < 256 := by
 unfold fstR; repeat' split
 all_goals simp only; omega
theorem refTake (k : Nat) (s : ByteArray) (hk : 10 < k) : Zd.f k s = some (Y4 s) := by
 obtain ⟨k, rfl⟩ : ∃ m, k = m + 1 + 1 + 1 + 1 + 1 := ⟨k - 5, by omega⟩
 have hb := UInt8.toNat_lt (s.data.toList.getD 0 0)
 unfold Zd.f Y4
 by_cases h0 : s.size = 0
 ·rw [if_pos (show (s.size : Int) = 0 by omega), if_pos (Or.inl h0)]
 ·rw [if_neg (show ¬ (s.size : Int) = 0 by omega), if_pos (show 0 < (s.size : Int) by omega), show (0 : Int) = ((0 : Nat) : Int) by rfl, btL, w64 (by omega) (by omega), first_R _ _ (by omega) hb, Zbf]
  have hbd := fst_bd _ hb
  obtain ⟨⟨L, n⟩, hd⟩ : ∃ d, fstR (s.data.toList.getD 0 0).toNat = d := ⟨_, rfl⟩
  rw [hd] at hbd
  rw [hd]
  simp only at hbd ⊢
  by_cases h1 : L = 0
  ·rw [if_pos (show (L : Int) = ((0 : Nat) : Int) by omega), if_pos (Or.inr (Or.inl h1)), Zd.j0, if_pos rfl]; rfl
  ·rw [if_neg (show ¬ (L : Int) = ((0 : Nat) : Int) by omega), Zd.j0]
   by_cases h2 : s.size < L
   ·rw [if_pos (decide_eq_true (show (L : Int) > (s.size : Int) by omega)), if_pos (Or.inr (Or.inr h2))]; rfl
   ·rw [if_neg (show ¬ decide ((L : Int) > (s.size : Int)) = true by rw [decide_eq_true_iff]; omega), if_neg (show ¬ (s.size = 0 ∨ L = 0 ∨ s.size < L) by omega)]
    have hc1 := UInt8.toNat_lt (s.data.toList.getD 1 0)
    have hc2 := UInt8.toNat_lt (s.data.toList.getD 2 0)
    have hc : L = 1 ∨ L = 2 ∨ L = 3 ∨ L = 4 := by omega
    rw [show (1 : Int) = ((1 : Nat) : Int) by rfl]
    rcases hc with rfl | rfl | rfl | rfl
    ·rw [yaq _ s 1 _ _ (by omega) (by omega) (by omega)]; rfl
    ·rw [Z3 _ s 2 1 n (by omega) (by omega) (by omega) (by omega), yaq _ s 2 _ _ (by omega) (by omega) (by omega)]; rfl
    ·rw [Z3 _ s 3 1 n (by omega) (by omega) (by omega) (by omega), Z3 _ s 3 2 _ (by omega) (by omega) (by omega) (by omega), yaq _ s 3 _ _ (by omega) (by omega) (by omega)]; rfl
    ·rw [Z3 _ s 4 1 n (by omega) (by omega) (by omega) (by omega), Z3 _ s 4 2 _ (by omega) (by omega) (by omega) (by omega), Z3 _ s 4 3 _ (by omega) (by omega) (by omega) (by omega), yaq _ s 4 _ _ (by omega) (by omega) (by omega)]; rfl
theorem fst_enc (n : Nat) (h : Xm (n : Int) = true) (x : List UInt8) : (fstR ((enc (n : Int) ++ x).getD 0 0).toNat).1 = (enc (n : Int)).length ∧ acc (enc (n : Int) ++ x) (enc (n : Int)).length (fstR ((enc (n : Int) ++ x).getD 0 0).toNat).2 = n := by
 obtain ⟨h0, h1, h2⟩ := (Xv _).1 h
 unfold enc Lib.encodeRune
 by_cases a : n < 128
 ·rw [Lib.encodeRuneZ, if_pos (by omega)]
  have e : ((n : Int).toNat.toUInt8).toNat = n := by rw [Ybd]; exact u8 n (by omega)
  simp only [Xbf, ybg, Zbl, Xbi, xbn, e, Xbd, Xbg]
  unfold fstR; rw [if_pos a]; exact ⟨rfl, rfl⟩
 ·by_cases b : n < 2048
  ·rw [Lib.encodeRuneZ, if_neg (by omega), if_pos (by omega)]
   have e0 : (((192 : Int) + (n : Int) / 64).toNat.toUInt8).toNat = 192 + n / 64 := by rw [show ((192 : Int) + (n : Int) / 64).toNat = 192 + n / 64 by omega]; exact u8 _ (by omega)
   have e1 : (((128 : Int) + (n : Int) % 64).toNat.toUInt8).toNat = 128 + n % 64 := by rw [show ((128 : Int) + (n : Int) % 64).toNat = 128 + n % 64 by omega]; exact u8 _ (by omega)
   simp only [Xbf, ybg, Zbl, Xbi, xbn, Xbs, e0, Xbd, Xbg, acc]
   unfold fstR
   rw [if_neg (by omega), if_pos (by omega)]
   refine ⟨rfl, ?_⟩
   simp only [e1]; omega
  ·by_cases c : n < 65536
   ·rw [Lib.encodeRuneZ, if_neg (by omega), if_neg (by omega), if_pos (by omega)]
    have e0 : (((224 : Int) + (n : Int) / 4096).toNat.toUInt8).toNat = 224 + n / 4096 := by rw [show ((224 : Int) + (n : Int) / 4096).toNat = 224 + n / 4096 by omega]; exact u8 _ (by omega)
    have e1 : (((128 : Int) + (n : Int) / 64 % 64).toNat.toUInt8).toNat = 128 + n / 64 % 64 := by rw [show ((128 : Int) + (n : Int) / 64 % 64).toNat = 128 + n / 64 % 64 by omega]; exact u8 _ (by omega)
    have e2 : (((128 : Int) + (n : Int) % 64).toNat.toUInt8).toNat = 128 + n % 64 := by rw [show ((128 : Int) + (n : Int) % 64).toNat = 128 + n % 64 by omega]; exact u8 _ (by omega)
    simp only [Xbf, ybg, Zbl, Xbi, xbn, Xbs, e0, Xbd, Xbg, acc]
    unfold fstR
    rw [if_neg (by omega), if_neg (by omega), if_pos (by omega)]
    refine ⟨rfl, ?_⟩
    simp only [e1, e2]; omega
   ·rw [Lib.encodeRuneZ, if_neg (by omega), if_neg (by omega), if_neg (by omega), if_pos (by omega)]
    have e0 : (((240 : Int) + (n : Int) / 262144).toNat.toUInt8).toNat = 240 + n / 262144 := by rw [show ((240 : Int) + (n : Int) / 262144).toNat = 240 + n / 262144 by omega]; exact u8 _ (by omega)
    have e1 : (((128 : Int) + (n : Int) / 4096 % 64).toNat.toUInt8).toNat = 128 + n / 4096 % 64 := by rw [show ((128 : Int) + (n : Int) / 4096 % 64).toNat = 128 + n / 4096 % 64 by omega]; exact u8 _ (by omega)
    have e2 : (((128 : Int) + (n : Int) / 64 % 64).toNat.toUInt8).toNat = 128 + n / 64 % 64 := by rw [show ((128 : Int) + (n : Int) / 64 % 64).toNat = 128 + n / 64 % 64 by omega]; exact u8 _ (by omega)
    have e3 : (((128 : Int) + (n : Int) % 64).toNat.toUInt8).toNat = 128 + n % 64 := by rw [show ((128 : Int) + (n : Int) % 64).toNat = 128 + n % 64 by omega]; exact u8 _ (by omega)
    simp only [Xbf, ybg, Zbl, Xbi, xbn, Xbs, e0, Xbd, Xbg, acc]
    unfold fstR
    rw [if_neg (by omega), if_neg (by omega), if_neg (by omega), if_pos (by omega)]
    refine ⟨rfl, ?_⟩
    simp only [e1, e2, e3]; omega
theorem refTakeS_eq (s : ByteArray) : Y4 s = zaq s := by
 have hsz : s.data.toList.length = s.size := data_length s
 unfold zaq
 cases ht : tk s.data.toList with
 | some d =>
  obtain ⟨r, n⟩ := d
  obtain ⟨hl, he, hn, h1⟩ := yS ht
  have hx : s.data.toList = enc (r : Int) ++ s.data.toList.drop n := by rw [he, List.take_append_drop]
  have hlen : (enc (r : Int)).length = n := by rw [he, ybc]; omega
  have hf := fst_enc r hl (s.data.toList.drop n)
  rw [← hx, hlen] at hf
  unfold Y4
  simp only
  rw [hf.1, if_neg (by omega), hf.2]
  unfold finR
  rw [if_pos ⟨hl, he⟩]
 | none =>
  unfold Y4
  simp only
  split
  ·rfl
  ·rename_i hc
   unfold finR
   split
   ·rename_i hh
    have := tk_of hh.1 hh.2 (by omega)
    rw [ht] at this; cases this
   ·rfl
def Y0 : Nat → List UInt8 → Option (List Int)
 | 0, _ => some []
 | n + 1, l => if l = [] then some [] else match tk l with | none => none | some (r, m) => (Y0 n (l.drop m)).map fun x => (r : Int) :: x
def lets (l : List UInt8) : Option (List Int) := Y0 l.length l
theorem ZaS : ∀ (a b : Nat) (l : List UInt8), l.length ≤ a → l.length ≤ b → Y0 a l = Y0 b l
 | 0, b, l, ha, hb => by
  have : l = [] := xbg (by omega)
  subst this
  cases b <;> simp [Y0]
 | a + 1, 0, l, ha, hb => by
  have : l = [] := xbg (by omega)
  subst this
  simp [Y0]
 | a + 1, b + 1, l, ha, hb => by
  simp only [Y0]
  split
  ·rfl
  ·rename_i hne
   cases ht : tk l with
   | none => rfl
   | some d =>
    obtain ⟨r, m⟩ := d
    obtain ⟨_, _, h1, h2⟩ := yS ht
    simp only
    rw [ZaS a b (l.drop m) (by rw [Zbb]; omega) (by rw [Zbb]; omega)]
theorem lets_nil : lets [] = some [] := rfl
theorem lets_none {l : List UInt8} (hne : l ≠ []) (ht : tk l = none) : lets l = none := by
 unfold lets
 cases l with
 | nil => exact absurd rfl hne
 | cons b t => simp only [Xbd, Y0]; rw [if_neg hne, ht]
theorem yaM {l : List UInt8} {r m : Nat} (hne : l ≠ []) (ht : tk l = some (r, m)) : lets l = (lets (l.drop m)).map fun x => (r : Int) :: x := by
 obtain ⟨_, _, h1, h2⟩ := yS ht
 unfold lets
 cases l with
 | nil => exact absurd rfl hne
 | cons b t =>
  simp only [Xbd, Y0]; rw [if_neg hne, ht]
  simp only
  rw [ZaS t.length _ _ (by rw [Zbb, Xbd]; omega) (Xbc _)]
theorem tk_none {l : List UInt8} (hne : l ≠ []) : tk l = none ↔ ((Lib.decodeL l).1 = 65533 ∧ (Lib.decodeL l).2 = 1) := by
 unfold tk
 constructor
 ·intro h; split at h
  ·rename_i hc; exact hc.elim (fun e => absurd e hne) id
  ·cases h
 ·intro h; rw [if_pos (Or.inr h)]
theorem tk_dec {l : List UInt8} {r m : Nat} (ht : tk l = some (r, m)) : l ≠ [] ∧ Lib.decodeL l = (r, m) := by
 unfold tk at ht
 split at ht
 ·cases ht
 ·rename_i hc
  exact ⟨fun e => hc (.inl e), Option.some.inj ht⟩
theorem xaB : ∀ (n : Nat) (l : List UInt8), l.length ≤ n → Lib.validD l = (lets l).isSome
 | 0, l, h => by
  have : l = [] := xbg (by omega)
  subst this; rfl
 | n + 1, l, h => by
  by_cases hne : l = []
  ·subst hne; rfl
  ·rw [Lib.validD_step l hne]
   cases ht : tk l with
   | none => rw [if_pos ((tk_none hne).1 ht), lets_none hne ht]; rfl
   | some d =>
    obtain ⟨r, m⟩ := d
    obtain ⟨_, hd⟩ := tk_dec ht
    obtain ⟨_, _, h1, h2⟩ := yS ht
    rw [if_neg (fun e => by have := (tk_none hne).2 e; rw [ht] at this; cases this), yaM hne ht, hd, xaB n (l.drop m) (by rw [Zbb]; omega), Option.isSome_map]
def encs : List Int → List UInt8
 | [] => []
 | r :: l => enc r ++ encs l
theorem lets_enc (r : Int) (h : Xm r = true) (x : List UInt8) : lets (enc r ++ x) = (lets x).map fun y => r :: y := by
 obtain ⟨h0, _, _⟩ := (Xv r).1 h
 obtain ⟨n, rfl⟩ : ∃ n : Nat, r = n := ⟨r.toNat, by omega⟩
 have hne : enc (n : Int) ++ x ≠ [] := fun e => enc_ne _ (List.append_eq_nil_iff.1 e).1
 rw [yaM hne (tk_enc n h x), List.drop_left]
theorem xaM (y : List UInt8) : ∀ (l : List Int), (∀ x ∈ l, Xm x = true) → lets (encs l ++ y) = (lets y).map fun z => l ++ z
 | [], _ => by simp [encs]
 | r :: l, h => by
  rw [encs, xbj, lets_enc r (h r (ybm ..)), xaM y l (fun x hx => h x (Zbs _ hx)), Option.map_map]
  rfl
theorem YaS : ∀ l : List Int, (encs l).length ≤ 4 * l.length
 | [] => Xbc _
 | r :: l => by
  have := YaS l
  have h2 : (enc r).length ≤ 4 := by
   unfold enc Lib.encodeRune Lib.encodeRuneZ
   rw [xbk]
   repeat' split
   all_goals simp
  rw [encs, Xbb, Xbd]; omega
end Go.Proofs.NGiv
namespace Go.Proofs.NGiv
open Go.RowKit Go.Proofs.Wa Go.Proofs.Wb Go.Proofs.Wc
open Go.Proofs.NU1 Go.Proofs.NQ1
abbrev Rd (W : World) (g : Nat) (s : ByteArray) (p : Nat) (v : Value) : Prop := W.heap[g]? = some (.cells #[.string s, .int .i64 (p : Int), v] 58 (0, 0))
def zJ (n : Nat) : Bool := n = 32 || n = 9 || n = 10 || n = 13
def skips : List UInt8 → Nat
 | [] => 0
 | c :: l => if zJ c.toNat = true then skips l + 1 else 0
def Zb (s : ByteArray) (p : Nat) : Nat := p + skips (s.data.toList.drop p)
def zd (s : ByteArray) (p : Nat) : Nat := (s.data.toList.getD (Zb s p) 0).toNat
theorem dropB (s : ByteArray) (i : Nat) (hi : i < s.size) : s.data.toList.drop i = s.data.toList.getD i 0 :: s.data.toList.drop (i + 1) := by
 have hl : i < s.data.toList.length := by rw [data_length]; exact hi
 rw [Xbo hl]
 congr 1
 rw [zbe, zbf hl]; rfl
theorem skip_end (s : ByteArray) (p : Nat) (h : s.size ≤ p) : Zb s p = p := by
 unfold Zb
 rw [xbp (by rw [data_length]; exact h)]; rfl
theorem Ya4 (s : ByteArray) (p : Nat) (h : p < s.size) (hb : zJ (s.data.toList.getD p 0).toNat = true) : Zb s p = Zb s (p + 1) := by
 unfold Zb
 rw [dropB s p h, skips, if_pos hb]; omega
theorem skip_not (s : ByteArray) (p : Nat) (h : p < s.size) (hb : ¬ zJ (s.data.toList.getD p 0).toNat = true) : Zb s p = p := by
 unfold Zb
 rw [dropB s p h, skips, if_neg hb]; rfl
theorem Xa0 : ∀ n : Nat, n < 256 → decide (0 ≤ Lib.indexByte [32, 9, 10, 13] n.toUInt8) = zJ n := by decide +kernel
theorem Zn (w0 W : World) (g : Nat) (s : ByteArray) (p : Nat) (v : Value) (hR : Rd W g s p v) (hB : Below w0.heap.size w0 W) (hg : w0.heap.size ≤ g) (hp : p ≤ s.size) (hs : s.size ≤ 4611686018427387904) :
  Calls Tryz.prog 23 #[.pointer (some ⟨g, 0, none⟩)] W fun e W' => e = .returned (.int .u8 (zd s p)) ∧ Rd W' g s (Zb s p) v ∧ Below w0.heap.size w0 W' ∧ KeepBut W W' g none := by
 have HR := Aside0.mk hR
 have HB := Aside0.mk hB
 have HG := Aside0.mk hg
 have HS := Aside0.mk hs
 have HK := Aside0.mk (KeepBut.refl W g none)
 clear hR hB hg hs
 go_enter Tryz.func23, Tryz.ntmps23
 go_wp2
 repeat (go_quiet (fail); try go_wp2)
 go_loopg [] (s.size - p) (fun kq wr => ∃ q : Nat, q ≤ s.size ∧ kq = s.size - q ∧ Aside0 (Zb s q = Zb s p) ∧ Aside0 (Rd wr g s q v) ∧ Aside0 (KeepBut W wr g none) ∧ Aside0 (Below w0.heap.size w0 wr))
 case atStart => exact ⟨p, hp, rfl, ⟨rfl⟩, HR, HK, HB⟩
 case round =>
  obtain ⟨q, hq, hgk, HP, HR, HK, HB⟩ := hrel
  have hc0 : wr.cell? ⟨g, 0, none⟩ = some (.string s) := (zb HR.out 0).trans rfl
  have hc1 : wr.cell? ⟨g, 1, none⟩ = some (.int .i64 (q : Int)) := (zb HR.out 1).trans rfl
  have hf0 := zg HR.out 0
  have hf1 := zg HR.out 1
  have hx : ∀ h : q < s.size, ((s[q]'h).toNat : Int) = bt s (q : Int) := fun h => Xo s (q : Int) h
  have q0 : (0 ≤ (q : Int)) = True := eq_true (by omega)
  by_cases hlt : q < s.size
  ·have d1 : decide ((q : Int) < (s.size : Int)) = true := decide_eq_true (by omega)
   have d2 : ((q : Int) == (s.size : Int)) = false := Ybb.mpr (by omega)
   have q1 : ((q : Int) < (s.size : Int)) = True := eq_true (by omega)
   have hn := UInt8.toNat_lt (s.data.toList.getD q 0)
   have hbt := btL s q
   have hidx : decide (0 ≤ Lib.indexByte [32, 9, 10, 13] ((bt s (q : Int)).toNat.toUInt8)) = zJ (s.data.toList.getD q 0).toNat := by
    rw [hbt, Ybd]; exact Xa0 _ hn
   by_cases hb : zJ (s.data.toList.getD q 0).toNat = true
   ·rw [hb] at hidx
    have HN : Aside0 (Zb s (q + 1) = Zb s p) := ⟨by rw [← Ya4 s q hlt hb]; exact HP.out⟩
    have HW : Aside0 (wrap64 ((q : Int) + 1) = ((q + 1 : Nat) : Int)) := ⟨by have := HS.out; unfold wrap64; omega⟩
    clear hbt hn hb d2
    obtain ⟨kk, rfl⟩ : ∃ kk, gk = kk + 1 := ⟨gk - 1, by omega⟩
    go_wp2_with ((go_at_call 44; (with_reducible refine (strings_IndexByte.calls (⟨#[32, 9, 10, 13]⟩ : ByteArray) (bt s (q : Int)) _ _ (rfl : strings_IndexByte.f _ _ = some (Lib.indexByte [32, 9, 10, 13] ((bt s (q : Int)).toNat.toUInt8)))).mono ?_); rintro e w' ⟨rfl, ⟨nd, rfl⟩⟩; (try first | exact ⟨rfl, _, xbf _ _ _⟩ | exact ⟨rfl, _, Eq.trans (xbf _ _ _) (congrArg (World.drewN _) (Zbi _ _ _))⟩)))
    repeat (go_quiet ((go_at_call 44; (with_reducible refine (strings_IndexByte.calls (⟨#[32, 9, 10, 13]⟩ : ByteArray) (bt s (q : Int)) _ _ (rfl : strings_IndexByte.f _ _ = some (Lib.indexByte [32, 9, 10, 13] ((bt s (q : Int)).toNat.toUInt8)))).mono ?_); rintro e w' ⟨rfl, ⟨nd, rfl⟩⟩; (try first | exact ⟨rfl, _, xbf _ _ _⟩ | exact ⟨rfl, _, Eq.trans (xbf _ _ _) (congrArg (World.drewN _) (Zbi _ _ _))⟩))); try go_wp2_with ((go_at_call 44; (with_reducible refine (strings_IndexByte.calls (⟨#[32, 9, 10, 13]⟩ : ByteArray) (bt s (q : Int)) _ _ (rfl : strings_IndexByte.f _ _ = some (Lib.indexByte [32, 9, 10, 13] ((bt s (q : Int)).toNat.toUInt8)))).mono ?_); rintro e w' ⟨rfl, ⟨nd, rfl⟩⟩; (try first | exact ⟨rfl, _, xbf _ _ _⟩ | exact ⟨rfl, _, Eq.trans (xbf _ _ _) (congrArg (World.drewN _) (Zbi _ _ _))⟩))))
    go_roundg kk
    case measure => omega
    case rel =>
     refine ⟨q + 1, by omega, by omega, HN, ⟨?_⟩, ⟨KeepBut.set_ (YI HK.out _) 1 _⟩, ⟨Yj (Ya HB.out _) HG.out⟩⟩
     rw [HW.out]
     exact zq (w := wr.drewN _) HR.out 1 _
   ·have hb' : zJ (s.data.toList.getD q 0).toNat = false := ybh.2 hb
    rw [hb'] at hidx
    have HE := Aside0.mk (skip_not s q hlt hb)
    have HBT := Aside0.mk hbt
    clear hbt hn hb hb'
    go_wp2_with ((go_at_call 44; (with_reducible refine (strings_IndexByte.calls (⟨#[32, 9, 10, 13]⟩ : ByteArray) (bt s (q : Int)) _ _ (rfl : strings_IndexByte.f _ _ = some (Lib.indexByte [32, 9, 10, 13] ((bt s (q : Int)).toNat.toUInt8)))).mono ?_); rintro e w' ⟨rfl, ⟨nd, rfl⟩⟩; (try first | exact ⟨rfl, _, xbf _ _ _⟩ | exact ⟨rfl, _, Eq.trans (xbf _ _ _) (congrArg (World.drewN _) (Zbi _ _ _))⟩)))
    repeat (go_quiet ((go_at_call 44; (with_reducible refine (strings_IndexByte.calls (⟨#[32, 9, 10, 13]⟩ : ByteArray) (bt s (q : Int)) _ _ (rfl : strings_IndexByte.f _ _ = some (Lib.indexByte [32, 9, 10, 13] ((bt s (q : Int)).toNat.toUInt8)))).mono ?_); rintro e w' ⟨rfl, ⟨nd, rfl⟩⟩; (try first | exact ⟨rfl, _, xbf _ _ _⟩ | exact ⟨rfl, _, Eq.trans (xbf _ _ _) (congrArg (World.drewN _) (Zbi _ _ _))⟩))); try go_wp2_with ((go_at_call 44; (with_reducible refine (strings_IndexByte.calls (⟨#[32, 9, 10, 13]⟩ : ByteArray) (bt s (q : Int)) _ _ (rfl : strings_IndexByte.f _ _ = some (Lib.indexByte [32, 9, 10, 13] ((bt s (q : Int)).toNat.toUInt8)))).mono ?_); rintro e w' ⟨rfl, ⟨nd, rfl⟩⟩; (try first | exact ⟨rfl, _, xbf _ _ _⟩ | exact ⟨rfl, _, Eq.trans (xbf _ _ _) (congrArg (World.drewN _) (Zbi _ _ _))⟩))))
    go_ret
    refine ⟨?_, ?_, by repeat (first | exact HB.out | apply Ya), HK.out⟩
    ·unfold zd; rw [← HP.out, HE.out, HBT.out]; rfl
    ·rw [← HP.out, HE.out]; exact HR.out
  ·obtain rfl : q = s.size := by omega
   have d1 : decide ((s.size : Int) < (s.size : Int)) = false := zbd (by omega)
   have d2 : ((s.size : Int) == (s.size : Int)) = true := beq_self_eq_true _
   go_wp2_with ((go_at_call 44; (with_reducible refine (strings_IndexByte.calls (⟨#[32, 9, 10, 13]⟩ : ByteArray) (bt s (q : Int)) _ _ (rfl : strings_IndexByte.f _ _ = some (Lib.indexByte [32, 9, 10, 13] ((bt s (q : Int)).toNat.toUInt8)))).mono ?_); rintro e w' ⟨rfl, ⟨nd, rfl⟩⟩; (try first | exact ⟨rfl, _, xbf _ _ _⟩ | exact ⟨rfl, _, Eq.trans (xbf _ _ _) (congrArg (World.drewN _) (Zbi _ _ _))⟩)))
   repeat (go_quiet ((go_at_call 44; (with_reducible refine (strings_IndexByte.calls (⟨#[32, 9, 10, 13]⟩ : ByteArray) (bt s (q : Int)) _ _ (rfl : strings_IndexByte.f _ _ = some (Lib.indexByte [32, 9, 10, 13] ((bt s (q : Int)).toNat.toUInt8)))).mono ?_); rintro e w' ⟨rfl, ⟨nd, rfl⟩⟩; (try first | exact ⟨rfl, _, xbf _ _ _⟩ | exact ⟨rfl, _, Eq.trans (xbf _ _ _) (congrArg (World.drewN _) (Zbi _ _ _))⟩))); try go_wp2_with ((go_at_call 44; (with_reducible refine (strings_IndexByte.calls (⟨#[32, 9, 10, 13]⟩ : ByteArray) (bt s (q : Int)) _ _ (rfl : strings_IndexByte.f _ _ = some (Lib.indexByte [32, 9, 10, 13] ((bt s (q : Int)).toNat.toUInt8)))).mono ?_); rintro e w' ⟨rfl, ⟨nd, rfl⟩⟩; (try first | exact ⟨rfl, _, xbf _ _ _⟩ | exact ⟨rfl, _, Eq.trans (xbf _ _ _) (congrArg (World.drewN _) (Zbi _ _ _))⟩))))
   go_ret
   have he := skip_end s s.size (Xbc _)
   refine ⟨?_, ?_, by repeat (first | exact HB.out | apply Ya), HK.out⟩
   ·unfold zd
    rw [← HP.out, he, zbe, Zbk (by rw [data_length]; exact Xbc _)]; rfl
   ·rw [← HP.out, he]; exact HR.out
end Go.Proofs.NGiv
