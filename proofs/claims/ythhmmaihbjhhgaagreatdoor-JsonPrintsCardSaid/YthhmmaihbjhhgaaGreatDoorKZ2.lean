/- What the proof of JsonPrints stands on, part 2: cut and merged by a program out of this session's texts. -/
import Derived.Test.YthhmmaihbjhhgaaGreatDoorKZ1
import Derived.Test.YthhmmaihbjhhgaaGreatDoorProg
import Derived.Shelf.Strings.BuilderK
import Derived.Shelf.Small.Utf8
import Derived.Shelf.Unicode.DecodeAny
import Derived.Shelf.Unicode.ValidAny
import Derived.Test.YthhmmaihbjhhgaaGreatDoorRows
import Derived.Lib.LaidIn
import Derived.Lib.LaidU8T
import Derived.Deep.DeepWitnessRowRef
import Derived.Shelf.Strings.Builder1
import Derived.Shelf.Strings.Builder2
import Derived.Shelf.Small.Strs
import Derived.Shelf.Strings.BuilderF
import Derived.Shelf.Strconv.Atoi
import Derived.Shelf.Strconv.Itoa0
import Derived.Shelf.Strconv.Itoa1
import Derived.Shelf.LaysM
import Derived.Shelf.Strconv.Itoa2
import Derived.Shelf.Strconv.Itoa3
import Derived.Shelf.Strconv.AtoiErrFast
import Derived.Shelf.Strconv.ParseIntEmpty
import Derived.Shelf.Strconv.AtoiFail
import Derived.Shelf.Strconv.Clone
import Derived.Shelf.Strconv.SyntaxError
import Derived.Shelf.LaysC
import Derived.Shelf.Strconv.ToError
import Derived.Shelf.Strconv.AtoiErr
import Derived.Shelf.Strconv.Lower
import Derived.Shelf.Strconv.ParseUint10
import Derived.Shelf.Strconv.ParseUint10Empty
import Derived.Shelf.Strconv.ParseUint10Any
import Derived.Shelf.Strconv.ParseInt10
import Derived.Shelf.Strconv.AtoiLong
import Derived.Shelf.Strconv.AtoiInnerAll
import Derived.Shelf.Strconv.RangeError
import Derived.Shelf.Strconv.ToErrorRange
import Derived.Shelf.Strconv.AtoiAll
import Derived.Shelf.Strings.Search1
import Derived.Shelf.Strings.Prefix
import Derived.Shelf.Unicode.Decode
import Derived.Shelf.Bits.Mul64
import Derived.Shelf.Strings.Repeat
import Derived.Shelf.Unicode.DecodeSlow
import Derived.Lib.AppendIntMem
import Derived.WalkMore
import Derived.Lib.LaidTab
import Derived.Below
import Derived.Deep.Draws
import Derived.Deep.AppendLies
import Derived.Maps.AppendAt
import Derived.OwnWalk
import Derived.Laws.BytesArg
import Derived.Laws.MakeOwn
import Derived.Laws.OwnMore
import Derived.Deep.OwnRows
import Derived.Tactics
import Derived.Lib.ConvBytes
import Derived.Laws.Slices
import Derived.WalkKit
import Derived.KernelRfl
import Derived.RowKit3
import Derived.Deep.LoopGhost
import Derived.Deep.QuietTactic
import Derived.BigQuiet
import Derived.WideLaws
import Derived.Deep.DeepCutAuto
import Derived.Deep.CutBlock
import Derived.Deep.RegionHeld3
import Derived.Laws.Rows
import Derived.Lib.AppendStr
import Derived.ArgAppend
import Derived.Laws.IdiomCopy
import Derived.OrdersHeld
import Derived.Laws.BitsLemmas
import Derived.RowKit
import Derived.Lib.Hide
import Derived.Laws.EntriesVeiled
import Derived.Lib.Strings
set_option linter.unusedVariables false
set_option linter.unusedSimpArgs false
namespace Go.Proofs
open Go.Shelf
def Tryz.lays167_ren : Go.Shelf.Ren := ⟨fun | 167 => 17 | 240 => 33 | 276 => 54 | n => n, fun | 0 => 0 | 3 => 3 | 4 => 4 | 5 => 5 | 9 => 9 | 20 => 20 | 37 => 43 | 70 => 42 | 72 => 45 | 75 => 50 | 80 => 54 | 164 => 92 | n => n, fun  | n => n⟩
theorem Tryz.lays167 : Go.Proofs.Lays.n167 Tryz.prog Tryz.lays167_ren := {
 mixed := by kernel_rfl
 f167 := Tryz.func17.trans (congrArg some (by kernel_rfl))
 f240 := Tryz.func33.trans (congrArg some (by kernel_rfl))
 f276 := Tryz.func54.trans (congrArg some (by kernel_rfl))
 t0 := Tryz.underlying0
 a0 := Tryz.isAgg0
 z0 := Tryz.sizeOf0
 v0 := Tryz.zeroValue0
 t4 := Tryz.underlying4
 a4 := Tryz.isAgg4
 z4 := Tryz.sizeOf4
 v4 := Tryz.zeroValue4
 t5 := Tryz.underlying5
 a5 := Tryz.isAgg5
 z5 := Tryz.sizeOf5
 v5 := Tryz.zeroValue5
 t9 := Tryz.underlying9
 a9 := Tryz.isAgg9
 z9 := Tryz.sizeOf9
 v9 := Tryz.zeroValue9
 t20 := Tryz.underlying20
 a20 := Tryz.isAgg20
 z20 := Tryz.sizeOf20
 v20 := Tryz.zeroValue20
 t37 := Tryz.underlying43
 a37 := Tryz.isAgg43
 z37 := Tryz.sizeOf43
 v37 := Tryz.zeroValue43
 t70 := Tryz.underlying42
 a70 := Tryz.isAgg42
 z70 := Tryz.sizeOf42
 v70 := Tryz.zeroValue42
 t72 := Tryz.underlying45
 a72 := Tryz.isAgg45
 z72 := Tryz.sizeOf45
 v72 := Tryz.zeroValue45
 t75 := Tryz.underlying50
 a75 := Tryz.isAgg50
 z75 := Tryz.sizeOf50
 v75 := Tryz.zeroValue50
 t164 := Tryz.underlying92
 a164 := Tryz.isAgg92
 z164 := Tryz.sizeOf92
 v164 := Tryz.zeroValue92 }
theorem Tryz.Builder_Extra_167 : Builder.Extra Tryz.prog Tryz.lays167_ren := {
 sizeBuilder := by kernel_rfl
 liesBuilder := by kernel_rfl
 t5 := Tryz.underlying5
 a5 := Tryz.isAgg5
 z5 := Tryz.sizeOf5
 v5 := Tryz.zeroValue5
 infoByte := by kernel_rfl
 cellsByte := by kernel_rfl
 sizeByte := by kernel_rfl
 neB5 := by decide }
def Tryz.lays166_ren : Go.Shelf.Ren := ⟨fun | 166 => 35 | 240 => 33 | 276 => 54 | n => n, fun | 0 => 0 | 3 => 3 | 4 => 4 | 5 => 5 | 9 => 9 | 20 => 20 | 37 => 43 | 70 => 42 | 72 => 45 | 75 => 50 | 80 => 54 | 164 => 92 | n => n, fun  | n => n⟩
theorem Tryz.lays166 : Go.Proofs.Lays.n166 Tryz.prog Tryz.lays166_ren := {
 mixed := by kernel_rfl
 f166 := Tryz.func35.trans (congrArg some (by kernel_rfl))
 f240 := Tryz.func33.trans (congrArg some (by kernel_rfl))
 f276 := Tryz.func54.trans (congrArg some (by kernel_rfl))
 t0 := Tryz.underlying0
 a0 := Tryz.isAgg0
 z0 := Tryz.sizeOf0
 v0 := Tryz.zeroValue0
 t3 := Tryz.underlying3
 a3 := Tryz.isAgg3
 z3 := Tryz.sizeOf3
 v3 := Tryz.zeroValue3
 t4 := Tryz.underlying4
 a4 := Tryz.isAgg4
 z4 := Tryz.sizeOf4
 v4 := Tryz.zeroValue4
 t9 := Tryz.underlying9
 a9 := Tryz.isAgg9
 z9 := Tryz.sizeOf9
 v9 := Tryz.zeroValue9
 t20 := Tryz.underlying20
 a20 := Tryz.isAgg20
 z20 := Tryz.sizeOf20
 v20 := Tryz.zeroValue20
 t37 := Tryz.underlying43
 a37 := Tryz.isAgg43
 z37 := Tryz.sizeOf43
 v37 := Tryz.zeroValue43
 t70 := Tryz.underlying42
 a70 := Tryz.isAgg42
 z70 := Tryz.sizeOf42
 v70 := Tryz.zeroValue42
 t72 := Tryz.underlying45
 a72 := Tryz.isAgg45
 z72 := Tryz.sizeOf45
 v72 := Tryz.zeroValue45
 t75 := Tryz.underlying50
 a75 := Tryz.isAgg50
 z75 := Tryz.sizeOf50
 v75 := Tryz.zeroValue50
 t164 := Tryz.underlying92
 a164 := Tryz.isAgg92
 z164 := Tryz.sizeOf92
 v164 := Tryz.zeroValue92 }
theorem Tryz.Builder_Extra_166 : Builder.Extra Tryz.prog Tryz.lays166_ren := {
 sizeBuilder := by kernel_rfl
 liesBuilder := by kernel_rfl
 t5 := Tryz.underlying5
 a5 := Tryz.isAgg5
 z5 := Tryz.sizeOf5
 v5 := Tryz.zeroValue5
 infoByte := by kernel_rfl
 cellsByte := by kernel_rfl
 sizeByte := by kernel_rfl
 neB5 := by decide }
open Go.RowKit in
theorem Tryz.Builder_WriteByte (B b : Nat) (bs : List Value) (c : Int) (w : World) (h : Lib.IsBuilder 45 5 B b bs w) (hlen : bs.length + 1 ≤ 140737488355328) (hBw : B ≤ w.heap.size) :
  Calls Tryz.prog 17 #[.pointer (some ⟨b, 0, none⟩), .int .u8 c] w fun e w' => e = .returned .nilIface ∧ (Lib.BuilderAt 45 5 B b (.pointer (some ⟨b, 0, none⟩)) (bs ++ [.int .u8 c]) w' ∧ Below B w w') := Any.Builder_WriteByte Tryz.lays167 Tryz.Builder_Extra_167 B b bs c w h hlen hBw
open Go.RowKit in
theorem Tryz.Builder_WriteString (B b : Nat) (bs : List Value) (s : ByteArray) (w : World) (h : Lib.IsBuilder 45 5 B b bs w) (hlen : bs.length + s.size ≤ 140737488355328) (hBw : B ≤ w.heap.size) :
  Calls Tryz.prog 35 #[.pointer (some ⟨b, 0, none⟩), .string s] w fun e w' => e = .returned (.tuple #[.int .i64 s.size, .nilIface]) ∧ (Lib.BuilderAt 45 5 B b (.pointer (some ⟨b, 0, none⟩)) (bs ++ Lib.byteCells s.data.toList) w' ∧ Below B w w') := Any.Builder_WriteString Tryz.lays166 Tryz.Builder_Extra_166 B b bs s w h hlen hBw
def Tryz.lays169_ren : Go.Shelf.Ren := ⟨fun | 169 => 20 | n => n, fun | 70 => 42 | 9 => 9 | 0 => 0 | 72 => 45 | 37 => 43 | 127 => 80 | 3 => 3 | 5 => 5 | n => n, fun | n => n⟩
theorem Tryz.lays169 : Go.Proofs.Lays.n169 Tryz.prog Tryz.lays169_ren := {
 mixed := by kernel_rfl
 f169 := Tryz.func20.trans (congrArg some (by kernel_rfl))
 t0 := Tryz.underlying0
 a0 := Tryz.isAgg0
 z0 := Tryz.sizeOf0
 v0 := Tryz.zeroValue0
 t3 := Tryz.underlying3
 a3 := Tryz.isAgg3
 z3 := Tryz.sizeOf3
 v3 := Tryz.zeroValue3
 t9 := Tryz.underlying9
 a9 := Tryz.isAgg9
 z9 := Tryz.sizeOf9
 v9 := Tryz.zeroValue9
 t37 := Tryz.underlying43
 a37 := Tryz.isAgg43
 z37 := Tryz.sizeOf43
 v37 := Tryz.zeroValue43
 t70 := Tryz.underlying42
 a70 := Tryz.isAgg42
 z70 := Tryz.sizeOf42
 v70 := Tryz.zeroValue42
 t72 := Tryz.underlying45
 a72 := Tryz.isAgg45
 z72 := Tryz.sizeOf45
 v72 := Tryz.zeroValue45
 t127 := Tryz.underlying80
 a127 := Tryz.isAgg80
 z127 := Tryz.sizeOf80
 v127 := Tryz.zeroValue80 }
theorem Tryz.Builder_Extra_169 : Builder.Extra Tryz.prog Tryz.lays169_ren := {
 sizeBuilder := by kernel_rfl
 liesBuilder := by kernel_rfl
 t5 := Tryz.underlying5
 a5 := Tryz.isAgg5
 z5 := Tryz.sizeOf5
 v5 := Tryz.zeroValue5
 infoByte := by kernel_rfl
 cellsByte := by kernel_rfl
 sizeByte := by kernel_rfl
 neB5 := by decide }
open Go.RowKit in
theorem Tryz.Builder_String_any (B b : Nat) (l : List UInt8) (w : World) (h : Lib.IsBuilder 45 5 B b (Lib.byteCells l) w) (hBw : B ≤ w.heap.size) :
  Calls Tryz.prog 20 #[.pointer (some ⟨b, 0, none⟩)] w fun e w' => e = .returned (.string ⟨l.toArray⟩) ∧ Below B w w' := Any.Builder_String_any Tryz.lays169 Tryz.Builder_Extra_169 B b l w h hBw
def Tryz.lays196_ren : Go.Shelf.Ren := ⟨fun | 196 => 52 | 259 => 70 | n => n, fun | 9 => 9 | 4 => 4 | 3 => 3 | 5 => 5 | 12 => 12 | 119 => 111 | 0 => 0 | 46 => 115 | 139 => 114 | 138 => 113 | 53 => 96 | n => n, fun | 3 => 0 | 4 => 1 | n => n⟩
theorem Tryz.lays196 : Go.Proofs.Lays.n196 Tryz.prog Tryz.lays196_ren := {
 mixed := by kernel_rfl
 f196 := Tryz.func52.trans (congrArg some (by kernel_rfl))
 f259 := Tryz.func70.trans (congrArg some (by kernel_rfl))
 t0 := Tryz.underlying0
 a0 := Tryz.isAgg0
 z0 := Tryz.sizeOf0
 v0 := Tryz.zeroValue0
 t3 := Tryz.underlying3
 a3 := Tryz.isAgg3
 z3 := Tryz.sizeOf3
 v3 := Tryz.zeroValue3
 t4 := Tryz.underlying4
 a4 := Tryz.isAgg4
 z4 := Tryz.sizeOf4
 v4 := Tryz.zeroValue4
 t5 := Tryz.underlying5
 a5 := Tryz.isAgg5
 z5 := Tryz.sizeOf5
 v5 := Tryz.zeroValue5
 t9 := Tryz.underlying9
 a9 := Tryz.isAgg9
 z9 := Tryz.sizeOf9
 v9 := Tryz.zeroValue9
 t12 := Tryz.underlying12
 a12 := Tryz.isAgg12
 z12 := Tryz.sizeOf12
 v12 := Tryz.zeroValue12
 t46 := Tryz.underlying115
 a46 := Tryz.isAgg115
 z46 := Tryz.sizeOf115
 v46 := Tryz.zeroValue115
 t53 := Tryz.underlying96
 a53 := Tryz.isAgg96
 z53 := Tryz.sizeOf96
 v53 := Tryz.zeroValue96
 t119 := Tryz.underlying111
 a119 := Tryz.isAgg111
 z119 := Tryz.sizeOf111
 t138 := Tryz.underlying113
 a138 := Tryz.isAgg113
 z138 := Tryz.sizeOf113
 v138 := Tryz.zeroValue113
 t139 := Tryz.underlying114
 a139 := Tryz.isAgg114
 z139 := Tryz.sizeOf114
 v139 := Tryz.zeroValue114
 g3 := by kernel_rfl
 g4 := by kernel_rfl }
def Tryz.lays197_ren : Go.Shelf.Ren := ⟨fun | 197 => 110 | 260 => 118 | n => n, fun | 9 => 9 | 21 => 21 | 3 => 3 | 4 => 4 | 5 => 5 | 105 => 152 | 119 => 111 | 0 => 0 | 46 => 115 | 139 => 114 | 138 => 113 | n => n, fun | 3 => 0 | 4 => 1 | n => n⟩
theorem Tryz.lays197 : Go.Proofs.Lays.n197 Tryz.prog Tryz.lays197_ren := {
 mixed := by kernel_rfl
 f197 := Tryz.func110.trans (congrArg some (by kernel_rfl))
 f260 := Tryz.func118.trans (congrArg some (by kernel_rfl))
 t0 := Tryz.underlying0
 a0 := Tryz.isAgg0
 z0 := Tryz.sizeOf0
 v0 := Tryz.zeroValue0
 t3 := Tryz.underlying3
 a3 := Tryz.isAgg3
 z3 := Tryz.sizeOf3
 v3 := Tryz.zeroValue3
 t4 := Tryz.underlying4
 a4 := Tryz.isAgg4
 z4 := Tryz.sizeOf4
 v4 := Tryz.zeroValue4
 t5 := Tryz.underlying5
 a5 := Tryz.isAgg5
 z5 := Tryz.sizeOf5
 v5 := Tryz.zeroValue5
 t9 := Tryz.underlying9
 a9 := Tryz.isAgg9
 z9 := Tryz.sizeOf9
 v9 := Tryz.zeroValue9
 t21 := Tryz.underlying21
 a21 := Tryz.isAgg21
 z21 := Tryz.sizeOf21
 v21 := Tryz.zeroValue21
 t46 := Tryz.underlying115
 a46 := Tryz.isAgg115
 z46 := Tryz.sizeOf115
 v46 := Tryz.zeroValue115
 t105 := Tryz.underlying152
 a105 := Tryz.isAgg152
 z105 := Tryz.sizeOf152
 v105 := Tryz.zeroValue152
 t119 := Tryz.underlying111
 a119 := Tryz.isAgg111
 z119 := Tryz.sizeOf111
 t138 := Tryz.underlying113
 a138 := Tryz.isAgg113
 z138 := Tryz.sizeOf113
 v138 := Tryz.zeroValue113
 t139 := Tryz.underlying114
 a139 := Tryz.isAgg114
 z139 := Tryz.sizeOf114
 v139 := Tryz.zeroValue114
 g3 := by kernel_rfl
 g4 := by kernel_rfl }
open Go.RowKit Go.Lib in
theorem Tryz.utf8_DecodeRuneInString (s : ByteArray) (w : World) (hT : Lib.Utf8Tabs 0 1 w) :
  Calls Tryz.prog 110 #[.string s] w fun e w' => e = .returned (.tuple #[.int .i32 (Lib.decodeGo s).1, .int .i64 (Lib.decodeGo s).2]) ∧ Below w.heap.size w w' := Any.utf8_DecodeRuneInString Tryz.lays197 s w hT
open Go.RowKit Go.Lib in
theorem Tryz.utf8_ValidString (s : ByteArray) (w : World) (hs : s.size ≤ 9223372036854775807) (hT : Lib.Utf8Tabs 0 1 w) :
  Calls Tryz.prog 52 #[.string s] w fun e w' => e = .returned (.bool (Lib.validD s.data.toList)) ∧ Below w.heap.size w w' := Any.utf8_ValidString Tryz.lays196 s w hs hT
end Go.Proofs
namespace Go.Proofs.YthhmmaihbjhhgaaGreatDoor.Giv
open Go.RowKit Go.Proofs.YthhmmaihbjhhgaaGreatDoorW.PrintWords Go.Proofs.YthhmmaihbjhhgaaGreatDoorW.PrintLast Go.Proofs.YthhmmaihbjhhgaaGreatDoorW.PrintMore
def Tabs (w : World) : Prop := Lib.Utf8Tabs 0 1 w
theorem Tabs.step {w W : World} (h : Tabs w) (hb : Below w.heap.size w W) : Tabs W := Go.Proofs.Utf8Tabs_below h hb
def utf8_DecodeRuneInString.f (s : ByteArray) : Option (Int × Int) := some (((Lib.decodeGo s).1 : Int), ((Lib.decodeGo s).2 : Int))
theorem utf8_DecodeRuneInString.calls (a0 : ByteArray) (r1 r2 : Int) (w : World) (h : utf8_DecodeRuneInString.f a0 = some (r1, r2)) (ht : Tabs w := by first | assumption | (refine Tabs.step (by assumption) ?_; repeat (first | exact Aside0.out (by assumption) | apply below_alloc | apply pw_below_drewN | apply below_drew1 | exact Below.refl _ _))) :
  Calls Tryz.prog 110 #[.string a0] w fun e w' => e = .returned (.tuple #[.int .i32 r1, .int .i64 r2]) ∧ Below w.heap.size w w' := by
 unfold utf8_DecodeRuneInString.f at h
 simp only [Option.some.injEq, Prod.mk.injEq] at h
 obtain ⟨rfl, rfl⟩ := h
 exact Tryz.utf8_DecodeRuneInString a0 w ht
def utf8_ValidString.f (s : ByteArray) : Option Bool := if s.size ≤ 9223372036854775807 then some (Lib.validD s.data.toList) else none
theorem utf8_ValidString.calls (a0 : ByteArray) (r : Bool) (w : World) (h : utf8_ValidString.f a0 = some r) (ht : Tabs w := by first | assumption | (refine Tabs.step (by assumption) ?_; repeat (first | exact Aside0.out (by assumption) | apply below_alloc | apply pw_below_drewN | apply below_drew1 | exact Below.refl _ _))) :
  Calls Tryz.prog 52 #[.string a0] w fun e w' => e = .returned (.bool r) ∧ Below w.heap.size w w' := by
 unfold utf8_ValidString.f at h
 split at h
 ·rename_i hs
  obtain rfl := Option.some.inj h
  exact Tryz.utf8_ValidString a0 w hs ht
 ·cases h
end Go.Proofs.YthhmmaihbjhhgaaGreatDoor.Giv
namespace Go.Proofs.YthhmmaihbjhhgaaGreatDoor.LaidW
open Go.ChangeShapes Go.WideShapes Go.ChangeAt Go.RowKit Go.Lib
noncomputable def laidWorld (os : Os) : World :=
 let w0 := World.holding Tryz.prog os ⟨#[], #[], []⟩
 let put (h : Array Obj) (g : Nat) (cs : Array Value) : Array Obj := h.modify g fun
  | .cells _ t frozen => .cells cs t frozen
  | o => o
 let h1 := put w0.heap 0 (Lib.firstTab.map fun z => Value.int .u8 z).toArray
 let h2 := put h1 1 ((List.range 16).flatMap fun i => [Value.int .u8 (Lib.accLo i), Value.int .u8 (Lib.accHi i)]).toArray
 { w0 with heap := h2 }
theorem first_eq : Rows.laid_unicode_utf8_first = Lib.firstData := by kernel_rfl
theorem accept_eq : Rows.laid_unicode_utf8_acceptRanges = Lib.acceptData := by kernel_rfl
theorem tabs (W : World) (laid : List (String × DataW Unit)) (hL : laidMet Tryz.prog laid W) (h1 : ("unicode/utf8.first", Rows.laid_unicode_utf8_first) ∈ laid) (h2 : ("unicode/utf8.acceptRanges", Rows.laid_unicode_utf8_acceptRanges) ∈ laid) : Giv.Tabs W := by
 rw [first_eq] at h1
 rw [accept_eq] at h2
 exact utf8Tabs_of_readsT (U8Types.of196 Tryz.lays196) ⟨by kernel_rfl, by kernel_rfl, by kernel_rfl, by kernel_rfl, by kernel_rfl, by kernel_rfl, by kernel_rfl⟩ (Lib.laidMet.reads hL h1) (Lib.laidMet.reads hL h2)
end Go.Proofs.YthhmmaihbjhhgaaGreatDoor.LaidW
namespace Go.Proofs
open Go.Shelf
def Tryz.laysM171_ren : Go.Shelf.Ren := ⟨fun | 171 => 56 | 243 => 72 | 246 => 81 | 283 => 89 | 284 => 90 | 285 => 91 | 286 => 92 | 129 => 104 | 317 => 103 | 318 => 105 | 319 => 106 | 320 => 107 | 337 => 115 | 338 => 116 | n => n, fun | 3 => 3 | 9 => 9 | 2 => 2 | 4 => 4 | 171 => 131 | 0 => 0 | 53 => 96 | 37 => 43 | 5 => 5 | 173 => 134 | 212 => 147 | 51 => 148 | 20 => 20 | 213 => 149 | 46 => 115 | 232 => 166 | 233 => 167 | n => n, fun | 17 => 3 | 18 => 6 | 19 => 7 | n => n⟩
theorem Tryz.laysM171 : Go.Proofs.LaysM.n171 Tryz.prog Tryz.laysM171_ren := {
 mixed := by kernel_rfl
 f129 := Tryz.func104.trans (congrArg some (by kernel_rfl))
 f171 := Tryz.func56.trans (congrArg some (by kernel_rfl))
 f243 := Tryz.func72.trans (congrArg some (by kernel_rfl))
 f246 := Tryz.func81.trans (congrArg some (by kernel_rfl))
 f283 := Tryz.func89.trans (congrArg some (by kernel_rfl))
 f284 := Tryz.func90.trans (congrArg some (by kernel_rfl))
 f285 := Tryz.func91.trans (congrArg some (by kernel_rfl))
 f286 := Tryz.func92.trans (congrArg some (by kernel_rfl))
 f317 := Tryz.func103.trans (congrArg some (by kernel_rfl))
 f318 := Tryz.func105.trans (congrArg some (by kernel_rfl))
 f319 := Tryz.func106.trans (congrArg some (by kernel_rfl))
 f320 := Tryz.func107.trans (congrArg some (by kernel_rfl))
 f337 := Tryz.func115.trans (congrArg some (by kernel_rfl))
 f338 := Tryz.func116.trans (congrArg some (by kernel_rfl))
 t0 := Tryz.underlying0
 a0 := Tryz.isAgg0
 z0 := Tryz.sizeOf0
 v0 := Tryz.zeroValue0
 t2 := Tryz.underlying2
 a2 := Tryz.isAgg2
 z2 := Tryz.sizeOf2
 v2 := Tryz.zeroValue2
 t3 := Tryz.underlying3
 a3 := Tryz.isAgg3
 z3 := Tryz.sizeOf3
 v3 := Tryz.zeroValue3
 t4 := Tryz.underlying4
 a4 := Tryz.isAgg4
 z4 := Tryz.sizeOf4
 v4 := Tryz.zeroValue4
 t5 := Tryz.underlying5
 a5 := Tryz.isAgg5
 z5 := Tryz.sizeOf5
 v5 := Tryz.zeroValue5
 t9 := Tryz.underlying9
 a9 := Tryz.isAgg9
 z9 := Tryz.sizeOf9
 v9 := Tryz.zeroValue9
 t20 := Tryz.underlying20
 a20 := Tryz.isAgg20
 z20 := Tryz.sizeOf20
 v20 := Tryz.zeroValue20
 t37 := Tryz.underlying43
 a37 := Tryz.isAgg43
 z37 := Tryz.sizeOf43
 v37 := Tryz.zeroValue43
 t46 := Tryz.underlying115
 a46 := Tryz.isAgg115
 z46 := Tryz.sizeOf115
 v46 := Tryz.zeroValue115
 t51 := Tryz.underlying148
 a51 := Tryz.isAgg148
 z51 := Tryz.sizeOf148
 v51 := Tryz.zeroValue148
 t53 := Tryz.underlying96
 a53 := Tryz.isAgg96
 z53 := Tryz.sizeOf96
 v53 := Tryz.zeroValue96
 t171 := Tryz.underlying131
 a171 := Tryz.isAgg131
 z171 := Tryz.sizeOf131
 v171 := Tryz.zeroValue131
 t173 := Tryz.underlying134
 a173 := Tryz.isAgg134
 z173 := Tryz.sizeOf134
 v173 := Tryz.zeroValue134
 t212 := Tryz.underlying147
 a212 := Tryz.isAgg147
 z212 := Tryz.sizeOf147
 v212 := Tryz.zeroValue147
 t213 := Tryz.underlying149
 a213 := Tryz.isAgg149
 z213 := Tryz.sizeOf149
 t232 := Tryz.underlying166
 a232 := Tryz.isAgg166
 z232 := Tryz.sizeOf166
 v232 := Tryz.zeroValue166
 t233 := Tryz.underlying167
 a233 := Tryz.isAgg167
 z233 := Tryz.sizeOf167
 v233 := Tryz.zeroValue167
 g17 := by kernel_rfl
 g18 := by kernel_rfl
 g19 := by kernel_rfl
 i0 := by kernel_rfl
 i2 := by kernel_rfl
 i3 := by kernel_rfl
 i4 := by kernel_rfl
 i5 := by kernel_rfl
 i9 := by kernel_rfl
 i20 := by kernel_rfl
 i37 := by kernel_rfl
 i46 := by kernel_rfl
 i51 := by kernel_rfl
 i53 := by kernel_rfl
 i171 := by kernel_rfl
 i173 := by kernel_rfl
 i212 := by kernel_rfl
 i232 := by kernel_rfl
 i233 := by kernel_rfl
 m17 := by kernel_rfl
 m18 := by kernel_rfl
 m19 := by kernel_rfl }
open Go.RowKit Go.Sort Go.Lib in
theorem Tryz.strconv_Itoa (n : Int) (h0 : -9223372036854775808 ≤ n) (h1 : n ≤ 9223372036854775807) (w : World) (htab : Lib.TabIs Tryz.prog w "internal/strconv.uint64pow10" .u64 Lib.pow10Tab) :
  Calls Tryz.prog 56 #[.int .i64 n] w fun e w' => e = .returned (.string ⟨(Lib.itoa n).toArray⟩) ∧ ∃ k os, w' = grow (w.drewN k) os := Any.strconv_Itoa Tryz.laysM171 n h0 h1 w htab
def Tryz.laysC172_ren : Go.Shelf.Ren := ⟨fun | 172 => 74 | 244 => 84 | 245 => 85 | 247 => 96 | 279 => 97 | 280 => 98 | 281 => 99 | 282 => 100 | 287 => 111 | 316 => 112 | 171 => 56 | 205 => 113 | 321 => 119 | 322 => 120 | 243 => 72 | 246 => 81 | 283 => 89 | 284 => 90 | 285 => 91 | 286 => 92 | 129 => 104 | 317 => 103 | 318 => 105 | 319 => 106 | 320 => 107 | 337 => 115 | 338 => 116 | n => n, fun | 9 => 9 | 3 => 3 | 75 => 50 | 76 => 77 | 4 => 4 | 5 => 5 | 167 => 137 | 37 => 43 | 0 => 0 | 85 => 138 | 2 => 2 | 168 => 140 | 53 => 96 | 175 => 154 | 46 => 115 | 210 => 158 | 127 => 80 | 145 => 165 | 143 => 163 | 21 => 21 | 171 => 131 | 173 => 134 | 212 => 147 | 51 => 148 | 20 => 20 | 213 => 149 | 232 => 166 | 233 => 167 | 80 => 54 | n => n, fun | 15 => 4 | 16 => 5 | 17 => 3 | 18 => 6 | 19 => 7 | n => n⟩
theorem Tryz.laysC172 : Go.Proofs.LaysC.n172 Tryz.prog Tryz.laysC172_ren := {
 mixed := by kernel_rfl
 f129 := Tryz.func104.trans (congrArg some (by kernel_rfl))
 f171 := Tryz.func56.trans (congrArg some (by kernel_rfl))
 f172 := Tryz.func74.trans (congrArg some (by kernel_rfl))
 f205 := Tryz.func113.trans (congrArg some (by kernel_rfl))
 f243 := Tryz.func72.trans (congrArg some (by kernel_rfl))
 f244 := Tryz.func84.trans (congrArg some (by kernel_rfl))
 f245 := Tryz.func85.trans (congrArg some (by kernel_rfl))
 f246 := Tryz.func81.trans (congrArg some (by kernel_rfl))
 f247 := Tryz.func96.trans (congrArg some (by kernel_rfl))
 f279 := Tryz.func97.trans (congrArg some (by kernel_rfl))
 f280 := Tryz.func98.trans (congrArg some (by kernel_rfl))
 f281 := Tryz.func99.trans (congrArg some (by kernel_rfl))
 f282 := Tryz.func100.trans (congrArg some (by kernel_rfl))
 f283 := Tryz.func89.trans (congrArg some (by kernel_rfl))
 f284 := Tryz.func90.trans (congrArg some (by kernel_rfl))
 f285 := Tryz.func91.trans (congrArg some (by kernel_rfl))
 f286 := Tryz.func92.trans (congrArg some (by kernel_rfl))
 f287 := Tryz.func111.trans (congrArg some (by kernel_rfl))
 f316 := Tryz.func112.trans (congrArg some (by kernel_rfl))
 f317 := Tryz.func103.trans (congrArg some (by kernel_rfl))
 f318 := Tryz.func105.trans (congrArg some (by kernel_rfl))
 f319 := Tryz.func106.trans (congrArg some (by kernel_rfl))
 f320 := Tryz.func107.trans (congrArg some (by kernel_rfl))
 f321 := Tryz.func119.trans (congrArg some (by kernel_rfl))
 f322 := Tryz.func120.trans (congrArg some (by kernel_rfl))
 f337 := Tryz.func115.trans (congrArg some (by kernel_rfl))
 f338 := Tryz.func116.trans (congrArg some (by kernel_rfl))
 t0 := Tryz.underlying0
 a0 := Tryz.isAgg0
 z0 := Tryz.sizeOf0
 v0 := Tryz.zeroValue0
 t2 := Tryz.underlying2
 a2 := Tryz.isAgg2
 z2 := Tryz.sizeOf2
 v2 := Tryz.zeroValue2
 t3 := Tryz.underlying3
 a3 := Tryz.isAgg3
 z3 := Tryz.sizeOf3
 v3 := Tryz.zeroValue3
 t4 := Tryz.underlying4
 a4 := Tryz.isAgg4
 z4 := Tryz.sizeOf4
 v4 := Tryz.zeroValue4
 t5 := Tryz.underlying5
 a5 := Tryz.isAgg5
 z5 := Tryz.sizeOf5
 v5 := Tryz.zeroValue5
 t9 := Tryz.underlying9
 a9 := Tryz.isAgg9
 z9 := Tryz.sizeOf9
 v9 := Tryz.zeroValue9
 t20 := Tryz.underlying20
 a20 := Tryz.isAgg20
 z20 := Tryz.sizeOf20
 v20 := Tryz.zeroValue20
 t21 := Tryz.underlying21
 a21 := Tryz.isAgg21
 z21 := Tryz.sizeOf21
 v21 := Tryz.zeroValue21
 t37 := Tryz.underlying43
 a37 := Tryz.isAgg43
 z37 := Tryz.sizeOf43
 v37 := Tryz.zeroValue43
 t46 := Tryz.underlying115
 a46 := Tryz.isAgg115
 z46 := Tryz.sizeOf115
 v46 := Tryz.zeroValue115
 t51 := Tryz.underlying148
 a51 := Tryz.isAgg148
 z51 := Tryz.sizeOf148
 v51 := Tryz.zeroValue148
 t53 := Tryz.underlying96
 a53 := Tryz.isAgg96
 z53 := Tryz.sizeOf96
 v53 := Tryz.zeroValue96
 t75 := Tryz.underlying50
 a75 := Tryz.isAgg50
 z75 := Tryz.sizeOf50
 v75 := Tryz.zeroValue50
 t76 := Tryz.underlying77
 a76 := Tryz.isAgg77
 z76 := Tryz.sizeOf77
 v76 := Tryz.zeroValue77
 t85 := Tryz.underlying138
 a85 := Tryz.isAgg138
 z85 := Tryz.sizeOf138
 v85 := Tryz.zeroValue138
 t127 := Tryz.underlying80
 a127 := Tryz.isAgg80
 z127 := Tryz.sizeOf80
 v127 := Tryz.zeroValue80
 t143 := Tryz.underlying163
 a143 := Tryz.isAgg163
 z143 := Tryz.sizeOf163
 v143 := Tryz.zeroValue163
 t145 := Tryz.underlying165
 a145 := Tryz.isAgg165
 z145 := Tryz.sizeOf165
 v145 := Tryz.zeroValue165
 t167 := Tryz.underlying137
 a167 := Tryz.isAgg137
 z167 := Tryz.sizeOf137
 v167 := Tryz.zeroValue137
 t168 := Tryz.underlying140
 a168 := Tryz.isAgg140
 z168 := Tryz.sizeOf140
 v168 := Tryz.zeroValue140
 t171 := Tryz.underlying131
 a171 := Tryz.isAgg131
 z171 := Tryz.sizeOf131
 v171 := Tryz.zeroValue131
 t173 := Tryz.underlying134
 a173 := Tryz.isAgg134
 z173 := Tryz.sizeOf134
 v173 := Tryz.zeroValue134
 t175 := Tryz.underlying154
 a175 := Tryz.isAgg154
 z175 := Tryz.sizeOf154
 v175 := Tryz.zeroValue154
 t210 := Tryz.underlying158
 a210 := Tryz.isAgg158
 z210 := Tryz.sizeOf158
 v210 := Tryz.zeroValue158
 t212 := Tryz.underlying147
 a212 := Tryz.isAgg147
 z212 := Tryz.sizeOf147
 v212 := Tryz.zeroValue147
 t213 := Tryz.underlying149
 a213 := Tryz.isAgg149
 z213 := Tryz.sizeOf149
 t232 := Tryz.underlying166
 a232 := Tryz.isAgg166
 z232 := Tryz.sizeOf166
 v232 := Tryz.zeroValue166
 t233 := Tryz.underlying167
 a233 := Tryz.isAgg167
 z233 := Tryz.sizeOf167
 v233 := Tryz.zeroValue167
 g15 := by kernel_rfl
 g16 := by kernel_rfl
 g17 := by kernel_rfl
 g18 := by kernel_rfl
 g19 := by kernel_rfl
 t80 := Tryz.underlying54
 a80 := Tryz.isAgg54
 z80 := Tryz.sizeOf54
 v80 := Tryz.zeroValue54
 i0 := by kernel_rfl
 i2 := by kernel_rfl
 i3 := by kernel_rfl
 i4 := by kernel_rfl
 i5 := by kernel_rfl
 i9 := by kernel_rfl
 i20 := by kernel_rfl
 i21 := by kernel_rfl
 i37 := by kernel_rfl
 i46 := by kernel_rfl
 i51 := by kernel_rfl
 i53 := by kernel_rfl
 i75 := by kernel_rfl
 i76 := by kernel_rfl
 i80 := by kernel_rfl
 i85 := by kernel_rfl
 i127 := by kernel_rfl
 i143 := by kernel_rfl
 i145 := by kernel_rfl
 i167 := by kernel_rfl
 i168 := by kernel_rfl
 i171 := by kernel_rfl
 i173 := by kernel_rfl
 i175 := by kernel_rfl
 i210 := by kernel_rfl
 i212 := by kernel_rfl
 i232 := by kernel_rfl
 i233 := by kernel_rfl
 m15 := by kernel_rfl
 m16 := by kernel_rfl
 m17 := by kernel_rfl
 m18 := by kernel_rfl
 m19 := by kernel_rfl
 c0 := by kernel_rfl
 c2 := by kernel_rfl
 c3 := by kernel_rfl
 c4 := by kernel_rfl
 c5 := by kernel_rfl
 c9 := by kernel_rfl
 c20 := by kernel_rfl
 c21 := by kernel_rfl
 c37 := by kernel_rfl
 c46 := by kernel_rfl
 c51 := by kernel_rfl
 c53 := by kernel_rfl
 c75 := by kernel_rfl
 c76 := by kernel_rfl
 c80 := by kernel_rfl
 c85 := by kernel_rfl
 c127 := by kernel_rfl
 c143 := by kernel_rfl
 c145 := by kernel_rfl
 c167 := by kernel_rfl
 c168 := by kernel_rfl
 c171 := by kernel_rfl
 c173 := by kernel_rfl
 c175 := by kernel_rfl
 c210 := by kernel_rfl
 c212 := by kernel_rfl
 c213 := by kernel_rfl
 c232 := by kernel_rfl
 c233 := by kernel_rfl }
open Go.RowKit in
theorem Tryz.strconv_Atoi_ok (s : ByteArray) (hmax : s.size ≤ 9223372036854775806) (v : Int) (h : Lib.atoiAll s.data.toList = .ok v) (w : World) :
  Calls Tryz.prog 74 #[.string s] w fun e w' => e = .returned (.tuple #[.int .i64 v, .nilIface]) ∧ (w' = w ∨ ∃ t, w' = Lib.bytesWorld w 5 t) := Any.strconv_Atoi_ok Tryz.laysC172 s hmax v h w
open Go.RowKit in
theorem Tryz.strconv_Atoi_syntax (s : ByteArray) (hlim : s.size ≤ 281474976710656) (h : Lib.atoiAll s.data.toList = Lib.atoiAll []) (ev : Value) (w : World) (hv : w.cell? ⟨4, 0, none⟩ = some ev) (hev : ev = .nilIface ∨ ∃ te pe, ev = .iface te pe) :
  Calls Tryz.prog 74 #[.string s] w fun e w' => ∃ N, e = .returned (.tuple #[.int .i64 (0), .iface 140 (.pointer (some ⟨N, 0, none⟩))]) ∧ w.heap.size ≤ N ∧ w'.heap[N]? = some (.cells #[.string ⟨#[65, 116, 111, 105]⟩, .string s, ev] 158 (0, 0)) ∧ Below w.heap.size w w' := Any.strconv_Atoi_syntax Tryz.laysC172 s hlim h ev w hv hev
open Go.RowKit in
theorem Tryz.strconv_Atoi_range (s : ByteArray) (hlim : s.size ≤ 281474976710656) (h : Lib.atoiAll s.data.toList = .range) (ev : Value) (w : World) (hv : w.cell? ⟨5, 0, none⟩ = some ev) (hev : ev = .nilIface ∨ ∃ te pe, ev = .iface te pe) :
  Calls Tryz.prog 74 #[.string s] w fun e w' => ∃ N, e = .returned (.tuple #[.int .i64 (Lib.atoiSat s.data.toList), .iface 140 (.pointer (some ⟨N, 0, none⟩))]) ∧ w.heap.size ≤ N ∧ w'.heap[N]? = some (.cells #[.string ⟨#[65, 116, 111, 105]⟩, .string s, ev] 158 (0, 0)) ∧ Below w.heap.size w w' := Any.strconv_Atoi_range Tryz.laysC172 s hlim h ev w hv hev
end Go.Proofs
namespace Go.Proofs.YthhmmaihbjhhgaaGreatDoor.Giv
open Go.RowKit Go.Sort Go.Proofs.YthhmmaihbjhhgaaGreatDoorW.PrintWords Go.Proofs.YthhmmaihbjhhgaaGreatDoorW.PrintLast Go.Proofs.YthhmmaihbjhhgaaGreatDoorW.PrintMore
structure JTabs (w : World) : Prop where
 tabs : Tabs w
 pow : Lib.TabIs Tryz.prog w "internal/strconv.uint64pow10" .u64 Lib.pow10Tab
 syn : ∃ ev, w.cell? ⟨4, 0, none⟩ = some ev ∧ (ev = .nilIface ∨ ∃ te pe, ev = .iface te pe)
 rng : ∃ ev, w.cell? ⟨5, 0, none⟩ = some ev ∧ (ev = .nilIface ∨ ∃ te pe, ev = .iface te pe)
theorem old_cell {w W : World} (hb : Below w.heap.size w W) {b : Nat} {v : Value} (h : w.cell? ⟨b, 0, none⟩ = some v) : W.cell? ⟨b, 0, none⟩ = some v := by
 have hlt := World.block_lt_of_cell? _ _ h
 exact (World.cell?_of_block (a := ⟨b, 0, none⟩) (hb.block b hlt)).trans h
theorem JTabs.step {w W : World} (h : JTabs w) (hb : Below w.heap.size w W) : JTabs W := by
 refine ⟨h.tabs.step hb, ?_, ?_, ?_⟩
 ·exact (Lib.tabBelow_of_tabIs h.pow) W hb
 ·obtain ⟨ev, h1, h2⟩ := h.syn
  exact ⟨ev, old_cell hb h1, h2⟩
 ·obtain ⟨ev, h1, h2⟩ := h.rng
  exact ⟨ev, old_cell hb h1, h2⟩
theorem grow_below (w : World) (k : Nat) (os : Array Obj) : Below w.heap.size w (grow (w.drewN k) os) := by
 refine ⟨rfl, rfl, rfl, ?_, ?_⟩
 ·simp [grow]
 ·intro j hj
  simp [grow]
  exact Array.getElem?_append_left hj
def itoaS (n : Int) : ByteArray := ⟨(Lib.itoa n).toArray⟩
theorem print_calls (n : Int) (h0 : -9223372036854775808 ≤ n) (h1 : n ≤ 9223372036854775807) (w : World) (ht : JTabs w) :
  Calls Tryz.prog 36 #[.int .i64 n] w fun e w' => e = .returned (.string (itoaS n)) ∧ Below w.heap.size w w' := by
 go_enter Tryz.func36, Tryz.ntmps36
 go_wp2_with (first
  | (go_at_call 56; refine (Tryz.strconv_Itoa n h0 h1 _ ht.pow).mono ?_; rintro e w1 ⟨rfl, ⟨k, os, rfl⟩⟩))
 go_ret
 exact ⟨rfl, grow_below _ _ _⟩
def readN (s : ByteArray) : Int × Bool := if 20 < s.size then (0, false) else match Lib.atoiAll s.data.toList with | .ok v => if itoaS v = s then (v, true) else (0, false) | _ => (0, false)
theorem readdec_long (s : ByteArray) (w : World) (h : 20 < s.size) :
  Calls Tryz.prog 63 #[.string s] w fun e w' => e = .returned (.tuple #[.int .i64 0, .bool false]) ∧ Below w.heap.size w w' := by
 have c1 : decide (20 < (s.size : Int)) = true := decide_eq_true (by omega)
 go_enter Tryz.func63, Tryz.ntmps63
 go_wp2_with fail
 go_ret2
 exact ⟨rfl, Below.refl _ _⟩
theorem readdec_ok (s : ByteArray) (v : Int) (w : World) (ht : JTabs w) (h : s.size ≤ 20) (hv : Lib.atoiAll s.data.toList = .ok v) :
  Calls Tryz.prog 63 #[.string s] w fun e w' => e = .returned (.tuple #[.int .i64 (if itoaS v = s then v else 0), .bool (decide (itoaS v = s))]) ∧ Below w.heap.size w w' := by
 have c1 : decide (20 < (s.size : Int)) = false := decide_eq_false (by omega)
 obtain ⟨b0, b1⟩ := Lib.atoiAll_bounds hv
 have HV := Aside0.mk hv
 have HT := Aside0.mk ht
 have HB := Aside0.mk (Below.refl w.heap.size w)
 have HP : Aside0 (-9223372036854775808 ≤ v ∧ v ≤ 9223372036854775807) := ⟨by omega⟩
 have HM : Aside0 (s.size ≤ 9223372036854775806) := ⟨by omega⟩
 by_cases c : itoaS v = s
 ·have c2 : ((itoaS v).toList == s.toList) = true := by rw [c]; exact beq_self_eq_true _
  rw [if_pos c, decide_eq_true c]
  clear c hv ht b0 b1
  go_enter Tryz.func63, Tryz.ntmps63
  go_wp2_with (first
   | (go_at_call 74; refine (Tryz.strconv_Atoi_ok s HM.out v HV.out _).mono ?_; rintro e w1 ⟨rfl, hw⟩; have HB1 : Aside0 (Below w.heap.size w w1) := ⟨by rcases hw with rfl | ⟨t, rfl⟩; exact Below.refl _ _; exact bytes_below (Below.refl _ _) (Nat.le_refl _) _ _⟩; clear hw)
   | (go_at_call 36; refine (print_calls v HP.out.1 HP.out.2 _ (HT.out.step HB1.out)).mono ?_; rintro e w2 ⟨rfl, hb⟩; have HB2 := Aside0.mk (below_step HB1.out hb); clear hb))
  go_ret2
  exact ⟨rfl, HB2.out⟩
 ·have c2 : ((itoaS v).toList == s.toList) = false := by
   rw [beq_eq_false_iff_ne, Lib.toList_data, Lib.toList_data]
   intro e
   apply c
   cases hx : itoaS v
   cases s
   rw [hx] at e
   simp at e
   rw [e]
  rw [if_neg c, decide_eq_false c]
  clear c hv ht b0 b1
  go_enter Tryz.func63, Tryz.ntmps63
  go_wp2_with (first
   | (go_at_call 74; refine (Tryz.strconv_Atoi_ok s HM.out v HV.out _).mono ?_; rintro e w1 ⟨rfl, hw⟩; have HB1 : Aside0 (Below w.heap.size w w1) := ⟨by rcases hw with rfl | ⟨t, rfl⟩; exact Below.refl _ _; exact bytes_below (Below.refl _ _) (Nat.le_refl _) _ _⟩; clear hw)
   | (go_at_call 36; refine (print_calls v HP.out.1 HP.out.2 _ (HT.out.step HB1.out)).mono ?_; rintro e w2 ⟨rfl, hb⟩; have HB2 := Aside0.mk (below_step HB1.out hb); clear hb))
  go_ret2
  exact ⟨rfl, HB2.out⟩
theorem readdec_syntax (s : ByteArray) (w : World) (ht : JTabs w) (h : s.size ≤ 20) (hv : Lib.atoiAll s.data.toList = Lib.atoiAll []) :
  Calls Tryz.prog 63 #[.string s] w fun e w' => e = .returned (.tuple #[.int .i64 0, .bool false]) ∧ Below w.heap.size w w' := by
 have c1 : decide (20 < (s.size : Int)) = false := decide_eq_false (by omega)
 obtain ⟨ev, he1, he2⟩ := ht.syn
 have HV := Aside0.mk hv
 have H1 := Aside0.mk he1
 have H2 := Aside0.mk he2
 have HM : Aside0 (s.size ≤ 281474976710656) := ⟨by omega⟩
 clear hv ht he1 he2
 go_enter Tryz.func63, Tryz.ntmps63
 go_wp2_with (first
  | (go_at_call 74; refine (Tryz.strconv_Atoi_syntax s HM.out HV.out ev _ H1.out H2.out).mono ?_; rintro e w1 ⟨N, rfl, hN, hb, hB⟩; have HB := Aside0.mk hB; clear hN hb hB))
 go_ret2
 exact ⟨rfl, HB.out⟩
theorem readdec_range (s : ByteArray) (w : World) (ht : JTabs w) (h : s.size ≤ 20) (hv : Lib.atoiAll s.data.toList = .range) :
  Calls Tryz.prog 63 #[.string s] w fun e w' => e = .returned (.tuple #[.int .i64 0, .bool false]) ∧ Below w.heap.size w w' := by
 have c1 : decide (20 < (s.size : Int)) = false := decide_eq_false (by omega)
 obtain ⟨ev, he1, he2⟩ := ht.rng
 have HV := Aside0.mk hv
 have H1 := Aside0.mk he1
 have H2 := Aside0.mk he2
 have HM : Aside0 (s.size ≤ 281474976710656) := ⟨by omega⟩
 clear hv ht he1 he2
 go_enter Tryz.func63, Tryz.ntmps63
 go_wp2_with (first
  | (go_at_call 74; refine (Tryz.strconv_Atoi_range s HM.out HV.out ev _ H1.out H2.out).mono ?_; rintro e w1 ⟨N, rfl, hN, hb, hB⟩; have HB := Aside0.mk hB; clear hN hb hB))
 go_ret2
 exact ⟨rfl, HB.out⟩
theorem readdec_calls (s : ByteArray) (w : World) (ht : JTabs w) :
  Calls Tryz.prog 63 #[.string s] w fun e w' => e = .returned (.tuple #[.int .i64 (readN s).1, .bool (readN s).2]) ∧ Below w.heap.size w w' := by
 unfold readN
 by_cases h : 20 < s.size
 ·rw [if_pos h]; exact readdec_long s w h
 ·rw [if_neg h]
  cases hv : Lib.atoiAll s.data.toList with
  | ok v =>
   have := readdec_ok s v w ht (by omega) hv
   simp only
   by_cases c : itoaS v = s
   ·rw [if_pos c]; rw [if_pos c, decide_eq_true c] at this; exact this
   ·rw [if_neg c]; rw [if_neg c, decide_eq_false c] at this; exact this
  | range => exact readdec_range s w ht (by omega) hv
  | _ => exact readdec_syntax s w ht (by omega) hv
end Go.Proofs.YthhmmaihbjhhgaaGreatDoor.Giv
namespace Go.Proofs.YthhmmaihbjhhgaaGreatDoor.LaidJ
open Go.ChangeShapes Go.WideShapes Go.ChangeAt Go.RowKit Go.Lib
def lits {H : Type} : DataW H → List Value
 | .agg l => l.map fun | .lit (.int k n) => Value.int k n | _ => undef
 | _ => []
noncomputable def laidWorld (os : Os) : World :=
 let w0 := LaidW.laidWorld os
 let put (h : Array Obj) (g : Nat) (cs : Array Value) : Array Obj := h.modify g fun
  | .cells _ t frozen => .cells cs t frozen
  | o => o
 let n := w0.heap.size
 let h3 := put w0.heap 4 #[.iface 163 (.pointer (some ⟨n, 0, none⟩))]
 let h4 := put h3 5 #[.iface 163 (.pointer (some ⟨n + 1, 0, none⟩))]
 let h5 := put h4 3 (Lib.pow10Tab.map fun z => Value.int .u64 z).toArray
 let h6 := put h5 6 (lits (H := Unit) Rows.laid_math_bits_deBruijn32tab).toArray
 let h7 := put h6 7 (lits (H := Unit) Rows.laid_math_bits_deBruijn64tab).toArray
 { w0 with heap := (h7.push (.cells #[.string ⟨#[105, 110, 118, 97, 108, 105, 100, 32, 115, 121, 110, 116, 97, 120]⟩] 165 (0, 0))).push (.cells #[.string ⟨#[118, 97, 108, 117, 101, 32, 111, 117, 116, 32, 111, 102, 32, 114, 97, 110, 103, 101]⟩] 165 (0, 0)) }
theorem pow_eq : (Rows.laid_internal_strconv_uint64pow10 : DataW Unit) = tabData .u64 Lib.pow10Tab := by kernel_rfl
theorem pow (W : World) (laid : List (String × DataW Unit)) (hL : laidMet Tryz.prog laid W) (h : ("internal/strconv.uint64pow10", (Rows.laid_internal_strconv_uint64pow10 : DataW Unit)) ∈ laid) : Lib.TabIs Tryz.prog W "internal/strconv.uint64pow10" .u64 Lib.pow10Tab := by
 obtain ⟨g, t, cs, fuel, p, hg, hty, hvar, hd⟩ := Lib.laidMet.reads hL h
 rw [pow_eq] at hd
 have e1 : Tryz.prog.globalNamed "internal/strconv.uint64pow10" = some 3 := by kernel_rfl
 obtain rfl := Option.some.inj (e1.symm.trans hg)
 have e2 : (Tryz.prog.globals[3]?).map (·.type) = some 147 := by kernel_rfl
 obtain rfl := Option.some.inj (e2.symm.trans hty)
 unfold Lib.TabIs
 rw [hvar, ← cells_of_tab (n := 20) (e := 96) Tryz.underlying147 Tryz.underlying96 (by kernel_rfl) (by kernel_rfl) hd]
theorem err_of {W : World} {name : String} {g : Nat} {d : DataW Unit} (hg0 : Tryz.prog.globalNamed name = some g) (ht0 : (Tryz.prog.globals[g]?).map (·.type) = some 50) (h : VarReads Tryz.prog W name d) : ∃ ev, W.cell? ⟨g, 0, none⟩ = some ev ∧ (ev = .nilIface ∨ ∃ te pe, ev = .iface te pe) := by
 obtain ⟨g', t, cs, fuel, p, hg, hty, hvar, hd⟩ := h
 obtain rfl := Option.some.inj (hg0.symm.trans hg)
 obtain rfl := Option.some.inj (ht0.symm.trans hty)
 have hc := World.var?_cell hg hvar 0
 obtain ⟨ms, hu⟩ : ∃ ms, Tryz.prog.underlying 50 = some (.interface ms) := ⟨_, Tryz.underlying50⟩
 have hcs : cs.toList = [.nilIface] ∨ ∃ te pe, cs.toList = [.iface te pe] := by
  cases fuel with
  | zero => simp [DataW.trod] at hd
  | succ fuel =>
   unfold DataW.trod at hd
   rw [hu] at hd
   split at hd <;> first | (rename_i e1 e2; exact .inl e2) | (rename_i e1 e2; exact .inr ⟨_, _, e2⟩) | (rename_i e1; injection e1 with e1; cases e1; done) | (rename_i e1 _; injection e1 with e1; cases e1; done) | (rename_i e1 _ _; injection e1 with e1; cases e1; done) | (cases hd; done) | (simp at *; done)
 have hcs2 : cs[0]? = cs.toList[0]? := by simp
 rw [hcs2] at hc
 rcases hcs with h1 | ⟨te, pe, h1⟩
 ·rw [h1] at hc; exact ⟨_, hc, .inl rfl⟩
 ·rw [h1] at hc; exact ⟨_, hc, .inr ⟨te, pe, rfl⟩⟩
theorem jtabs (W : World) (laid : List (String × DataW Unit)) (hL : laidMet Tryz.prog laid W) (h1 : ("unicode/utf8.first", Rows.laid_unicode_utf8_first) ∈ laid) (h2 : ("unicode/utf8.acceptRanges", Rows.laid_unicode_utf8_acceptRanges) ∈ laid)
  (h3 : ("internal/strconv.uint64pow10", (Rows.laid_internal_strconv_uint64pow10 : DataW Unit)) ∈ laid) (h4 : ("strconv.ErrSyntax", (Rows.laid_strconv_ErrSyntax : DataW Unit)) ∈ laid) (h5 : ("strconv.ErrRange", (Rows.laid_strconv_ErrRange : DataW Unit)) ∈ laid) : Giv.JTabs W :=
 ⟨LaidW.tabs W laid hL h1 h2, pow W laid hL h3, err_of (by kernel_rfl) (by kernel_rfl) (Lib.laidMet.reads hL h4), err_of (by kernel_rfl) (by kernel_rfl) (Lib.laidMet.reads hL h5)⟩
end Go.Proofs.YthhmmaihbjhhgaaGreatDoor.LaidJ
namespace Go.Proofs.YthhmmaihbjhhgaaGreatDoor.U1
open Go.Proofs.YthhmmaihbjhhgaaGreatDoor.Giv Go.RowKit Go.Proofs.YthhmmaihbjhhgaaGreatDoorW.PrintWords Go.Proofs.YthhmmaihbjhhgaaGreatDoorW.PrintLast Go.Proofs.YthhmmaihbjhhgaaGreatDoorW.PrintMore
attribute [local go_sem] max2_int min2_int max_two min_two max_three min_three max_four min_four
set_option linter.unusedVariables false
set_option linter.unusedSimpArgs false
def errW : Option Int → Value
 | none => .nilIface
 | some c => .iface 0 (.int .i64 c)
theorem errW_none : errW none = .nilIface := rfl
theorem errW_some (c : Int) : errW (some c) = .iface 0 (.int .i64 c) := rfl
theorem info3 : (Tryz.prog.info? 3).map (fun i => (i.zero, i.size, i.bytes)) = some (some (.int .i64 0), 1, 8) := by kernel_rfl
end Go.Proofs.YthhmmaihbjhhgaaGreatDoor.U1
namespace Go.Proofs.YthhmmaihbjhhgaaGreatDoor.U1
open Go.Proofs.YthhmmaihbjhhgaaGreatDoor.Giv Go.RowKit Go.Proofs.YthhmmaihbjhhgaaGreatDoorW.PrintWords Go.Proofs.YthhmmaihbjhhgaaGreatDoorW.PrintLast Go.Proofs.YthhmmaihbjhhgaaGreatDoorW.PrintMore
attribute [local go_sem] max2_int min2_int max_two min_two max_three min_three max_four min_four
set_option linter.unusedVariables false
set_option linter.unusedSimpArgs false
def utf8_ValidRune.j0 : Nat → Int → Bool → Option (Bool)
 | 0, _, _ => none
 | k + 1, x0, x3 => if x3 = true then (some true) else (if 57343 < x0 then (if x0 ≤ 1114111 then (some true) else (some false)) else (some false))
def utf8_ValidRune.f (k : Nat) (a0 : Int) : Option (Bool) := if 0 ≤ a0 then (utf8_ValidRune.j0 k a0 (decide (a0 < 55296))) else (utf8_ValidRune.j0 k a0 false)
set_option maxHeartbeats 8000000 in
set_option maxRecDepth 100000 in
theorem utf8_ValidRune.calls (k : Nat) (a0 : Int) (r : Bool) (w : World) (h : utf8_ValidRune.f k a0 = some r) :
  Calls Tryz.prog 117 #[.int .i32 a0] w fun e w' => e = .returned (.bool r) ∧ Drawn0 w w' := by
 have H : (if 0 ≤ a0 then (utf8_ValidRune.j0 k a0 (decide (a0 < 55296))) else (utf8_ValidRune.j0 k a0 false)) = some r := h
 clear h
 have HC2 := Aside0.mk H
 clear H
 go_enter Tryz.func117, Tryz.ntmps117
 go_upto_region 1 with (fail)
 go_cut [3] (fun v3 wc => ∃ (kq : Nat) (x3_1 : Bool), v3 = .bool x3_1 ∧ Aside0 (utf8_ValidRune.j0 kq a0 x3_1 = some r) ∧ Aside0 (kq ≤ k) ∧ Drawn0 w wc)
 case first =>
  have H := HC2.out
  clear HC2
  by_cases c3 : 0 ≤ a0
  ·rw [if_pos c3] at H
   have c3b0 : decide (0 ≤ a0) = true := decide_eq_true c3
   clear c3
   (first | rw [c3b0] | (simp only [i64_w, i32_w]; rw [c3b0]) | skip)
   have H' := Aside0.mk H
   clear H
   go_wp2
   go_meet
   case rel => exact ⟨_, (decide (a0 < 55296)), (by first | rfl | (simp; done) | (simp [*]; done)), H', ⟨by first | omega | exact Nat.le_refl _⟩, by repeat (first | exact Drawn0.refl _ | apply Drawn0.step)⟩
  ·rw [if_neg c3] at H
   have c3b0 : decide (0 ≤ a0) = false := decide_eq_false c3
   clear c3
   (first | rw [c3b0] | (simp only [i64_w, i32_w]; rw [c3b0]) | skip)
   have H' := Aside0.mk H
   clear H
   go_wp2
   go_meet
   case rel => exact ⟨_, (false), (by first | rfl | (simp; done) | (simp [*]; done)), H', ⟨by first | omega | exact Nat.le_refl _⟩, by repeat (first | exact Drawn0.refl _ | apply Drawn0.step)⟩
 case rest =>
  clear HC2
  try clear p2
  try clear c3
  try clear c3b0
  obtain ⟨kq, x3_1, rfl, HA, HJ1, ⟨mc1, rfl⟩⟩ := hcut
  cases kq with
  | zero => exact absurd HA.out (by simp [utf8_ValidRune.j0])
  | succ kj1 =>
   have H := HA.out
   clear HA
   simp only [utf8_ValidRune.j0] at H
   by_cases c4 : x3_1 = true
   ·subst c4
    have H1 : (some true) = some r := by rw [if_pos rfl] at H; exact H
    clear H
    have H := H1
    clear H1
    obtain rfl := Option.some.inj H
    go_wp2
    go_ret
    exact ⟨by first | rfl | (simp; done) | (simp [*]; done), by repeat (first | exact Drawn0.refl _ | apply Drawn0.step)⟩
   ·replace c4 := Bool.eq_false_iff.mpr c4
    subst c4
    have H1 : (if 57343 < a0 then (if a0 ≤ 1114111 then (some true) else (some false)) else (some false)) = some r := by rw [if_neg (show ¬ (false = true) by decide)] at H; exact H
    clear H
    have H := H1
    clear H1
    by_cases c5 : 57343 < a0
    ·rw [if_pos c5] at H
     have c5b0 : decide (57343 < a0) = true := decide_eq_true c5
     clear c5
     by_cases c6 : a0 ≤ 1114111
     ·rw [if_pos c6] at H
      have c6b0 : decide (a0 ≤ 1114111) = true := decide_eq_true c6
      clear c6
      obtain rfl := Option.some.inj H
      go_wp2
      go_ret
      exact ⟨by first | rfl | (simp; done) | (simp [*]; done), by repeat (first | exact Drawn0.refl _ | apply Drawn0.step)⟩
     ·rw [if_neg c6] at H
      have c6b0 : decide (a0 ≤ 1114111) = false := decide_eq_false c6
      clear c6
      obtain rfl := Option.some.inj H
      go_wp2
      go_ret
      exact ⟨by first | rfl | (simp; done) | (simp [*]; done), by repeat (first | exact Drawn0.refl _ | apply Drawn0.step)⟩
    ·rw [if_neg c5] at H
     have c5b0 : decide (57343 < a0) = false := decide_eq_false c5
     clear c5
     obtain rfl := Option.some.inj H
     go_wp2
     go_ret
     exact ⟨by first | rfl | (simp; done) | (simp [*]; done), by repeat (first | exact Drawn0.refl _ | apply Drawn0.step)⟩
def utf_letter.f (k : Nat) (a0 : Int) : Option (Bool) := if a0 ≥ 0 then (if a0 ≤ 1114111 then ((utf8_ValidRune.f k (wrap32 (a0))).bind fun t101 => (some t101)) else (some false)) else (some false)
set_option maxHeartbeats 8000000 in
set_option maxRecDepth 100000 in
theorem utf_letter.calls (k : Nat) (a0 : Int) (r : Bool) (w : World) (h : utf_letter.f k a0 = some r) :
  Calls Tryz.prog 109 #[.int .i64 a0] w fun e w' => e = .returned (.bool r) ∧ Drawn0 w w' := by
 have H : (if a0 ≥ 0 then (if a0 ≤ 1114111 then ((utf8_ValidRune.f k (wrap32 (a0))).bind fun t101 => (some t101)) else (some false)) else (some false)) = some r := h
 clear h
 by_cases c2 : a0 ≥ 0
 ·rw [if_pos c2] at H
  have c2b0 : decide (0 ≤ a0) = true := decide_eq_true c2
  clear c2
  by_cases c3 : a0 ≤ 1114111
  ·rw [if_pos c3] at H
   have c3b0 : decide (a0 ≤ 1114111) = true := decide_eq_true c3
   clear c3
   replace H := Option.bind_eq_some_iff.mp H
   obtain ⟨t101, A40, H⟩ := H
   replace H : (some t101) = some r := H
   have A4 := Aside0.mk A40
   clear A40
   obtain rfl := Option.some.inj H
   go_enter Tryz.func109, Tryz.ntmps109
   go_wp2_with (first | (go_at_call 117; (with_reducible refine (utf8_ValidRune.calls k (wrap32 (a0)) t101 _ A4.out).mono ?_); rintro e w' ⟨rfl, ⟨nd, rfl⟩⟩))
   go_ret
   exact ⟨by first | rfl | (simp; done) | (simp [*]; done), by repeat (first | exact Drawn0.refl _ | apply Drawn0.step)⟩
  ·rw [if_neg c3] at H
   have c3b0 : decide (a0 ≤ 1114111) = false := decide_eq_false c3
   clear c3
   obtain rfl := Option.some.inj H
   go_enter Tryz.func109, Tryz.ntmps109
   go_wp2
   go_ret
   exact ⟨by first | rfl | (simp; done) | (simp [*]; done), by repeat (first | exact Drawn0.refl _ | apply Drawn0.step)⟩
 ·rw [if_neg c2] at H
  have c2b0 : decide (0 ≤ a0) = false := decide_eq_false c2
  clear c2
  obtain rfl := Option.some.inj H
  go_enter Tryz.func109, Tryz.ntmps109
  go_wp2
  go_ret
  exact ⟨by first | rfl | (simp; done) | (simp [*]; done), by repeat (first | exact Drawn0.refl _ | apply Drawn0.step)⟩
def utf_Put.f (k : Nat) (a0 : Int) : Option (ByteArray × Bool) := (utf_letter.f k a0).bind fun t102 => (if t102 = true then (some (Go.Utf8.encode (wrap32 (a0)), true)) else (some ((⟨#[]⟩ : ByteArray), false)))
set_option maxHeartbeats 8000000 in
set_option maxRecDepth 100000 in
theorem utf_Put.calls (k : Nat) (a0 : Int) (r1 : ByteArray) (r2 : Bool) (w : World) (h : utf_Put.f k a0 = some (r1, r2)) :
  Calls Tryz.prog 94 #[.int .i64 a0] w fun e w' => e = .returned (.tuple #[.string r1, .bool r2]) ∧ Drawn0 w w' := by
 have H : ((utf_letter.f k a0).bind fun t102 => (if t102 = true then (some (Go.Utf8.encode (wrap32 (a0)), true)) else (some ((⟨#[]⟩ : ByteArray), false)))) = some (r1, r2) := h
 clear h
 replace H := Option.bind_eq_some_iff.mp H
 obtain ⟨t102, A20, H⟩ := H
 replace H : (if t102 = true then (some (Go.Utf8.encode (wrap32 (a0)), true)) else (some ((⟨#[]⟩ : ByteArray), false))) = some (r1, r2) := H
 have A2 := Aside0.mk A20
 clear A20
 by_cases c3 : t102 = true
 ·subst c3
  have H1 : (some (Go.Utf8.encode (wrap32 (a0)), true)) = some (r1, r2) := by rw [if_pos rfl] at H; exact H
  clear H
  have H := H1
  clear H1
  simp only [Option.some.injEq, Prod.mk.injEq] at H
  obtain ⟨rfl, rfl⟩ := H
  go_enter Tryz.func94, Tryz.ntmps94
  go_wp2_with (first | ((with_reducible refine gate_callee (f := 109) rfl ?_); refine goesL_ (some 5) rfl rfl Tryz.func109 (by kernel_rfl) rfl #[.int .i64 a0] rfl (by (try simp only [List.map_toArray, List.map_cons, List.map_nil]); first | done | rfl | (simp only [List.length_drop, List.length_take]; rfl)) ?_; (with_reducible refine (utf_letter.calls k a0 true _ A2.out).mono ?_); rintro e w' ⟨rfl, ⟨nd, rfl⟩⟩; refine ⟨_, rfl, ?_⟩))
  go_ret2
  exact ⟨by first | rfl | (simp; done) | (simp [*]; done), by repeat (first | exact Drawn0.refl _ | apply Drawn0.step)⟩
 ·replace c3 := Bool.eq_false_iff.mpr c3
  subst c3
  have H1 : (some ((⟨#[]⟩ : ByteArray), false)) = some (r1, r2) := by rw [if_neg (show ¬ (false = true) by decide)] at H; exact H
  clear H
  have H := H1
  clear H1
  simp only [Option.some.injEq, Prod.mk.injEq] at H
  obtain ⟨rfl, rfl⟩ := H
  go_enter Tryz.func94, Tryz.ntmps94
  go_wp2_with (first | ((with_reducible refine gate_callee (f := 109) rfl ?_); refine goesL_ (some 5) rfl rfl Tryz.func109 (by kernel_rfl) rfl #[.int .i64 a0] rfl (by (try simp only [List.map_toArray, List.map_cons, List.map_nil]); first | done | rfl | (simp only [List.length_drop, List.length_take]; rfl)) ?_; (with_reducible refine (utf_letter.calls k a0 false _ A2.out).mono ?_); rintro e w' ⟨rfl, ⟨nd, rfl⟩⟩; refine ⟨_, rfl, ?_⟩))
  go_ret2
  exact ⟨by first | rfl | (simp; done) | (simp [*]; done), by repeat (first | exact Drawn0.refl _ | apply Drawn0.step)⟩
def cracknelref05_Letter.f (a0 : Int) : Option (Bool) := if a0 ≥ 0 then (if a0 ≤ 1114111 then (if a0 < 55296 then (some true) else (some (decide (a0 > 57343)))) else (some false)) else (some false)
set_option maxHeartbeats 8000000 in
set_option maxRecDepth 100000 in
theorem cracknelref05_Letter.calls (a0 : Int) (r : Bool) (w : World) (h : cracknelref05_Letter.f a0 = some r) :
  Calls Tryz.prog 101 #[.int .i64 a0] w fun e w' => e = .returned (.bool r) ∧ Drawn0 w w' := by
 have H : (if a0 ≥ 0 then (if a0 ≤ 1114111 then (if a0 < 55296 then (some true) else (some (decide (a0 > 57343)))) else (some false)) else (some false)) = some r := h
 clear h
 by_cases c2 : a0 ≥ 0
 ·rw [if_pos c2] at H
  have c2b0 : decide (0 ≤ a0) = true := decide_eq_true c2
  clear c2
  by_cases c3 : a0 ≤ 1114111
  ·rw [if_pos c3] at H
   have c3b0 : decide (a0 ≤ 1114111) = true := decide_eq_true c3
   clear c3
   by_cases c4 : a0 < 55296
   ·rw [if_pos c4] at H
    have c4b0 : decide (a0 < 55296) = true := decide_eq_true c4
    clear c4
    obtain rfl := Option.some.inj H
    go_enter Tryz.func101, Tryz.ntmps101
    go_wp2
    go_ret
    exact ⟨by first | rfl | (simp; done) | (simp [*]; done), by repeat (first | exact Drawn0.refl _ | apply Drawn0.step)⟩
   ·rw [if_neg c4] at H
    have c4b0 : decide (a0 < 55296) = false := decide_eq_false c4
    clear c4
    obtain rfl := Option.some.inj H
    go_enter Tryz.func101, Tryz.ntmps101
    go_wp2
    go_ret
    exact ⟨by first | rfl | (simp; done) | (simp [*]; done), by repeat (first | exact Drawn0.refl _ | apply Drawn0.step)⟩
  ·rw [if_neg c3] at H
   have c3b0 : decide (a0 ≤ 1114111) = false := decide_eq_false c3
   clear c3
   obtain rfl := Option.some.inj H
   go_enter Tryz.func101, Tryz.ntmps101
   go_wp2
   go_ret
   exact ⟨by first | rfl | (simp; done) | (simp [*]; done), by repeat (first | exact Drawn0.refl _ | apply Drawn0.step)⟩
 ·rw [if_neg c2] at H
  have c2b0 : decide (0 ≤ a0) = false := decide_eq_false c2
  clear c2
  obtain rfl := Option.some.inj H
  go_enter Tryz.func101, Tryz.ntmps101
  go_wp2
  go_ret
  exact ⟨by first | rfl | (simp; done) | (simp [*]; done), by repeat (first | exact Drawn0.refl _ | apply Drawn0.step)⟩
def cracknelref05_Put.f (a0 : Int) : Option (ByteArray × Bool) := (cracknelref05_Letter.f a0).bind fun t103 => (if t103 = true then (if a0 < 128 then (some (strOfNums (([(a0) % 256] : List Int)), true)) else (if a0 < 2048 then (some (strOfNums (([(wrap64 (192 + (wrap64 (Int.tdiv a0 64)))) % 256, (wrap64 (128 + (Int.tmod a0 64))) % 256] : List Int)), true)) else (if a0 < 65536 then (some (strOfNums (([(wrap64 (224 + (wrap64 (Int.tdiv a0 4096)))) % 256, (wrap64 (128 + (Int.tmod (wrap64 (Int.tdiv a0 64)) 64))) % 256, (wrap64 (128 + (Int.tmod a0 64))) % 256] : List Int)), true)) else (some (strOfNums (([(wrap64 (240 + (wrap64 (Int.tdiv a0 262144)))) % 256, (wrap64 (128 + (Int.tmod (wrap64 (Int.tdiv a0 4096)) 64))) % 256, (wrap64 (128 + (Int.tmod (wrap64 (Int.tdiv a0 64)) 64))) % 256, (wrap64 (128 + (Int.tmod a0 64))) % 256] : List Int)), true))))) else (some ((⟨#[]⟩ : ByteArray), false)))
set_option maxHeartbeats 8000000 in
set_option maxRecDepth 100000 in
theorem cracknelref05_Put.calls (a0 : Int) (r1 : ByteArray) (r2 : Bool) (w : World) (h : cracknelref05_Put.f a0 = some (r1, r2)) :
  Calls Tryz.prog 87 #[.int .i64 a0] w fun e w' => e = .returned (.tuple #[.string r1, .bool r2]) ∧ Below w.heap.size w w' := by
 have HB := Aside0.mk (Below.refl w.heap.size w)
 have H : ((cracknelref05_Letter.f a0).bind fun t103 => (if t103 = true then (if a0 < 128 then (some (strOfNums (([(a0) % 256] : List Int)), true)) else (if a0 < 2048 then (some (strOfNums (([(wrap64 (192 + (wrap64 (Int.tdiv a0 64)))) % 256, (wrap64 (128 + (Int.tmod a0 64))) % 256] : List Int)), true)) else (if a0 < 65536 then (some (strOfNums (([(wrap64 (224 + (wrap64 (Int.tdiv a0 4096)))) % 256, (wrap64 (128 + (Int.tmod (wrap64 (Int.tdiv a0 64)) 64))) % 256, (wrap64 (128 + (Int.tmod a0 64))) % 256] : List Int)), true)) else (some (strOfNums (([(wrap64 (240 + (wrap64 (Int.tdiv a0 262144)))) % 256, (wrap64 (128 + (Int.tmod (wrap64 (Int.tdiv a0 4096)) 64))) % 256, (wrap64 (128 + (Int.tmod (wrap64 (Int.tdiv a0 64)) 64))) % 256, (wrap64 (128 + (Int.tmod a0 64))) % 256] : List Int)), true))))) else (some ((⟨#[]⟩ : ByteArray), false)))) = some (r1, r2) := h
 clear h
 replace H := Option.bind_eq_some_iff.mp H
 obtain ⟨t103, A20, H⟩ := H
 replace H : (if t103 = true then (if a0 < 128 then (some (strOfNums (([(a0) % 256] : List Int)), true)) else (if a0 < 2048 then (some (strOfNums (([(wrap64 (192 + (wrap64 (Int.tdiv a0 64)))) % 256, (wrap64 (128 + (Int.tmod a0 64))) % 256] : List Int)), true)) else (if a0 < 65536 then (some (strOfNums (([(wrap64 (224 + (wrap64 (Int.tdiv a0 4096)))) % 256, (wrap64 (128 + (Int.tmod (wrap64 (Int.tdiv a0 64)) 64))) % 256, (wrap64 (128 + (Int.tmod a0 64))) % 256] : List Int)), true)) else (some (strOfNums (([(wrap64 (240 + (wrap64 (Int.tdiv a0 262144)))) % 256, (wrap64 (128 + (Int.tmod (wrap64 (Int.tdiv a0 4096)) 64))) % 256, (wrap64 (128 + (Int.tmod (wrap64 (Int.tdiv a0 64)) 64))) % 256, (wrap64 (128 + (Int.tmod a0 64))) % 256] : List Int)), true))))) else (some ((⟨#[]⟩ : ByteArray), false))) = some (r1, r2) := H
 have A2 := Aside0.mk A20
 clear A20
 by_cases c3 : t103 = true
 ·subst c3
  have H1 : (if a0 < 128 then (some (strOfNums (([(a0) % 256] : List Int)), true)) else (if a0 < 2048 then (some (strOfNums (([(wrap64 (192 + (wrap64 (Int.tdiv a0 64)))) % 256, (wrap64 (128 + (Int.tmod a0 64))) % 256] : List Int)), true)) else (if a0 < 65536 then (some (strOfNums (([(wrap64 (224 + (wrap64 (Int.tdiv a0 4096)))) % 256, (wrap64 (128 + (Int.tmod (wrap64 (Int.tdiv a0 64)) 64))) % 256, (wrap64 (128 + (Int.tmod a0 64))) % 256] : List Int)), true)) else (some (strOfNums (([(wrap64 (240 + (wrap64 (Int.tdiv a0 262144)))) % 256, (wrap64 (128 + (Int.tmod (wrap64 (Int.tdiv a0 4096)) 64))) % 256, (wrap64 (128 + (Int.tmod (wrap64 (Int.tdiv a0 64)) 64))) % 256, (wrap64 (128 + (Int.tmod a0 64))) % 256] : List Int)), true))))) = some (r1, r2) := by rw [if_pos rfl] at H; exact H
  clear H
  have H := H1
  clear H1
  by_cases c4 : a0 < 128
  ·rw [if_pos c4] at H
   have c4b0 : decide (a0 < 128) = true := decide_eq_true c4
   clear c4
   obtain ⟨y104, hy104⟩ : ∃ y_ : List Int, y_ = (([(a0) % 256] : List Int)) := ⟨_, rfl⟩
   replace H : (some (strOfNums y104, true)) = some (r1, r2) := by first | (rw [hy104]; with_reducible exact H) | (have H2_ := (Option.bind_some _ _).symm.trans H; rw [hy104]; with_reducible exact H2_) | (have H2_ := (Option.bind_some _ _).symm.trans H; with_reducible exact H2_) | with_reducible exact H | (rw [hy104]; exact H) | exact H
   have Ny104 := Aside0.mk hy104
   clear hy104
   simp only [Option.some.injEq, Prod.mk.injEq] at H
   obtain ⟨rfl, rfl⟩ := H
   go_enter Tryz.func87, Tryz.ntmps87
   go_wp2_with (first | ((with_reducible refine gate_callee (f := 101) rfl ?_); refine goesL_ (some 7) rfl rfl Tryz.func101 (by kernel_rfl) rfl #[.int .i64 a0] rfl (by (try simp only [List.map_toArray, List.map_cons, List.map_nil]); first | done | rfl | (simp only [List.length_drop, List.length_take]; rfl)) ?_; (with_reducible refine (cracknelref05_Letter.calls a0 true _ A2.out).mono ?_); rintro e w' ⟨rfl, ⟨nd, rfl⟩⟩; refine ⟨_, rfl, ?_⟩) | ((with_reducible refine gate_dst (N := 13) rfl ?_); refine Kd.R_lit (Kd.int .u8) _ 5 ?hg (N := 13) ?hd (xs := ([(a0) % 256] : List Int)) (inner := [.int .u8 ((a0) % 256)]) (ok := fun _ => True) (okp := fun _ => True) ?hr ?hp (fun _ hk => hk) trivial (Below.refl _ _) (Nat.le_refl _) (by simp) ?_; (case hd => rfl); (case hg => rfl); (case hr => first | (go_simp; done) | (go_simp; rfl)); (case hp => exact (Reps.one (show Kd.M (Kd.int .u8) _ _ _ ((a0) % 256) [.int .u8 ((a0) % 256)] from rfl) (Reps.none _ _))); intro v105 w5 ho6 hb hg_ hnew_; clear hg_ hnew_; (first | rw [← Ny104.out] at ho6 | (simp only [Int.reduceToNat] at ho6; rw [← Ny104.out] at ho6)); have n0_ := Aside0.mk (Kd.R_lower ho6 (below_size (by repeat (first | (with_reducible first | exact HB.out | apply below_alloc | apply pw_below_drewN | apply below_drew1) | exact HB.out)))); have n1_ := Aside0.mk (below_step (by repeat (first | (with_reducible first | exact HB.out | apply below_alloc | apply pw_below_drewN | apply below_drew1) | exact HB.out)) hb); clear HB; have HO106 := n0_; have HB := n1_; clear n0_ n1_; clear hb ho6; have hcv7 := own_string (P := Tryz.prog) Tryz.underlying43 Tryz.underlying5 Tryz.underlying9 (Kd.own_of_R HO106.out)))
   go_ret2
   exact ⟨by first | rfl | (simp [errW_none, errW_some] <;> rfl) | (simp [*, errW_none, errW_some] <;> rfl), by repeat (first | (with_reducible first | exact HB.out | apply below_alloc | apply pw_below_drewN | apply below_drew1) | exact HB.out)⟩
  ·rw [if_neg c4] at H
   have c4b0 : decide (a0 < 128) = false := decide_eq_false c4
   clear c4
   by_cases c8 : a0 < 2048
   ·rw [if_pos c8] at H
    have c8b0 : decide (a0 < 2048) = true := decide_eq_true c8
    clear c8
    obtain ⟨y107, hy107⟩ : ∃ y_ : List Int, y_ = (([(wrap64 (192 + (wrap64 (Int.tdiv a0 64)))) % 256, (wrap64 (128 + (Int.tmod a0 64))) % 256] : List Int)) := ⟨_, rfl⟩
    replace H : (some (strOfNums y107, true)) = some (r1, r2) := by first | (rw [hy107]; with_reducible exact H) | (have H2_ := (Option.bind_some _ _).symm.trans H; rw [hy107]; with_reducible exact H2_) | (have H2_ := (Option.bind_some _ _).symm.trans H; with_reducible exact H2_) | with_reducible exact H | (rw [hy107]; exact H) | exact H
    have Ny107 := Aside0.mk hy107
    clear hy107
    simp only [Option.some.injEq, Prod.mk.injEq] at H
    obtain ⟨rfl, rfl⟩ := H
    go_enter Tryz.func87, Tryz.ntmps87
    go_wp2_with (first | ((with_reducible refine gate_callee (f := 101) rfl ?_); refine goesL_ (some 7) rfl rfl Tryz.func101 (by kernel_rfl) rfl #[.int .i64 a0] rfl (by (try simp only [List.map_toArray, List.map_cons, List.map_nil]); first | done | rfl | (simp only [List.length_drop, List.length_take]; rfl)) ?_; (with_reducible refine (cracknelref05_Letter.calls a0 true _ A2.out).mono ?_); rintro e w' ⟨rfl, ⟨nd, rfl⟩⟩; refine ⟨_, rfl, ?_⟩) | ((with_reducible refine gate_dst (N := 26) rfl ?_); refine Kd.R_lit (Kd.int .u8) _ 5 ?hg (N := 26) ?hd (xs := ([(wrap64 (192 + (wrap64 (Int.tdiv a0 64)))) % 256, (wrap64 (128 + (Int.tmod a0 64))) % 256] : List Int)) (inner := [.int .u8 ((wrap64 (192 + (wrap64 (Int.tdiv a0 64)))) % 256), .int .u8 ((wrap64 (128 + (Int.tmod a0 64))) % 256)]) (ok := fun _ => True) (okp := fun _ => True) ?hr ?hp (fun _ hk => hk) trivial (Below.refl _ _) (Nat.le_refl _) (by simp) ?_; (case hd => rfl); (case hg => rfl); (case hr => first | (go_simp; done) | (go_simp; rfl)); (case hp => exact (Reps.one (show Kd.M (Kd.int .u8) _ _ _ ((wrap64 (192 + (wrap64 (Int.tdiv a0 64)))) % 256) [.int .u8 ((wrap64 (192 + (wrap64 (Int.tdiv a0 64)))) % 256)] from rfl) (Reps.one (show Kd.M (Kd.int .u8) _ _ _ ((wrap64 (128 + (Int.tmod a0 64))) % 256) [.int .u8 ((wrap64 (128 + (Int.tmod a0 64))) % 256)] from rfl) (Reps.none _ _)))); intro v108 w9 ho10 hb hg_ hnew_; clear hg_ hnew_; (first | rw [← Ny107.out] at ho10 | (simp only [Int.reduceToNat] at ho10; rw [← Ny107.out] at ho10)); have n0_ := Aside0.mk (Kd.R_lower ho10 (below_size (by repeat (first | (with_reducible first | exact HB.out | apply below_alloc | apply pw_below_drewN | apply below_drew1) | exact HB.out)))); have n1_ := Aside0.mk (below_step (by repeat (first | (with_reducible first | exact HB.out | apply below_alloc | apply pw_below_drewN | apply below_drew1) | exact HB.out)) hb); clear HB; have HO109 := n0_; have HB := n1_; clear n0_ n1_; clear hb ho10; have hcv11 := own_string (P := Tryz.prog) Tryz.underlying43 Tryz.underlying5 Tryz.underlying9 (Kd.own_of_R HO109.out)))
    go_ret2
    exact ⟨by first | rfl | (simp [errW_none, errW_some] <;> rfl) | (simp [*, errW_none, errW_some] <;> rfl), by repeat (first | (with_reducible first | exact HB.out | apply below_alloc | apply pw_below_drewN | apply below_drew1) | exact HB.out)⟩
   ·rw [if_neg c8] at H
    have c8b0 : decide (a0 < 2048) = false := decide_eq_false c8
    clear c8
    by_cases c12 : a0 < 65536
    ·rw [if_pos c12] at H
     have c12b0 : decide (a0 < 65536) = true := decide_eq_true c12
     clear c12
     obtain ⟨y110, hy110⟩ : ∃ y_ : List Int, y_ = (([(wrap64 (224 + (wrap64 (Int.tdiv a0 4096)))) % 256, (wrap64 (128 + (Int.tmod (wrap64 (Int.tdiv a0 64)) 64))) % 256, (wrap64 (128 + (Int.tmod a0 64))) % 256] : List Int)) := ⟨_, rfl⟩
     replace H : (some (strOfNums y110, true)) = some (r1, r2) := by first | (rw [hy110]; with_reducible exact H) | (have H2_ := (Option.bind_some _ _).symm.trans H; rw [hy110]; with_reducible exact H2_) | (have H2_ := (Option.bind_some _ _).symm.trans H; with_reducible exact H2_) | with_reducible exact H | (rw [hy110]; exact H) | exact H
     have Ny110 := Aside0.mk hy110
     clear hy110
     simp only [Option.some.injEq, Prod.mk.injEq] at H
     obtain ⟨rfl, rfl⟩ := H
     go_enter Tryz.func87, Tryz.ntmps87
     go_wp2_with (first | ((with_reducible refine gate_callee (f := 101) rfl ?_); refine goesL_ (some 7) rfl rfl Tryz.func101 (by kernel_rfl) rfl #[.int .i64 a0] rfl (by (try simp only [List.map_toArray, List.map_cons, List.map_nil]); first | done | rfl | (simp only [List.length_drop, List.length_take]; rfl)) ?_; (with_reducible refine (cracknelref05_Letter.calls a0 true _ A2.out).mono ?_); rintro e w' ⟨rfl, ⟨nd, rfl⟩⟩; refine ⟨_, rfl, ?_⟩) | ((with_reducible refine gate_dst (N := 41) rfl ?_); refine Kd.R_lit (Kd.int .u8) _ 5 ?hg (N := 41) ?hd (xs := ([(wrap64 (224 + (wrap64 (Int.tdiv a0 4096)))) % 256, (wrap64 (128 + (Int.tmod (wrap64 (Int.tdiv a0 64)) 64))) % 256, (wrap64 (128 + (Int.tmod a0 64))) % 256] : List Int)) (inner := [.int .u8 ((wrap64 (224 + (wrap64 (Int.tdiv a0 4096)))) % 256), .int .u8 ((wrap64 (128 + (Int.tmod (wrap64 (Int.tdiv a0 64)) 64))) % 256), .int .u8 ((wrap64 (128 + (Int.tmod a0 64))) % 256)]) (ok := fun _ => True) (okp := fun _ => True) ?hr ?hp (fun _ hk => hk) trivial (Below.refl _ _) (Nat.le_refl _) (by simp) ?_; (case hd => rfl); (case hg => rfl); (case hr => first | (go_simp; done) | (go_simp; rfl)); (case hp => exact (Reps.one (show Kd.M (Kd.int .u8) _ _ _ ((wrap64 (224 + (wrap64 (Int.tdiv a0 4096)))) % 256) [.int .u8 ((wrap64 (224 + (wrap64 (Int.tdiv a0 4096)))) % 256)] from rfl) (Reps.one (show Kd.M (Kd.int .u8) _ _ _ ((wrap64 (128 + (Int.tmod (wrap64 (Int.tdiv a0 64)) 64))) % 256) [.int .u8 ((wrap64 (128 + (Int.tmod (wrap64 (Int.tdiv a0 64)) 64))) % 256)] from rfl) (Reps.one (show Kd.M (Kd.int .u8) _ _ _ ((wrap64 (128 + (Int.tmod a0 64))) % 256) [.int .u8 ((wrap64 (128 + (Int.tmod a0 64))) % 256)] from rfl) (Reps.none _ _))))); intro v111 w13 ho14 hb hg_ hnew_; clear hg_ hnew_; (first | rw [← Ny110.out] at ho14 | (simp only [Int.reduceToNat] at ho14; rw [← Ny110.out] at ho14)); have n0_ := Aside0.mk (Kd.R_lower ho14 (below_size (by repeat (first | (with_reducible first | exact HB.out | apply below_alloc | apply pw_below_drewN | apply below_drew1) | exact HB.out)))); have n1_ := Aside0.mk (below_step (by repeat (first | (with_reducible first | exact HB.out | apply below_alloc | apply pw_below_drewN | apply below_drew1) | exact HB.out)) hb); clear HB; have HO112 := n0_; have HB := n1_; clear n0_ n1_; clear hb ho14; have hcv15 := own_string (P := Tryz.prog) Tryz.underlying43 Tryz.underlying5 Tryz.underlying9 (Kd.own_of_R HO112.out)))
     go_ret2
     exact ⟨by first | rfl | (simp [errW_none, errW_some] <;> rfl) | (simp [*, errW_none, errW_some] <;> rfl), by repeat (first | (with_reducible first | exact HB.out | apply below_alloc | apply pw_below_drewN | apply below_drew1) | exact HB.out)⟩
    ·rw [if_neg c12] at H
     have c12b0 : decide (a0 < 65536) = false := decide_eq_false c12
     clear c12
     obtain ⟨y113, hy113⟩ : ∃ y_ : List Int, y_ = (([(wrap64 (240 + (wrap64 (Int.tdiv a0 262144)))) % 256, (wrap64 (128 + (Int.tmod (wrap64 (Int.tdiv a0 4096)) 64))) % 256, (wrap64 (128 + (Int.tmod (wrap64 (Int.tdiv a0 64)) 64))) % 256, (wrap64 (128 + (Int.tmod a0 64))) % 256] : List Int)) := ⟨_, rfl⟩
     replace H : (some (strOfNums y113, true)) = some (r1, r2) := by first | (rw [hy113]; with_reducible exact H) | (have H2_ := (Option.bind_some _ _).symm.trans H; rw [hy113]; with_reducible exact H2_) | (have H2_ := (Option.bind_some _ _).symm.trans H; with_reducible exact H2_) | with_reducible exact H | (rw [hy113]; exact H) | exact H
     have Ny113 := Aside0.mk hy113
     clear hy113
     simp only [Option.some.injEq, Prod.mk.injEq] at H
     obtain ⟨rfl, rfl⟩ := H
     go_enter Tryz.func87, Tryz.ntmps87
     go_wp2_with (first | ((with_reducible refine gate_callee (f := 101) rfl ?_); refine goesL_ (some 7) rfl rfl Tryz.func101 (by kernel_rfl) rfl #[.int .i64 a0] rfl (by (try simp only [List.map_toArray, List.map_cons, List.map_nil]); first | done | rfl | (simp only [List.length_drop, List.length_take]; rfl)) ?_; (with_reducible refine (cracknelref05_Letter.calls a0 true _ A2.out).mono ?_); rintro e w' ⟨rfl, ⟨nd, rfl⟩⟩; refine ⟨_, rfl, ?_⟩) | ((with_reducible refine gate_dst (N := 54) rfl ?_); refine Kd.R_lit (Kd.int .u8) _ 5 ?hg (N := 54) ?hd (xs := ([(wrap64 (240 + (wrap64 (Int.tdiv a0 262144)))) % 256, (wrap64 (128 + (Int.tmod (wrap64 (Int.tdiv a0 4096)) 64))) % 256, (wrap64 (128 + (Int.tmod (wrap64 (Int.tdiv a0 64)) 64))) % 256, (wrap64 (128 + (Int.tmod a0 64))) % 256] : List Int)) (inner := [.int .u8 ((wrap64 (240 + (wrap64 (Int.tdiv a0 262144)))) % 256), .int .u8 ((wrap64 (128 + (Int.tmod (wrap64 (Int.tdiv a0 4096)) 64))) % 256), .int .u8 ((wrap64 (128 + (Int.tmod (wrap64 (Int.tdiv a0 64)) 64))) % 256), .int .u8 ((wrap64 (128 + (Int.tmod a0 64))) % 256)]) (ok := fun _ => True) (okp := fun _ => True) ?hr ?hp (fun _ hk => hk) trivial (Below.refl _ _) (Nat.le_refl _) (by simp) ?_; (case hd => rfl); (case hg => rfl); (case hr => first | (go_simp; done) | (go_simp; rfl)); (case hp => exact (Reps.one (show Kd.M (Kd.int .u8) _ _ _ ((wrap64 (240 + (wrap64 (Int.tdiv a0 262144)))) % 256) [.int .u8 ((wrap64 (240 + (wrap64 (Int.tdiv a0 262144)))) % 256)] from rfl) (Reps.one (show Kd.M (Kd.int .u8) _ _ _ ((wrap64 (128 + (Int.tmod (wrap64 (Int.tdiv a0 4096)) 64))) % 256) [.int .u8 ((wrap64 (128 + (Int.tmod (wrap64 (Int.tdiv a0 4096)) 64))) % 256)] from rfl) (Reps.one (show Kd.M (Kd.int .u8) _ _ _ ((wrap64 (128 + (Int.tmod (wrap64 (Int.tdiv a0 64)) 64))) % 256) [.int .u8 ((wrap64 (128 + (Int.tmod (wrap64 (Int.tdiv a0 64)) 64))) % 256)] from rfl) (Reps.one (show Kd.M (Kd.int .u8) _ _ _ ((wrap64 (128 + (Int.tmod a0 64))) % 256) [.int .u8 ((wrap64 (128 + (Int.tmod a0 64))) % 256)] from rfl) (Reps.none _ _)))))); intro v114 w16 ho17 hb hg_ hnew_; clear hg_ hnew_; (first | rw [← Ny113.out] at ho17 | (simp only [Int.reduceToNat] at ho17; rw [← Ny113.out] at ho17)); have n0_ := Aside0.mk (Kd.R_lower ho17 (below_size (by repeat (first | (with_reducible first | exact HB.out | apply below_alloc | apply pw_below_drewN | apply below_drew1) | exact HB.out)))); have n1_ := Aside0.mk (below_step (by repeat (first | (with_reducible first | exact HB.out | apply below_alloc | apply pw_below_drewN | apply below_drew1) | exact HB.out)) hb); clear HB; have HO115 := n0_; have HB := n1_; clear n0_ n1_; clear hb ho17; have hcv18 := own_string (P := Tryz.prog) Tryz.underlying43 Tryz.underlying5 Tryz.underlying9 (Kd.own_of_R HO115.out)))
     go_ret2
     exact ⟨by first | rfl | (simp [errW_none, errW_some] <;> rfl) | (simp [*, errW_none, errW_some] <;> rfl), by repeat (first | (with_reducible first | exact HB.out | apply below_alloc | apply pw_below_drewN | apply below_drew1) | exact HB.out)⟩
 ·replace c3 := Bool.eq_false_iff.mpr c3
  subst c3
  have H1 : (some ((⟨#[]⟩ : ByteArray), false)) = some (r1, r2) := by rw [if_neg (show ¬ (false = true) by decide)] at H; exact H
  clear H
  have H := H1
  clear H1
  simp only [Option.some.injEq, Prod.mk.injEq] at H
  obtain ⟨rfl, rfl⟩ := H
  go_enter Tryz.func87, Tryz.ntmps87
  go_wp2_with (first | ((with_reducible refine gate_callee (f := 101) rfl ?_); refine goesL_ (some 7) rfl rfl Tryz.func101 (by kernel_rfl) rfl #[.int .i64 a0] rfl (by (try simp only [List.map_toArray, List.map_cons, List.map_nil]); first | done | rfl | (simp only [List.length_drop, List.length_take]; rfl)) ?_; (with_reducible refine (cracknelref05_Letter.calls a0 false _ A2.out).mono ?_); rintro e w' ⟨rfl, ⟨nd, rfl⟩⟩; refine ⟨_, rfl, ?_⟩))
  go_ret2
  exact ⟨by first | rfl | (simp [errW_none, errW_some] <;> rfl) | (simp [*, errW_none, errW_some] <;> rfl), by repeat (first | (with_reducible first | exact HB.out | apply below_alloc | apply pw_below_drewN | apply below_drew1) | exact HB.out)⟩
def utf_Take.f (a0 : ByteArray) : Option (Int × Int × Bool) := (utf8_DecodeRuneInString.f a0).bind fun bt116 => (if bt116.1 = 65533 then (if bt116.2 < 2 then (some (0, 0, false)) else (some (wrap64 (bt116.1), bt116.2, true))) else (some (wrap64 (bt116.1), bt116.2, true)))
set_option maxHeartbeats 8000000 in
set_option maxRecDepth 100000 in
theorem utf_Take.calls (a0 : ByteArray) (r1 : Int) (r2 : Int) (r3 : Bool) (w : World) (h : utf_Take.f a0 = some (r1, r2, r3)) (TB_ : Tabs w := by first | assumption | (refine Tabs.step (by assumption) ?_; repeat (first | exact Aside0.out (by assumption) | apply below_alloc | apply pw_below_drewN | apply below_drew1 | exact Below.refl _ _))) :
  Calls Tryz.prog 95 #[.string a0] w fun e w' => e = .returned (.tuple #[.int .i64 r1, .int .i64 r2, .bool r3]) ∧ Below w.heap.size w w' := by
 have HB := Aside0.mk (Below.refl w.heap.size w)
 have H : ((utf8_DecodeRuneInString.f a0).bind fun bt116 => (if bt116.1 = 65533 then (if bt116.2 < 2 then (some (0, 0, false)) else (some (wrap64 (bt116.1), bt116.2, true))) else (some (wrap64 (bt116.1), bt116.2, true)))) = some (r1, r2, r3) := h
 clear h
 replace H := Option.bind_eq_some_iff.mp H
 obtain ⟨⟨t116, t117⟩, A20, H⟩ := H
 replace H : (if t116 = 65533 then (if t117 < 2 then (some (0, 0, false)) else (some (wrap64 (t116), t117, true))) else (some (wrap64 (t116), t117, true))) = some (r1, r2, r3) := H
 have A2 := Aside0.mk A20
 clear A20
 by_cases c3 : t116 = 65533
 ·rw [if_pos c3] at H
  have c3b0 : (t116 == 65533) = true := beq_iff_eq.mpr c3
  have c3b1 : (t116 != 65533) = false := bne_eq_false_iff_eq.mpr c3
  clear c3
  by_cases c4 : t117 < 2
  ·rw [if_pos c4] at H
   have c4b0 : decide (t117 < 2) = true := decide_eq_true c4
   clear c4
   simp only [Option.some.injEq, Prod.mk.injEq] at H
   obtain ⟨rfl, rfl, rfl⟩ := H
   go_enter Tryz.func95, Tryz.ntmps95
   go_wp2_with (first | ((with_reducible refine gate_callee (f := 110) rfl ?_); refine goesL_ (some 9) rfl rfl Tryz.func110 (by kernel_rfl) rfl #[.string a0] rfl (by (try simp only [List.map_toArray, List.map_cons, List.map_nil]); first | done | rfl | (simp only [List.length_drop, List.length_take]; rfl)) ?_; (with_reducible refine (utf8_DecodeRuneInString.calls a0 t116 t117 _ A2.out).mono ?_); rintro e w5 ⟨rfl, hb⟩; refine ⟨_, rfl, ?_⟩; have n0_ := Aside0.mk (below_step (by repeat (first | (with_reducible first | exact HB.out | apply below_alloc | apply pw_below_drewN | apply below_drew1) | exact HB.out)) hb); clear HB; have HB := n0_; clear n0_; (try clear hb); (try clear hb2); (try clear hk); (try clear hi)))
   go_ret3
   exact ⟨by first | rfl | (simp [errW_none, errW_some] <;> rfl) | (simp [*, errW_none, errW_some] <;> rfl), by repeat (first | (with_reducible first | exact HB.out | apply below_alloc | apply pw_below_drewN | apply below_drew1) | exact HB.out)⟩
  ·rw [if_neg c4] at H
   have c4b0 : decide (t117 < 2) = false := decide_eq_false c4
   clear c4
   simp only [Option.some.injEq, Prod.mk.injEq] at H
   obtain ⟨rfl, rfl, rfl⟩ := H
   go_enter Tryz.func95, Tryz.ntmps95
   go_wp2_with (first | ((with_reducible refine gate_callee (f := 110) rfl ?_); refine goesL_ (some 9) rfl rfl Tryz.func110 (by kernel_rfl) rfl #[.string a0] rfl (by (try simp only [List.map_toArray, List.map_cons, List.map_nil]); first | done | rfl | (simp only [List.length_drop, List.length_take]; rfl)) ?_; (with_reducible refine (utf8_DecodeRuneInString.calls a0 t116 t117 _ A2.out).mono ?_); rintro e w6 ⟨rfl, hb⟩; refine ⟨_, rfl, ?_⟩; have n0_ := Aside0.mk (below_step (by repeat (first | (with_reducible first | exact HB.out | apply below_alloc | apply pw_below_drewN | apply below_drew1) | exact HB.out)) hb); clear HB; have HB := n0_; clear n0_; (try clear hb); (try clear hb2); (try clear hk); (try clear hi)))
   go_ret3
   exact ⟨by first | rfl | (simp [errW_none, errW_some] <;> rfl) | (simp [*, errW_none, errW_some] <;> rfl), by repeat (first | (with_reducible first | exact HB.out | apply below_alloc | apply pw_below_drewN | apply below_drew1) | exact HB.out)⟩
 ·rw [if_neg c3] at H
  have c3b0 : (t116 == 65533) = false := beq_eq_false_iff_ne.mpr c3
  have c3b1 : (t116 != 65533) = true := bne_iff_ne.mpr c3
  simp only [Option.some.injEq, Prod.mk.injEq] at H
  obtain ⟨rfl, rfl, rfl⟩ := H
  go_enter Tryz.func95, Tryz.ntmps95
  go_wp2_with (first | ((with_reducible refine gate_callee (f := 110) rfl ?_); refine goesL_ (some 9) rfl rfl Tryz.func110 (by kernel_rfl) rfl #[.string a0] rfl (by (try simp only [List.map_toArray, List.map_cons, List.map_nil]); first | done | rfl | (simp only [List.length_drop, List.length_take]; rfl)) ?_; (with_reducible refine (utf8_DecodeRuneInString.calls a0 t116 t117 _ A2.out).mono ?_); rintro e w7 ⟨rfl, hb⟩; refine ⟨_, rfl, ?_⟩; have n0_ := Aside0.mk (below_step (by repeat (first | (with_reducible first | exact HB.out | apply below_alloc | apply pw_below_drewN | apply below_drew1) | exact HB.out)) hb); clear HB; have HB := n0_; clear n0_; (try clear hb); (try clear hb2); (try clear hk); (try clear hi)))
  go_ret3
  exact ⟨by first | rfl | (simp [errW_none, errW_some] <;> rfl) | (simp [*, errW_none, errW_some] <;> rfl), by repeat (first | (with_reducible first | exact HB.out | apply below_alloc | apply pw_below_drewN | apply below_drew1) | exact HB.out)⟩
def utf_Valid.f (a0 : ByteArray) : Option (Bool) := (utf8_ValidString.f a0).bind fun t118 => (some t118)
set_option maxHeartbeats 8000000 in
set_option maxRecDepth 100000 in
theorem utf_Valid.calls (a0 : ByteArray) (r : Bool) (w : World) (h : utf_Valid.f a0 = some r) (TB_ : Tabs w := by first | assumption | (refine Tabs.step (by assumption) ?_; repeat (first | exact Aside0.out (by assumption) | apply below_alloc | apply pw_below_drewN | apply below_drew1 | exact Below.refl _ _))) :
  Calls Tryz.prog 30 #[.string a0] w fun e w' => e = .returned (.bool r) ∧ Below w.heap.size w w' := by
 have HB := Aside0.mk (Below.refl w.heap.size w)
 have H : ((utf8_ValidString.f a0).bind fun t118 => (some t118)) = some r := h
 clear h
 replace H := Option.bind_eq_some_iff.mp H
 obtain ⟨t118, A20, H⟩ := H
 replace H : (some t118) = some r := H
 have A2 := Aside0.mk A20
 clear A20
 obtain rfl := Option.some.inj H
 go_enter Tryz.func30, Tryz.ntmps30
 go_wp2_with (first | ((with_reducible refine gate_callee (f := 52) rfl ?_); refine goesL_ (some 4) rfl rfl Tryz.func52 (by kernel_rfl) rfl #[.string a0] rfl (by (try simp only [List.map_toArray, List.map_cons, List.map_nil]); first | done | rfl | (simp only [List.length_drop, List.length_take]; rfl)) ?_; (with_reducible refine (utf8_ValidString.calls a0 t118 _ A2.out).mono ?_); rintro e w3 ⟨rfl, hb⟩; refine ⟨_, rfl, ?_⟩; have n0_ := Aside0.mk (below_step (by repeat (first | (with_reducible first | exact HB.out | apply below_alloc | apply pw_below_drewN | apply below_drew1) | exact HB.out)) hb); clear HB; have HB := n0_; clear n0_; (try clear hb); (try clear hb2); (try clear hk); (try clear hi)))
 go_ret
 exact ⟨by first | rfl | (simp [errW_none, errW_some] <;> rfl) | (simp [*, errW_none, errW_some] <;> rfl), by repeat (first | (with_reducible first | exact HB.out | apply below_alloc | apply pw_below_drewN | apply below_drew1) | exact HB.out)⟩
mutual
def cracknelref05_first.j0 : Nat → Int → Bool → Option (Int × Int)
 | 0, _, _ => none
 | k + 1, x0, x12 => if x12 = true then (some (2, wrap64 (x0 - 192))) else (if x0 ≥ 224 then (cracknelref05_first.j1 k x0 (decide (x0 < 240))) else (cracknelref05_first.j1 k x0 false))
def cracknelref05_first.j1 : Nat → Int → Bool → Option (Int × Int)
 | 0, _, _ => none
 | k + 1, x0, x20 => if x20 = true then (some (3, wrap64 (x0 - 224))) else (if x0 ≥ 240 then (if x0 < 248 then (some (4, wrap64 (x0 - 240))) else (some (0, 0))) else (some (0, 0)))
end
def cracknelref05_first.f (k : Nat) (a0 : Int) : Option (Int × Int) := if a0 < 128 then (some (1, a0)) else (if a0 ≥ 192 then (cracknelref05_first.j0 k a0 (decide (a0 < 224))) else (cracknelref05_first.j0 k a0 false))
set_option maxHeartbeats 8000000 in
set_option maxRecDepth 100000 in
theorem cracknelref05_first.calls (k : Nat) (a0 : Int) (r1 : Int) (r2 : Int) (w : World) (h : cracknelref05_first.f k a0 = some (r1, r2)) :
  Calls Tryz.prog 86 #[.int .i64 a0] w fun e w' => e = .returned (.tuple #[.int .i64 r1, .int .i64 r2]) ∧ Drawn0 w w' := by
 have H : (if a0 < 128 then (some (1, a0)) else (if a0 ≥ 192 then (cracknelref05_first.j0 k a0 (decide (a0 < 224))) else (cracknelref05_first.j0 k a0 false))) = some (r1, r2) := h
 clear h
 by_cases c2 : a0 < 128
 ·rw [if_pos c2] at H
  have c2b0 : decide (a0 < 128) = true := decide_eq_true c2
  clear c2
  simp only [Option.some.injEq, Prod.mk.injEq] at H
  obtain ⟨rfl, rfl⟩ := H
  go_enter Tryz.func86, Tryz.ntmps86
  go_wp2
  go_ret2
  exact ⟨by first | rfl | (simp; done) | (simp [*]; done), by repeat (first | exact Drawn0.refl _ | apply Drawn0.step)⟩
 ·rw [if_neg c2] at H
  have c2b0 : decide (a0 < 128) = false := decide_eq_false c2
  clear c2
  have HC3 := Aside0.mk H
  clear H
  go_enter Tryz.func86, Tryz.ntmps86
  go_upto_region 3 with (fail)
  go_cut [12] (fun v12 wc => ∃ (kq : Nat) (x12_2 : Bool), v12 = .bool x12_2 ∧ Aside0 (cracknelref05_first.j0 kq a0 x12_2 = some (r1, r2)) ∧ Aside0 (kq ≤ k) ∧ Drawn0 w wc)
  case first =>
   have H := HC3.out
   clear HC3
   by_cases c4 : a0 ≥ 192
   ·rw [if_pos c4] at H
    have c4b0 : decide (192 ≤ a0) = true := decide_eq_true c4
    clear c4
    (first | rw [c4b0] | (simp only [i64_w, i32_w]; rw [c4b0]) | skip)
    have H' := Aside0.mk H
    clear H
    go_wp2
    go_meet
    case rel => exact ⟨_, (decide (a0 < 224)), (by first | rfl | (simp; done) | (simp [*]; done)), H', ⟨by first | omega | exact Nat.le_refl _⟩, by repeat (first | exact Drawn0.refl _ | apply Drawn0.step)⟩
   ·rw [if_neg c4] at H
    have c4b0 : decide (192 ≤ a0) = false := decide_eq_false c4
    clear c4
    (first | rw [c4b0] | (simp only [i64_w, i32_w]; rw [c4b0]) | skip)
    have H' := Aside0.mk H
    clear H
    go_wp2
    go_meet
    case rel => exact ⟨_, (false), (by first | rfl | (simp; done) | (simp [*]; done)), H', ⟨by first | omega | exact Nat.le_refl _⟩, by repeat (first | exact Drawn0.refl _ | apply Drawn0.step)⟩
  case rest =>
   clear HC3
   try clear c2
   try clear c2b0
   try clear p2
   try clear c4
   try clear c4b0
   obtain ⟨kq, x12_2, rfl, HA, HJ2, ⟨mc2, rfl⟩⟩ := hcut
   cases kq with
   | zero => exact absurd HA.out (by simp [cracknelref05_first.j0])
   | succ kj2 =>
    have H := HA.out
    clear HA
    simp only [cracknelref05_first.j0] at H
    by_cases c5 : x12_2 = true
    ·subst c5
     have H1 : (some (2, wrap64 (a0 - 192))) = some (r1, r2) := by rw [if_pos rfl] at H; exact H
     clear H
     have H := H1
     clear H1
     simp only [Option.some.injEq, Prod.mk.injEq] at H
     obtain ⟨rfl, rfl⟩ := H
     go_wp2
     go_ret2
     exact ⟨by first | rfl | (simp; done) | (simp [*]; done), by repeat (first | exact Drawn0.refl _ | apply Drawn0.step)⟩
    ·replace c5 := Bool.eq_false_iff.mpr c5
     subst c5
     have H1 : (if a0 ≥ 224 then (cracknelref05_first.j1 kj2 a0 (decide (a0 < 240))) else (cracknelref05_first.j1 kj2 a0 false)) = some (r1, r2) := by rw [if_neg (show ¬ (false = true) by decide)] at H; exact H
     clear H
     have H := H1
     clear H1
     have HC6 := Aside0.mk H
     clear H
     go_upto_region 5 with (fail)
     go_cut [20] (fun v20 wc => ∃ (kq : Nat) (x20_5 : Bool), v20 = .bool x20_5 ∧ Aside0 (cracknelref05_first.j1 kq a0 x20_5 = some (r1, r2)) ∧ Aside0 (kq ≤ kj2) ∧ Drawn0 w wc)
     case first =>
      have H := HC6.out
      clear HC6
      by_cases c7 : a0 ≥ 224
      ·rw [if_pos c7] at H
       have c7b0 : decide (224 ≤ a0) = true := decide_eq_true c7
       clear c7
       (first | rw [c7b0] | (simp only [i64_w, i32_w]; rw [c7b0]) | skip)
       have H' := Aside0.mk H
       clear H
       go_wp2
       go_meet
       case rel => exact ⟨_, (decide (a0 < 240)), (by first | rfl | (simp; done) | (simp [*]; done)), H', ⟨by have := HJ2.out; first | omega | exact Nat.le_refl _⟩, by repeat (first | exact Drawn0.refl _ | apply Drawn0.step)⟩
      ·rw [if_neg c7] at H
       have c7b0 : decide (224 ≤ a0) = false := decide_eq_false c7
       clear c7
       (first | rw [c7b0] | (simp only [i64_w, i32_w]; rw [c7b0]) | skip)
       have H' := Aside0.mk H
       clear H
       go_wp2
       go_meet
       case rel => exact ⟨_, (false), (by first | rfl | (simp; done) | (simp [*]; done)), H', ⟨by have := HJ2.out; first | omega | exact Nat.le_refl _⟩, by repeat (first | exact Drawn0.refl _ | apply Drawn0.step)⟩
     case rest =>
      clear HC6
      try clear c2
      try clear c2b0
      try clear p2
      try clear c4
      try clear c4b0
      try clear c5
      try clear p6
      try clear c7
      try clear c7b0
      try clear p2
      obtain ⟨kq, x20_5, rfl, HA, HJ5, ⟨mc5, rfl⟩⟩ := hcut
      cases kq with
      | zero => exact absurd HA.out (by simp [cracknelref05_first.j1])
      | succ kj5 =>
       have H := HA.out
       clear HA
       simp only [cracknelref05_first.j1] at H
       by_cases c8 : x20_5 = true
       ·subst c8
        have H1 : (some (3, wrap64 (a0 - 224))) = some (r1, r2) := by rw [if_pos rfl] at H; exact H
        clear H
        have H := H1
        clear H1
        simp only [Option.some.injEq, Prod.mk.injEq] at H
        obtain ⟨rfl, rfl⟩ := H
        go_wp2
        go_ret2
        exact ⟨by first | rfl | (simp; done) | (simp [*]; done), by repeat (first | exact Drawn0.refl _ | apply Drawn0.step)⟩
       ·replace c8 := Bool.eq_false_iff.mpr c8
        subst c8
        have H1 : (if a0 ≥ 240 then (if a0 < 248 then (some (4, wrap64 (a0 - 240))) else (some (0, 0))) else (some (0, 0))) = some (r1, r2) := by rw [if_neg (show ¬ (false = true) by decide)] at H; exact H
        clear H
        have H := H1
        clear H1
        by_cases c9 : a0 ≥ 240
        ·rw [if_pos c9] at H
         have c9b0 : decide (240 ≤ a0) = true := decide_eq_true c9
         clear c9
         by_cases c10 : a0 < 248
         ·rw [if_pos c10] at H
          have c10b0 : decide (a0 < 248) = true := decide_eq_true c10
          clear c10
          simp only [Option.some.injEq, Prod.mk.injEq] at H
          obtain ⟨rfl, rfl⟩ := H
          go_wp2
          go_ret2
          exact ⟨by first | rfl | (simp; done) | (simp [*]; done), by repeat (first | exact Drawn0.refl _ | apply Drawn0.step)⟩
         ·rw [if_neg c10] at H
          have c10b0 : decide (a0 < 248) = false := decide_eq_false c10
          clear c10
          simp only [Option.some.injEq, Prod.mk.injEq] at H
          obtain ⟨rfl, rfl⟩ := H
          go_wp2
          go_ret2
          exact ⟨by first | rfl | (simp; done) | (simp [*]; done), by repeat (first | exact Drawn0.refl _ | apply Drawn0.step)⟩
        ·rw [if_neg c9] at H
         have c9b0 : decide (240 ≤ a0) = false := decide_eq_false c9
         clear c9
         simp only [Option.some.injEq, Prod.mk.injEq] at H
         obtain ⟨rfl, rfl⟩ := H
         go_wp2
         go_ret2
         exact ⟨by first | rfl | (simp; done) | (simp [*]; done), by repeat (first | exact Drawn0.refl _ | apply Drawn0.step)⟩
end Go.Proofs.YthhmmaihbjhhgaaGreatDoor.U1
namespace Go.Proofs.YthhmmaihbjhhgaaGreatDoor.Giv
open Go.RowKit Go.Proofs.YthhmmaihbjhhgaaGreatDoorW.PrintWords Go.Proofs.YthhmmaihbjhhgaaGreatDoorW.PrintLast Go.Proofs.YthhmmaihbjhhgaaGreatDoorW.PrintMore
open Go.Proofs.YthhmmaihbjhhgaaGreatDoor.U1
def letterB (r : Int) : Bool := decide (0 ≤ r ∧ r ≤ 1114111 ∧ (r < 55296 ∨ 57343 < r))
theorem validRune_f (k : Nat) (r : Int) (hk : 0 < k) (h0 : 0 ≤ r) (h1 : r ≤ 1114111) : utf8_ValidRune.f k r = some (decide (r < 55296 ∨ 57343 < r)) := by
 obtain ⟨k, rfl⟩ : ∃ m, k = m + 1 := ⟨k - 1, by omega⟩
 unfold utf8_ValidRune.f
 rw [if_pos h0]
 simp only [utf8_ValidRune.j0]
 by_cases h2 : r < 55296
 ·rw [decide_eq_true h2, if_pos rfl, decide_eq_true (Or.inl h2)]
 ·rw [decide_eq_false h2, if_neg (by decide)]
  by_cases h3 : 57343 < r
  ·rw [if_pos h3, if_pos h1, decide_eq_true (Or.inr h3)]
  ·rw [if_neg h3, decide_eq_false (by omega)]
theorem put_f (k : Nat) (r : Int) (hk : 0 < k) : utf_Put.f k r = some (if letterB r = true then (Utf8.encode r, true) else (⟨#[]⟩, false)) := by
 unfold utf_Put.f utf_letter.f letterB
 by_cases h0 : 0 ≤ r
 ·by_cases h1 : r ≤ 1114111
  ·have hw : wrap32 r = r := by unfold wrap32; omega
   rw [if_pos h0, if_pos h1, hw, validRune_f k r hk h0 h1]
   simp only [Option.bind_some]
   by_cases h2 : r < 55296 ∨ 57343 < r
   ·rw [decide_eq_true h2, if_pos rfl, decide_eq_true ⟨h0, h1, h2⟩, if_pos rfl]
   ·rw [decide_eq_false h2, if_neg (by decide), decide_eq_false (fun h => h2 h.2.2), if_neg (by decide)]
  ·rw [if_pos h0, if_neg h1, decide_eq_false (fun h => h1 h.2.1), if_neg (by decide)]; rfl
 ·rw [if_neg h0, decide_eq_false (fun h => h0 h.1), if_neg (by decide)]; rfl
theorem hz68 (w : World) : (zeroValue 45).run Tryz.prog w = .ok (.agg #[.pointer none, .slice none 0 0]) w := by kernel_rfl
theorem builder_new (w : World) : Lib.IsBuilder 45 5 w.heap.size w.heap.size [] (w.alloc (.cells #[.pointer none, .slice none 0 0] 45)) :=
 .inl ⟨Nat.le_refl _, .slice none 0 0, heap_alloc_new _ _, World.ownsRow_nil _ _ _ _, by simp [Value.ownBlock]⟩
end Go.Proofs.YthhmmaihbjhhgaaGreatDoor.Giv
namespace Go.Proofs.YthhmmaihbjhhgaaGreatDoor.Giv
open Go.RowKit Go.Proofs.YthhmmaihbjhhgaaGreatDoorW.PrintWords Go.Proofs.YthhmmaihbjhhgaaGreatDoorW.PrintLast Go.Proofs.YthhmmaihbjhhgaaGreatDoorW.PrintMore
open Go.Proofs.YthhmmaihbjhhgaaGreatDoor.U1
def runesP (s : ByteArray) : Nat → Nat → List Int
 | 0, _ => []
 | n + 1, p => if p < s.size then ((Utf8.decode s p).1 : Int) :: runesP s n (p + (Utf8.decode s p).2) else []
def runesS (s : ByteArray) : List Int × Bool := if Lib.validD s.data.toList = true then (runesP s s.size 0, true) else ([], false)
end Go.Proofs.YthhmmaihbjhhgaaGreatDoor.Giv
namespace Go.Proofs
open Go.Shelf
def Tryz.lays137_ren : Go.Shelf.Ren := ⟨fun | 137 => 44 | 217 => 65 | 266 => 76 | n => n, fun | 9 => 9 | 5 => 5 | 3 => 3 | n => n, fun | n => n⟩
theorem Tryz.lays137 : Go.Proofs.Lays.n137 Tryz.prog Tryz.lays137_ren := {
 mixed := by kernel_rfl
 f137 := Tryz.func44.trans (congrArg some (by kernel_rfl))
 f217 := Tryz.func65.trans (congrArg some (by kernel_rfl))
 f266 := Tryz.func76.trans (congrArg some (by kernel_rfl))
 t3 := Tryz.underlying3
 a3 := Tryz.isAgg3
 z3 := Tryz.sizeOf3
 v3 := Tryz.zeroValue3
 t5 := Tryz.underlying5
 a5 := Tryz.isAgg5
 z5 := Tryz.sizeOf5
 v5 := Tryz.zeroValue5
 t9 := Tryz.underlying9
 a9 := Tryz.isAgg9
 z9 := Tryz.sizeOf9
 v9 := Tryz.zeroValue9 }
open Go.RowKit in
theorem Tryz.strings_IndexByte (s : ByteArray) (c : Int) (w : World) :
  Calls Tryz.prog 44 #[.string s, .int .u8 c] w fun e w' => e = .returned (.int .i64 (Lib.indexByte s.data.toList c.toNat.toUInt8)) ∧ w' = w := Any.strings_IndexByte Tryz.lays137 s c w
namespace YthhmmaihbjhhgaaGreatDoor.Giv
open Go.RowKit Go.Proofs.YthhmmaihbjhhgaaGreatDoorW.PrintWords Go.Proofs.YthhmmaihbjhhgaaGreatDoorW.PrintLast Go.Proofs.YthhmmaihbjhhgaaGreatDoorW.PrintMore
def strings_IndexByte.f (s : ByteArray) (c : Int) : Option Int := some (Lib.indexByte s.data.toList c.toNat.toUInt8)
theorem strings_IndexByte.calls (a0 : ByteArray) (a1 : Int) (r : Int) (w : World) (h : strings_IndexByte.f a0 a1 = some r) :
  Calls Tryz.prog 44 #[.string a0, .int .u8 a1] w fun e w' => e = .returned (.int .i64 r) ∧ Drawn0 w w' := by
 unfold strings_IndexByte.f at h
 obtain rfl := Option.some.inj h
 refine (Tryz.strings_IndexByte a0 a1 w).mono ?_
 rintro e w' ⟨rfl, rfl⟩
 exact ⟨rfl, Drawn0.refl _⟩
end YthhmmaihbjhhgaaGreatDoor.Giv
end Go.Proofs
namespace Go.Proofs.YthhmmaihbjhhgaaGreatDoor.U1
open Go.Proofs.YthhmmaihbjhhgaaGreatDoor.Giv Go.RowKit Go.Proofs.YthhmmaihbjhhgaaGreatDoorW.PrintWords Go.Proofs.YthhmmaihbjhhgaaGreatDoorW.PrintLast Go.Proofs.YthhmmaihbjhhgaaGreatDoorW.PrintMore
attribute [local go_sem] max2_int min2_int max_two min_two max_three min_three max_four min_four
set_option linter.unusedVariables false
set_option linter.unusedSimpArgs false
mutual
def cracknelref05_Take.j0 : Nat → ByteArray → Int → Int → Bool → Option (Int × Int × Bool)
 | 0, _, _, _, _ => none
 | k + 1, x0, x5, x6, x27 => if x27 = true then (some (0, 0, false)) else (cracknelref05_Take.l0 k x0 x5 x6 1)
def cracknelref05_Take.l0 : Nat → ByteArray → Int → Int → Int → Option (Int × Int × Bool)
 | 0, _, _, _, _ => none
 | k + 1, x0, x5, x6, x7 => if x7 < x5 then (if 0 ≤ x7 then (if x7 < (x0.size : Int) then (cracknelref05_Take.l0 k x0 x5 (wrap64 ((wrap64 (64 * x6)) + (Int.tmod (wrap64 (bt x0 x7)) 64))) (wrap64 (x7 + 1))) else (none)) else (none)) else ((cracknelref05_Put.f x6).bind fun bt140 => (if bt140.2 = true then (if 0 ≤ x5 then (if x5 ≤ (x0.size : Int) then (if bt140.1.toList = (x0.extract 0 (x5 : Int).toNat).toList then (some (x6, x5, true)) else (some (0, 0, false))) else (none)) else (none)) else (some (0, 0, false))))
end
def cracknelref05_Take.f (k : Nat) (a0 : ByteArray) : Option (Int × Int × Bool) := if (a0.size : Int) = 0 then (some (0, 0, false)) else (if 0 < (a0.size : Int) then ((cracknelref05_first.f k (wrap64 (bt a0 0))).bind fun bt138 => (if bt138.1 = 0 then (cracknelref05_Take.j0 k a0 bt138.1 bt138.2 true) else (cracknelref05_Take.j0 k a0 bt138.1 bt138.2 (decide (bt138.1 > (a0.size : Int)))))) else (none))
set_option maxHeartbeats 8000000 in
set_option maxRecDepth 100000 in
theorem cracknelref05_Take.calls (k : Nat) (a0 : ByteArray) (r1 : Int) (r2 : Int) (r3 : Bool) (w : World) (h : cracknelref05_Take.f k a0 = some (r1, r2, r3)) :
  Calls Tryz.prog 77 #[.string a0] w fun e w' => e = .returned (.tuple #[.int .i64 r1, .int .i64 r2, .bool r3]) ∧ Below w.heap.size w w' := by
 have HB := Aside0.mk (Below.refl w.heap.size w)
 have H : (if (a0.size : Int) = 0 then (some (0, 0, false)) else (if 0 < (a0.size : Int) then ((cracknelref05_first.f k (wrap64 (bt a0 0))).bind fun bt138 => (if bt138.1 = 0 then (cracknelref05_Take.j0 k a0 bt138.1 bt138.2 true) else (cracknelref05_Take.j0 k a0 bt138.1 bt138.2 (decide (bt138.1 > (a0.size : Int)))))) else (none))) = some (r1, r2, r3) := h
 clear h
 by_cases c2 : (a0.size : Int) = 0
 ·rw [if_pos c2] at H
  have c2b0 : ((a0.size : Int) == 0) = true := beq_iff_eq.mpr c2
  have c2b1 : ((a0.size : Int) != 0) = false := bne_eq_false_iff_eq.mpr c2
  clear c2
  simp only [Option.some.injEq, Prod.mk.injEq] at H
  obtain ⟨rfl, rfl, rfl⟩ := H
  go_enter Tryz.func77, Tryz.ntmps77
  go_wp2
  go_ret3
  exact ⟨by first | rfl | (simp [errW_none, errW_some] <;> rfl) | (simp [*, errW_none, errW_some] <;> rfl), by repeat (first | (with_reducible first | exact HB.out | apply below_alloc | apply pw_below_drewN | apply below_drew1) | exact HB.out)⟩
 ·rw [if_neg c2] at H
  have c2b0 : ((a0.size : Int) == 0) = false := beq_eq_false_iff_ne.mpr c2
  have c2b1 : ((a0.size : Int) != 0) = true := bne_iff_ne.mpr c2
  by_cases c3 : 0 < (a0.size : Int)
  ·rw [if_pos c3] at H
   have c3b0 : decide (0 < (a0.size : Int)) = true := decide_eq_true c3
   have c3b1 : decide (0 < a0.size) = true := decide_eq_true (by omega)
   clear c3
   replace H := Option.bind_eq_some_iff.mp H
   obtain ⟨⟨t138, t139⟩, A50, H⟩ := H
   replace H : (if t138 = 0 then (cracknelref05_Take.j0 k a0 t138 t139 true) else (cracknelref05_Take.j0 k a0 t138 t139 (decide (t138 > (a0.size : Int))))) = some (r1, r2, r3) := H
   have A5 := Aside0.mk A50
   clear A50
   have HC6 := Aside0.mk H
   clear H
   have p4 : 0 ≤ (0 : Int) := (by omega)
   have q4 : 0 < a0.size := (by have : (0 : Int) < (a0.size : Int) := of_decide_eq_true (by first | (with_reducible assumption) | assumption); omega)
   have hx4 : ∀ h : 0 < a0.size, ((a0[0]'h).toNat : Int) = bt a0 0 := bt_at a0 0
   clear p4
   have qi4 : (0 < (a0.size : Int)) = True := eq_true (of_decide_eq_true (by first | (with_reducible assumption) | assumption))
   replace q4 := eq_true q4
   go_enter Tryz.func77, Tryz.ntmps77
   go_upto_region 4 with (first | ((with_reducible refine gate_callee (f := 86) rfl ?_); refine goesL_ (some 17) rfl rfl Tryz.func86 (by kernel_rfl) rfl #[.int .i64 (wrap64 (bt a0 0))] rfl (by (try simp only [List.map_toArray, List.map_cons, List.map_nil]); first | done | rfl | (simp only [List.length_drop, List.length_take]; rfl)) ?_; (with_reducible refine (cracknelref05_first.calls k (wrap64 (bt a0 0)) t138 t139 _ A5.out).mono ?_); rintro e w' ⟨rfl, ⟨nd, rfl⟩⟩; refine ⟨_, rfl, ?_⟩))
   (try simp only [Act.put, qA, qB, qC])
   go_cut [27] (fun v27 wc => ∃ (kq : Nat) (x27_5 : Bool), v27 = .bool x27_5 ∧ Aside0 (cracknelref05_Take.j0 kq a0 t138 t139 x27_5 = some (r1, r2, r3)) ∧ Aside0 (kq ≤ k) ∧ Aside0 (Below w.heap.size w wc))
   case first =>
    have H := HC6.out
    clear HC6
    by_cases c7 : t138 = 0
    ·rw [if_pos c7] at H
     have c7b0 : (t138 == 0) = true := beq_iff_eq.mpr c7
     have c7b1 : (t138 != 0) = false := bne_eq_false_iff_eq.mpr c7
     clear c7
     (first | rw [c7b0] | (simp only [i64_w, i32_w]; rw [c7b0]) | skip)
     have H' := Aside0.mk H
     clear H
     go_wp2
     go_meet
     case rel => exact ⟨_, (true), (by first | rfl | (simp; done) | (simp [*]; done)), H', ⟨by first | omega | exact Nat.le_refl _⟩, ⟨by repeat (first | (with_reducible first | exact HB.out | apply below_alloc | apply pw_below_drewN | apply below_drew1) | exact HB.out)⟩⟩
    ·rw [if_neg c7] at H
     have c7b0 : (t138 == 0) = false := beq_eq_false_iff_ne.mpr c7
     have c7b1 : (t138 != 0) = true := bne_iff_ne.mpr c7
     (first | rw [c7b0] | (simp only [i64_w, i32_w]; rw [c7b0]) | skip)
     have H' := Aside0.mk H
     clear H
     go_wp2
     go_meet
     case rel => exact ⟨_, (decide (t138 > (a0.size : Int))), (by first | rfl | (simp; done) | (simp [*]; done)), H', ⟨by first | omega | exact Nat.le_refl _⟩, ⟨by repeat (first | (with_reducible first | exact HB.out | apply below_alloc | apply pw_below_drewN | apply below_drew1) | exact HB.out)⟩⟩
   case rest =>
    clear HC6
    try clear c2
    try clear c2b0
    try clear c2b1
    try clear p2
    try clear c3
    try clear c3b0
    try clear c3b1
    try clear p4
    try clear q4
    try clear hx4
    try clear qi4
    try clear c5
    try clear p6
    try clear c7
    try clear c7b0
    try clear c7b1
    try clear p4
    try clear q4
    obtain ⟨kq, x27_5, rfl, HA, HJ5, HB⟩ := hcut
    cases kq with
    | zero => exact absurd HA.out (by simp [cracknelref05_Take.j0])
    | succ kj5 =>
     have H := HA.out
     clear HA
     simp only [cracknelref05_Take.j0] at H
     by_cases c8 : x27_5 = true
     ·subst c8
      have H1 : (some (0, 0, false)) = some (r1, r2, r3) := by rw [if_pos rfl] at H; exact H
      clear H
      have H := H1
      clear H1
      simp only [Option.some.injEq, Prod.mk.injEq] at H
      obtain ⟨rfl, rfl, rfl⟩ := H
      go_wp2
      go_ret3
      exact ⟨by first | rfl | (simp [errW_none, errW_some] <;> rfl) | (simp [*, errW_none, errW_some] <;> rfl), by repeat (first | (with_reducible first | exact HB.out | apply below_alloc | apply pw_below_drewN | apply below_drew1) | exact HB.out)⟩
     ·replace c8 := Bool.eq_false_iff.mpr c8
      subst c8
      have H1 : (cracknelref05_Take.l0 kj5 a0 t138 t139 1) = some (r1, r2, r3) := by rw [if_neg (show ¬ (false = true) by decide)] at H; exact H
      clear H
      have H := H1
      clear H1
      have H' := Aside0.mk H
      clear H
      go_wp2
      go_loopg [6, 7] kj5 (fun kq v6 v7 w' => ∃ (x6_2 : Int) (x7_2 : Int), v6 = .int .i64 x6_2 ∧ v7 = .int .i64 x7_2 ∧ Aside0 (cracknelref05_Take.l0 kq a0 t138 x6_2 x7_2 = some (r1, r2, r3)) ∧ Aside0 (kq ≤ kj5) ∧ Aside0 (Below w.heap.size w w'))
      case atStart => exact ⟨(t139), (1), (by first | rfl | (simp; done) | (simp [*]; done)), (by first | rfl | (simp; done) | (simp [*]; done)), H', ⟨Nat.le_refl _⟩, ⟨by repeat (first | (with_reducible first | exact HB.out | apply below_alloc | apply pw_below_drewN | apply below_drew1) | exact HB.out)⟩⟩
      case round =>
       clear H'
       try clear c2
       try clear c2b0
       try clear c2b1
       try clear p2
       try clear c3
       try clear c3b0
       try clear c3b1
       try clear p4
       try clear q4
       try clear hx4
       try clear qi4
       try clear c5
       try clear p6
       try clear c7
       try clear c7b0
       try clear c7b1
       try clear c8
       try clear p2
       try clear p4
       try clear p6
       try clear q4
       obtain ⟨x6_2, x7_2, rfl, rfl, HA, HK2, HB⟩ := hrel
       cases gk with
       | zero => exact absurd HA.out (by simp [cracknelref05_Take.l0])
       | succ k2 =>
        have H := HA.out
        clear HA
        simp only [cracknelref05_Take.l0] at H
        by_cases c9 : x7_2 < t138
        ·rw [if_pos c9] at H
         have c9b0 : decide (x7_2 < t138) = true := decide_eq_true c9
         clear c9
         by_cases c10 : 0 ≤ x7_2
         ·rw [if_pos c10] at H
          have c10b0 : decide (0 ≤ x7_2) = true := decide_eq_true c10
          clear c10
          by_cases c11 : x7_2 < (a0.size : Int)
          ·rw [if_pos c11] at H
           have c11b0 : decide (x7_2 < (a0.size : Int)) = true := decide_eq_true c11
           clear c11
           have H' := Aside0.mk H
           clear H
           have p12 : 0 ≤ (x7_2 : Int) := of_decide_eq_true (by first | (with_reducible assumption) | assumption)
           have q12 : x7_2 < (a0.size : Int) := of_decide_eq_true (by first | (with_reducible assumption) | assumption)
           have hx12 := bt_at a0 x7_2
           replace p12 := eq_true p12
           replace q12 := eq_true q12
           go_wp2
           go_roundg k2
           case measure => have := HJ5.out; have := HK2.out; omega
           case rel => exact ⟨(wrap64 ((wrap64 (64 * x6_2)) + (Int.tmod (wrap64 (bt a0 x7_2)) 64))), (wrap64 (x7_2 + 1)), (by first | rfl | (simp; done) | (simp [*]; done)), (by first | rfl | (simp; done) | (simp [*]; done)), H', ⟨by have := HJ5.out; have := HK2.out; omega⟩, ⟨by repeat (first | (with_reducible first | exact HB.out | apply below_alloc | apply pw_below_drewN | apply below_drew1) | exact HB.out)⟩⟩
          ·rw [if_neg c11] at H
           exact absurd H (by simp)
         ·rw [if_neg c10] at H
          exact absurd H (by simp)
        ·rw [if_neg c9] at H
         have c9b0 : decide (x7_2 < t138) = false := decide_eq_false c9
         clear c9
         replace H := Option.bind_eq_some_iff.mp H
         obtain ⟨⟨t140, t141⟩, A130, H⟩ := H
         replace H : (if t141 = true then (if 0 ≤ t138 then (if t138 ≤ (a0.size : Int) then (if t140.toList = (a0.extract 0 (t138 : Int).toNat).toList then (some (x6_2, t138, true)) else (some (0, 0, false))) else (none)) else (none)) else (some (0, 0, false))) = some (r1, r2, r3) := H
         have A13 := Aside0.mk A130
         clear A130
         by_cases c14 : t141 = true
         ·subst c14
          have H1 : (if 0 ≤ t138 then (if t138 ≤ (a0.size : Int) then (if t140.toList = (a0.extract 0 (t138 : Int).toNat).toList then (some (x6_2, t138, true)) else (some (0, 0, false))) else (none)) else (none)) = some (r1, r2, r3) := by rw [if_pos rfl] at H; exact H
          clear H
          have H := H1
          clear H1
          by_cases c15 : 0 ≤ t138
          ·rw [if_pos c15] at H
           have c15b0 := eq_true c15
           have c15b1 : decide (0 ≤ t138) = true := decide_eq_true c15
           clear c15
           by_cases c16 : t138 ≤ (a0.size : Int)
           ·rw [if_pos c16] at H
            have c16b0 := eq_true c16
            have c16b1 : decide (t138 ≤ (a0.size : Int)) = true := decide_eq_true c16
            clear c16
            by_cases c17 : t140.toList = (a0.extract 0 (t138 : Int).toNat).toList
            ·rw [if_pos c17] at H
             have c17b0 : (t140.toList == (a0.extract 0 (t138 : Int).toNat).toList) = true := beq_iff_eq.mpr c17
             have c17b1 : (t140.toList != (a0.extract 0 (t138 : Int).toNat).toList) = false := bne_eq_false_iff_eq.mpr c17
             clear c17
             simp only [Option.some.injEq, Prod.mk.injEq] at H
             obtain ⟨rfl, rfl, rfl⟩ := H
             go_wp2_with (first | ((with_reducible refine gate_callee (f := 87) rfl ?_); refine goesL_ (some 43) rfl rfl Tryz.func87 (by kernel_rfl) rfl #[.int .i64 x6_2] rfl (by (try simp only [List.map_toArray, List.map_cons, List.map_nil]); first | done | rfl | (simp only [List.length_drop, List.length_take]; rfl)) ?_; (with_reducible refine (cracknelref05_Put.calls x6_2 t140 true _ A13.out).mono ?_); rintro e w18 ⟨rfl, hb⟩; refine ⟨_, rfl, ?_⟩; have n0_ := Aside0.mk (below_step (by repeat (first | (with_reducible first | exact HB.out | apply below_alloc | apply pw_below_drewN | apply below_drew1) | exact HB.out)) hb); clear HB; have HB := n0_; clear n0_; (try clear hb); (try clear hb2); (try clear hk); (try clear hi)))
             go_ret3
             exact ⟨by first | rfl | (simp [errW_none, errW_some] <;> rfl) | (simp [*, errW_none, errW_some] <;> rfl), by repeat (first | (with_reducible first | exact HB.out | apply below_alloc | apply pw_below_drewN | apply below_drew1) | exact HB.out)⟩
            ·rw [if_neg c17] at H
             have c17b0 : (t140.toList == (a0.extract 0 (t138 : Int).toNat).toList) = false := beq_eq_false_iff_ne.mpr c17
             have c17b1 : (t140.toList != (a0.extract 0 (t138 : Int).toNat).toList) = true := bne_iff_ne.mpr c17
             simp only [Option.some.injEq, Prod.mk.injEq] at H
             obtain ⟨rfl, rfl, rfl⟩ := H
             go_wp2_with (first | ((with_reducible refine gate_callee (f := 87) rfl ?_); refine goesL_ (some 43) rfl rfl Tryz.func87 (by kernel_rfl) rfl #[.int .i64 x6_2] rfl (by (try simp only [List.map_toArray, List.map_cons, List.map_nil]); first | done | rfl | (simp only [List.length_drop, List.length_take]; rfl)) ?_; (with_reducible refine (cracknelref05_Put.calls x6_2 t140 true _ A13.out).mono ?_); rintro e w19 ⟨rfl, hb⟩; refine ⟨_, rfl, ?_⟩; have n0_ := Aside0.mk (below_step (by repeat (first | (with_reducible first | exact HB.out | apply below_alloc | apply pw_below_drewN | apply below_drew1) | exact HB.out)) hb); clear HB; have HB := n0_; clear n0_; (try clear hb); (try clear hb2); (try clear hk); (try clear hi)))
             go_ret3
             exact ⟨by first | rfl | (simp [errW_none, errW_some] <;> rfl) | (simp [*, errW_none, errW_some] <;> rfl), by repeat (first | (with_reducible first | exact HB.out | apply below_alloc | apply pw_below_drewN | apply below_drew1) | exact HB.out)⟩
           ·rw [if_neg c16] at H
            exact absurd H (by simp)
          ·rw [if_neg c15] at H
           exact absurd H (by simp)
         ·replace c14 := Bool.eq_false_iff.mpr c14
          subst c14
          have H1 : (some (0, 0, false)) = some (r1, r2, r3) := by rw [if_neg (show ¬ (false = true) by decide)] at H; exact H
          clear H
          have H := H1
          clear H1
          simp only [Option.some.injEq, Prod.mk.injEq] at H
          obtain ⟨rfl, rfl, rfl⟩ := H
          go_wp2_with (first | ((with_reducible refine gate_callee (f := 87) rfl ?_); refine goesL_ (some 43) rfl rfl Tryz.func87 (by kernel_rfl) rfl #[.int .i64 x6_2] rfl (by (try simp only [List.map_toArray, List.map_cons, List.map_nil]); first | done | rfl | (simp only [List.length_drop, List.length_take]; rfl)) ?_; (with_reducible refine (cracknelref05_Put.calls x6_2 t140 false _ A13.out).mono ?_); rintro e w20 ⟨rfl, hb⟩; refine ⟨_, rfl, ?_⟩; have n0_ := Aside0.mk (below_step (by repeat (first | (with_reducible first | exact HB.out | apply below_alloc | apply pw_below_drewN | apply below_drew1) | exact HB.out)) hb); clear HB; have HB := n0_; clear n0_; (try clear hb); (try clear hb2); (try clear hk); (try clear hi)))
          go_ret3
          exact ⟨by first | rfl | (simp [errW_none, errW_some] <;> rfl) | (simp [*, errW_none, errW_some] <;> rfl), by repeat (first | (with_reducible first | exact HB.out | apply below_alloc | apply pw_below_drewN | apply below_drew1) | exact HB.out)⟩
  ·rw [if_neg c3] at H
   exact absurd H (by simp)
def cracknelref05_Runes.l0 : Nat → ByteArray → List Int → Option (List Int × Bool)
 | 0, _, _ => none
 | k + 1, x0, x4 => if (x0.size : Int) > 0 then ((cracknelref05_Take.f k x0).bind fun bt155 => (if bt155.2.2 = true then (if x4.length < 17592186044416 then (if 0 ≤ bt155.2.1 then (if bt155.2.1 ≤ (x0.size : Int) then (cracknelref05_Runes.l0 k (x0.extract (bt155.2.1 : Int).toNat x0.size) (x4 ++ [bt155.1])) else (none)) else (none)) else (none)) else (some (([] : List Int), false)))) else (some (x4, true))
def cracknelref05_Runes.f (k : Nat) (a0 : ByteArray) : Option (List Int × Bool) := cracknelref05_Runes.l0 k a0 ([] : List Int)
set_option maxHeartbeats 8000000 in
set_option maxRecDepth 100000 in
theorem cracknelref05_Runes.calls (k : Nat) (a0 : ByteArray) (r1 : List Int) (r2 : Bool) (w : World) (h : cracknelref05_Runes.f k a0 = some (r1, r2)) :
  Calls Tryz.prog 66 #[.string a0] w fun e w' => ∃ v0_ : Value, e = .returned (.tuple #[v0_, .bool r2]) ∧ Kd.R (Kd.int .i64) 3 w' w.heap.size (fun _ => True) v0_ r1 ∧ Below w.heap.size w w' := by
 have HB := Aside0.mk (Below.refl w.heap.size w)
 have H : (cracknelref05_Runes.l0 k a0 ([] : List Int)) = some (r1, r2) := h
 clear h
 have H' := Aside0.mk H
 clear H
 go_enter Tryz.func66, Tryz.ntmps66
 go_wp2
 go_loopg [0, 4] k (fun kq v0 v4 w' => ∃ (x0_1 : ByteArray) (x4_1 : List Int), v0 = .string x0_1 ∧ Aside0 (cracknelref05_Runes.l0 kq x0_1 x4_1 = some (r1, r2)) ∧ Aside0 (kq ≤ k) ∧ Aside0 (Kd.R (Kd.int .i64) 3 w' w.heap.size (fun _ => True) v4 x4_1) ∧ Aside0 (Below w.heap.size w w'))
 case atStart => exact ⟨(a0), (([] : List Int)), (by first | rfl | (simp; done) | (simp [*]; done)), H', ⟨Nat.le_refl _⟩, ⟨by first | exact Kd.R_nil _ _ _ _ _ | exact Kd.N_nil _ _ _ _ _ | exact Kd.V_nil _ _ _ _ _ | exact Kd.Q_nil _ _ _ _ _ | exact Kd.S_nil _ _ _ _ _⟩, ⟨by repeat (first | (with_reducible first | exact HB.out | apply below_alloc | apply pw_below_drewN | apply below_drew1) | exact HB.out)⟩⟩
 case round =>
  clear H'
  obtain ⟨x0_1, x4_1, rfl, HA, HK1, HO_4, HB⟩ := hrel
  cases gk with
  | zero => exact absurd HA.out (by simp [cracknelref05_Runes.l0])
  | succ k1 =>
   have H := HA.out
   clear HA
   simp only [cracknelref05_Runes.l0] at H
   by_cases c2 : (x0_1.size : Int) > 0
   ·rw [if_pos c2] at H
    have c2b0 : decide (0 < (x0_1.size : Int)) = true := decide_eq_true c2
    have c2b1 : decide (0 < x0_1.size) = true := decide_eq_true (by omega)
    clear c2
    replace H := Option.bind_eq_some_iff.mp H
    obtain ⟨⟨t155, t156, t157⟩, A30, H⟩ := H
    replace H : (if t157 = true then (if x4_1.length < 17592186044416 then (if 0 ≤ t156 then (if t156 ≤ (x0_1.size : Int) then (cracknelref05_Runes.l0 k1 (x0_1.extract (t156 : Int).toNat x0_1.size) (x4_1 ++ [t155])) else (none)) else (none)) else (none)) else (some (([] : List Int), false))) = some (r1, r2) := H
    have A3 := Aside0.mk A30
    clear A30
    by_cases c4 : t157 = true
    ·subst c4
     have H1 : (if x4_1.length < 17592186044416 then (if 0 ≤ t156 then (if t156 ≤ (x0_1.size : Int) then (cracknelref05_Runes.l0 k1 (x0_1.extract (t156 : Int).toNat x0_1.size) (x4_1 ++ [t155])) else (none)) else (none)) else (none)) = some (r1, r2) := by rw [if_pos rfl] at H; exact H
     clear H
     have H := H1
     clear H1
     by_cases c5 : x4_1.length < 17592186044416
     ·rw [if_pos c5] at H
      have LMc5 := Aside0.mk c5
      clear c5
      obtain ⟨y158, hy158⟩ : ∃ y_ : List Int, y_ = (x4_1 ++ [t155]) := ⟨_, rfl⟩
      replace H : (if 0 ≤ t156 then (if t156 ≤ (x0_1.size : Int) then (cracknelref05_Runes.l0 k1 (x0_1.extract (t156 : Int).toNat x0_1.size) y158) else (none)) else (none)) = some (r1, r2) := by first | (rw [hy158]; with_reducible exact H) | (have H2_ := (Option.bind_some _ _).symm.trans H; rw [hy158]; with_reducible exact H2_) | (have H2_ := (Option.bind_some _ _).symm.trans H; with_reducible exact H2_) | with_reducible exact H | (rw [hy158]; exact H) | exact H
      have Ny158 := Aside0.mk hy158
      clear hy158
      by_cases c6 : 0 ≤ t156
      ·rw [if_pos c6] at H
       have c6b0 := eq_true c6
       have c6b1 : decide (0 ≤ t156) = true := decide_eq_true c6
       clear c6
       by_cases c7 : t156 ≤ (x0_1.size : Int)
       ·rw [if_pos c7] at H
        have c7b0 := eq_true c7
        have c7b1 : decide (t156 ≤ (x0_1.size : Int)) = true := decide_eq_true c7
        clear c7
        have H' := Aside0.mk H
        clear H
        go_wp2_with (first | ((with_reducible refine gate_callee (f := 77) rfl ?_); refine goesL_ (some 13) rfl rfl Tryz.func77 (by kernel_rfl) rfl #[.string x0_1] rfl (by (try simp only [List.map_toArray, List.map_cons, List.map_nil]); first | done | rfl | (simp only [List.length_drop, List.length_take]; rfl)) ?_; (with_reducible refine (cracknelref05_Take.calls k1 x0_1 t155 t156 true _ A3.out).mono ?_); rintro e w8 ⟨rfl, hb⟩; refine ⟨_, rfl, ?_⟩; have n0_ := Aside0.mk (Kd.R_below (by (with_reducible repeat (first | apply Kd.R_alloc | apply Kd.R_drewN | apply Kd.R_drew)); exact HO_4.out) hb); have n1_ := Aside0.mk (below_step (by repeat (first | (with_reducible first | exact HB.out | apply below_alloc | apply pw_below_drewN | apply below_drew1) | exact HB.out)) hb); clear HO_4; clear HB; have HO_4 := n0_; have HB := n1_; clear n0_ n1_; (try clear hb); (try clear hb2); (try clear hk); (try clear hi)) | ((with_reducible refine gate_builtin (b := .append) (xs := #[.tmp 19, .tmp 21]) rfl ?_); at_builtin; refine Kd.R_append (Kd.int .i64) (w0 := w) w.heap.size rfl (.tmp 19) (.tmp 21) 106 3 (.int .i64 0) 8 rfl Tryz.underlying106 info3 rfl (by decide) (by omega) u4 x4_1 t155 [.int .i64 t155] (fun _ => True) (fun _ => False) rfl rfl ?aP (fun _ hk => hk.elim) ?aF ?aO ?aB ?aS ?aL ?_; (case aP => exact rfl); (case aB => exact (by repeat (first | (with_reducible first | exact HB.out | apply below_alloc | apply pw_below_drewN | apply below_drew1) | exact HB.out))); (case aF => exact (fun _ _ => trivial)); (case aO => exact (by (with_reducible repeat (first | apply Kd.R_alloc | apply Kd.R_drewN | apply Kd.R_drew)); exact HO_4.out)); (case aS => exact (below_size (by repeat (first | (with_reducible first | exact HB.out | apply below_alloc | apply pw_below_drewN | apply below_drew1) | exact HB.out)))); (case aL => have := LMc5.out; omega); intro v159 w9 ho hb hg hat; rw [← Ny158.out] at ho; have n0_ := Aside0.mk (hb); have n1_ := Aside0.mk (ho); clear HB; clear HO_4; have HB := n0_; have HO160 := n1_; clear n0_ n1_; clear ho hb hg hat))
        go_roundg k1
        case measure => have := HK1.out; omega
        case rel => exact ⟨(x0_1.extract (t156 : Int).toNat x0_1.size), (y158), (by first | rfl | (simp; done) | (simp [*]; done)), H', ⟨by have := HK1.out; omega⟩, ⟨by (with_reducible repeat (first | apply Kd.R_alloc | apply Kd.R_drewN | apply Kd.R_drew)); exact HO160.out⟩, ⟨by repeat (first | (with_reducible first | exact HB.out | apply below_alloc | apply pw_below_drewN | apply below_drew1) | exact HB.out)⟩⟩
       ·rw [if_neg c7] at H
        exact absurd H (by simp)
      ·rw [if_neg c6] at H
       exact absurd H (by simp)
     ·rw [if_neg c5] at H
      exact absurd H (by simp)
    ·replace c4 := Bool.eq_false_iff.mpr c4
     subst c4
     have H1 : (some (([] : List Int), false)) = some (r1, r2) := by rw [if_neg (show ¬ (false = true) by decide)] at H; exact H
     clear H
     have H := H1
     clear H1
     simp only [Option.some.injEq, Prod.mk.injEq] at H
     obtain ⟨rfl, rfl⟩ := H
     go_wp2_with (first | ((with_reducible refine gate_callee (f := 77) rfl ?_); refine goesL_ (some 13) rfl rfl Tryz.func77 (by kernel_rfl) rfl #[.string x0_1] rfl (by (try simp only [List.map_toArray, List.map_cons, List.map_nil]); first | done | rfl | (simp only [List.length_drop, List.length_take]; rfl)) ?_; (with_reducible refine (cracknelref05_Take.calls k1 x0_1 t155 t156 false _ A3.out).mono ?_); rintro e w10 ⟨rfl, hb⟩; refine ⟨_, rfl, ?_⟩; have n0_ := Aside0.mk (Kd.R_below (by (with_reducible repeat (first | apply Kd.R_alloc | apply Kd.R_drewN | apply Kd.R_drew)); exact HO_4.out) hb); have n1_ := Aside0.mk (below_step (by repeat (first | (with_reducible first | exact HB.out | apply below_alloc | apply pw_below_drewN | apply below_drew1) | exact HB.out)) hb); clear HO_4; clear HB; have HO_4 := n0_; have HB := n1_; clear n0_ n1_; (try clear hb); (try clear hb2); (try clear hk); (try clear hi)))
     go_ret2
     exact ⟨_, by first | rfl | (simp [errW_none, errW_some] <;> rfl) | (simp [*, errW_none, errW_some] <;> rfl), by first | exact Kd.R_nil _ _ _ _ _ | exact Kd.N_nil _ _ _ _ _ | exact Kd.V_nil _ _ _ _ _ | exact Kd.Q_nil _ _ _ _ _ | exact Kd.S_nil _ _ _ _ _, by repeat (first | (with_reducible first | exact HB.out | apply below_alloc | apply pw_below_drewN | apply below_drew1) | exact HB.out)⟩
   ·rw [if_neg c2] at H
    have c2b0 : decide (0 < (x0_1.size : Int)) = false := decide_eq_false c2
    have c2b1 : decide (0 < x0_1.size) = false := decide_eq_false (by omega)
    clear c2
    simp only [Option.some.injEq, Prod.mk.injEq] at H
    obtain ⟨rfl, rfl⟩ := H
    go_wp2
    go_ret2
    exact ⟨_, by first | rfl | (simp [errW_none, errW_some] <;> rfl) | (simp [*, errW_none, errW_some] <;> rfl), by (with_reducible repeat (first | apply Kd.R_alloc | apply Kd.R_drewN | apply Kd.R_drew)); exact HO_4.out, by repeat (first | (with_reducible first | exact HB.out | apply below_alloc | apply pw_below_drewN | apply below_drew1) | exact HB.out)⟩
end Go.Proofs.YthhmmaihbjhhgaaGreatDoor.U1
namespace Go.Proofs.YthhmmaihbjhhgaaGreatDoor.Q1
open Go.Proofs.YthhmmaihbjhhgaaGreatDoor.Giv Go.Proofs.YthhmmaihbjhhgaaGreatDoor.U1 Go.RowKit Go.Proofs.YthhmmaihbjhhgaaGreatDoorW.PrintWords Go.Proofs.YthhmmaihbjhhgaaGreatDoorW.PrintLast Go.Proofs.YthhmmaihbjhhgaaGreatDoorW.PrintMore
attribute [local go_sem] max2_int min2_int max_two min_two max_three min_three max_four min_four
set_option linter.unusedVariables false
set_option linter.unusedSimpArgs false
def errW : Option Int → Value
 | none => .nilIface
 | some c => .iface 0 (.int .i64 c)
theorem errW_none : errW none = .nilIface := rfl
theorem errW_some (c : Int) : errW (some c) = .iface 0 (.int .i64 c) := rfl
theorem info5 : (Tryz.prog.info? 5).map (fun i => (i.zero, i.size, i.bytes)) = some (some (.int .u8 0), 1, 1) := by kernel_rfl
end Go.Proofs.YthhmmaihbjhhgaaGreatDoor.Q1
namespace Go.Proofs.YthhmmaihbjhhgaaGreatDoor.Q1
open Go.Proofs.YthhmmaihbjhhgaaGreatDoor.Giv Go.Proofs.YthhmmaihbjhhgaaGreatDoor.U1 Go.RowKit Go.Proofs.YthhmmaihbjhhgaaGreatDoorW.PrintWords Go.Proofs.YthhmmaihbjhhgaaGreatDoorW.PrintLast Go.Proofs.YthhmmaihbjhhgaaGreatDoorW.PrintMore
attribute [local go_sem] max2_int min2_int max_two min_two max_three min_three max_four min_four
set_option linter.unusedVariables false
set_option linter.unusedSimpArgs false
def quote_piece.j0 : Nat → Int → Bool → Option (ByteArray)
 | 0, _, _ => none
 | k + 1, x0, x12 => if x12 = true then (some (strOfNums (([92, x0] : List Int)))) else (if x0 < 32 then (if 0 ≤ (x0 / 16) then (if (x0 / 16) < 16 then (if 0 ≤ (Go.bits .and .u8 x0 15) then (if (Go.bits .and .u8 x0 15) < 16 then (some (strOfNums (([92, 117, 48, 48, bt (⟨#[48, 49, 50, 51, 52, 53, 54, 55, 56, 57, 97, 98, 99, 100, 101, 102]⟩ : ByteArray) (x0 / 16), bt (⟨#[48, 49, 50, 51, 52, 53, 54, 55, 56, 57, 97, 98, 99, 100, 101, 102]⟩ : ByteArray) (Go.bits .and .u8 x0 15)] : List Int)))) else (none)) else (none)) else (none)) else (none)) else (some (strOfNums (([x0] : List Int)))))
def quote_piece.f (k : Nat) (a0 : Int) : Option (ByteArray) := (strings_IndexByte.f (⟨#[8, 9, 10, 12, 13]⟩ : ByteArray) a0).bind fun t101 => (if t101 ≥ 0 then (if 0 ≤ t101 then (if t101 < 5 then (some (strOfNums (([92, bt (⟨#[98, 116, 110, 102, 114]⟩ : ByteArray) t101] : List Int)))) else (none)) else (none)) else (if a0 = 34 then (quote_piece.j0 k a0 (a0 == 34)) else (quote_piece.j0 k a0 (a0 == 92))))
def quote_piece.T8 : Bool × List (List Nat × List Nat) := (true, [([], []), ([0], [0]), ([1], [1]), ([], []), ([3], [3]), ([4], [4]), ([2, 5], [2, 5]), ([6], [6]), ([7, 0, 1, 2, 3, 4, 5, 6, 7], [7])])
def quote_piece.B8 : List Nat := [0, 1, 3, 0, 8, 24, 63, 127, 255]
theorem quote_piece.tab8 : rtab .any (opsOf Tryz.f55 8) = quote_piece.T8 := by kernel_rfl
theorem quote_piece.bits8 : waitsOk quote_piece.T8.2 quote_piece.B8 = true := by kernel_rfl
set_option maxHeartbeats 8000000 in
set_option maxRecDepth 100000 in
theorem quote_piece.calls (k : Nat) (a0 : Int) (r : ByteArray) (w : World) (h : quote_piece.f k a0 = some r) :
  Calls Tryz.prog 55 #[.int .u8 a0] w fun e w' => e = .returned (.string r) ∧ Below w.heap.size w w' := by
 have HB := Aside0.mk (Below.refl w.heap.size w)
 have H : ((strings_IndexByte.f (⟨#[8, 9, 10, 12, 13]⟩ : ByteArray) a0).bind fun t101 => (if t101 ≥ 0 then (if 0 ≤ t101 then (if t101 < 5 then (some (strOfNums (([92, bt (⟨#[98, 116, 110, 102, 114]⟩ : ByteArray) t101] : List Int)))) else (none)) else (none)) else (if a0 = 34 then (quote_piece.j0 k a0 (a0 == 34)) else (quote_piece.j0 k a0 (a0 == 92))))) = some r := h
 clear h
 replace H := Option.bind_eq_some_iff.mp H
 obtain ⟨t101, A20, H⟩ := H
 replace H : (if t101 ≥ 0 then (if 0 ≤ t101 then (if t101 < 5 then (some (strOfNums (([92, bt (⟨#[98, 116, 110, 102, 114]⟩ : ByteArray) t101] : List Int)))) else (none)) else (none)) else (if a0 = 34 then (quote_piece.j0 k a0 (a0 == 34)) else (quote_piece.j0 k a0 (a0 == 92)))) = some r := H
 have A2 := Aside0.mk A20
 clear A20
 by_cases c3 : t101 ≥ 0
 ·rw [if_pos c3] at H
  have c3b0 : decide (0 ≤ t101) = true := decide_eq_true c3
  clear c3
  by_cases c4 : 0 ≤ t101
  ·rw [if_pos c4] at H
   have c4b0 : decide (0 ≤ t101) = true := decide_eq_true c4
   clear c4
   by_cases c5 : t101 < 5
   ·rw [if_pos c5] at H
    have c5b0 : decide (t101 < 5) = true := decide_eq_true c5
    clear c5
    obtain ⟨y102, hy102⟩ : ∃ y_ : List Int, y_ = (([92, bt (⟨#[98, 116, 110, 102, 114]⟩ : ByteArray) t101] : List Int)) := ⟨_, rfl⟩
    replace H : (some (strOfNums y102)) = some r := by first | (rw [hy102]; with_reducible exact H) | (have H2_ := (Option.bind_some _ _).symm.trans H; rw [hy102]; with_reducible exact H2_) | (have H2_ := (Option.bind_some _ _).symm.trans H; with_reducible exact H2_) | with_reducible exact H | (rw [hy102]; exact H) | exact H
    have Ny102 := Aside0.mk hy102
    clear hy102
    obtain rfl := Option.some.inj H
    go_enter Tryz.func55, Tryz.ntmps55
    go_wp2_with (first | ((with_reducible refine gate_callee (f := 44) rfl ?_); refine goesL_ (some 5) rfl rfl Tryz.func44 (by kernel_rfl) rfl #[.string (⟨#[8, 9, 10, 12, 13]⟩ : ByteArray), .int .u8 a0] rfl (by (try simp only [List.map_toArray, List.map_cons, List.map_nil]); first | done | rfl | (simp only [List.length_drop, List.length_take]; rfl)) ?_; (with_reducible refine (strings_IndexByte.calls (⟨#[8, 9, 10, 12, 13]⟩ : ByteArray) a0 t101 _ A2.out).mono ?_); rintro e w' ⟨rfl, ⟨nd, rfl⟩⟩; refine ⟨_, rfl, ?_⟩; have p6 : 0 ≤ (t101 : Int) := of_decide_eq_true (by first | (with_reducible assumption) | assumption); have q6 : t101 < (5 : Int) := of_decide_eq_true (by first | (with_reducible assumption) | assumption); have hx6 := bt_at (⟨#[98, 116, 110, 102, 114]⟩ : ByteArray) t101; replace p6 := eq_true p6; replace q6 := eq_true q6) | ((with_reducible refine gate_dst (N := 10) rfl ?_); refine Kd.R_lit (Kd.int .u8) _ 5 ?hg (N := 10) ?hd (xs := ([92, bt (⟨#[98, 116, 110, 102, 114]⟩ : ByteArray) t101] : List Int)) (inner := [.int .u8 92, .int .u8 (bt (⟨#[98, 116, 110, 102, 114]⟩ : ByteArray) t101)]) (ok := fun _ => True) (okp := fun _ => True) ?hr ?hp (fun _ hk => hk) trivial (Below.refl _ _) (Nat.le_refl _) (by simp) ?_; (case hd => rfl); (case hg => rfl); (case hr => first | (go_simp; done) | (go_simp; rfl)); (case hp => exact (Reps.one (show Kd.M (Kd.int .u8) _ _ _ 92 [.int .u8 92] from rfl) (Reps.one (show Kd.M (Kd.int .u8) _ _ _ (bt (⟨#[98, 116, 110, 102, 114]⟩ : ByteArray) t101) [.int .u8 (bt (⟨#[98, 116, 110, 102, 114]⟩ : ByteArray) t101)] from rfl) (Reps.none _ _)))); intro v103 w7 ho8 hb hg_ hnew_; clear hg_ hnew_; (first | rw [← Ny102.out] at ho8 | (simp only [Int.reduceToNat] at ho8; rw [← Ny102.out] at ho8)); have n0_ := Aside0.mk (Kd.R_lower ho8 (below_size (by repeat (first | (with_reducible first | exact HB.out | apply below_alloc | apply pw_below_drewN | apply below_drew1) | exact HB.out)))); have n1_ := Aside0.mk (below_step (by repeat (first | (with_reducible first | exact HB.out | apply below_alloc | apply pw_below_drewN | apply below_drew1) | exact HB.out)) hb); clear HB; have HO104 := n0_; have HB := n1_; clear n0_ n1_; clear hb ho8; have hcv9 := own_string (P := Tryz.prog) Tryz.underlying43 Tryz.underlying5 Tryz.underlying9 (Kd.own_of_R HO104.out)))
    go_ret
    exact ⟨by first | rfl | (simp [errW_none, errW_some] <;> rfl) | (simp [*, errW_none, errW_some] <;> rfl), by repeat (first | (with_reducible first | exact HB.out | apply below_alloc | apply pw_below_drewN | apply below_drew1) | exact HB.out)⟩
   ·rw [if_neg c5] at H
    exact absurd H (by simp)
  ·rw [if_neg c4] at H
   exact absurd H (by simp)
 ·rw [if_neg c3] at H
  have c3b0 : decide (0 ≤ t101) = false := decide_eq_false c3
  clear c3
  have HC10 := Aside0.mk H
  clear H
  go_enter Tryz.func55, Tryz.ntmps55
  go_upto_if 12 with (first | ((with_reducible refine gate_callee (f := 44) rfl ?_); refine goesL_ (some 5) rfl rfl Tryz.func44 (by kernel_rfl) rfl #[.string (⟨#[8, 9, 10, 12, 13]⟩ : ByteArray), .int .u8 a0] rfl (by (try simp only [List.map_toArray, List.map_cons, List.map_nil]); first | done | rfl | (simp only [List.length_drop, List.length_take]; rfl)) ?_; (with_reducible refine (strings_IndexByte.calls (⟨#[8, 9, 10, 12, 13]⟩ : ByteArray) a0 t101 _ A2.out).mono ?_); rintro e w' ⟨rfl, ⟨nd, rfl⟩⟩; refine ⟨_, rfl, ?_⟩))
  (try simp only [Act.put, qA, qB, qC])
  go_cut [12] (fun v12 wc => ∃ (kq : Nat) (x12_9 : Bool), v12 = .bool x12_9 ∧ Aside0 (quote_piece.j0 kq a0 x12_9 = some r) ∧ Aside0 (kq ≤ k) ∧ Aside0 (Below w.heap.size w wc))
  case first =>
   have H := HC10.out
   clear HC10
   by_cases c11 : a0 = 34
   ·rw [if_pos c11] at H
    have c11b0 : (a0 == 34) = true := beq_iff_eq.mpr c11
    have c11b1 : (a0 != 34) = false := bne_eq_false_iff_eq.mpr c11
    clear c11
    (first | rw [c11b0] | (simp only [i64_w, i32_w]; rw [c11b0]) | skip)
    have H' := Aside0.mk H
    clear H
    go_wp2
    go_meet
    case rel => exact ⟨_, ((a0 == 34)), (by first | rfl | (simp; done) | (simp [*]; done)), H', ⟨by first | omega | exact Nat.le_refl _⟩, ⟨by repeat (first | (with_reducible first | exact HB.out | apply below_alloc | apply pw_below_drewN | apply below_drew1) | exact HB.out)⟩⟩
   ·rw [if_neg c11] at H
    have c11b0 : (a0 == 34) = false := beq_eq_false_iff_ne.mpr c11
    have c11b1 : (a0 != 34) = true := bne_iff_ne.mpr c11
    (first | rw [c11b0] | (simp only [i64_w, i32_w]; rw [c11b0]) | skip)
    have H' := Aside0.mk H
    clear H
    go_wp2
    go_meet
    case rel => exact ⟨_, ((a0 == 92)), (by first | rfl | (simp; done) | (simp [*]; done)), H', ⟨by first | omega | exact Nat.le_refl _⟩, ⟨by repeat (first | (with_reducible first | exact HB.out | apply below_alloc | apply pw_below_drewN | apply below_drew1) | exact HB.out)⟩⟩
  case rest =>
   clear HC10
   try clear c1
   try clear p2
   try clear c3
   try clear c3b0
   try clear c4
   try clear c4b0
   try clear c5
   try clear c5b0
   try clear p6
   try clear q6
   try clear hx6
   try clear c8
   try clear hcv9
   try clear c11
   try clear c11b0
   try clear c11b1
   try clear p6
   try clear q6
   obtain ⟨kq, x12_9, rfl, HA, HJ9, HB⟩ := hcut
   cases kq with
   | zero => exact absurd HA.out (by simp [quote_piece.j0])
   | succ kj9 =>
    have H := HA.out
    clear HA
    simp only [quote_piece.j0] at H
    by_cases c12 : x12_9 = true
    ·subst c12
     have H1 : (some (strOfNums (([92, a0] : List Int)))) = some r := by rw [if_pos rfl] at H; exact H
     clear H
     have H := H1
     clear H1
     obtain ⟨y105, hy105⟩ : ∃ y_ : List Int, y_ = (([92, a0] : List Int)) := ⟨_, rfl⟩
     replace H : (some (strOfNums y105)) = some r := by first | (rw [hy105]; with_reducible exact H) | (have H2_ := (Option.bind_some _ _).symm.trans H; rw [hy105]; with_reducible exact H2_) | (have H2_ := (Option.bind_some _ _).symm.trans H; with_reducible exact H2_) | with_reducible exact H | (rw [hy105]; exact H) | exact H
     have Ny105 := Aside0.mk hy105
     clear hy105
     obtain rfl := Option.some.inj H
     go_wp2_with (first | ((with_reducible refine gate_dst (N := 18) rfl ?_); refine Kd.R_lit (Kd.int .u8) _ 5 ?hg (N := 18) ?hd (xs := ([92, a0] : List Int)) (inner := [.int .u8 92, .int .u8 a0]) (ok := fun _ => True) (okp := fun _ => True) ?hr ?hp (fun _ hk => hk) trivial (Below.refl _ _) (Nat.le_refl _) (by simp) ?_; (case hd => rfl); (case hg => rfl); (case hr => first | (go_simp; done) | (go_simp; rfl)); (case hp => exact (Reps.one (show Kd.M (Kd.int .u8) _ _ _ 92 [.int .u8 92] from rfl) (Reps.one (show Kd.M (Kd.int .u8) _ _ _ a0 [.int .u8 a0] from rfl) (Reps.none _ _)))); intro v106 w13 ho14 hb hg_ hnew_; clear hg_ hnew_; (first | rw [← Ny105.out] at ho14 | (simp only [Int.reduceToNat] at ho14; rw [← Ny105.out] at ho14)); have n0_ := Aside0.mk (Kd.R_lower ho14 (below_size (by repeat (first | (with_reducible first | exact HB.out | apply below_alloc | apply pw_below_drewN | apply below_drew1) | exact HB.out)))); have n1_ := Aside0.mk (below_step (by repeat (first | (with_reducible first | exact HB.out | apply below_alloc | apply pw_below_drewN | apply below_drew1) | exact HB.out)) hb); clear HB; have HO107 := n0_; have HB := n1_; clear n0_ n1_; clear hb ho14; have hcv15 := own_string (P := Tryz.prog) Tryz.underlying43 Tryz.underlying5 Tryz.underlying9 (Kd.own_of_R HO107.out)))
     go_ret
     exact ⟨by first | rfl | (simp [errW_none, errW_some] <;> rfl) | (simp [*, errW_none, errW_some] <;> rfl), by repeat (first | (with_reducible first | exact HB.out | apply below_alloc | apply pw_below_drewN | apply below_drew1) | exact HB.out)⟩
    ·replace c12 := Bool.eq_false_iff.mpr c12
     subst c12
     have H1 : (if a0 < 32 then (if 0 ≤ (a0 / 16) then (if (a0 / 16) < 16 then (if 0 ≤ (Go.bits .and .u8 a0 15) then (if (Go.bits .and .u8 a0 15) < 16 then (some (strOfNums (([92, 117, 48, 48, bt (⟨#[48, 49, 50, 51, 52, 53, 54, 55, 56, 57, 97, 98, 99, 100, 101, 102]⟩ : ByteArray) (a0 / 16), bt (⟨#[48, 49, 50, 51, 52, 53, 54, 55, 56, 57, 97, 98, 99, 100, 101, 102]⟩ : ByteArray) (Go.bits .and .u8 a0 15)] : List Int)))) else (none)) else (none)) else (none)) else (none)) else (some (strOfNums (([a0] : List Int))))) = some r := by rw [if_neg (show ¬ (false = true) by decide)] at H; exact H
     clear H
     have H := H1
     clear H1
     by_cases c16 : a0 < 32
     ·rw [if_pos c16] at H
      have c16b0 : decide (a0 < 32) = true := decide_eq_true c16
      clear c16
      obtain ⟨ji17, hji17⟩ : ∃ j_ : Int, (a0 / 16) = j_ := ⟨_, rfl⟩
      replace H : (if 0 ≤ (ji17) then (if (ji17) < 16 then (if 0 ≤ (Go.bits .and .u8 a0 15) then (if (Go.bits .and .u8 a0 15) < 16 then (some (strOfNums (([92, 117, 48, 48, bt (⟨#[48, 49, 50, 51, 52, 53, 54, 55, 56, 57, 97, 98, 99, 100, 101, 102]⟩ : ByteArray) (ji17), bt (⟨#[48, 49, 50, 51, 52, 53, 54, 55, 56, 57, 97, 98, 99, 100, 101, 102]⟩ : ByteArray) (Go.bits .and .u8 a0 15)] : List Int)))) else (none)) else (none)) else (none)) else (none)) = some r := by first | (rw [hji17] at H; exact H) | (simp only [hji17] at H ⊢; exact H)
      by_cases c18 : 0 ≤ (ji17)
      ·rw [if_pos c18] at H
       have c18b0 : decide (0 ≤ (ji17)) = true := decide_eq_true c18
       clear c18
       by_cases c19 : (ji17) < 16
       ·rw [if_pos c19] at H
        have c19b0 : decide ((ji17) < 16) = true := decide_eq_true c19
        clear c19
        by_cases c21 : 0 ≤ (Go.bits .and .u8 a0 15)
        ·rw [if_pos c21] at H
         have c21b0 : decide (0 ≤ (Go.bits .and .u8 a0 15)) = true := decide_eq_true c21
         clear c21
         by_cases c22 : (Go.bits .and .u8 a0 15) < 16
         ·rw [if_pos c22] at H
          have c22b0 : decide ((Go.bits .and .u8 a0 15) < 16) = true := decide_eq_true c22
          clear c22
          obtain ⟨y108, hy108⟩ : ∃ y_ : List Int, y_ = (([92, 117, 48, 48, bt (⟨#[48, 49, 50, 51, 52, 53, 54, 55, 56, 57, 97, 98, 99, 100, 101, 102]⟩ : ByteArray) (ji17), bt (⟨#[48, 49, 50, 51, 52, 53, 54, 55, 56, 57, 97, 98, 99, 100, 101, 102]⟩ : ByteArray) (Go.bits .and .u8 a0 15)] : List Int)) := ⟨_, rfl⟩
          replace H : (some (strOfNums y108)) = some r := by first | (rw [hy108]; with_reducible exact H) | (have H2_ := (Option.bind_some _ _).symm.trans H; rw [hy108]; with_reducible exact H2_) | (have H2_ := (Option.bind_some _ _).symm.trans H; with_reducible exact H2_) | with_reducible exact H | (rw [hy108]; exact H) | exact H
          have Ny108 := Aside0.mk hy108
          clear hy108
          obtain rfl := Option.some.inj H
          try go_wp2
          have n0_ := Aside0.mk (below_drew1 HB.out)
          clear HB
          have HB := n0_
          clear n0_
          have p20 : 0 ≤ ((ji17) : Int) := of_decide_eq_true (by first | (with_reducible assumption) | assumption)
          have q20 : (ji17) < (16 : Int) := of_decide_eq_true (by first | (with_reducible assumption) | assumption)
          have hx20 := bt_at (⟨#[48, 49, 50, 51, 52, 53, 54, 55, 56, 57, 97, 98, 99, 100, 101, 102]⟩ : ByteArray) (ji17)
          replace p20 := eq_true p20
          replace q20 := eq_true q20
          have p23 : 0 ≤ ((Go.bits .and .u8 a0 15) : Int) := of_decide_eq_true (by first | (with_reducible assumption) | assumption)
          have q23 : (Go.bits .and .u8 a0 15) < (16 : Int) := of_decide_eq_true (by first | (with_reducible assumption) | assumption)
          have hx23 := bt_at (⟨#[48, 49, 50, 51, 52, 53, 54, 55, 56, 57, 97, 98, 99, 100, 101, 102]⟩ : ByteArray) (Go.bits .and .u8 a0 15)
          replace p23 := eq_true p23
          replace q23 := eq_true q23
          refine start_ (n := 9) (S := fun w' => True) (ds := []) #[false, false, false, false, false, false, false, false, false] (by kernel_rfl) rfl rfl trivial (fun hHeld => ?_); refine with_tabW quote_piece.tab8 quote_piece.bits8 (fun HT_ HW_ => ?_)
          generalize wc.drew = w24 at HB hHeld ⊢
          refine pure_ (i := 0) (N := some 23) (v := ?_) (a' := ?_) #[true, false, false, false, false, false, false, false, false] rfl rfl (any_of HT_.out (by kernel_rfl)) (fun _ _ _ h => h) (Or.inl ⟨by rfl, ?_⟩) ?_ ?_
          rotate_left
          ·intro w'
           go_simp
           with_reducible rfl
          rotate_left
          ·simp only [Act.put, qA, qB, qC, i64_w, i32_w]
           rfl
          refine pure_ (i := 1) (N := some 24) (v := ?_) (a' := ?_) #[true, true, false, false, false, false, false, false, false] rfl rfl (any_of HT_.out (by kernel_rfl)) (fun _ _ _ h => h) (Or.inl ⟨by rfl, ?_⟩) ?_ ?_
          rotate_left
          ·intro w'
           go_simp
           with_reducible rfl
          rotate_left
          ·simp only [Act.put, qA, qB, qC, i64_w, i32_w]
           rfl
          refine pure_ (i := 3) (N := some 26) (v := ?_) (a' := ?_) #[true, true, false, true, false, false, false, false, false] rfl rfl (any_of HT_.out (by kernel_rfl)) (fun _ _ _ h => h) (Or.inl ⟨by rfl, ?_⟩) ?_ ?_
          rotate_left
          ·intro w'
           go_simp
           with_reducible rfl
          rotate_left
          ·simp only [Act.put, qA, qB, qC, i64_w, i32_w]
           rfl
          refine pure_ (i := 4) (N := some 27) (v := ?_) (a' := ?_) #[true, true, false, true, true, false, false, false, false] rfl rfl (any_of HT_.out (by kernel_rfl)) (fun _ _ _ h => h) (Or.inl ⟨by rfl, ?_⟩) ?_ ?_
          rotate_left
          ·intro w'
           go_simp
           with_reducible rfl
          rotate_left
          ·simp only [Act.put, qA, qB, qC, i64_w, i32_w]
           rfl
          refine take_ (i := 2) (N := some 25) (v := ?_) (a' := ?_) #[true, true, true, true, true, false, false, false, false] rfl rfl (take_ofW HT_.out HW_.out (by kernel_rfl)) (fun _ _ _ h => h) (Or.inl ⟨by rfl, ?_⟩) hHeld ?_ ?_
          rotate_left
          ·intro w' _
           go_simp
           with_reducible rfl
          rotate_left
          ·simp only [Act.put, qA, qB, qC, i64_w, i32_w]
           rfl
          refine take_ (i := 5) (N := some 28) (v := ?_) (a' := ?_) #[true, true, true, true, true, true, false, false, false] rfl rfl (take_ofW HT_.out HW_.out (by kernel_rfl)) (fun _ _ _ h => h) (Or.inl ⟨by rfl, ?_⟩) hHeld ?_ ?_
          rotate_left
          ·intro w' _
           go_simp
           with_reducible rfl
          rotate_left
          ·simp only [Act.put, qA, qB, qC, i64_w, i32_w]
           rfl
          refine one_ (i := 6) (N := some 29) #[true, true, true, true, true, true, true, false, false] rfl rfl (one_of HT_.out (by kernel_rfl)) (by decide) (fun K hK => ?_)
          refine Kd.R_lit_step (Kd.int .u8) _ 5 ?hg (N := 29) ?hd (xs := ([92, 117, 48, 48, bt (⟨#[48, 49, 50, 51, 52, 53, 54, 55, 56, 57, 97, 98, 99, 100, 101, 102]⟩ : ByteArray) (ji17), bt (⟨#[48, 49, 50, 51, 52, 53, 54, 55, 56, 57, 97, 98, 99, 100, 101, 102]⟩ : ByteArray) (Go.bits .and .u8 a0 15)] : List Int)) (inner := [.int .u8 92, .int .u8 117, .int .u8 48, .int .u8 48, .int .u8 (bt (⟨#[48, 49, 50, 51, 52, 53, 54, 55, 56, 57, 97, 98, 99, 100, 101, 102]⟩ : ByteArray) (ji17)), .int .u8 (bt (⟨#[48, 49, 50, 51, 52, 53, 54, 55, 56, 57, 97, 98, 99, 100, 101, 102]⟩ : ByteArray) (Go.bits .and .u8 a0 15))]) (ok := fun _ => True) (okp := fun _ => True) ?hr ?hp (fun _ hk => hk) trivial (Below.refl _ _) (Nat.le_refl _) (by simp) ?_; (case hd => rfl); (case hg => rfl); (case hr => first | (go_simp; done) | (go_simp; rfl)); (case hp => exact (Reps.one (show Kd.M (Kd.int .u8) _ _ _ 92 [.int .u8 92] from rfl) (Reps.one (show Kd.M (Kd.int .u8) _ _ _ 117 [.int .u8 117] from rfl) (Reps.one (show Kd.M (Kd.int .u8) _ _ _ 48 [.int .u8 48] from rfl) (Reps.one (show Kd.M (Kd.int .u8) _ _ _ 48 [.int .u8 48] from rfl) (Reps.one (show Kd.M (Kd.int .u8) _ _ _ (bt (⟨#[48, 49, 50, 51, 52, 53, 54, 55, 56, 57, 97, 98, 99, 100, 101, 102]⟩ : ByteArray) (ji17)) [.int .u8 (bt (⟨#[48, 49, 50, 51, 52, 53, 54, 55, 56, 57, 97, 98, 99, 100, 101, 102]⟩ : ByteArray) (ji17))] from rfl) (Reps.one (show Kd.M (Kd.int .u8) _ _ _ (bt (⟨#[48, 49, 50, 51, 52, 53, 54, 55, 56, 57, 97, 98, 99, 100, 101, 102]⟩ : ByteArray) (Go.bits .and .u8 a0 15)) [.int .u8 (bt (⟨#[48, 49, 50, 51, 52, 53, 54, 55, 56, 57, 97, 98, 99, 100, 101, 102]⟩ : ByteArray) (Go.bits .and .u8 a0 15))] from rfl) (Reps.none _ _))))))))
          intro v109 w25 ho26 hb hg_ hnew_
          clear hg_ hnew_
          (first | rw [← Ny108.out] at ho26 | (simp only [Int.reduceToNat] at ho26; rw [← Ny108.out] at ho26))
          have n0_ := Aside0.mk (Kd.R_lower ho26 (below_size (by repeat (first | (with_reducible first | exact HB.out | apply below_alloc | apply pw_below_drewN | apply below_drew1) | exact HB.out))))
          have n1_ := Aside0.mk (below_step (by repeat (first | (with_reducible first | exact HB.out | apply below_alloc | apply pw_below_drewN | apply below_drew1) | exact HB.out)) hb)
          clear HB
          have HO110 := n0_
          have HB := n1_
          clear n0_ n1_
          clear hb ho26
          refine hK.out _ _ trivial (fun hHeld => ?_)
          clear hK K
          refine norm_ (a' := ?_) ?_ ?_
          rotate_left
          ·show Act.put _ (some 29) _ = _
           simp only [Act.put, qA, qB, qC, i64_w, i32_w]
           rfl
          refine one_ (i := 7) (N := some 30) #[true, true, true, true, true, true, true, true, false] rfl rfl (one_of HT_.out (by kernel_rfl)) (by decide) (fun K hK => ?_)
          have hcv27 := own_string (P := Tryz.prog) Tryz.underlying43 Tryz.underlying5 Tryz.underlying9 (Kd.own_of_R HO110.out)
          refine value_ (w1 := ?_) (v := ?_) (by rfl) rfl ?_ ?_
          rotate_left 2
          ·go_simp
           constructor
           ·rfl
           ·rfl
          clear hcv27
          refine hK.out _ _ trivial (fun hHeld => ?_)
          clear hK K
          refine norm_ (a' := ?_) ?_ ?_
          rotate_left
          ·show Act.put _ (some 30) _ = _
           simp only [Act.put, qA, qB, qC, i64_w, i32_w]
           rfl
          refine pure_ (i := 8) (N := some 2) (v := ?_) (a' := ?_) #[true, true, true, true, true, true, true, true, true] rfl rfl (any_of HT_.out (by kernel_rfl)) (fun _ _ _ h => h) (Or.inl ⟨by rfl, ?_⟩) ?_ ?_
          rotate_left
          ·intro w'
           go_simp
           with_reducible rfl
          rotate_left
          ·simp only [Act.put, qA, qB, qC, i64_w, i32_w]
           rfl
          refine done_ (done_of HT_.out (by kernel_rfl)) ?_
          try go_wp2
          go_ret
          exact ⟨by first | rfl | (simp [errW_none, errW_some] <;> rfl) | (simp only [← hji17]; first | rfl | (simp [errW_none, errW_some] <;> rfl)) | (simp [*, errW_none, errW_some] <;> rfl), by repeat (first | (with_reducible first | exact HB.out | apply below_alloc | apply pw_below_drewN | apply below_drew1) | exact HB.out)⟩
         ·rw [if_neg c22] at H
          exact absurd H (by simp)
        ·rw [if_neg c21] at H
         exact absurd H (by simp)
       ·rw [if_neg c19] at H
        exact absurd H (by simp)
      ·rw [if_neg c18] at H
       exact absurd H (by simp)
     ·rw [if_neg c16] at H
      have c16b0 : decide (a0 < 32) = false := decide_eq_false c16
      clear c16
      obtain ⟨y111, hy111⟩ : ∃ y_ : List Int, y_ = (([a0] : List Int)) := ⟨_, rfl⟩
      replace H : (some (strOfNums y111)) = some r := by first | (rw [hy111]; with_reducible exact H) | (have H2_ := (Option.bind_some _ _).symm.trans H; rw [hy111]; with_reducible exact H2_) | (have H2_ := (Option.bind_some _ _).symm.trans H; with_reducible exact H2_) | with_reducible exact H | (rw [hy111]; exact H) | exact H
      have Ny111 := Aside0.mk hy111
      clear hy111
      obtain rfl := Option.some.inj H
      go_wp2_with (first | ((with_reducible refine gate_dst (N := 32) rfl ?_); refine Kd.R_lit (Kd.int .u8) _ 5 ?hg (N := 32) ?hd (xs := ([a0] : List Int)) (inner := [.int .u8 a0]) (ok := fun _ => True) (okp := fun _ => True) ?hr ?hp (fun _ hk => hk) trivial (Below.refl _ _) (Nat.le_refl _) (by simp) ?_; (case hd => rfl); (case hg => rfl); (case hr => first | (go_simp; done) | (go_simp; rfl)); (case hp => exact (Reps.one (show Kd.M (Kd.int .u8) _ _ _ a0 [.int .u8 a0] from rfl) (Reps.none _ _))); intro v112 w28 ho29 hb hg_ hnew_; clear hg_ hnew_; (first | rw [← Ny111.out] at ho29 | (simp only [Int.reduceToNat] at ho29; rw [← Ny111.out] at ho29)); have n0_ := Aside0.mk (Kd.R_lower ho29 (below_size (by repeat (first | (with_reducible first | exact HB.out | apply below_alloc | apply pw_below_drewN | apply below_drew1) | exact HB.out)))); have n1_ := Aside0.mk (below_step (by repeat (first | (with_reducible first | exact HB.out | apply below_alloc | apply pw_below_drewN | apply below_drew1) | exact HB.out)) hb); clear HB; have HO113 := n0_; have HB := n1_; clear n0_ n1_; clear hb ho29; have hcv30 := own_string (P := Tryz.prog) Tryz.underlying43 Tryz.underlying5 Tryz.underlying9 (Kd.own_of_R HO113.out)))
      go_ret
      exact ⟨by first | rfl | (simp [errW_none, errW_some] <;> rfl) | (simp [*, errW_none, errW_some] <;> rfl), by repeat (first | (with_reducible first | exact HB.out | apply below_alloc | apply pw_below_drewN | apply below_drew1) | exact HB.out)⟩
def quote_digits.l0 : Nat → ByteArray → Int → Int → Option (Int)
 | 0, _, _, _ => none
 | k + 1, x0, x3, x9 => if x9 < 4 then (if 0 ≤ x9 then (if x9 < (x0.size : Int) then ((strings_IndexByte.f (⟨#[48, 49, 50, 51, 52, 53, 54, 55, 56, 57, 97, 98, 99, 100, 101, 102]⟩ : ByteArray) (bt x0 x9)).bind fun t115 => (if t115 < 0 then ((strings_IndexByte.f (⟨#[48, 49, 50, 51, 52, 53, 54, 55, 56, 57, 65, 66, 67, 68, 69, 70]⟩ : ByteArray) (bt x0 x9)).bind fun t116 => (if t116 < 0 then (some (-1)) else (quote_digits.l0 k x0 (Go.bits .or .i64 (wrap64 (x3 * 16)) t116) (wrap64 (x9 + 1))))) else (quote_digits.l0 k x0 (Go.bits .or .i64 (wrap64 (x3 * 16)) t115) (wrap64 (x9 + 1))))) else (none)) else (none)) else (some x3)
def quote_digits.f (k : Nat) (a0 : ByteArray) : Option (Int) := if (a0.size : Int) < 4 then (some (-1)) else (quote_digits.l0 k a0 0 0)
set_option maxHeartbeats 8000000 in
set_option maxRecDepth 100000 in
theorem quote_digits.calls (k : Nat) (a0 : ByteArray) (r : Int) (w : World) (h : quote_digits.f k a0 = some r) :
  Calls Tryz.prog 108 #[.string a0] w fun e w' => e = .returned (.int .i64 r) ∧ Drawn0 w w' := by
 have H : (if (a0.size : Int) < 4 then (some (-1)) else (quote_digits.l0 k a0 0 0)) = some r := h
 clear h
 by_cases c2 : (a0.size : Int) < 4
 ·rw [if_pos c2] at H
  have c2b0 : decide ((a0.size : Int) < 4) = true := decide_eq_true c2
  have c2b1 : decide (a0.size < 4) = true := decide_eq_true (by omega)
  clear c2
  obtain rfl := Option.some.inj H
  go_enter Tryz.func108, Tryz.ntmps108
  go_wp2
  go_ret
  exact ⟨by first | rfl | (simp; done) | (simp [*]; done), by repeat (first | exact Drawn0.refl _ | apply Drawn0.step)⟩
 ·rw [if_neg c2] at H
  have c2b0 : decide ((a0.size : Int) < 4) = false := decide_eq_false c2
  have c2b1 : decide (a0.size < 4) = false := decide_eq_false (by omega)
  clear c2
  have H' := Aside0.mk H
  clear H
  go_enter Tryz.func108, Tryz.ntmps108
  go_wp2
  go_loopg [3, 9] k (fun kq v3 v9 w' => ∃ (x3_1 : Int) (x9_1 : Int), v3 = .int .i64 x3_1 ∧ v9 = .int .i64 x9_1 ∧ Aside0 (quote_digits.l0 kq a0 x3_1 x9_1 = some r) ∧ Aside0 (kq ≤ k) ∧ Drawn0 w w')
  case atStart => exact ⟨(0), (0), (by first | rfl | (simp; done) | (simp [*]; done)), (by first | rfl | (simp; done) | (simp [*]; done)), H', ⟨Nat.le_refl _⟩, by repeat (first | exact Drawn0.refl _ | apply Drawn0.step)⟩
  case round =>
   clear H'
   try clear c1
   try clear c2
   try clear c2b0
   try clear c2b1
   try clear p2
   obtain ⟨x3_1, x9_1, rfl, rfl, HA, HK1, ⟨m1, rfl⟩⟩ := hrel
   cases gk with
   | zero => exact absurd HA.out (by simp [quote_digits.l0])
   | succ k1 =>
    have H := HA.out
    clear HA
    simp only [quote_digits.l0] at H
    by_cases c3 : x9_1 < 4
    ·rw [if_pos c3] at H
     have c3b0 : decide (x9_1 < 4) = true := decide_eq_true c3
     clear c3
     by_cases c4 : 0 ≤ x9_1
     ·rw [if_pos c4] at H
      have c4b0 : decide (0 ≤ x9_1) = true := decide_eq_true c4
      clear c4
      by_cases c5 : x9_1 < (a0.size : Int)
      ·rw [if_pos c5] at H
       have c5b0 : decide (x9_1 < (a0.size : Int)) = true := decide_eq_true c5
       clear c5
       replace H := Option.bind_eq_some_iff.mp H
       obtain ⟨t115, A70, H⟩ := H
       replace H : (if t115 < 0 then ((strings_IndexByte.f (⟨#[48, 49, 50, 51, 52, 53, 54, 55, 56, 57, 65, 66, 67, 68, 69, 70]⟩ : ByteArray) (bt a0 x9_1)).bind fun t116 => (if t116 < 0 then (some (-1)) else (quote_digits.l0 k1 a0 (Go.bits .or .i64 (wrap64 (x3_1 * 16)) t116) (wrap64 (x9_1 + 1))))) else (quote_digits.l0 k1 a0 (Go.bits .or .i64 (wrap64 (x3_1 * 16)) t115) (wrap64 (x9_1 + 1)))) = some r := H
       have A7 := Aside0.mk A70
       clear A70
       by_cases c8 : t115 < 0
       ·rw [if_pos c8] at H
        have c8b0 : decide (t115 < 0) = true := decide_eq_true c8
        clear c8
        replace H := Option.bind_eq_some_iff.mp H
        obtain ⟨t116, A100, H⟩ := H
        replace H : (if t116 < 0 then (some (-1)) else (quote_digits.l0 k1 a0 (Go.bits .or .i64 (wrap64 (x3_1 * 16)) t116) (wrap64 (x9_1 + 1)))) = some r := H
        have A10 := Aside0.mk A100
        clear A100
        by_cases c11 : t116 < 0
        ·rw [if_pos c11] at H
         have c11b0 : decide (t116 < 0) = true := decide_eq_true c11
         clear c11
         obtain rfl := Option.some.inj H
         have p6 : 0 ≤ (x9_1 : Int) := of_decide_eq_true (by first | (with_reducible assumption) | assumption)
         have q6 : x9_1 < (a0.size : Int) := of_decide_eq_true (by first | (with_reducible assumption) | assumption)
         have hx6 := bt_at a0 x9_1
         replace p6 := eq_true p6
         replace q6 := eq_true q6
         go_wp2_with (first | ((with_reducible refine gate_callee (f := 44) rfl ?_); refine goesL_ (some 15) rfl rfl Tryz.func44 (by kernel_rfl) rfl #[.string (⟨#[48, 49, 50, 51, 52, 53, 54, 55, 56, 57, 97, 98, 99, 100, 101, 102]⟩ : ByteArray), .int .u8 (bt a0 x9_1)] rfl (by (try simp only [List.map_toArray, List.map_cons, List.map_nil]); first | done | rfl | (simp only [List.length_drop, List.length_take]; rfl)) ?_; (with_reducible refine (strings_IndexByte.calls (⟨#[48, 49, 50, 51, 52, 53, 54, 55, 56, 57, 97, 98, 99, 100, 101, 102]⟩ : ByteArray) (bt a0 x9_1) t115 _ A7.out).mono ?_); rintro e w' ⟨rfl, ⟨nd, rfl⟩⟩; refine ⟨_, rfl, ?_⟩; have p9 : 0 ≤ (x9_1 : Int) := of_decide_eq_true (by first | (with_reducible assumption) | assumption); have q9 : x9_1 < (a0.size : Int) := of_decide_eq_true (by first | (with_reducible assumption) | assumption); have hx9 := bt_at a0 x9_1; replace p9 := eq_true p9; replace q9 := eq_true q9) | ((with_reducible refine gate_callee (f := 44) rfl ?_); refine goesL_ (some 21) rfl rfl Tryz.func44 (by kernel_rfl) rfl #[.string (⟨#[48, 49, 50, 51, 52, 53, 54, 55, 56, 57, 65, 66, 67, 68, 69, 70]⟩ : ByteArray), .int .u8 (bt a0 x9_1)] rfl (by (try simp only [List.map_toArray, List.map_cons, List.map_nil]); first | done | rfl | (simp only [List.length_drop, List.length_take]; rfl)) ?_; (with_reducible refine (strings_IndexByte.calls (⟨#[48, 49, 50, 51, 52, 53, 54, 55, 56, 57, 65, 66, 67, 68, 69, 70]⟩ : ByteArray) (bt a0 x9_1) t116 _ A10.out).mono ?_); rintro e w' ⟨rfl, ⟨nd, rfl⟩⟩; refine ⟨_, rfl, ?_⟩))
         go_ret
         exact ⟨by first | rfl | (simp; done) | (simp [*]; done), by repeat (first | exact Drawn0.refl _ | apply Drawn0.step)⟩
        ·rw [if_neg c11] at H
         have c11b0 : decide (t116 < 0) = false := decide_eq_false c11
         clear c11
         have H' := Aside0.mk H
         clear H
         have p6 : 0 ≤ (x9_1 : Int) := of_decide_eq_true (by first | (with_reducible assumption) | assumption)
         have q6 : x9_1 < (a0.size : Int) := of_decide_eq_true (by first | (with_reducible assumption) | assumption)
         have hx6 := bt_at a0 x9_1
         replace p6 := eq_true p6
         replace q6 := eq_true q6
         go_wp2_with (first | ((with_reducible refine gate_callee (f := 44) rfl ?_); refine goesL_ (some 15) rfl rfl Tryz.func44 (by kernel_rfl) rfl #[.string (⟨#[48, 49, 50, 51, 52, 53, 54, 55, 56, 57, 97, 98, 99, 100, 101, 102]⟩ : ByteArray), .int .u8 (bt a0 x9_1)] rfl (by (try simp only [List.map_toArray, List.map_cons, List.map_nil]); first | done | rfl | (simp only [List.length_drop, List.length_take]; rfl)) ?_; (with_reducible refine (strings_IndexByte.calls (⟨#[48, 49, 50, 51, 52, 53, 54, 55, 56, 57, 97, 98, 99, 100, 101, 102]⟩ : ByteArray) (bt a0 x9_1) t115 _ A7.out).mono ?_); rintro e w' ⟨rfl, ⟨nd, rfl⟩⟩; refine ⟨_, rfl, ?_⟩; have p9 : 0 ≤ (x9_1 : Int) := of_decide_eq_true (by first | (with_reducible assumption) | assumption); have q9 : x9_1 < (a0.size : Int) := of_decide_eq_true (by first | (with_reducible assumption) | assumption); have hx9 := bt_at a0 x9_1; replace p9 := eq_true p9; replace q9 := eq_true q9) | ((with_reducible refine gate_callee (f := 44) rfl ?_); refine goesL_ (some 21) rfl rfl Tryz.func44 (by kernel_rfl) rfl #[.string (⟨#[48, 49, 50, 51, 52, 53, 54, 55, 56, 57, 65, 66, 67, 68, 69, 70]⟩ : ByteArray), .int .u8 (bt a0 x9_1)] rfl (by (try simp only [List.map_toArray, List.map_cons, List.map_nil]); first | done | rfl | (simp only [List.length_drop, List.length_take]; rfl)) ?_; (with_reducible refine (strings_IndexByte.calls (⟨#[48, 49, 50, 51, 52, 53, 54, 55, 56, 57, 65, 66, 67, 68, 69, 70]⟩ : ByteArray) (bt a0 x9_1) t116 _ A10.out).mono ?_); rintro e w' ⟨rfl, ⟨nd, rfl⟩⟩; refine ⟨_, rfl, ?_⟩))
         go_roundg k1
         case measure => have := HK1.out; omega
         case rel => exact ⟨(Go.bits .or .i64 (wrap64 (x3_1 * 16)) t116), (wrap64 (x9_1 + 1)), (by first | rfl | (simp; done) | (simp [*]; done)), (by first | rfl | (simp; done) | (simp [*]; done)), H', ⟨by have := HK1.out; omega⟩, by repeat (first | exact Drawn0.refl _ | apply Drawn0.step)⟩
       ·rw [if_neg c8] at H
        have c8b0 : decide (t115 < 0) = false := decide_eq_false c8
        clear c8
        have H' := Aside0.mk H
        clear H
        have p6 : 0 ≤ (x9_1 : Int) := of_decide_eq_true (by first | (with_reducible assumption) | assumption)
        have q6 : x9_1 < (a0.size : Int) := of_decide_eq_true (by first | (with_reducible assumption) | assumption)
        have hx6 := bt_at a0 x9_1
        replace p6 := eq_true p6
        replace q6 := eq_true q6
        go_wp2_with (first | ((with_reducible refine gate_callee (f := 44) rfl ?_); refine goesL_ (some 15) rfl rfl Tryz.func44 (by kernel_rfl) rfl #[.string (⟨#[48, 49, 50, 51, 52, 53, 54, 55, 56, 57, 97, 98, 99, 100, 101, 102]⟩ : ByteArray), .int .u8 (bt a0 x9_1)] rfl (by (try simp only [List.map_toArray, List.map_cons, List.map_nil]); first | done | rfl | (simp only [List.length_drop, List.length_take]; rfl)) ?_; (with_reducible refine (strings_IndexByte.calls (⟨#[48, 49, 50, 51, 52, 53, 54, 55, 56, 57, 97, 98, 99, 100, 101, 102]⟩ : ByteArray) (bt a0 x9_1) t115 _ A7.out).mono ?_); rintro e w' ⟨rfl, ⟨nd, rfl⟩⟩; refine ⟨_, rfl, ?_⟩))
        go_roundg k1
        case measure => have := HK1.out; omega
        case rel => exact ⟨(Go.bits .or .i64 (wrap64 (x3_1 * 16)) t115), (wrap64 (x9_1 + 1)), (by first | rfl | (simp; done) | (simp [*]; done)), (by first | rfl | (simp; done) | (simp [*]; done)), H', ⟨by have := HK1.out; omega⟩, by repeat (first | exact Drawn0.refl _ | apply Drawn0.step)⟩
      ·rw [if_neg c5] at H
       exact absurd H (by simp)
     ·rw [if_neg c4] at H
      exact absurd H (by simp)
    ·rw [if_neg c3] at H
     have c3b0 : decide (x9_1 < 4) = false := decide_eq_false c3
     clear c3
     obtain rfl := Option.some.inj H
     go_wp2
     go_ret
     exact ⟨by first | rfl | (simp; done) | (simp [*]; done), by repeat (first | exact Drawn0.refl _ | apply Drawn0.step)⟩
mutual
def quote_numbered.j0 : Nat → ByteArray → Int → Bool → Option (Int × Int)
 | 0, _, _, _ => none
 | k + 1, x0, x4, x13 => if x13 = true then (some (x4, 4)) else (if x4 ≥ 56320 then (quote_numbered.j1 k x0 x4 true) else (if (x0.size : Int) < 6 then (quote_numbered.j1 k x0 x4 true) else (if 4 < (x0.size : Int) then (if (bt x0 4) = 92 then (if 5 < (x0.size : Int) then (quote_numbered.j1 k x0 x4 ((bt x0 5) != 117)) else (none)) else (quote_numbered.j1 k x0 x4 true)) else (none))))
def quote_numbered.j1 : Nat → ByteArray → Int → Bool → Option (Int × Int)
 | 0, _, _, _ => none
 | k + 1, x0, x4, x31 => if x31 = true then (some ((-1), 0)) else (if 6 ≤ (x0.size : Int) then ((quote_digits.f k (x0.extract 6 x0.size)).bind fun t118 => (if t118 < 56320 then (some ((-1), 0)) else (if t118 ≥ 57344 then (some ((-1), 0)) else (some (wrap64 ((wrap64 ((wrap64 (65536 + (wrap64 ((wrap64 (x4 - 55296)) * 1024)))) + t118)) - 56320), 10))))) else (none))
end
def quote_numbered.f (k : Nat) (a0 : ByteArray) : Option (Int × Int) := (quote_digits.f k a0).bind fun t117 => (if t117 < 55296 then (quote_numbered.j0 k a0 t117 true) else (quote_numbered.j0 k a0 t117 (decide (t117 ≥ 57344))))
set_option maxHeartbeats 8000000 in
set_option maxRecDepth 100000 in
theorem quote_numbered.calls (k : Nat) (a0 : ByteArray) (r1 : Int) (r2 : Int) (w : World) (h : quote_numbered.f k a0 = some (r1, r2)) :
  Calls Tryz.prog 93 #[.string a0] w fun e w' => e = .returned (.tuple #[.int .i64 r1, .int .i64 r2]) ∧ Drawn0 w w' := by
 have H : ((quote_digits.f k a0).bind fun t117 => (if t117 < 55296 then (quote_numbered.j0 k a0 t117 true) else (quote_numbered.j0 k a0 t117 (decide (t117 ≥ 57344))))) = some (r1, r2) := h
 clear h
 replace H := Option.bind_eq_some_iff.mp H
 obtain ⟨t117, A20, H⟩ := H
 replace H : (if t117 < 55296 then (quote_numbered.j0 k a0 t117 true) else (quote_numbered.j0 k a0 t117 (decide (t117 ≥ 57344)))) = some (r1, r2) := H
 have A2 := Aside0.mk A20
 clear A20
 have HC3 := Aside0.mk H
 clear H
 go_enter Tryz.func93, Tryz.ntmps93
 go_upto_region 2 with (first | ((with_reducible refine gate_callee (f := 108) rfl ?_); refine goesL_ (some 7) rfl rfl Tryz.func108 (by kernel_rfl) rfl #[.string a0] rfl (by (try simp only [List.map_toArray, List.map_cons, List.map_nil]); first | done | rfl | (simp only [List.length_drop, List.length_take]; rfl)) ?_; (with_reducible refine (quote_digits.calls k a0 t117 _ A2.out).mono ?_); rintro e w' ⟨rfl, ⟨nd, rfl⟩⟩; refine ⟨_, rfl, ?_⟩))
 (try simp only [Act.put, qA, qB, qC])
 go_cut [13] (fun v13 wc => ∃ (kq : Nat) (x13_2 : Bool), v13 = .bool x13_2 ∧ Aside0 (quote_numbered.j0 kq a0 t117 x13_2 = some (r1, r2)) ∧ Aside0 (kq ≤ k) ∧ Drawn0 w wc)
 case first =>
  have H := HC3.out
  clear HC3
  by_cases c4 : t117 < 55296
  ·rw [if_pos c4] at H
   have c4b0 : decide (t117 < 55296) = true := decide_eq_true c4
   clear c4
   (first | rw [c4b0] | (simp only [i64_w, i32_w]; rw [c4b0]) | skip)
   have H' := Aside0.mk H
   clear H
   go_wp2
   go_meet
   case rel => exact ⟨_, (true), (by first | rfl | (simp; done) | (simp [*]; done)), H', ⟨by first | omega | exact Nat.le_refl _⟩, by repeat (first | exact Drawn0.refl _ | apply Drawn0.step)⟩
  ·rw [if_neg c4] at H
   have c4b0 : decide (t117 < 55296) = false := decide_eq_false c4
   clear c4
   (first | rw [c4b0] | (simp only [i64_w, i32_w]; rw [c4b0]) | skip)
   have H' := Aside0.mk H
   clear H
   go_wp2
   go_meet
   case rel => exact ⟨_, (decide (t117 ≥ 57344)), (by first | rfl | (simp; done) | (simp [*]; done)), H', ⟨by first | omega | exact Nat.le_refl _⟩, by repeat (first | exact Drawn0.refl _ | apply Drawn0.step)⟩
 case rest =>
  clear HC3
  try clear c1
  try clear p2
  try clear c4
  try clear c4b0
  obtain ⟨kq, x13_2, rfl, HA, HJ2, ⟨mc2, rfl⟩⟩ := hcut
  cases kq with
  | zero => exact absurd HA.out (by simp [quote_numbered.j0])
  | succ kj2 =>
   have H := HA.out
   clear HA
   simp only [quote_numbered.j0] at H
   by_cases c5 : x13_2 = true
   ·subst c5
    have H1 : (some (t117, 4)) = some (r1, r2) := by rw [if_pos rfl] at H; exact H
    clear H
    have H := H1
    clear H1
    simp only [Option.some.injEq, Prod.mk.injEq] at H
    obtain ⟨rfl, rfl⟩ := H
    go_wp2
    go_ret2
    exact ⟨by first | rfl | (simp; done) | (simp [*]; done), by repeat (first | exact Drawn0.refl _ | apply Drawn0.step)⟩
   ·replace c5 := Bool.eq_false_iff.mpr c5
    subst c5
    have H1 : (if t117 ≥ 56320 then (quote_numbered.j1 kj2 a0 t117 true) else (if (a0.size : Int) < 6 then (quote_numbered.j1 kj2 a0 t117 true) else (if 4 < (a0.size : Int) then (if (bt a0 4) = 92 then (if 5 < (a0.size : Int) then (quote_numbered.j1 kj2 a0 t117 ((bt a0 5) != 117)) else (none)) else (quote_numbered.j1 kj2 a0 t117 true)) else (none)))) = some (r1, r2) := by rw [if_neg (show ¬ (false = true) by decide)] at H; exact H
    clear H
    have H := H1
    clear H1
    have HC6 := Aside0.mk H
    clear H
    go_upto_region 4 with (fail)
    go_cut [31] (fun v31 wc => ∃ (kq : Nat) (x31_5 : Bool), v31 = .bool x31_5 ∧ Aside0 (quote_numbered.j1 kq a0 t117 x31_5 = some (r1, r2)) ∧ Aside0 (kq ≤ kj2) ∧ Drawn0 w wc)
    case first =>
     have H := HC6.out
     clear HC6
     by_cases c7 : t117 ≥ 56320
     ·rw [if_pos c7] at H
      have c7b0 : decide (56320 ≤ t117) = true := decide_eq_true c7
      clear c7
      (first | rw [c7b0] | (simp only [i64_w, i32_w]; rw [c7b0]) | skip)
      have H' := Aside0.mk H
      clear H
      go_wp2
      go_meet
      case rel => exact ⟨_, (true), (by first | rfl | (simp; done) | (simp [*]; done)), H', ⟨by have := HJ2.out; first | omega | exact Nat.le_refl _⟩, by repeat (first | exact Drawn0.refl _ | apply Drawn0.step)⟩
     ·rw [if_neg c7] at H
      have c7b0 : decide (56320 ≤ t117) = false := decide_eq_false c7
      clear c7
      (first | rw [c7b0] | (simp only [i64_w, i32_w]; rw [c7b0]) | skip)
      by_cases c8 : (a0.size : Int) < 6
      ·rw [if_pos c8] at H
       have c8b0 : decide ((a0.size : Int) < 6) = true := decide_eq_true c8
       have c8b1 : decide (a0.size < 6) = true := decide_eq_true (by omega)
       clear c8
       have H' := Aside0.mk H
       clear H
       go_wp2
       go_meet
       case rel => exact ⟨_, (true), (by first | rfl | (simp; done) | (simp [*]; done)), H', ⟨by have := HJ2.out; first | omega | exact Nat.le_refl _⟩, by repeat (first | exact Drawn0.refl _ | apply Drawn0.step)⟩
      ·rw [if_neg c8] at H
       have c8b0 : decide ((a0.size : Int) < 6) = false := decide_eq_false c8
       have c8b1 : decide (a0.size < 6) = false := decide_eq_false (by omega)
       clear c8
       by_cases c9 : 4 < (a0.size : Int)
       ·rw [if_pos c9] at H
        have c9b0 : decide (4 < (a0.size : Int)) = true := decide_eq_true c9
        have c9b1 : decide (4 < a0.size) = true := decide_eq_true (by omega)
        clear c9
        by_cases c11 : (bt a0 4) = 92
        ·rw [if_pos c11] at H
         have c11b0 : ((bt a0 4) == 92) = true := beq_iff_eq.mpr c11
         have c11b1 : ((bt a0 4) != 92) = false := bne_eq_false_iff_eq.mpr c11
         clear c11
         by_cases c12 : 5 < (a0.size : Int)
         ·rw [if_pos c12] at H
          have c12b0 : decide (5 < (a0.size : Int)) = true := decide_eq_true c12
          have c12b1 : decide (5 < a0.size) = true := decide_eq_true (by omega)
          clear c12
          have H' := Aside0.mk H
          clear H
          have p10 : 0 ≤ (4 : Int) := (by omega)
          have q10 : 4 < a0.size := (by have : (4 : Int) < (a0.size : Int) := of_decide_eq_true (by first | (with_reducible assumption) | assumption); omega)
          have hx10 : ∀ h : 4 < a0.size, ((a0[4]'h).toNat : Int) = bt a0 4 := bt_at a0 4
          clear p10
          have qi10 : (4 < (a0.size : Int)) = True := eq_true (of_decide_eq_true (by first | (with_reducible assumption) | assumption))
          replace q10 := eq_true q10
          have p13 : 0 ≤ (5 : Int) := (by omega)
          have q13 : 5 < a0.size := (by have : (5 : Int) < (a0.size : Int) := of_decide_eq_true (by first | (with_reducible assumption) | assumption); omega)
          have hx13 : ∀ h : 5 < a0.size, ((a0[5]'h).toNat : Int) = bt a0 5 := bt_at a0 5
          clear p13
          have qi13 : (5 < (a0.size : Int)) = True := eq_true (of_decide_eq_true (by first | (with_reducible assumption) | assumption))
          replace q13 := eq_true q13
          go_wp2
          go_meet
          case rel => exact ⟨_, (((bt a0 5) != 117)), (by first | rfl | (simp; done) | (simp [*]; done)), H', ⟨by have := HJ2.out; first | omega | exact Nat.le_refl _⟩, by repeat (first | exact Drawn0.refl _ | apply Drawn0.step)⟩
         ·rw [if_neg c12] at H
          exact absurd H (by simp)
        ·rw [if_neg c11] at H
         have c11b0 : ((bt a0 4) == 92) = false := beq_eq_false_iff_ne.mpr c11
         have c11b1 : ((bt a0 4) != 92) = true := bne_iff_ne.mpr c11
         have H' := Aside0.mk H
         clear H
         have p10 : 0 ≤ (4 : Int) := (by omega)
         have q10 : 4 < a0.size := (by have : (4 : Int) < (a0.size : Int) := of_decide_eq_true (by first | (with_reducible assumption) | assumption); omega)
         have hx10 : ∀ h : 4 < a0.size, ((a0[4]'h).toNat : Int) = bt a0 4 := bt_at a0 4
         clear p10
         have qi10 : (4 < (a0.size : Int)) = True := eq_true (of_decide_eq_true (by first | (with_reducible assumption) | assumption))
         replace q10 := eq_true q10
         go_wp2
         go_meet
         case rel => exact ⟨_, (true), (by first | rfl | (simp; done) | (simp [*]; done)), H', ⟨by have := HJ2.out; first | omega | exact Nat.le_refl _⟩, by repeat (first | exact Drawn0.refl _ | apply Drawn0.step)⟩
       ·rw [if_neg c9] at H
        exact absurd H (by simp)
    case rest =>
     clear HC6
     try clear c1
     try clear p1
     try clear q1
     try clear hx1
     try clear qi1
     try clear c2
     try clear p2
     try clear c4
     try clear c4b0
     try clear c5
     try clear c7
     try clear c7b0
     try clear c8
     try clear c8b0
     try clear c8b1
     try clear c9
     try clear c9b0
     try clear c9b1
     try clear c10
     try clear p10
     try clear q10
     try clear hx10
     try clear qi10
     try clear c11
     try clear c11b0
     try clear c11b1
     try clear c12
     try clear c12b0
     try clear c12b1
     try clear p13
     try clear q13
     try clear hx13
     try clear qi13
     try clear p10
     try clear p13
     try clear p2
     try clear q10
     try clear q13
     obtain ⟨kq, x31_5, rfl, HA, HJ5, ⟨mc5, rfl⟩⟩ := hcut
     cases kq with
     | zero => exact absurd HA.out (by simp [quote_numbered.j1])
     | succ kj5 =>
      have H := HA.out
      clear HA
      simp only [quote_numbered.j1] at H
      by_cases c14 : x31_5 = true
      ·subst c14
       have H1 : (some ((-1), 0)) = some (r1, r2) := by rw [if_pos rfl] at H; exact H
       clear H
       have H := H1
       clear H1
       simp only [Option.some.injEq, Prod.mk.injEq] at H
       obtain ⟨rfl, rfl⟩ := H
       go_wp2
       go_ret2
       exact ⟨by first | rfl | (simp; done) | (simp [*]; done), by repeat (first | exact Drawn0.refl _ | apply Drawn0.step)⟩
      ·replace c14 := Bool.eq_false_iff.mpr c14
       subst c14
       have H1 : (if 6 ≤ (a0.size : Int) then ((quote_digits.f kj5 (a0.extract 6 a0.size)).bind fun t118 => (if t118 < 56320 then (some ((-1), 0)) else (if t118 ≥ 57344 then (some ((-1), 0)) else (some (wrap64 ((wrap64 ((wrap64 (65536 + (wrap64 ((wrap64 (t117 - 55296)) * 1024)))) + t118)) - 56320), 10))))) else (none)) = some (r1, r2) := by rw [if_neg (show ¬ (false = true) by decide)] at H; exact H
       clear H
       have H := H1
       clear H1
       by_cases c15 : 6 ≤ (a0.size : Int)
       ·rw [if_pos c15] at H
        have c15b0 := eq_true c15
        have c15b1 : decide (6 ≤ (a0.size : Int)) = true := decide_eq_true c15
        clear c15
        replace H := Option.bind_eq_some_iff.mp H
        obtain ⟨t118, A160, H⟩ := H
        replace H : (if t118 < 56320 then (some ((-1), 0)) else (if t118 ≥ 57344 then (some ((-1), 0)) else (some (wrap64 ((wrap64 ((wrap64 (65536 + (wrap64 ((wrap64 (t117 - 55296)) * 1024)))) + t118)) - 56320), 10)))) = some (r1, r2) := H
        have A16 := Aside0.mk A160
        clear A160
        by_cases c17 : t118 < 56320
        ·rw [if_pos c17] at H
         have c17b0 : decide (t118 < 56320) = true := decide_eq_true c17
         clear c17
         simp only [Option.some.injEq, Prod.mk.injEq] at H
         obtain ⟨rfl, rfl⟩ := H
         go_wp2_with (first | ((with_reducible refine gate_callee (f := 108) rfl ?_); refine goesL_ (some 34) rfl rfl Tryz.func108 (by kernel_rfl) rfl #[.string (a0.extract 6 a0.size)] rfl (by (try simp only [List.map_toArray, List.map_cons, List.map_nil]); first | done | rfl | (simp only [List.length_drop, List.length_take]; rfl)) ?_; (with_reducible refine (quote_digits.calls kj5 (a0.extract 6 a0.size) t118 _ A16.out).mono ?_); rintro e w' ⟨rfl, ⟨nd, rfl⟩⟩; refine ⟨_, rfl, ?_⟩))
         go_ret2
         exact ⟨by first | rfl | (simp; done) | (simp [*]; done), by repeat (first | exact Drawn0.refl _ | apply Drawn0.step)⟩
        ·rw [if_neg c17] at H
         have c17b0 : decide (t118 < 56320) = false := decide_eq_false c17
         clear c17
         by_cases c18 : t118 ≥ 57344
         ·rw [if_pos c18] at H
          have c18b0 : decide (57344 ≤ t118) = true := decide_eq_true c18
          clear c18
          simp only [Option.some.injEq, Prod.mk.injEq] at H
          obtain ⟨rfl, rfl⟩ := H
          go_wp2_with (first | ((with_reducible refine gate_callee (f := 108) rfl ?_); refine goesL_ (some 34) rfl rfl Tryz.func108 (by kernel_rfl) rfl #[.string (a0.extract 6 a0.size)] rfl (by (try simp only [List.map_toArray, List.map_cons, List.map_nil]); first | done | rfl | (simp only [List.length_drop, List.length_take]; rfl)) ?_; (with_reducible refine (quote_digits.calls kj5 (a0.extract 6 a0.size) t118 _ A16.out).mono ?_); rintro e w' ⟨rfl, ⟨nd, rfl⟩⟩; refine ⟨_, rfl, ?_⟩))
          go_ret2
          exact ⟨by first | rfl | (simp; done) | (simp [*]; done), by repeat (first | exact Drawn0.refl _ | apply Drawn0.step)⟩
         ·rw [if_neg c18] at H
          have c18b0 : decide (57344 ≤ t118) = false := decide_eq_false c18
          clear c18
          simp only [Option.some.injEq, Prod.mk.injEq] at H
          obtain ⟨rfl, rfl⟩ := H
          go_wp2_with (first | ((with_reducible refine gate_callee (f := 108) rfl ?_); refine goesL_ (some 34) rfl rfl Tryz.func108 (by kernel_rfl) rfl #[.string (a0.extract 6 a0.size)] rfl (by (try simp only [List.map_toArray, List.map_cons, List.map_nil]); first | done | rfl | (simp only [List.length_drop, List.length_take]; rfl)) ?_; (with_reducible refine (quote_digits.calls kj5 (a0.extract 6 a0.size) t118 _ A16.out).mono ?_); rintro e w' ⟨rfl, ⟨nd, rfl⟩⟩; refine ⟨_, rfl, ?_⟩))
          go_ret2
          exact ⟨by first | rfl | (simp; done) | (simp [*]; done), by repeat (first | exact Drawn0.refl _ | apply Drawn0.step)⟩
       ·rw [if_neg c15] at H
        exact absurd H (by simp)
end Go.Proofs.YthhmmaihbjhhgaaGreatDoor.Q1
namespace Go.Proofs.YthhmmaihbjhhgaaGreatDoor.Q1
open Go.Proofs.YthhmmaihbjhhgaaGreatDoor.Giv Go.Proofs.YthhmmaihbjhhgaaGreatDoor.U1 Go.RowKit Go.Proofs.YthhmmaihbjhhgaaGreatDoorW.PrintWords Go.Proofs.YthhmmaihbjhhgaaGreatDoorW.PrintLast Go.Proofs.YthhmmaihbjhhgaaGreatDoorW.PrintMore
attribute [local go_sem] max2_int min2_int max_two min_two max_three min_three max_four min_four
set_option linter.unusedVariables false
set_option linter.unusedSimpArgs false
def quote_escape.j0 : Nat → ByteArray → Int → Bool → Option (ByteArray × Int × Int)
 | 0, _, _, _ => none
 | k + 1, x0, x24, x25 => if x25 = true then (if 1 ≤ 2 then (if 2 ≤ (x0.size : Int) then (some (x0.extract 1 2, 2, 0)) else (none)) else (none)) else (if x24 = 117 then (if 2 ≤ (x0.size : Int) then ((quote_numbered.f k (x0.extract 2 x0.size)).bind fun bt120 => ((utf_Put.f k bt120.1).bind fun bt122 => (if bt122.2 = true then (some (bt122.1, wrap64 (2 + bt120.2), 0)) else (some ((⟨#[]⟩ : ByteArray), 0, 73))))) else (none)) else (some ((⟨#[]⟩ : ByteArray), 0, 73)))
def quote_escape.f (k : Nat) (a0 : ByteArray) : Option (ByteArray × Int × Int) := if (a0.size : Int) < 2 then (some ((⟨#[]⟩ : ByteArray), 0, 73)) else (if 1 < (a0.size : Int) then ((strings_IndexByte.f (⟨#[98, 116, 110, 102, 114]⟩ : ByteArray) (bt a0 1)).bind fun t119 => (if t119 ≥ 0 then (if 0 ≤ t119 then (if t119 ≤ (wrap64 (t119 + 1)) then (if (wrap64 (t119 + 1)) ≤ 5 then (some ((⟨#[8, 9, 10, 12, 13]⟩ : ByteArray).extract (t119 : Int).toNat ((wrap64 (t119 + 1)) : Int).toNat, 2, 0)) else (none)) else (none)) else (none)) else (if (bt a0 1) = 34 then (quote_escape.j0 k a0 (bt a0 1) ((bt a0 1) == 34)) else (if (bt a0 1) = 92 then (quote_escape.j0 k a0 (bt a0 1) ((bt a0 1) == 92)) else (quote_escape.j0 k a0 (bt a0 1) ((bt a0 1) == 47)))))) else (none))
set_option maxHeartbeats 8000000 in
set_option maxRecDepth 100000 in
theorem quote_escape.calls (k : Nat) (a0 : ByteArray) (r1 : ByteArray) (r2 : Int) (r3 : Int) (w : World) (h : quote_escape.f k a0 = some (r1, r2, r3)) :
  Calls Tryz.prog 82 #[.string a0] w fun e w' => e = .returned (.tuple #[.string r1, .int .i64 r2, .int .i64 r3]) ∧ Drawn0 w w' := by
 have H : (if (a0.size : Int) < 2 then (some ((⟨#[]⟩ : ByteArray), 0, 73)) else (if 1 < (a0.size : Int) then ((strings_IndexByte.f (⟨#[98, 116, 110, 102, 114]⟩ : ByteArray) (bt a0 1)).bind fun t119 => (if t119 ≥ 0 then (if 0 ≤ t119 then (if t119 ≤ (wrap64 (t119 + 1)) then (if (wrap64 (t119 + 1)) ≤ 5 then (some ((⟨#[8, 9, 10, 12, 13]⟩ : ByteArray).extract (t119 : Int).toNat ((wrap64 (t119 + 1)) : Int).toNat, 2, 0)) else (none)) else (none)) else (none)) else (if (bt a0 1) = 34 then (quote_escape.j0 k a0 (bt a0 1) ((bt a0 1) == 34)) else (if (bt a0 1) = 92 then (quote_escape.j0 k a0 (bt a0 1) ((bt a0 1) == 92)) else (quote_escape.j0 k a0 (bt a0 1) ((bt a0 1) == 47)))))) else (none))) = some (r1, r2, r3) := h
 clear h
 by_cases c2 : (a0.size : Int) < 2
 ·rw [if_pos c2] at H
  have c2b0 : decide ((a0.size : Int) < 2) = true := decide_eq_true c2
  have c2b1 : decide (a0.size < 2) = true := decide_eq_true (by omega)
  clear c2
  simp only [Option.some.injEq, Prod.mk.injEq] at H
  obtain ⟨rfl, rfl, rfl⟩ := H
  go_enter Tryz.func82, Tryz.ntmps82
  go_wp2
  go_ret3
  exact ⟨by first | rfl | (simp; done) | (simp [*]; done), by repeat (first | exact Drawn0.refl _ | apply Drawn0.step)⟩
 ·rw [if_neg c2] at H
  have c2b0 : decide ((a0.size : Int) < 2) = false := decide_eq_false c2
  have c2b1 : decide (a0.size < 2) = false := decide_eq_false (by omega)
  clear c2
  by_cases c3 : 1 < (a0.size : Int)
  ·rw [if_pos c3] at H
   have c3b0 : decide (1 < (a0.size : Int)) = true := decide_eq_true c3
   have c3b1 : decide (1 < a0.size) = true := decide_eq_true (by omega)
   clear c3
   replace H := Option.bind_eq_some_iff.mp H
   obtain ⟨t119, A50, H⟩ := H
   replace H : (if t119 ≥ 0 then (if 0 ≤ t119 then (if t119 ≤ (wrap64 (t119 + 1)) then (if (wrap64 (t119 + 1)) ≤ 5 then (some ((⟨#[8, 9, 10, 12, 13]⟩ : ByteArray).extract (t119 : Int).toNat ((wrap64 (t119 + 1)) : Int).toNat, 2, 0)) else (none)) else (none)) else (none)) else (if (bt a0 1) = 34 then (quote_escape.j0 k a0 (bt a0 1) ((bt a0 1) == 34)) else (if (bt a0 1) = 92 then (quote_escape.j0 k a0 (bt a0 1) ((bt a0 1) == 92)) else (quote_escape.j0 k a0 (bt a0 1) ((bt a0 1) == 47))))) = some (r1, r2, r3) := H
   have A5 := Aside0.mk A50
   clear A50
   by_cases c6 : t119 ≥ 0
   ·rw [if_pos c6] at H
    have c6b0 : decide (0 ≤ t119) = true := decide_eq_true c6
    clear c6
    by_cases c7 : 0 ≤ t119
    ·rw [if_pos c7] at H
     have c7b0 := eq_true c7
     have c7b1 : decide (0 ≤ t119) = true := decide_eq_true c7
     clear c7
     by_cases c8 : t119 ≤ (wrap64 (t119 + 1))
     ·rw [if_pos c8] at H
      have c8b0 := eq_true c8
      have c8b1 : decide (t119 ≤ (wrap64 (t119 + 1))) = true := decide_eq_true c8
      by_cases c9 : (wrap64 (t119 + 1)) ≤ 5
      ·rw [if_pos c9] at H
       have c9b0 := eq_true c9
       have c9b1 : decide ((wrap64 (t119 + 1)) ≤ 5) = true := decide_eq_true c9
       simp only [Option.some.injEq, Prod.mk.injEq] at H
       obtain ⟨rfl, rfl, rfl⟩ := H
       have p4 : 0 ≤ (1 : Int) := (by omega)
       have q4 : 1 < a0.size := (by have : (1 : Int) < (a0.size : Int) := of_decide_eq_true (by first | (with_reducible assumption) | assumption); omega)
       have hx4 : ∀ h : 1 < a0.size, ((a0[1]'h).toNat : Int) = bt a0 1 := bt_at a0 1
       clear p4
       have qi4 : (1 < (a0.size : Int)) = True := eq_true (of_decide_eq_true (by first | (with_reducible assumption) | assumption))
       replace q4 := eq_true q4
       go_enter Tryz.func82, Tryz.ntmps82
       go_wp2_with (first | ((with_reducible refine gate_callee (f := 44) rfl ?_); refine goesL_ (some 17) rfl rfl Tryz.func44 (by kernel_rfl) rfl #[.string (⟨#[98, 116, 110, 102, 114]⟩ : ByteArray), .int .u8 (bt a0 1)] rfl (by (try simp only [List.map_toArray, List.map_cons, List.map_nil]); first | done | rfl | (simp only [List.length_drop, List.length_take]; rfl)) ?_; (with_reducible refine (strings_IndexByte.calls (⟨#[98, 116, 110, 102, 114]⟩ : ByteArray) (bt a0 1) t119 _ A5.out).mono ?_); rintro e w' ⟨rfl, ⟨nd, rfl⟩⟩; refine ⟨_, rfl, ?_⟩))
       go_ret3
       exact ⟨by first | rfl | (simp; done) | (simp [*]; done), by repeat (first | exact Drawn0.refl _ | apply Drawn0.step)⟩
      ·rw [if_neg c9] at H
       exact absurd H (by simp)
     ·rw [if_neg c8] at H
      exact absurd H (by simp)
    ·rw [if_neg c7] at H
     exact absurd H (by simp)
   ·rw [if_neg c6] at H
    have c6b0 : decide (0 ≤ t119) = false := decide_eq_false c6
    clear c6
    have HC10 := Aside0.mk H
    clear H
    have p4 : 0 ≤ (1 : Int) := (by omega)
    have q4 : 1 < a0.size := (by have : (1 : Int) < (a0.size : Int) := of_decide_eq_true (by first | (with_reducible assumption) | assumption); omega)
    have hx4 : ∀ h : 1 < a0.size, ((a0[1]'h).toNat : Int) = bt a0 1 := bt_at a0 1
    clear p4
    have qi4 : (1 < (a0.size : Int)) = True := eq_true (of_decide_eq_true (by first | (with_reducible assumption) | assumption))
    replace q4 := eq_true q4
    go_enter Tryz.func82, Tryz.ntmps82
    go_upto_if 25 with (first | ((with_reducible refine gate_callee (f := 44) rfl ?_); refine goesL_ (some 17) rfl rfl Tryz.func44 (by kernel_rfl) rfl #[.string (⟨#[98, 116, 110, 102, 114]⟩ : ByteArray), .int .u8 (bt a0 1)] rfl (by (try simp only [List.map_toArray, List.map_cons, List.map_nil]); first | done | rfl | (simp only [List.length_drop, List.length_take]; rfl)) ?_; (with_reducible refine (strings_IndexByte.calls (⟨#[98, 116, 110, 102, 114]⟩ : ByteArray) (bt a0 1) t119 _ A5.out).mono ?_); rintro e w' ⟨rfl, ⟨nd, rfl⟩⟩; refine ⟨_, rfl, ?_⟩))
    (try simp only [Act.put, qA, qB, qC])
    go_cut [25] (fun v25 wc => ∃ (kq : Nat) (x25_9 : Bool), v25 = .bool x25_9 ∧ Aside0 (quote_escape.j0 kq a0 (bt a0 1) x25_9 = some (r1, r2, r3)) ∧ Aside0 (kq ≤ k) ∧ Drawn0 w wc)
    case first =>
     have H := HC10.out
     clear HC10
     by_cases c11 : (bt a0 1) = 34
     ·rw [if_pos c11] at H
      have c11b0 : ((bt a0 1) == 34) = true := beq_iff_eq.mpr c11
      have c11b1 : ((bt a0 1) != 34) = false := bne_eq_false_iff_eq.mpr c11
      clear c11
      (first | rw [c11b0] | (simp only [i64_w, i32_w]; rw [c11b0]) | skip)
      have H' := Aside0.mk H
      clear H
      go_wp2
      go_meet
      case rel => exact ⟨_, (((bt a0 1) == 34)), (by first | rfl | (simp; done) | (simp [*]; done)), H', ⟨by first | omega | exact Nat.le_refl _⟩, by repeat (first | exact Drawn0.refl _ | apply Drawn0.step)⟩
     ·rw [if_neg c11] at H
      have c11b0 : ((bt a0 1) == 34) = false := beq_eq_false_iff_ne.mpr c11
      have c11b1 : ((bt a0 1) != 34) = true := bne_iff_ne.mpr c11
      (first | rw [c11b0] | (simp only [i64_w, i32_w]; rw [c11b0]) | skip)
      by_cases c12 : (bt a0 1) = 92
      ·rw [if_pos c12] at H
       have c12b0 : ((bt a0 1) == 92) = true := beq_iff_eq.mpr c12
       have c12b1 : ((bt a0 1) != 92) = false := bne_eq_false_iff_eq.mpr c12
       clear c12
       have H' := Aside0.mk H
       clear H
       go_wp2
       go_meet
       case rel => exact ⟨_, (((bt a0 1) == 92)), (by first | rfl | (simp; done) | (simp [*]; done)), H', ⟨by first | omega | exact Nat.le_refl _⟩, by repeat (first | exact Drawn0.refl _ | apply Drawn0.step)⟩
      ·rw [if_neg c12] at H
       have c12b0 : ((bt a0 1) == 92) = false := beq_eq_false_iff_ne.mpr c12
       have c12b1 : ((bt a0 1) != 92) = true := bne_iff_ne.mpr c12
       have H' := Aside0.mk H
       clear H
       go_wp2
       go_meet
       case rel => exact ⟨_, (((bt a0 1) == 47)), (by first | rfl | (simp; done) | (simp [*]; done)), H', ⟨by first | omega | exact Nat.le_refl _⟩, by repeat (first | exact Drawn0.refl _ | apply Drawn0.step)⟩
    case rest =>
     clear HC10
     try clear c1
     try clear c2
     try clear c2b0
     try clear c2b1
     try clear p2
     try clear c3
     try clear c3b0
     try clear c3b1
     try clear p4
     try clear q4
     try clear hx4
     try clear qi4
     try clear c6
     try clear c6b0
     try clear p6
     try clear c7
     try clear c7b0
     try clear c7b1
     try clear c8
     try clear c8b0
     try clear c8b1
     try clear c9
     try clear c9b0
     try clear c9b1
     try clear c11
     try clear c11b0
     try clear c11b1
     try clear c12
     try clear c12b0
     try clear c12b1
     try clear p4
     try clear q4
     obtain ⟨kq, x25_9, rfl, HA, HJ9, ⟨mc9, rfl⟩⟩ := hcut
     cases kq with
     | zero => exact absurd HA.out (by simp [quote_escape.j0])
     | succ kj9 =>
      have H := HA.out
      clear HA
      simp only [quote_escape.j0] at H
      by_cases c13 : x25_9 = true
      ·subst c13
       have H1 : (if 1 ≤ 2 then (if 2 ≤ (a0.size : Int) then (some (a0.extract 1 2, 2, 0)) else (none)) else (none)) = some (r1, r2, r3) := by rw [if_pos rfl] at H; exact H
       clear H
       have H := H1
       clear H1
       by_cases c14 : 1 ≤ 2
       ·rw [if_pos c14] at H
        have c14b0 := eq_true c14
        have c14b1 : decide (1 ≤ 2) = true := decide_eq_true c14
        clear c14
        by_cases c15 : 2 ≤ (a0.size : Int)
        ·rw [if_pos c15] at H
         have c15b0 := eq_true c15
         have c15b1 : decide (2 ≤ (a0.size : Int)) = true := decide_eq_true c15
         clear c15
         simp only [Option.some.injEq, Prod.mk.injEq] at H
         obtain ⟨rfl, rfl, rfl⟩ := H
         go_wp2
         go_ret3
         exact ⟨by first | rfl | (simp; done) | (simp [*]; done), by repeat (first | exact Drawn0.refl _ | apply Drawn0.step)⟩
        ·rw [if_neg c15] at H
         exact absurd H (by simp)
       ·rw [if_neg c14] at H
        exact absurd H (by simp)
      ·replace c13 := Bool.eq_false_iff.mpr c13
       subst c13
       have H1 : (if (bt a0 1) = 117 then (if 2 ≤ (a0.size : Int) then ((quote_numbered.f kj9 (a0.extract 2 a0.size)).bind fun bt120 => ((utf_Put.f kj9 bt120.1).bind fun bt122 => (if bt122.2 = true then (some (bt122.1, wrap64 (2 + bt120.2), 0)) else (some ((⟨#[]⟩ : ByteArray), 0, 73))))) else (none)) else (some ((⟨#[]⟩ : ByteArray), 0, 73))) = some (r1, r2, r3) := by rw [if_neg (show ¬ (false = true) by decide)] at H; exact H
       clear H
       have H := H1
       clear H1
       by_cases c16 : (bt a0 1) = 117
       ·rw [if_pos c16] at H
        have c16b0 : ((bt a0 1) == 117) = true := beq_iff_eq.mpr c16
        have c16b1 : ((bt a0 1) != 117) = false := bne_eq_false_iff_eq.mpr c16
        clear c16
        by_cases c17 : 2 ≤ (a0.size : Int)
        ·rw [if_pos c17] at H
         have c17b0 := eq_true c17
         have c17b1 : decide (2 ≤ (a0.size : Int)) = true := decide_eq_true c17
         clear c17
         replace H := Option.bind_eq_some_iff.mp H
         obtain ⟨⟨t120, t121⟩, A180, H⟩ := H
         replace H : ((utf_Put.f kj9 t120).bind fun bt122 => (if bt122.2 = true then (some (bt122.1, wrap64 (2 + t121), 0)) else (some ((⟨#[]⟩ : ByteArray), 0, 73)))) = some (r1, r2, r3) := H
         have A18 := Aside0.mk A180
         clear A180
         replace H := Option.bind_eq_some_iff.mp H
         obtain ⟨⟨t122, t123⟩, A190, H⟩ := H
         replace H : (if t123 = true then (some (t122, wrap64 (2 + t121), 0)) else (some ((⟨#[]⟩ : ByteArray), 0, 73))) = some (r1, r2, r3) := H
         have A19 := Aside0.mk A190
         clear A190
         by_cases c20 : t123 = true
         ·subst c20
          have H1 : (some (t122, wrap64 (2 + t121), 0)) = some (r1, r2, r3) := by rw [if_pos rfl] at H; exact H
          clear H
          have H := H1
          clear H1
          simp only [Option.some.injEq, Prod.mk.injEq] at H
          obtain ⟨rfl, rfl, rfl⟩ := H
          go_wp2_with (first | ((with_reducible refine gate_callee (f := 93) rfl ?_); refine goesL_ (some 36) rfl rfl Tryz.func93 (by kernel_rfl) rfl #[.string (a0.extract 2 a0.size)] rfl (by (try simp only [List.map_toArray, List.map_cons, List.map_nil]); first | done | rfl | (simp only [List.length_drop, List.length_take]; rfl)) ?_; (with_reducible refine (quote_numbered.calls kj9 (a0.extract 2 a0.size) t120 t121 _ A18.out).mono ?_); rintro e w' ⟨rfl, ⟨nd, rfl⟩⟩; refine ⟨_, rfl, ?_⟩) | ((with_reducible refine gate_callee (f := 94) rfl ?_); refine goesL_ (some 41) rfl rfl Tryz.func94 (by kernel_rfl) rfl #[.int .i64 t120] rfl (by (try simp only [List.map_toArray, List.map_cons, List.map_nil]); first | done | rfl | (simp only [List.length_drop, List.length_take]; rfl)) ?_; (with_reducible refine (utf_Put.calls kj9 t120 t122 true _ A19.out).mono ?_); rintro e w' ⟨rfl, ⟨nd, rfl⟩⟩; refine ⟨_, rfl, ?_⟩))
          go_ret3
          exact ⟨by first | rfl | (simp; done) | (simp [*]; done), by repeat (first | exact Drawn0.refl _ | apply Drawn0.step)⟩
         ·replace c20 := Bool.eq_false_iff.mpr c20
          subst c20
          have H1 : (some ((⟨#[]⟩ : ByteArray), 0, 73)) = some (r1, r2, r3) := by rw [if_neg (show ¬ (false = true) by decide)] at H; exact H
          clear H
          have H := H1
          clear H1
          simp only [Option.some.injEq, Prod.mk.injEq] at H
          obtain ⟨rfl, rfl, rfl⟩ := H
          go_wp2_with (first | ((with_reducible refine gate_callee (f := 93) rfl ?_); refine goesL_ (some 36) rfl rfl Tryz.func93 (by kernel_rfl) rfl #[.string (a0.extract 2 a0.size)] rfl (by (try simp only [List.map_toArray, List.map_cons, List.map_nil]); first | done | rfl | (simp only [List.length_drop, List.length_take]; rfl)) ?_; (with_reducible refine (quote_numbered.calls kj9 (a0.extract 2 a0.size) t120 t121 _ A18.out).mono ?_); rintro e w' ⟨rfl, ⟨nd, rfl⟩⟩; refine ⟨_, rfl, ?_⟩) | ((with_reducible refine gate_callee (f := 94) rfl ?_); refine goesL_ (some 41) rfl rfl Tryz.func94 (by kernel_rfl) rfl #[.int .i64 t120] rfl (by (try simp only [List.map_toArray, List.map_cons, List.map_nil]); first | done | rfl | (simp only [List.length_drop, List.length_take]; rfl)) ?_; (with_reducible refine (utf_Put.calls kj9 t120 t122 false _ A19.out).mono ?_); rintro e w' ⟨rfl, ⟨nd, rfl⟩⟩; refine ⟨_, rfl, ?_⟩))
          go_ret3
          exact ⟨by first | rfl | (simp; done) | (simp [*]; done), by repeat (first | exact Drawn0.refl _ | apply Drawn0.step)⟩
        ·rw [if_neg c17] at H
         exact absurd H (by simp)
       ·rw [if_neg c16] at H
        have c16b0 : ((bt a0 1) == 117) = false := beq_eq_false_iff_ne.mpr c16
        have c16b1 : ((bt a0 1) != 117) = true := bne_iff_ne.mpr c16
        simp only [Option.some.injEq, Prod.mk.injEq] at H
        obtain ⟨rfl, rfl, rfl⟩ := H
        go_wp2
        go_ret3
        exact ⟨by first | rfl | (simp; done) | (simp [*]; done), by repeat (first | exact Drawn0.refl _ | apply Drawn0.step)⟩
  ·rw [if_neg c3] at H
   exact absurd H (by simp)
def quote_plain.f (a0 : ByteArray) : Option (ByteArray × Int × Int) := (utf_Take.f a0).bind fun bt124 => (if bt124.2.2 = true then (if 0 ≤ bt124.2.1 then (if bt124.2.1 ≤ (a0.size : Int) then (some (a0.extract 0 (bt124.2.1 : Int).toNat, bt124.2.1, 0)) else (none)) else (none)) else (some ((⟨#[]⟩ : ByteArray), 0, 74)))
set_option maxHeartbeats 8000000 in
set_option maxRecDepth 100000 in
theorem quote_plain.calls (a0 : ByteArray) (r1 : ByteArray) (r2 : Int) (r3 : Int) (w : World) (h : quote_plain.f a0 = some (r1, r2, r3)) (TB_ : Tabs w := by first | assumption | (refine Tabs.step (by assumption) ?_; repeat (first | exact Aside0.out (by assumption) | apply below_alloc | apply pw_below_drewN | apply below_drew1 | exact Below.refl _ _))) :
  Calls Tryz.prog 83 #[.string a0] w fun e w' => e = .returned (.tuple #[.string r1, .int .i64 r2, .int .i64 r3]) ∧ Below w.heap.size w w' := by
 have HB := Aside0.mk (Below.refl w.heap.size w)
 have H : ((utf_Take.f a0).bind fun bt124 => (if bt124.2.2 = true then (if 0 ≤ bt124.2.1 then (if bt124.2.1 ≤ (a0.size : Int) then (some (a0.extract 0 (bt124.2.1 : Int).toNat, bt124.2.1, 0)) else (none)) else (none)) else (some ((⟨#[]⟩ : ByteArray), 0, 74)))) = some (r1, r2, r3) := h
 clear h
 replace H := Option.bind_eq_some_iff.mp H
 obtain ⟨⟨t124, t125, t126⟩, A20, H⟩ := H
 replace H : (if t126 = true then (if 0 ≤ t125 then (if t125 ≤ (a0.size : Int) then (some (a0.extract 0 (t125 : Int).toNat, t125, 0)) else (none)) else (none)) else (some ((⟨#[]⟩ : ByteArray), 0, 74))) = some (r1, r2, r3) := H
 have A2 := Aside0.mk A20
 clear A20
 by_cases c3 : t126 = true
 ·subst c3
  have H1 : (if 0 ≤ t125 then (if t125 ≤ (a0.size : Int) then (some (a0.extract 0 (t125 : Int).toNat, t125, 0)) else (none)) else (none)) = some (r1, r2, r3) := by rw [if_pos rfl] at H; exact H
  clear H
  have H := H1
  clear H1
  by_cases c4 : 0 ≤ t125
  ·rw [if_pos c4] at H
   have c4b0 := eq_true c4
   have c4b1 : decide (0 ≤ t125) = true := decide_eq_true c4
   clear c4
   by_cases c5 : t125 ≤ (a0.size : Int)
   ·rw [if_pos c5] at H
    have c5b0 := eq_true c5
    have c5b1 : decide (t125 ≤ (a0.size : Int)) = true := decide_eq_true c5
    clear c5
    simp only [Option.some.injEq, Prod.mk.injEq] at H
    obtain ⟨rfl, rfl, rfl⟩ := H
    go_enter Tryz.func83, Tryz.ntmps83
    go_wp2_with (first | ((with_reducible refine gate_callee (f := 95) rfl ?_); refine goesL_ (some 10) rfl rfl Tryz.func95 (by kernel_rfl) rfl #[.string a0] rfl (by (try simp only [List.map_toArray, List.map_cons, List.map_nil]); first | done | rfl | (simp only [List.length_drop, List.length_take]; rfl)) ?_; (with_reducible refine (utf_Take.calls a0 t124 t125 true _ A2.out).mono ?_); rintro e w6 ⟨rfl, hb⟩; refine ⟨_, rfl, ?_⟩; have n0_ := Aside0.mk (below_step (by repeat (first | (with_reducible first | exact HB.out | apply below_alloc | apply pw_below_drewN | apply below_drew1) | exact HB.out)) hb); clear HB; have HB := n0_; clear n0_; (try clear hb); (try clear hb2); (try clear hk); (try clear hi)))
    go_ret3
    exact ⟨by first | rfl | (simp [errW_none, errW_some] <;> rfl) | (simp [*, errW_none, errW_some] <;> rfl), by repeat (first | (with_reducible first | exact HB.out | apply below_alloc | apply pw_below_drewN | apply below_drew1) | exact HB.out)⟩
   ·rw [if_neg c5] at H
    exact absurd H (by simp)
  ·rw [if_neg c4] at H
   exact absurd H (by simp)
 ·replace c3 := Bool.eq_false_iff.mpr c3
  subst c3
  have H1 : (some ((⟨#[]⟩ : ByteArray), 0, 74)) = some (r1, r2, r3) := by rw [if_neg (show ¬ (false = true) by decide)] at H; exact H
  clear H
  have H := H1
  clear H1
  simp only [Option.some.injEq, Prod.mk.injEq] at H
  obtain ⟨rfl, rfl, rfl⟩ := H
  go_enter Tryz.func83, Tryz.ntmps83
  go_wp2_with (first | ((with_reducible refine gate_callee (f := 95) rfl ?_); refine goesL_ (some 10) rfl rfl Tryz.func95 (by kernel_rfl) rfl #[.string a0] rfl (by (try simp only [List.map_toArray, List.map_cons, List.map_nil]); first | done | rfl | (simp only [List.length_drop, List.length_take]; rfl)) ?_; (with_reducible refine (utf_Take.calls a0 t124 t125 false _ A2.out).mono ?_); rintro e w7 ⟨rfl, hb⟩; refine ⟨_, rfl, ?_⟩; have n0_ := Aside0.mk (below_step (by repeat (first | (with_reducible first | exact HB.out | apply below_alloc | apply pw_below_drewN | apply below_drew1) | exact HB.out)) hb); clear HB; have HB := n0_; clear n0_; (try clear hb); (try clear hb2); (try clear hk); (try clear hi)))
  go_ret3
  exact ⟨by first | rfl | (simp [errW_none, errW_some] <;> rfl) | (simp [*, errW_none, errW_some] <;> rfl), by repeat (first | (with_reducible first | exact HB.out | apply below_alloc | apply pw_below_drewN | apply below_drew1) | exact HB.out)⟩
def cracknelref05_Valid.f (k : Nat) (a0 : ByteArray) : Option (Bool) := (cracknelref05_Runes.f k a0).bind fun bt127 => (some bt127.2)
set_option maxHeartbeats 8000000 in
set_option maxRecDepth 100000 in
theorem cracknelref05_Valid.calls (k : Nat) (a0 : ByteArray) (r : Bool) (w : World) (h : cracknelref05_Valid.f k a0 = some r) :
  Calls Tryz.prog 45 #[.string a0] w fun e w' => e = .returned (.bool r) ∧ Below w.heap.size w w' := by
 have HB := Aside0.mk (Below.refl w.heap.size w)
 have H : ((cracknelref05_Runes.f k a0).bind fun bt127 => (some bt127.2)) = some r := h
 clear h
 replace H := Option.bind_eq_some_iff.mp H
 obtain ⟨⟨t127, t128⟩, A20, H⟩ := H
 replace H : (some t128) = some r := H
 have A2 := Aside0.mk A20
 clear A20
 obtain rfl := Option.some.inj H
 go_enter Tryz.func45, Tryz.ntmps45
 go_wp2_with (first | ((with_reducible refine gate_callee (f := 66) rfl ?_); refine goesL_ (some 7) rfl rfl Tryz.func66 (by kernel_rfl) rfl #[.string a0] rfl (by (try simp only [List.map_toArray, List.map_cons, List.map_nil]); first | done | rfl | (simp only [List.length_drop, List.length_take]; rfl)) ?_; (with_reducible refine (cracknelref05_Runes.calls k a0 t127 t128 _ A2.out).mono ?_); rintro e w3 ⟨v129, rfl, ho0, hb⟩; refine ⟨_, rfl, ?_⟩; have n0_ := Aside0.mk (Kd.R_lower ho0 (below_size (by repeat (first | (with_reducible first | exact HB.out | apply below_alloc | apply pw_below_drewN | apply below_drew1) | exact HB.out)))); have n1_ := Aside0.mk (below_step (by repeat (first | (with_reducible first | exact HB.out | apply below_alloc | apply pw_below_drewN | apply below_drew1) | exact HB.out)) hb); clear HB; have HO130 := n0_; have HB := n1_; clear n0_ n1_; (try clear hb); (try clear hb2); (try clear hk); (try clear hi); (try clear ho0)))
 go_ret
 exact ⟨by first | rfl | (simp [errW_none, errW_some] <;> rfl) | (simp [*, errW_none, errW_some] <;> rfl), by repeat (first | (with_reducible first | exact HB.out | apply below_alloc | apply pw_below_drewN | apply below_drew1) | exact HB.out)⟩
def cracknelref07_short.j0 : Nat → Int → Int → Bool → Option (Int)
 | 0, _, _, _ => none
 | k + 1, x0, x3, x4 => if x4 = true then (some x0) else (if x3 = 8 then (some 98) else (if x3 = 9 then (some 116) else (if x3 = 10 then (some 110) else (if x3 = 12 then (some 102) else (if x3 = 13 then (some 114) else (some 0))))))
def cracknelref07_short.f (k : Nat) (a0 : Int) : Option (Int) := if a0 = 34 then (cracknelref07_short.j0 k a0 a0 (a0 == 34)) else (cracknelref07_short.j0 k a0 a0 (a0 == 92))
set_option maxHeartbeats 8000000 in
set_option maxRecDepth 100000 in
theorem cracknelref07_short.calls (k : Nat) (a0 : Int) (r : Int) (w : World) (h : cracknelref07_short.f k a0 = some r) :
  Calls Tryz.prog 58 #[.int .u8 a0] w fun e w' => e = .returned (.int .u8 r) ∧ Drawn0 w w' := by
 have H : (if a0 = 34 then (cracknelref07_short.j0 k a0 a0 (a0 == 34)) else (cracknelref07_short.j0 k a0 a0 (a0 == 92))) = some r := h
 clear h
 have HC2 := Aside0.mk H
 clear H
 go_enter Tryz.func58, Tryz.ntmps58
 go_upto_if 4 with (fail)
 go_cut [4] (fun v4 wc => ∃ (kq : Nat) (x4_1 : Bool), v4 = .bool x4_1 ∧ Aside0 (cracknelref07_short.j0 kq a0 a0 x4_1 = some r) ∧ Aside0 (kq ≤ k) ∧ Drawn0 w wc)
 case first =>
  have H := HC2.out
  clear HC2
  by_cases c3 : a0 = 34
  ·rw [if_pos c3] at H
   have c3b0 : (a0 == 34) = true := beq_iff_eq.mpr c3
   have c3b1 : (a0 != 34) = false := bne_eq_false_iff_eq.mpr c3
   clear c3
   (first | rw [c3b0] | (simp only [i64_w, i32_w]; rw [c3b0]) | skip)
   have H' := Aside0.mk H
   clear H
   go_wp2
   go_meet
   case rel => exact ⟨_, ((a0 == 34)), (by first | rfl | (simp; done) | (simp [*]; done)), H', ⟨by first | omega | exact Nat.le_refl _⟩, by repeat (first | exact Drawn0.refl _ | apply Drawn0.step)⟩
  ·rw [if_neg c3] at H
   have c3b0 : (a0 == 34) = false := beq_eq_false_iff_ne.mpr c3
   have c3b1 : (a0 != 34) = true := bne_iff_ne.mpr c3
   (first | rw [c3b0] | (simp only [i64_w, i32_w]; rw [c3b0]) | skip)
   have H' := Aside0.mk H
   clear H
   go_wp2
   go_meet
   case rel => exact ⟨_, ((a0 == 92)), (by first | rfl | (simp; done) | (simp [*]; done)), H', ⟨by first | omega | exact Nat.le_refl _⟩, by repeat (first | exact Drawn0.refl _ | apply Drawn0.step)⟩
 case rest =>
  clear HC2
  try clear p2
  try clear c3
  try clear c3b0
  try clear c3b1
  obtain ⟨kq, x4_1, rfl, HA, HJ1, ⟨mc1, rfl⟩⟩ := hcut
  cases kq with
  | zero => exact absurd HA.out (by simp [cracknelref07_short.j0])
  | succ kj1 =>
   have H := HA.out
   clear HA
   simp only [cracknelref07_short.j0] at H
   by_cases c4 : x4_1 = true
   ·subst c4
    have H1 : (some a0) = some r := by rw [if_pos rfl] at H; exact H
    clear H
    have H := H1
    clear H1
    obtain rfl := Option.some.inj H
    go_wp2
    go_ret
    exact ⟨by first | rfl | (simp; done) | (simp [*]; done), by repeat (first | exact Drawn0.refl _ | apply Drawn0.step)⟩
   ·replace c4 := Bool.eq_false_iff.mpr c4
    subst c4
    have H1 : (if a0 = 8 then (some 98) else (if a0 = 9 then (some 116) else (if a0 = 10 then (some 110) else (if a0 = 12 then (some 102) else (if a0 = 13 then (some 114) else (some 0)))))) = some r := by rw [if_neg (show ¬ (false = true) by decide)] at H; exact H
    clear H
    have H := H1
    clear H1
    by_cases c5 : a0 = 8
    ·rw [if_pos c5] at H
     have c5b0 : (a0 == 8) = true := beq_iff_eq.mpr c5
     have c5b1 : (a0 != 8) = false := bne_eq_false_iff_eq.mpr c5
     clear c5
     obtain rfl := Option.some.inj H
     go_wp2
     go_ret
     exact ⟨by first | rfl | (simp; done) | (simp [*]; done), by repeat (first | exact Drawn0.refl _ | apply Drawn0.step)⟩
    ·rw [if_neg c5] at H
     have c5b0 : (a0 == 8) = false := beq_eq_false_iff_ne.mpr c5
     have c5b1 : (a0 != 8) = true := bne_iff_ne.mpr c5
     by_cases c6 : a0 = 9
     ·rw [if_pos c6] at H
      have c6b0 : (a0 == 9) = true := beq_iff_eq.mpr c6
      have c6b1 : (a0 != 9) = false := bne_eq_false_iff_eq.mpr c6
      clear c6
      obtain rfl := Option.some.inj H
      go_wp2
      go_ret
      exact ⟨by first | rfl | (simp; done) | (simp [*]; done), by repeat (first | exact Drawn0.refl _ | apply Drawn0.step)⟩
     ·rw [if_neg c6] at H
      have c6b0 : (a0 == 9) = false := beq_eq_false_iff_ne.mpr c6
      have c6b1 : (a0 != 9) = true := bne_iff_ne.mpr c6
      by_cases c7 : a0 = 10
      ·rw [if_pos c7] at H
       have c7b0 : (a0 == 10) = true := beq_iff_eq.mpr c7
       have c7b1 : (a0 != 10) = false := bne_eq_false_iff_eq.mpr c7
       clear c7
       obtain rfl := Option.some.inj H
       go_wp2
       go_ret
       exact ⟨by first | rfl | (simp; done) | (simp [*]; done), by repeat (first | exact Drawn0.refl _ | apply Drawn0.step)⟩
      ·rw [if_neg c7] at H
       have c7b0 : (a0 == 10) = false := beq_eq_false_iff_ne.mpr c7
       have c7b1 : (a0 != 10) = true := bne_iff_ne.mpr c7
       by_cases c8 : a0 = 12
       ·rw [if_pos c8] at H
        have c8b0 : (a0 == 12) = true := beq_iff_eq.mpr c8
        have c8b1 : (a0 != 12) = false := bne_eq_false_iff_eq.mpr c8
        clear c8
        obtain rfl := Option.some.inj H
        go_wp2
        go_ret
        exact ⟨by first | rfl | (simp; done) | (simp [*]; done), by repeat (first | exact Drawn0.refl _ | apply Drawn0.step)⟩
       ·rw [if_neg c8] at H
        have c8b0 : (a0 == 12) = false := beq_eq_false_iff_ne.mpr c8
        have c8b1 : (a0 != 12) = true := bne_iff_ne.mpr c8
        by_cases c9 : a0 = 13
        ·rw [if_pos c9] at H
         have c9b0 : (a0 == 13) = true := beq_iff_eq.mpr c9
         have c9b1 : (a0 != 13) = false := bne_eq_false_iff_eq.mpr c9
         clear c9
         obtain rfl := Option.some.inj H
         go_wp2
         go_ret
         exact ⟨by first | rfl | (simp; done) | (simp [*]; done), by repeat (first | exact Drawn0.refl _ | apply Drawn0.step)⟩
        ·rw [if_neg c9] at H
         have c9b0 : (a0 == 13) = false := beq_eq_false_iff_ne.mpr c9
         have c9b1 : (a0 != 13) = true := bne_iff_ne.mpr c9
         obtain rfl := Option.some.inj H
         go_wp2
         go_ret
         exact ⟨by first | rfl | (simp; done) | (simp [*]; done), by repeat (first | exact Drawn0.refl _ | apply Drawn0.step)⟩
def cracknelref07_sign.f (a0 : Int) : Option (Int) := if a0 < 10 then (some ((48 + a0) % 256)) else (some ((87 + a0) % 256))
set_option maxHeartbeats 8000000 in
set_option maxRecDepth 100000 in
theorem cracknelref07_sign.calls (a0 : Int) (r : Int) (w : World) (h : cracknelref07_sign.f a0 = some r) :
  Calls Tryz.prog 59 #[.int .u8 a0] w fun e w' => e = .returned (.int .u8 r) ∧ Drawn0 w w' := by
 have H : (if a0 < 10 then (some ((48 + a0) % 256)) else (some ((87 + a0) % 256))) = some r := h
 clear h
 by_cases c2 : a0 < 10
 ·rw [if_pos c2] at H
  have c2b0 : decide (a0 < 10) = true := decide_eq_true c2
  clear c2
  obtain rfl := Option.some.inj H
  go_enter Tryz.func59, Tryz.ntmps59
  go_wp2
  go_ret
  exact ⟨by first | rfl | (simp; done) | (simp [*]; done), by repeat (first | exact Drawn0.refl _ | apply Drawn0.step)⟩
 ·rw [if_neg c2] at H
  have c2b0 : decide (a0 < 10) = false := decide_eq_false c2
  clear c2
  obtain rfl := Option.some.inj H
  go_enter Tryz.func59, Tryz.ntmps59
  go_wp2
  go_ret
  exact ⟨by first | rfl | (simp; done) | (simp [*]; done), by repeat (first | exact Drawn0.refl _ | apply Drawn0.step)⟩
def cracknelref07_Write.l0 : Nat → ByteArray → List Int → Int → Option (ByteArray × Bool)
 | 0, _, _, _ => none
 | k + 1, x0, x4, x5 => if x5 < (x0.size : Int) then (if 0 ≤ x5 then ((cracknelref07_short.f k (bt x0 x5)).bind fun t138 => (if t138 = 0 then (if (bt x0 x5) < 32 then ((cracknelref07_sign.f ((Int.tdiv (bt x0 x5) 16) % 256)).bind fun t139 => ((cracknelref07_sign.f (Int.tmod (bt x0 x5) 16)).bind fun t140 => ((some (([92, 117, 48, 48, t139, t140] : List Int) : List Int)).bind fun y141 => (if x4.length + y141.length < 140737488355328 then (cracknelref07_Write.l0 k x0 (x4 ++ y141) (wrap64 (x5 + 1))) else (none))))) else (if x4.length < 140737488355328 then (cracknelref07_Write.l0 k x0 (x4 ++ [bt x0 x5]) (wrap64 (x5 + 1))) else (none))) else ((cracknelref07_short.f k (bt x0 x5)).bind fun t150 => ((some (([92, t150] : List Int) : List Int)).bind fun y151 => (if x4.length + y151.length < 140737488355328 then (cracknelref07_Write.l0 k x0 (x4 ++ y151) (wrap64 (x5 + 1))) else (none)))))) else (none)) else (if x4.length < 140737488355328 then (some (strOfNums (x4 ++ [34]), true)) else (none))
def cracknelref07_Write.f (k : Nat) (a0 : ByteArray) : Option (ByteArray × Bool) := (cracknelref05_Valid.f k a0).bind fun t131 => (if t131 = true then (cracknelref07_Write.l0 k a0 (([34] : List Int)) 0) else (some ((⟨#[]⟩ : ByteArray), false)))
set_option maxHeartbeats 8000000 in
set_option maxRecDepth 100000 in
theorem cracknelref07_Write.calls (k : Nat) (a0 : ByteArray) (r1 : ByteArray) (r2 : Bool) (w : World) (h : cracknelref07_Write.f k a0 = some (r1, r2)) :
  Calls Tryz.prog 38 #[.string a0] w fun e w' => e = .returned (.tuple #[.string r1, .bool r2]) ∧ Below w.heap.size w w' := by
 have HB := Aside0.mk (Below.refl w.heap.size w)
 have H : ((cracknelref05_Valid.f k a0).bind fun t131 => (if t131 = true then (cracknelref07_Write.l0 k a0 (([34] : List Int)) 0) else (some ((⟨#[]⟩ : ByteArray), false)))) = some (r1, r2) := h
 clear h
 replace H := Option.bind_eq_some_iff.mp H
 obtain ⟨t131, A20, H⟩ := H
 replace H : (if t131 = true then (cracknelref07_Write.l0 k a0 (([34] : List Int)) 0) else (some ((⟨#[]⟩ : ByteArray), false))) = some (r1, r2) := H
 have A2 := Aside0.mk A20
 clear A20
 by_cases c3 : t131 = true
 ·subst c3
  have H1 : (cracknelref07_Write.l0 k a0 (([34] : List Int)) 0) = some (r1, r2) := by rw [if_pos rfl] at H; exact H
  clear H
  have H := H1
  clear H1
  obtain ⟨y132, hy132⟩ : ∃ y_ : List Int, y_ = (([34] : List Int)) := ⟨_, rfl⟩
  replace H : (cracknelref07_Write.l0 k a0 y132 0) = some (r1, r2) := by first | (rw [hy132]; with_reducible exact H) | (have H2_ := (Option.bind_some _ _).symm.trans H; rw [hy132]; with_reducible exact H2_) | (have H2_ := (Option.bind_some _ _).symm.trans H; with_reducible exact H2_) | with_reducible exact H | (rw [hy132]; exact H) | exact H
  have Ny132 := Aside0.mk hy132
  clear hy132
  have H' := Aside0.mk H
  clear H
  go_enter Tryz.func38, Tryz.ntmps38
  go_wp2_with (first | ((with_reducible refine gate_callee (f := 45) rfl ?_); refine goesL_ (some 8) rfl rfl Tryz.func45 (by kernel_rfl) rfl #[.string a0] rfl (by (try simp only [List.map_toArray, List.map_cons, List.map_nil]); first | done | rfl | (simp only [List.length_drop, List.length_take]; rfl)) ?_; (with_reducible refine (cracknelref05_Valid.calls k a0 true _ A2.out).mono ?_); rintro e w4 ⟨rfl, hb⟩; refine ⟨_, rfl, ?_⟩; have n0_ := Aside0.mk (below_step (by repeat (first | (with_reducible first | exact HB.out | apply below_alloc | apply pw_below_drewN | apply below_drew1) | exact HB.out)) hb); clear HB; have HB := n0_; clear n0_; (try clear hb); (try clear hb2); (try clear hk); (try clear hi)) | ((with_reducible refine gate_dst (N := 10) rfl ?_); refine Kd.R_lit (Kd.int .u8) _ 5 ?hg (N := 10) ?hd (xs := ([34] : List Int)) (inner := [.int .u8 34]) (ok := fun _ => True) (okp := fun _ => True) ?hr ?hp (fun _ hk => hk) trivial (Below.refl _ _) (Nat.le_refl _) (by simp) ?_; (case hd => rfl); (case hg => rfl); (case hr => first | (go_simp; done) | (go_simp; rfl)); (case hp => exact (Reps.one (show Kd.M (Kd.int .u8) _ _ _ 34 [.int .u8 34] from rfl) (Reps.none _ _))); intro v133 w5 ho6 hb hg_ hnew_; clear hg_ hnew_; (first | rw [← Ny132.out] at ho6 | (simp only [Int.reduceToNat] at ho6; rw [← Ny132.out] at ho6)); have n0_ := Aside0.mk (Kd.R_lower ho6 (below_size (by repeat (first | (with_reducible first | exact HB.out | apply below_alloc | apply pw_below_drewN | apply below_drew1) | exact HB.out)))); have n1_ := Aside0.mk (below_step (by repeat (first | (with_reducible first | exact HB.out | apply below_alloc | apply pw_below_drewN | apply below_drew1) | exact HB.out)) hb); clear HB; have HO134 := n0_; have HB := n1_; clear n0_ n1_; clear hb ho6))
  go_loopg [4, 5] k (fun kq v4 v5 w' => ∃ (x4_1 : List Int) (x5_1 : Int), v5 = .int .i64 x5_1 ∧ Aside0 (cracknelref07_Write.l0 kq a0 x4_1 x5_1 = some (r1, r2)) ∧ Aside0 (kq ≤ k) ∧ Aside0 (Kd.R (Kd.int .u8) 5 w' w.heap.size (fun _ => True) v4 x4_1) ∧ Aside0 (Below w.heap.size w w'))
  case atStart => exact ⟨(y132), (0), (by first | rfl | (simp; done) | (simp [*]; done)), H', ⟨Nat.le_refl _⟩, ⟨by (with_reducible repeat (first | apply Kd.R_alloc | apply Kd.R_drewN | apply Kd.R_drew)); exact HO134.out⟩, ⟨by repeat (first | (with_reducible first | exact HB.out | apply below_alloc | apply pw_below_drewN | apply below_drew1) | exact HB.out)⟩⟩
  case round =>
   clear H'
   try clear p2
   try clear c3
   obtain ⟨x4_1, x5_1, rfl, HA, HK1, HO_4, HB⟩ := hrel
   cases gk with
   | zero => exact absurd HA.out (by simp [cracknelref07_Write.l0])
   | succ k1 =>
    have H := HA.out
    clear HA
    simp only [cracknelref07_Write.l0] at H
    by_cases c7 : x5_1 < (a0.size : Int)
    ·rw [if_pos c7] at H
     have c7b0 : decide (x5_1 < (a0.size : Int)) = true := decide_eq_true c7
     clear c7
     by_cases c8 : 0 ≤ x5_1
     ·rw [if_pos c8] at H
      have c8b0 : decide (0 ≤ x5_1) = true := decide_eq_true c8
      clear c8
      replace H := Option.bind_eq_some_iff.mp H
      obtain ⟨t138, A100, H⟩ := H
      replace H : (if t138 = 0 then (if (bt a0 x5_1) < 32 then ((cracknelref07_sign.f ((Int.tdiv (bt a0 x5_1) 16) % 256)).bind fun t139 => ((cracknelref07_sign.f (Int.tmod (bt a0 x5_1) 16)).bind fun t140 => ((some (([92, 117, 48, 48, t139, t140] : List Int) : List Int)).bind fun y141 => (if x4_1.length + y141.length < 140737488355328 then (cracknelref07_Write.l0 k1 a0 (x4_1 ++ y141) (wrap64 (x5_1 + 1))) else (none))))) else (if x4_1.length < 140737488355328 then (cracknelref07_Write.l0 k1 a0 (x4_1 ++ [bt a0 x5_1]) (wrap64 (x5_1 + 1))) else (none))) else ((cracknelref07_short.f k1 (bt a0 x5_1)).bind fun t150 => ((some (([92, t150] : List Int) : List Int)).bind fun y151 => (if x4_1.length + y151.length < 140737488355328 then (cracknelref07_Write.l0 k1 a0 (x4_1 ++ y151) (wrap64 (x5_1 + 1))) else (none))))) = some (r1, r2) := H
      have A10 := Aside0.mk A100
      clear A100
      by_cases c11 : t138 = 0
      ·rw [if_pos c11] at H
       have c11b0 : (t138 == 0) = true := beq_iff_eq.mpr c11
       have c11b1 : (t138 != 0) = false := bne_eq_false_iff_eq.mpr c11
       clear c11
       by_cases c12 : (bt a0 x5_1) < 32
       ·rw [if_pos c12] at H
        have c12b0 : decide ((bt a0 x5_1) < 32) = true := decide_eq_true c12
        clear c12
        replace H := Option.bind_eq_some_iff.mp H
        obtain ⟨t139, A130, H⟩ := H
        replace H : ((cracknelref07_sign.f (Int.tmod (bt a0 x5_1) 16)).bind fun t140 => ((some (([92, 117, 48, 48, t139, t140] : List Int) : List Int)).bind fun y141 => (if x4_1.length + y141.length < 140737488355328 then (cracknelref07_Write.l0 k1 a0 (x4_1 ++ y141) (wrap64 (x5_1 + 1))) else (none)))) = some (r1, r2) := H
        have A13 := Aside0.mk A130
        clear A130
        replace H := Option.bind_eq_some_iff.mp H
        obtain ⟨t140, A140, H⟩ := H
        replace H : ((some (([92, 117, 48, 48, t139, t140] : List Int) : List Int)).bind fun y141 => (if x4_1.length + y141.length < 140737488355328 then (cracknelref07_Write.l0 k1 a0 (x4_1 ++ y141) (wrap64 (x5_1 + 1))) else (none))) = some (r1, r2) := H
        have A14 := Aside0.mk A140
        clear A140
        obtain ⟨y141, hy141⟩ : ∃ y_ : List Int, y_ = (([92, 117, 48, 48, t139, t140] : List Int)) := ⟨_, rfl⟩
        replace H : (if x4_1.length + y141.length < 140737488355328 then (cracknelref07_Write.l0 k1 a0 (x4_1 ++ y141) (wrap64 (x5_1 + 1))) else (none)) = some (r1, r2) := by first | (rw [hy141]; with_reducible exact H) | (have H2_ := (Option.bind_some _ _).symm.trans H; rw [hy141]; with_reducible exact H2_) | (have H2_ := (Option.bind_some _ _).symm.trans H; with_reducible exact H2_) | with_reducible exact H | (rw [hy141]; exact H) | exact H
        have Ny141 := Aside0.mk hy141
        clear hy141
        by_cases c15 : x4_1.length + y141.length < 140737488355328
        ·rw [if_pos c15] at H
         have LMc15 := Aside0.mk c15
         clear c15
         obtain ⟨y144, hy144⟩ : ∃ y_ : List Int, y_ = (x4_1 ++ y141) := ⟨_, rfl⟩
         replace H : (cracknelref07_Write.l0 k1 a0 y144 (wrap64 (x5_1 + 1))) = some (r1, r2) := by first | (rw [hy144]; with_reducible exact H) | (have H2_ := (Option.bind_some _ _).symm.trans H; rw [hy144]; with_reducible exact H2_) | (have H2_ := (Option.bind_some _ _).symm.trans H; with_reducible exact H2_) | with_reducible exact H | (rw [hy144]; exact H) | exact H
         have Ny144 := Aside0.mk hy144
         clear hy144
         have H' := Aside0.mk H
         clear H
         have p9 : 0 ≤ (x5_1 : Int) := of_decide_eq_true (by first | (with_reducible assumption) | assumption)
         have q9 : x5_1 < (a0.size : Int) := of_decide_eq_true (by first | (with_reducible assumption) | assumption)
         have hx9 := bt_at a0 x5_1
         replace p9 := eq_true p9
         replace q9 := eq_true q9
         go_wp2_with (first | ((with_reducible refine gate_callee (f := 58) rfl ?_); refine goesL_ (some 21) rfl rfl Tryz.func58 (by kernel_rfl) rfl #[.int .u8 (bt a0 x5_1)] rfl (by (try simp only [List.map_toArray, List.map_cons, List.map_nil]); first | done | rfl | (simp only [List.length_drop, List.length_take]; rfl)) ?_; (with_reducible refine (cracknelref07_short.calls k1 (bt a0 x5_1) t138 _ A10.out).mono ?_); rintro e w' ⟨rfl, ⟨nd, rfl⟩⟩; refine ⟨_, rfl, ?_⟩) | ((with_reducible refine gate_callee (f := 59) rfl ?_); refine goesL_ (some 33) rfl rfl Tryz.func59 (by kernel_rfl) rfl #[.int .u8 ((Int.tdiv (bt a0 x5_1) 16) % 256)] rfl (by (try simp only [List.map_toArray, List.map_cons, List.map_nil]); first | done | rfl | (simp only [List.length_drop, List.length_take]; rfl)) ?_; (with_reducible refine (cracknelref07_sign.calls ((Int.tdiv (bt a0 x5_1) 16) % 256) t139 _ A13.out).mono ?_); rintro e w' ⟨rfl, ⟨nd, rfl⟩⟩; refine ⟨_, rfl, ?_⟩) | ((with_reducible refine gate_callee (f := 59) rfl ?_); refine goesL_ (some 36) rfl rfl Tryz.func59 (by kernel_rfl) rfl #[.int .u8 (Int.tmod (bt a0 x5_1) 16)] rfl (by (try simp only [List.map_toArray, List.map_cons, List.map_nil]); first | done | rfl | (simp only [List.length_drop, List.length_take]; rfl)) ?_; (with_reducible refine (cracknelref07_sign.calls (Int.tmod (bt a0 x5_1) 16) t140 _ A14.out).mono ?_); rintro e w' ⟨rfl, ⟨nd, rfl⟩⟩; refine ⟨_, rfl, ?_⟩) | ((with_reducible refine gate_dst (N := 37) rfl ?_); refine Kd.R_lit (Kd.int .u8) _ 5 ?hg (N := 37) ?hd (xs := ([92, 117, 48, 48, t139, t140] : List Int)) (inner := [.int .u8 92, .int .u8 117, .int .u8 48, .int .u8 48, .int .u8 t139, .int .u8 t140]) (ok := fun _ => True) (okp := fun _ => True) ?hr ?hp (fun _ hk => hk) trivial (Below.refl _ _) (Nat.le_refl _) (by simp) ?_; (case hd => rfl); (case hg => rfl); (case hr => first | (go_simp; done) | (go_simp; rfl)); (case hp => exact (Reps.one (show Kd.M (Kd.int .u8) _ _ _ 92 [.int .u8 92] from rfl) (Reps.one (show Kd.M (Kd.int .u8) _ _ _ 117 [.int .u8 117] from rfl) (Reps.one (show Kd.M (Kd.int .u8) _ _ _ 48 [.int .u8 48] from rfl) (Reps.one (show Kd.M (Kd.int .u8) _ _ _ 48 [.int .u8 48] from rfl) (Reps.one (show Kd.M (Kd.int .u8) _ _ _ t139 [.int .u8 t139] from rfl) (Reps.one (show Kd.M (Kd.int .u8) _ _ _ t140 [.int .u8 t140] from rfl) (Reps.none _ _)))))))); intro v142 w16 ho17 hb hg_ hnew_; clear hg_ hnew_; (first | rw [← Ny141.out] at ho17 | (simp only [Int.reduceToNat] at ho17; rw [← Ny141.out] at ho17)); have n0_ := Aside0.mk (Kd.R_elder' (by (with_reducible repeat (first | apply Kd.R_alloc | apply Kd.R_drewN | apply Kd.R_drew)); exact HO_4.out) (Kd.R_base ho17) hb); have n1_ := Aside0.mk (Kd.R_lower (Kd.R_new' ho17 (Kd.R_lt (by (with_reducible repeat (first | apply Kd.R_alloc | apply Kd.R_drewN | apply Kd.R_drew)); exact HO_4.out))) (below_size (by repeat (first | (with_reducible first | exact HB.out | apply below_alloc | apply pw_below_drewN | apply below_drew1) | exact HB.out)))); have n2_ := Aside0.mk (below_step (by repeat (first | (with_reducible first | exact HB.out | apply below_alloc | apply pw_below_drewN | apply below_drew1) | exact HB.out)) hb); clear HO_4; clear HB; have HO_4 := n0_; have HO143 := n1_; have HB := n2_; clear n0_ n1_ n2_; clear hb ho17; obtain ⟨Ao19, co19, eo19⟩ := Kd.R_slice HO143.out; subst eo19) | ((with_reducible refine gate_builtin (b := .append) (xs := #[.tmp 30, .tmp 37]) rfl ?_); at_builtin; refine Kd.R_append_rows (Kd.int .u8) (w0 := w) w.heap.size rfl (.tmp 30) (.tmp 37) 43 5 (.int .u8 0) 1 rfl Tryz.underlying43 info5 rfl (by decide) (by omega) u4 x4_1 y141 _ _ _ (fun k_ => some k_ ≠ (.slice Ao19 y141.length co19 : Value).ownBlock) (fun _ => False) rfl rfl ?aO ?aR (fun _ _ h => h) (fun _ h => h.elim) ?aF ?aB ?aS ?aL ?_; (case aR => repeat (first | exact (Kd.R_reads' HO143.out).2.2 | (with_reducible refine Kd.C_alloc ?_ _) | (with_reducible refine Kd.C_drewN ?_ _) | (with_reducible refine Kd.C_drew ?_))); (case aB => exact (by repeat (first | (with_reducible first | exact HB.out | apply below_alloc | apply pw_below_drewN | apply below_drew1) | exact HB.out))); (case aF => exact (fun k_ hk => Kd.fresh' (Kd.R_lt (by (with_reducible repeat (first | apply Kd.R_alloc | apply Kd.R_drewN | apply Kd.R_drew)); exact HO143.out)) k_ hk)); (case aO => exact (by (with_reducible repeat (first | apply Kd.R_alloc | apply Kd.R_drewN | apply Kd.R_drew)); exact Kd.R_mono HO_4.out (fun _ hk => hk.2))); (case aS => exact (below_size (by repeat (first | (with_reducible first | exact HB.out | apply below_alloc | apply pw_below_drewN | apply below_drew1) | exact HB.out)))); (case aL => have := LMc15.out; omega); intro v145 w18 ho hb hg hat; rw [← Ny144.out] at ho; have n0_ := Aside0.mk (Kd.R_after (ok := (fun _ => True)) (by (with_reducible repeat (first | apply Kd.R_alloc | apply Kd.R_drewN | apply Kd.R_drew)); exact HO143.out) hg hat); have n1_ := Aside0.mk (hb); have n2_ := Aside0.mk (ho); clear HO143; clear HB; clear HO_4; have HO143 := n0_; have HB := n1_; have HO146 := n2_; clear n0_ n1_ n2_; clear ho hb hg hat))
         go_roundg k1
         case measure => have := HK1.out; omega
         case rel => exact ⟨(y144), (wrap64 (x5_1 + 1)), (by first | rfl | (simp; done) | (simp [*]; done)), H', ⟨by have := HK1.out; omega⟩, ⟨by (with_reducible repeat (first | apply Kd.R_alloc | apply Kd.R_drewN | apply Kd.R_drew)); exact Kd.R_mono HO146.out (fun _ hk => trivial)⟩, ⟨by repeat (first | (with_reducible first | exact HB.out | apply below_alloc | apply pw_below_drewN | apply below_drew1) | exact HB.out)⟩⟩
        ·rw [if_neg c15] at H
         exact absurd H (by simp)
       ·rw [if_neg c12] at H
        have c12b0 : decide ((bt a0 x5_1) < 32) = false := decide_eq_false c12
        clear c12
        by_cases c20 : x4_1.length < 140737488355328
        ·rw [if_pos c20] at H
         have LMc20 := Aside0.mk c20
         clear c20
         obtain ⟨y147, hy147⟩ : ∃ y_ : List Int, y_ = (x4_1 ++ [bt a0 x5_1]) := ⟨_, rfl⟩
         replace H : (cracknelref07_Write.l0 k1 a0 y147 (wrap64 (x5_1 + 1))) = some (r1, r2) := by first | (rw [hy147]; with_reducible exact H) | (have H2_ := (Option.bind_some _ _).symm.trans H; rw [hy147]; with_reducible exact H2_) | (have H2_ := (Option.bind_some _ _).symm.trans H; with_reducible exact H2_) | with_reducible exact H | (rw [hy147]; exact H) | exact H
         have Ny147 := Aside0.mk hy147
         clear hy147
         have H' := Aside0.mk H
         clear H
         have p9 : 0 ≤ (x5_1 : Int) := of_decide_eq_true (by first | (with_reducible assumption) | assumption)
         have q9 : x5_1 < (a0.size : Int) := of_decide_eq_true (by first | (with_reducible assumption) | assumption)
         have hx9 := bt_at a0 x5_1
         replace p9 := eq_true p9
         replace q9 := eq_true q9
         go_wp2_with (first | ((with_reducible refine gate_callee (f := 58) rfl ?_); refine goesL_ (some 21) rfl rfl Tryz.func58 (by kernel_rfl) rfl #[.int .u8 (bt a0 x5_1)] rfl (by (try simp only [List.map_toArray, List.map_cons, List.map_nil]); first | done | rfl | (simp only [List.length_drop, List.length_take]; rfl)) ?_; (with_reducible refine (cracknelref07_short.calls k1 (bt a0 x5_1) t138 _ A10.out).mono ?_); rintro e w' ⟨rfl, ⟨nd, rfl⟩⟩; refine ⟨_, rfl, ?_⟩) | ((with_reducible refine gate_builtin (b := .append) (xs := #[.tmp 39, .tmp 41]) rfl ?_); at_builtin; refine Kd.R_append (Kd.int .u8) (w0 := w) w.heap.size rfl (.tmp 39) (.tmp 41) 43 5 (.int .u8 0) 1 rfl Tryz.underlying43 info5 rfl (by decide) (by omega) u4 x4_1 (bt a0 x5_1) [.int .u8 (bt a0 x5_1)] (fun _ => True) (fun _ => False) rfl rfl ?aP (fun _ hk => hk.elim) ?aF ?aO ?aB ?aS ?aL ?_; (case aP => exact rfl); (case aB => exact (by repeat (first | (with_reducible first | exact HB.out | apply below_alloc | apply pw_below_drewN | apply below_drew1) | exact HB.out))); (case aF => exact (fun _ _ => trivial)); (case aO => exact (by (with_reducible repeat (first | apply Kd.R_alloc | apply Kd.R_drewN | apply Kd.R_drew)); exact HO_4.out)); (case aS => exact (below_size (by repeat (first | (with_reducible first | exact HB.out | apply below_alloc | apply pw_below_drewN | apply below_drew1) | exact HB.out)))); (case aL => have := LMc20.out; omega); intro v148 w21 ho hb hg hat; rw [← Ny147.out] at ho; have n0_ := Aside0.mk (hb); have n1_ := Aside0.mk (ho); clear HB; clear HO_4; have HB := n0_; have HO149 := n1_; clear n0_ n1_; clear ho hb hg hat))
         go_roundg k1
         case measure => have := HK1.out; omega
         case rel => exact ⟨(y147), (wrap64 (x5_1 + 1)), (by first | rfl | (simp; done) | (simp [*]; done)), H', ⟨by have := HK1.out; omega⟩, ⟨by (with_reducible repeat (first | apply Kd.R_alloc | apply Kd.R_drewN | apply Kd.R_drew)); exact HO149.out⟩, ⟨by repeat (first | (with_reducible first | exact HB.out | apply below_alloc | apply pw_below_drewN | apply below_drew1) | exact HB.out)⟩⟩
        ·rw [if_neg c20] at H
         exact absurd H (by simp)
      ·rw [if_neg c11] at H
       have c11b0 : (t138 == 0) = false := beq_eq_false_iff_ne.mpr c11
       have c11b1 : (t138 != 0) = true := bne_iff_ne.mpr c11
       replace H := Option.bind_eq_some_iff.mp H
       obtain ⟨t150, A220, H⟩ := H
       replace H : ((some (([92, t150] : List Int) : List Int)).bind fun y151 => (if x4_1.length + y151.length < 140737488355328 then (cracknelref07_Write.l0 k1 a0 (x4_1 ++ y151) (wrap64 (x5_1 + 1))) else (none))) = some (r1, r2) := H
       have A22 := Aside0.mk A220
       clear A220
       obtain ⟨y151, hy151⟩ : ∃ y_ : List Int, y_ = (([92, t150] : List Int)) := ⟨_, rfl⟩
       replace H : (if x4_1.length + y151.length < 140737488355328 then (cracknelref07_Write.l0 k1 a0 (x4_1 ++ y151) (wrap64 (x5_1 + 1))) else (none)) = some (r1, r2) := by first | (rw [hy151]; with_reducible exact H) | (have H2_ := (Option.bind_some _ _).symm.trans H; rw [hy151]; with_reducible exact H2_) | (have H2_ := (Option.bind_some _ _).symm.trans H; with_reducible exact H2_) | with_reducible exact H | (rw [hy151]; exact H) | exact H
       have Ny151 := Aside0.mk hy151
       clear hy151
       by_cases c23 : x4_1.length + y151.length < 140737488355328
       ·rw [if_pos c23] at H
        have LMc23 := Aside0.mk c23
        clear c23
        obtain ⟨y154, hy154⟩ : ∃ y_ : List Int, y_ = (x4_1 ++ y151) := ⟨_, rfl⟩
        replace H : (cracknelref07_Write.l0 k1 a0 y154 (wrap64 (x5_1 + 1))) = some (r1, r2) := by first | (rw [hy154]; with_reducible exact H) | (have H2_ := (Option.bind_some _ _).symm.trans H; rw [hy154]; with_reducible exact H2_) | (have H2_ := (Option.bind_some _ _).symm.trans H; with_reducible exact H2_) | with_reducible exact H | (rw [hy154]; exact H) | exact H
        have Ny154 := Aside0.mk hy154
        clear hy154
        have H' := Aside0.mk H
        clear H
        have p9 : 0 ≤ (x5_1 : Int) := of_decide_eq_true (by first | (with_reducible assumption) | assumption)
        have q9 : x5_1 < (a0.size : Int) := of_decide_eq_true (by first | (with_reducible assumption) | assumption)
        have hx9 := bt_at a0 x5_1
        replace p9 := eq_true p9
        replace q9 := eq_true q9
        go_wp2_with (first | ((with_reducible refine gate_callee (f := 58) rfl ?_); refine goesL_ (some 21) rfl rfl Tryz.func58 (by kernel_rfl) rfl #[.int .u8 (bt a0 x5_1)] rfl (by (try simp only [List.map_toArray, List.map_cons, List.map_nil]); first | done | rfl | (simp only [List.length_drop, List.length_take]; rfl)) ?_; (with_reducible refine (cracknelref07_short.calls k1 (bt a0 x5_1) t138 _ A10.out).mono ?_); rintro e w' ⟨rfl, ⟨nd, rfl⟩⟩; refine ⟨_, rfl, ?_⟩) | ((with_reducible refine gate_callee (f := 58) rfl ?_); refine goesL_ (some 25) rfl rfl Tryz.func58 (by kernel_rfl) rfl #[.int .u8 (bt a0 x5_1)] rfl (by (try simp only [List.map_toArray, List.map_cons, List.map_nil]); first | done | rfl | (simp only [List.length_drop, List.length_take]; rfl)) ?_; (with_reducible refine (cracknelref07_short.calls k1 (bt a0 x5_1) t150 _ A22.out).mono ?_); rintro e w' ⟨rfl, ⟨nd, rfl⟩⟩; refine ⟨_, rfl, ?_⟩) | ((with_reducible refine gate_dst (N := 26) rfl ?_); refine Kd.R_lit (Kd.int .u8) _ 5 ?hg (N := 26) ?hd (xs := ([92, t150] : List Int)) (inner := [.int .u8 92, .int .u8 t150]) (ok := fun _ => True) (okp := fun _ => True) ?hr ?hp (fun _ hk => hk) trivial (Below.refl _ _) (Nat.le_refl _) (by simp) ?_; (case hd => rfl); (case hg => rfl); (case hr => first | (go_simp; done) | (go_simp; rfl)); (case hp => exact (Reps.one (show Kd.M (Kd.int .u8) _ _ _ 92 [.int .u8 92] from rfl) (Reps.one (show Kd.M (Kd.int .u8) _ _ _ t150 [.int .u8 t150] from rfl) (Reps.none _ _)))); intro v152 w24 ho25 hb hg_ hnew_; clear hg_ hnew_; (first | rw [← Ny151.out] at ho25 | (simp only [Int.reduceToNat] at ho25; rw [← Ny151.out] at ho25)); have n0_ := Aside0.mk (Kd.R_elder' (by (with_reducible repeat (first | apply Kd.R_alloc | apply Kd.R_drewN | apply Kd.R_drew)); exact HO_4.out) (Kd.R_base ho25) hb); have n1_ := Aside0.mk (Kd.R_lower (Kd.R_new' ho25 (Kd.R_lt (by (with_reducible repeat (first | apply Kd.R_alloc | apply Kd.R_drewN | apply Kd.R_drew)); exact HO_4.out))) (below_size (by repeat (first | (with_reducible first | exact HB.out | apply below_alloc | apply pw_below_drewN | apply below_drew1) | exact HB.out)))); have n2_ := Aside0.mk (below_step (by repeat (first | (with_reducible first | exact HB.out | apply below_alloc | apply pw_below_drewN | apply below_drew1) | exact HB.out)) hb); clear HO_4; clear HB; have HO_4 := n0_; have HO153 := n1_; have HB := n2_; clear n0_ n1_ n2_; clear hb ho25; obtain ⟨Ao27, co27, eo27⟩ := Kd.R_slice HO153.out; subst eo27) | ((with_reducible refine gate_builtin (b := .append) (xs := #[.tmp 23, .tmp 26]) rfl ?_); at_builtin; refine Kd.R_append_rows (Kd.int .u8) (w0 := w) w.heap.size rfl (.tmp 23) (.tmp 26) 43 5 (.int .u8 0) 1 rfl Tryz.underlying43 info5 rfl (by decide) (by omega) u4 x4_1 y151 _ _ _ (fun k_ => some k_ ≠ (.slice Ao27 y151.length co27 : Value).ownBlock) (fun _ => False) rfl rfl ?aO ?aR (fun _ _ h => h) (fun _ h => h.elim) ?aF ?aB ?aS ?aL ?_; (case aR => repeat (first | exact (Kd.R_reads' HO153.out).2.2 | (with_reducible refine Kd.C_alloc ?_ _) | (with_reducible refine Kd.C_drewN ?_ _) | (with_reducible refine Kd.C_drew ?_))); (case aB => exact (by repeat (first | (with_reducible first | exact HB.out | apply below_alloc | apply pw_below_drewN | apply below_drew1) | exact HB.out))); (case aF => exact (fun k_ hk => Kd.fresh' (Kd.R_lt (by (with_reducible repeat (first | apply Kd.R_alloc | apply Kd.R_drewN | apply Kd.R_drew)); exact HO153.out)) k_ hk)); (case aO => exact (by (with_reducible repeat (first | apply Kd.R_alloc | apply Kd.R_drewN | apply Kd.R_drew)); exact Kd.R_mono HO_4.out (fun _ hk => hk.2))); (case aS => exact (below_size (by repeat (first | (with_reducible first | exact HB.out | apply below_alloc | apply pw_below_drewN | apply below_drew1) | exact HB.out)))); (case aL => have := LMc23.out; omega); intro v155 w26 ho hb hg hat; rw [← Ny154.out] at ho; have n0_ := Aside0.mk (Kd.R_after (ok := (fun _ => True)) (by (with_reducible repeat (first | apply Kd.R_alloc | apply Kd.R_drewN | apply Kd.R_drew)); exact HO153.out) hg hat); have n1_ := Aside0.mk (hb); have n2_ := Aside0.mk (ho); clear HO153; clear HB; clear HO_4; have HO153 := n0_; have HB := n1_; have HO156 := n2_; clear n0_ n1_ n2_; clear ho hb hg hat))
        go_roundg k1
        case measure => have := HK1.out; omega
        case rel => exact ⟨(y154), (wrap64 (x5_1 + 1)), (by first | rfl | (simp; done) | (simp [*]; done)), H', ⟨by have := HK1.out; omega⟩, ⟨by (with_reducible repeat (first | apply Kd.R_alloc | apply Kd.R_drewN | apply Kd.R_drew)); exact Kd.R_mono HO156.out (fun _ hk => trivial)⟩, ⟨by repeat (first | (with_reducible first | exact HB.out | apply below_alloc | apply pw_below_drewN | apply below_drew1) | exact HB.out)⟩⟩
       ·rw [if_neg c23] at H
        exact absurd H (by simp)
     ·rw [if_neg c8] at H
      exact absurd H (by simp)
    ·rw [if_neg c7] at H
     have c7b0 : decide (x5_1 < (a0.size : Int)) = false := decide_eq_false c7
     clear c7
     by_cases c28 : x4_1.length < 140737488355328
     ·rw [if_pos c28] at H
      have LMc28 := Aside0.mk c28
      clear c28
      obtain ⟨y135, hy135⟩ : ∃ y_ : List Int, y_ = (x4_1 ++ [34]) := ⟨_, rfl⟩
      replace H : (some (strOfNums y135, true)) = some (r1, r2) := by first | (rw [hy135]; with_reducible exact H) | (have H2_ := (Option.bind_some _ _).symm.trans H; rw [hy135]; with_reducible exact H2_) | (have H2_ := (Option.bind_some _ _).symm.trans H; with_reducible exact H2_) | with_reducible exact H | (rw [hy135]; exact H) | exact H
      have Ny135 := Aside0.mk hy135
      clear hy135
      simp only [Option.some.injEq, Prod.mk.injEq] at H
      obtain ⟨rfl, rfl⟩ := H
      go_wp2_with (first | ((with_reducible refine gate_builtin (b := .append) (xs := #[.tmp 43, .tmp 44]) rfl ?_); at_builtin; refine Kd.R_append (Kd.int .u8) (w0 := w) w.heap.size rfl (.tmp 43) (.tmp 44) 43 5 (.int .u8 0) 1 rfl Tryz.underlying43 info5 rfl (by decide) (by omega) u4 x4_1 34 [.int .u8 34] (fun _ => True) (fun _ => False) rfl rfl ?aP (fun _ hk => hk.elim) ?aF ?aO ?aB ?aS ?aL ?_; (case aP => exact rfl); (case aB => exact (by repeat (first | (with_reducible first | exact HB.out | apply below_alloc | apply pw_below_drewN | apply below_drew1) | exact HB.out))); (case aF => exact (fun _ _ => trivial)); (case aO => exact (by (with_reducible repeat (first | apply Kd.R_alloc | apply Kd.R_drewN | apply Kd.R_drew)); exact HO_4.out)); (case aS => exact (below_size (by repeat (first | (with_reducible first | exact HB.out | apply below_alloc | apply pw_below_drewN | apply below_drew1) | exact HB.out)))); (case aL => have := LMc28.out; omega); intro v136 w29 ho hb hg hat; rw [← Ny135.out] at ho; have n0_ := Aside0.mk (hb); have n1_ := Aside0.mk (ho); clear HB; clear HO_4; have HB := n0_; have HO137 := n1_; clear n0_ n1_; clear ho hb hg hat; have hcv30 := own_string (P := Tryz.prog) Tryz.underlying43 Tryz.underlying5 Tryz.underlying9 (Kd.own_of_R HO137.out)))
      go_ret2
      exact ⟨by first | rfl | (simp [errW_none, errW_some] <;> rfl) | (simp [*, errW_none, errW_some] <;> rfl), by repeat (first | (with_reducible first | exact HB.out | apply below_alloc | apply pw_below_drewN | apply below_drew1) | exact HB.out)⟩
     ·rw [if_neg c28] at H
      exact absurd H (by simp)
 ·replace c3 := Bool.eq_false_iff.mpr c3
  subst c3
  have H1 : (some ((⟨#[]⟩ : ByteArray), false)) = some (r1, r2) := by rw [if_neg (show ¬ (false = true) by decide)] at H; exact H
  clear H
  have H := H1
  clear H1
  simp only [Option.some.injEq, Prod.mk.injEq] at H
  obtain ⟨rfl, rfl⟩ := H
  go_enter Tryz.func38, Tryz.ntmps38
  go_wp2_with (first | ((with_reducible refine gate_callee (f := 45) rfl ?_); refine goesL_ (some 8) rfl rfl Tryz.func45 (by kernel_rfl) rfl #[.string a0] rfl (by (try simp only [List.map_toArray, List.map_cons, List.map_nil]); first | done | rfl | (simp only [List.length_drop, List.length_take]; rfl)) ?_; (with_reducible refine (cracknelref05_Valid.calls k a0 false _ A2.out).mono ?_); rintro e w31 ⟨rfl, hb⟩; refine ⟨_, rfl, ?_⟩; have n0_ := Aside0.mk (below_step (by repeat (first | (with_reducible first | exact HB.out | apply below_alloc | apply pw_below_drewN | apply below_drew1) | exact HB.out)) hb); clear HB; have HB := n0_; clear n0_; (try clear hb); (try clear hb2); (try clear hk); (try clear hi)))
  go_ret2
  exact ⟨by first | rfl | (simp [errW_none, errW_some] <;> rfl) | (simp [*, errW_none, errW_some] <;> rfl), by repeat (first | (with_reducible first | exact HB.out | apply below_alloc | apply pw_below_drewN | apply below_drew1) | exact HB.out)⟩
end Go.Proofs.YthhmmaihbjhhgaaGreatDoor.Q1
namespace Go.Proofs.YthhmmaihbjhhgaaGreatDoor.Giv
open Go.RowKit Go.Proofs.YthhmmaihbjhhgaaGreatDoorW.PrintWords Go.Proofs.YthhmmaihbjhhgaaGreatDoorW.PrintLast Go.Proofs.YthhmmaihbjhhgaaGreatDoorW.PrintMore
open Go.Proofs.YthhmmaihbjhhgaaGreatDoor.U1 Go.Proofs.YthhmmaihbjhhgaaGreatDoor.Q1
def hexN (n : Nat) : UInt8 := (if n < 10 then 48 + n else 87 + n).toUInt8
def pieceN (c : Nat) : List UInt8 :=
 if c = 8 then [92, 98] else if c = 9 then [92, 116] else if c = 10 then [92, 110] else if c = 12 then [92, 102] else if c = 13 then [92, 114]
 else if c = 34 ∨ c = 92 then [92, c.toUInt8] else if c < 32 then [92, 117, 48, 48, hexN (c / 16), hexN (c % 16)] else [c.toUInt8]
theorem pieceN_len (c : Nat) : (pieceN c).length ≤ 6 := by
 unfold pieceN; repeat' split
 all_goals simp
set_option maxRecDepth 100000 in
theorem piece_all : ∀ n : Nat, n < 256 → (quote_piece.f 3 (n : Int)).map (fun s => s.data.toList) = some (pieceN n) := by decide +kernel
theorem piece_f (n : Nat) (h : n < 256) : quote_piece.f 3 (n : Int) = some ⟨(pieceN n).toArray⟩ := by
 have := piece_all n h
 cases hq : quote_piece.f 3 (n : Int) with
 | none => rw [hq] at this; cases this
 | some s =>
  rw [hq] at this
  have e := Option.some.inj this
  congr 1
  cases s; rename_i d; cases d; simp at e; subst e; rfl
def inner : List UInt8 → List UInt8
 | [] => []
 | c :: l => pieceN c.toNat ++ inner l
theorem inner_app : ∀ a b : List UInt8, inner (a ++ b) = inner a ++ inner b
 | [], _ => rfl
 | c :: a, b => by rw [List.cons_append, inner, inner, inner_app a b, List.append_assoc]
theorem inner_len : ∀ a : List UInt8, (inner a).length ≤ 6 * a.length
 | [] => Nat.le_refl _
 | c :: a => by
  have := inner_len a
  have h := pieceN_len c.toNat
  rw [inner, List.length_append, List.length_cons]; omega
def quoted (l : List UInt8) : List UInt8 := 34 :: inner l ++ [34]
def writeS (s : ByteArray) : ByteArray × Bool := if Lib.validD s.data.toList = true then (⟨(quoted s.data.toList).toArray⟩, true) else (⟨#[]⟩, false)
theorem cells_first (l : List UInt8) : Lib.byteCells (34 :: inner (l.take 0)) = [] ++ [Value.int IntKind.u8 34] := by
 rw [List.take_zero]; rfl
theorem cells_last (s : ByteArray) : Lib.byteCells (quoted s.data.toList) = Lib.byteCells (34 :: inner (s.data.toList.take s.size)) ++ [Value.int IntKind.u8 34] := by
 rw [quoted, List.take_of_length_le (by rw [data_length]; exact Nat.le_refl _)]
 unfold Lib.byteCells
 rw [List.map_append]; rfl
theorem piece_g (n : Nat) (h : n < 256) : ∃ P : ByteArray, quote_piece.f 3 (n : Int) = some P ∧ P.size ≤ 6 ∧ P.data.toList = pieceN n := ⟨_, piece_f n h, by
 have := pieceN_len n
 show (pieceN n).toArray.size ≤ 6
 rw [List.size_toArray]; exact this, rfl⟩
theorem cells_step (a : List UInt8) (P : ByteArray) (b : List UInt8) (h : P.data.toList = b) : Lib.byteCells (34 :: a) ++ Lib.byteCells P.data.toList = Lib.byteCells (34 :: (a ++ b)) := by
 rw [h]
 unfold Lib.byteCells
 rw [← List.map_append, List.cons_append]
theorem take_byte (s : ByteArray) (k : Nat) (h : k < s.size) : s.data.toList.take (k + 1) = s.data.toList.take k ++ [(s[k]'h)] := by
 rw [List.take_add_one]
 congr 1
 have hl : k < s.data.toList.length := by rw [data_length]; exact h
 rw [List.getElem?_eq_getElem hl]; rfl
theorem builder_below {B b : Nat} {bs : List Value} {w w' : World} (h : Lib.IsBuilder 45 5 B b bs w) (hb : Below w.heap.size w w') : Lib.IsBuilder 45 5 B b bs w' := by
 have f : ∀ p, Lib.BuilderAt 45 5 B b p bs w → Lib.BuilderAt 45 5 B b p bs w' := by
  rintro p ⟨h0, v, hv, ho, hn⟩
  exact ⟨h0, v, (hb.block b (Array.getElem?_eq_some_iff.1 hv).1).trans hv, pw_own_below ho hb, hn⟩
 rcases h with h | h
 ·exact .inl (f _ h)
 ·exact .inr (f _ h)
set_option maxHeartbeats 4000000 in
set_option maxRecDepth 100000 in
theorem write_yes (s : ByteArray) (w : World) (ht : Tabs w) (hs : 6 * s.size + 2 ≤ 140737488355328) (hv : Lib.validD s.data.toList = true) :
  Calls Tryz.prog 34 #[.string s] w fun e w' => e = .returned (.tuple #[.string ⟨(quoted s.data.toList).toArray⟩, .bool true]) ∧ Below w.heap.size w w' := by
 have HV : Aside0 (utf_Valid.f s = some true) := ⟨by unfold utf_Valid.f utf8_ValidString.f; rw [if_pos (by omega), hv]; rfl⟩
 have HS := Aside0.mk hs
 obtain ⟨R, hR⟩ : ∃ R, quoted s.data.toList = R := ⟨_, rfl⟩
 rw [hR]
 have HR := Aside0.mk hR
 have HT := Aside0.mk ht
 clear hv hR hs ht
 have h0 := hz68
 go_enter Tryz.func34, Tryz.ntmps34
 go_wp2_with (first
  | (go_at_call 30; refine (utf_Valid.calls _ _ _ HV.out HT.out).mono ?_; rintro e w1 ⟨rfl, B1⟩)
  | (go_at_call 17; refine (Tryz.Builder_WriteByte w1.heap.size w1.heap.size [] 34 _ (builder_new w1) (by rw [List.length_nil]; omega) (by simp)).mono ?_; rintro e w2 ⟨rfl, C1, C2⟩))
 clear h0
 obtain ⟨B, hB⟩ : ∃ B, w1.heap.size = B := ⟨_, rfl⟩
 have HW : Aside0 (Below w.heap.size w w2) := ⟨(below_alloc B1 _).trans (C2.mono B1.size)⟩
 have HB0 : Aside0 (B ≤ w2.heap.size) := ⟨by have := C2.size; simp at this; omega⟩
 have HBW : Aside0 (w.heap.size ≤ B) := ⟨by have := B1.size; omega⟩
 have HI : Aside0 (Lib.IsBuilder 45 5 B B (Lib.byteCells (34 :: inner (s.data.toList.take 0))) w2) := ⟨by rw [← hB, cells_first]; exact .inr C1⟩
 rw [hB]
 clear B1 C1 C2 hB
 go_loopw [12] (fun v12 wr => ∃ k : Nat, k ≤ s.size ∧ v12 = .int .i64 k ∧ Lib.IsBuilder 45 5 B B (Lib.byteCells (34 :: inner (s.data.toList.take k))) wr ∧ Below w.heap.size w wr ∧ B ≤ wr.heap.size) (fun v12 _ => s.size - (intOf v12).toNat)
 case atStart => exact ⟨0, by omega, rfl, HI.out, HW.out, HB0.out⟩
 case round =>
  obtain ⟨k, hk, rfl, hbl, hbe, hbz⟩ := hrel
  have HBL := Aside0.mk hbl
  have HBE := Aside0.mk hbe
  have HBZ := Aside0.mk hbz
  clear hbl hbe hbz
  have hlen := inner_len (s.data.toList.take k)
  rw [List.length_take, data_length] at hlen
  have HLN := Aside0.mk hlen
  clear hlen
  by_cases hlt : k < s.size
  ·obtain ⟨c, hc⟩ : ∃ c, (s[k]'hlt) = c := ⟨_, rfl⟩
   obtain ⟨P, hp1, hp2, hp3⟩ := piece_g c.toNat (UInt8.toNat_lt c)
   have HP := Aside0.mk hp1
   have HPL := Aside0.mk hp2
   have HN : Aside0 (Lib.byteCells (34 :: inner (s.data.toList.take k)) ++ Lib.byteCells P.data.toList = Lib.byteCells (34 :: inner (s.data.toList.take (k + 1)))) := ⟨by rw [cells_step _ P _ hp3, take_byte s k hlt, inner_app, hc, inner, inner, List.append_nil]⟩
   clear hp1 hp2 hp3
   have hs1 := HS.out
   have HK : Aside0 ((Lib.byteCells (34 :: inner (s.data.toList.take k))).length + P.size ≤ 140737488355328) := ⟨by
    rw [Lib.byteCells_length, List.length_cons]; have := HPL.out; have := HLN.out; have := HS.out; omega⟩
   go_wp2_with (first
    | (go_at_call 55; refine (quote_piece.calls 3 _ _ _ HP.out).mono ?_; rintro e w3 ⟨rfl, D1⟩; have HZ3 : Aside0 (B ≤ w3.heap.size) := ⟨Nat.le_trans HBZ.out D1.size⟩)
    | (go_at_call 35; refine (Tryz.Builder_WriteString B B (Lib.byteCells (34 :: inner (s.data.toList.take k))) P _ (builder_below HBL.out D1) HK.out HZ3.out).mono ?_; rintro e w4 ⟨rfl, E1, E2⟩))
   go_roundw
   case rel =>
    refine ⟨k + 1, by omega, by go_num, ?_, ?_, Nat.le_trans HZ3.out E2.size⟩
    ·rw [← HN.out]; exact .inr E1
    ·exact (HBE.out.trans (D1.mono HBE.out.size)).trans (E2.mono HBW.out)
   case measure => simp [intOf]; omega
  ·obtain rfl : k = s.size := by omega
   have HL : Aside0 (Lib.byteCells R = Lib.byteCells (34 :: inner (s.data.toList.take s.size)) ++ [Value.int IntKind.u8 34]) := ⟨by
    rw [← HR.out]; exact cells_last s⟩
   go_wp2_with (first
    | (go_at_call 17; refine (Tryz.Builder_WriteByte B B (Lib.byteCells (34 :: inner (s.data.toList.take s.size))) 34 _ HBL.out (by rw [Lib.byteCells_length, List.length_cons]; have := HLN.out; have := HS.out; omega) HBZ.out).mono ?_; rintro e w3 ⟨rfl, E1, E2⟩)
    | (go_at_call 20; refine (Tryz.Builder_String_any B B R _ (by rw [HL.out]; exact .inr E1) (by have := E2.size; have := HBZ.out; simp at *; omega)).mono ?_; rintro e w4 ⟨rfl, F2⟩))
   go_ret2
   exact ⟨rfl, (HBE.out.trans (E2.mono HBW.out)).trans (F2.mono HBW.out)⟩
set_option maxHeartbeats 4000000 in
set_option maxRecDepth 100000 in
theorem write_no (s : ByteArray) (w : World) (ht : Tabs w) (hs : 6 * s.size + 2 ≤ 140737488355328) (hv : Lib.validD s.data.toList = false) :
  Calls Tryz.prog 34 #[.string s] w fun e w' => e = .returned (.tuple #[.string ⟨#[]⟩, .bool false]) ∧ Below w.heap.size w w' := by
 have HV : Aside0 (utf_Valid.f s = some false) := ⟨by unfold utf_Valid.f utf8_ValidString.f; rw [if_pos (by omega), hv]; rfl⟩
 clear hv
 go_enter Tryz.func34, Tryz.ntmps34
 go_wp2_with (first
  | (go_at_call 30; refine (utf_Valid.calls _ _ _ HV.out ht).mono ?_; rintro e w1 ⟨rfl, B1⟩))
 go_ret2
 exact ⟨rfl, B1⟩
def quote_Write.f (s : ByteArray) : Option (ByteArray × Bool) := if 6 * s.size + 2 ≤ 140737488355328 then some (writeS s) else none
theorem quote_Write.calls (a0 : ByteArray) (r1 : ByteArray) (r2 : Bool) (w : World) (h : quote_Write.f a0 = some (r1, r2)) (ht : Tabs w := by first | assumption | (refine Tabs.step (by assumption) ?_; repeat (first | exact Aside0.out (by assumption) | apply below_alloc | apply pw_below_drewN | apply below_drew1 | exact Below.refl _ _))) :
  Calls Tryz.prog 34 #[.string a0] w fun e w' => e = .returned (.tuple #[.string r1, .bool r2]) ∧ Below w.heap.size w w' := by
 unfold quote_Write.f at h
 split at h
 ·rename_i hs
  have h2 := Option.some.inj h
  unfold writeS at h2
  by_cases hv : Lib.validD a0.data.toList = true
  ·rw [if_pos hv] at h2
   cases h2
   exact write_yes a0 w ht hs hv
  ·rw [if_neg hv] at h2
   cases h2
   exact write_no a0 w ht hs (Bool.eq_false_iff.2 hv)
 ·cases h
end Go.Proofs.YthhmmaihbjhhgaaGreatDoor.Giv
namespace Go.Proofs.YthhmmaihbjhhgaaGreatDoor.Giv
open Go.RowKit Go.Proofs.YthhmmaihbjhhgaaGreatDoorW.PrintWords Go.Proofs.YthhmmaihbjhhgaaGreatDoorW.PrintLast Go.Proofs.YthhmmaihbjhhgaaGreatDoorW.PrintMore
open Go.Proofs.YthhmmaihbjhhgaaGreatDoor.U1 Go.Proofs.YthhmmaihbjhhgaaGreatDoor.Q1
theorem hz78 (w : World) : (zeroValue 118).run Tryz.prog w = .ok (.agg #[.nilFunc]) w := by kernel_rfl
set_option maxHeartbeats 4000000 in
set_option maxRecDepth 100000 in
theorem of_slash (w : World) :
  Calls Tryz.prog 73 #[.int .u8 92] w fun e w' => e = .returned (.agg #[.func (.func 82) #[] #[]]) ∧ Below w.heap.size w w' := by
 have h0 := hz78
 go_enter Tryz.func73, Tryz.ntmps73
 go_wp2
 (try simp only [Exit.inBlock, Exit.then])
 refine bodyPost_ret (results_cell_row rfl _ _ w.heap.size 118 #[.func (.func 82) #[] #[]] (0, 0) _ rfl ?_ Tryz.underlying118 rfl (by kernel_rfl)) rfl ⟨rfl, ?_⟩
 ·exact heap_alloc_new _ _
 ·exact below_alloc (Below.refl _ _) _
set_option maxHeartbeats 4000000 in
set_option maxRecDepth 100000 in
theorem of_other (c : Int) (w : World) (hc : c ≠ 92) :
  Calls Tryz.prog 73 #[.int .u8 c] w fun e w' => e = .returned (.agg #[.func (.func 83) #[] #[]]) ∧ Below w.heap.size w w' := by
 have h0 := hz78
 have hb : (c == 92) = false := beq_eq_false_iff_ne.mpr hc
 go_enter Tryz.func73, Tryz.ntmps73
 go_wp2
 (try simp only [Exit.inBlock, Exit.then])
 refine bodyPost_ret (results_cell_row rfl _ _ w.heap.size 118 #[.func (.func 83) #[] #[]] (0, 0) _ rfl ?_ Tryz.underlying118 rfl (by kernel_rfl)) rfl ⟨rfl, ?_⟩
 ·exact heap_alloc_new _ _
 ·exact below_alloc (Below.refl _ _) _
theorem fld78 (f : FuncId) (w : World) : (Instr.field 118 (.agg #[.func (.func f) #[] #[]]) 0).run Tryz.prog w = .ok (.func (.func f) #[] #[]) w := by kernel_rfl
theorem cells_join (o t : ByteArray) : Lib.byteCells (o ++ t).data.toList = Lib.byteCells o.data.toList ++ Lib.byteCells t.data.toList := by
 rw [ByteArray.data_append, Array.toList_append]
 unfold Lib.byteCells
 rw [List.map_append]
def quote_Read.one (k : Nat) (s : ByteArray) (p : Nat) : Option (ByteArray × Int × Int) :=
 if bt s p = 92 then quote_escape.f k (s.extract p s.size) else quote_plain.f (s.extract p s.size)
def quote_Read.l0 : Nat → ByteArray → ByteArray → Nat → Option (ByteArray × Int × Int)
 | 0, _, _, _ => none
 | k + 1, s, o, p => if p = s.size then some (⟨#[]⟩, 0, 71) else if s.size < p then none else if bt s p = 34 then some (o, (p : Int) + 1, 0) else if bt s p < 32 then some (⟨#[]⟩, 0, 72) else
   (quote_Read.one k s p).bind fun r => if r.2.2 = 0 then (if o.size + r.1.size ≤ 140737488355328 then (if 0 ≤ r.2.1 then (if (p : Int) + r.2.1 ≤ s.size then quote_Read.l0 k s (o ++ r.1) (p + r.2.1.toNat) else none) else none) else none) else some (⟨#[]⟩, 0, r.2.2)
def quote_Read.f (k : Nat) (s : ByteArray) : Option (ByteArray × Int × Int) :=
 if s.size ≤ 4611686018427387904 then (if s.size = 0 then some (⟨#[]⟩, 0, 70) else if bt s 0 = 34 then quote_Read.l0 k s ⟨#[]⟩ 1 else some (⟨#[]⟩, 0, 70)) else none
set_option maxHeartbeats 4000000 in
set_option maxRecDepth 100000 in
theorem read_loop (k : Nat) (s : ByteArray) (r1 : ByteArray) (r2 r3 : Int) (w : World) (ht : Tabs w) (hs : s.size ≤ 4611686018427387904) (h0 : s.size ≠ 0) (hq : bt s 0 = 34) (h : quote_Read.l0 k s ⟨#[]⟩ 1 = some (r1, r2, r3)) :
  Calls Tryz.prog 62 #[.string s] w fun e w' => e = .returned (.tuple #[.string r1, .int .i64 r2, .int .i64 r3]) ∧ Below w.heap.size w w' := by
 have HT := Aside0.mk ht
 have HQ := Aside0.mk hq
 have HL := Aside0.mk h
 have NB := Aside0.mk (builder_new w)
 have hz := hz68
 have hE : (s.toList == ([] : List UInt8)) = false := by
  rw [beq_eq_false_iff_ne, Lib.toList_data]
  intro e; apply h0; rw [← data_length, e]; rfl
 have hb : (bt s 0 != 34) = false := bne_eq_false_iff_eq.mpr hq
 have hx : ∀ h : 0 < s.size, ((s[0]'h).toNat : Int) = bt s 0 := bt_at s 0
 have q0 : (0 < s.size) = True := eq_true (by omega)
 have q1 : (0 < (s.size : Int)) = True := eq_true (by omega)
 clear ht h hq
 go_enter Tryz.func62, Tryz.ntmps62
 go_wp2_with fail
 go_step3
 go_wp2_with fail
 go_step3
 go_wp2_with fail
 clear hz hE hb hx q0 q1
 go_loopg [6] k (fun kq v6 wr => ∃ (p : Nat) (o : ByteArray), v6 = .int .i64 p ∧ Aside0 (quote_Read.l0 kq s o p = some (r1, r2, r3)) ∧ Aside0 (Lib.IsBuilder 45 5 w.heap.size w.heap.size (Lib.byteCells o.data.toList) wr) ∧ Aside0 (Below w.heap.size w wr))
 case atStart => exact ⟨1, ⟨#[]⟩, rfl, HL, NB, ⟨below_alloc (Below.refl _ _) _⟩⟩
 case round =>
  obtain ⟨p, o, rfl, HA, HI, HB⟩ := hrel
  cases gk with
  | zero => exact absurd HA.out (by simp [quote_Read.l0])
  | succ k1 =>
   have H := HA.out
   clear HA
   simp only [quote_Read.l0] at H
   by_cases e1 : p = s.size
   ·rw [if_pos e1] at H
    subst e1
    cases H
    have c1 : ((s.size : Int) == (s.size : Int)) = true := beq_self_eq_true _
    go_wp2_with fail
    simp only [Exit.noGoto_ret]
    go_ret3
    exact ⟨rfl, HB.out⟩
   ·rw [if_neg e1] at H
    by_cases e2 : s.size < p
    ·rw [if_pos e2] at H; cases H
    ·rw [if_neg e2] at H
     have hlt : p < s.size := by omega
     have c1 : ((p : Int) == (s.size : Int)) = false := beq_eq_false_iff_ne.mpr (by omega)
     have hx : ∀ h : p < s.size, ((s[p]'h).toNat : Int) = bt s (p : Int) := fun h => bt_at s (p : Int) h
     by_cases e3 : bt s (p : Int) = 34
     ·rw [if_pos e3] at H
      cases H
      have c3 : (bt s (p : Int) == 34) = true := beq_iff_eq.mpr e3
      clear e3
      go_wp2_with (first
       | (go_at_call 20; refine (Tryz.Builder_String_any w.heap.size w.heap.size r1.data.toList _ HI.out HB.out.size).mono ?_; rintro e w4 ⟨rfl, F2⟩))
      simp only [Exit.noGoto_ret]
      go_ret3
      exact ⟨rfl, HB.out.trans F2⟩
     ·rw [if_neg e3] at H
      have c3 : (bt s (p : Int) == 34) = false := beq_eq_false_iff_ne.mpr e3
      by_cases e4 : bt s (p : Int) < 32
      ·rw [if_pos e4] at H
       cases H
       have c4 : decide (bt s (p : Int) < 32) = true := decide_eq_true e4
       clear e3 e4
       go_wp2_with fail
       simp only [Exit.noGoto_ret]
       go_ret3
       exact ⟨rfl, HB.out⟩
      ·rw [if_neg e4] at H
       have c4 : decide (bt s (p : Int) < 32) = false := decide_eq_false e4
       clear e3 e4
       replace H := Option.bind_eq_some_iff.mp H
       obtain ⟨⟨t, n, er⟩, hone, H⟩ := H
       simp only at H
       unfold quote_Read.one at hone
       have q1 : (0 ≤ (p : Int)) = True := eq_true (by omega)
       have q2 : ((p : Int) ≤ (s.size : Int)) = True := eq_true (by omega)
       have HH := Aside0.mk H
       clear H
       by_cases e5 : bt s (p : Int) = 92
       ·rw [if_pos e5] at hone
        rw [e5] at hx c3 c4
        have hfl := fld78 82
        have HO := Aside0.mk hone
        clear hone e5
        go_wp2_with fail
        go_region_held3 (fun w' => Below wr.heap.size wr w')
         (first
          | assumption
          | exact below_drew (Below.refl _ _)
          | exact below_drew (by assumption)
          | exact below_alloc (by assumption) _)
         (first
          | (go_at_call 73; refine (of_slash _).mono ?_; rintro e w' ⟨rfl, hb⟩; have hB2 := below_step ‹Below wr.heap.size wr _› hb)
          | (go_at_call 82; refine (quote_escape.calls k1 _ t n er _ HO.out).mono ?_; rintro e w' ⟨rfl, ⟨nd, rfl⟩⟩; have hB2 := pw_below_drewN ‹Below wr.heap.size wr _› nd))
        have HW : Aside0 (Below wr.heap.size wr (w'.drewN nd)) := ⟨hB2⟩
        clear hB2
        generalize w'.drewN nd = W at HW ⊢
        have H := HH.out
        clear HH HO
        by_cases z : er = 0
        ·subst z
         rw [if_pos rfl] at H
         by_cases z1 : o.size + t.size ≤ 140737488355328
         ·rw [if_pos z1] at H
          by_cases z2 : 0 ≤ n
          ·rw [if_pos z2] at H
           obtain ⟨m, rfl⟩ : ∃ m : Nat, n = m := ⟨n.toNat, by omega⟩
           by_cases z3 : (p : Int) + (m : Int) ≤ s.size
           ·rw [if_pos z3, Int.toNat_natCast] at H
            have H' := Aside0.mk H
            clear H
            have HZ : Aside0 (w.heap.size ≤ W.heap.size) := ⟨Nat.le_trans HB.out.size HW.out.size⟩
            have HL1 : Aside0 ((Lib.byteCells o.data.toList).length + t.size ≤ 140737488355328) := ⟨by rw [Lib.byteCells_length, data_length]; exact z1⟩
            clear z1
            go_wp2_with (first
             | (go_at_call 35; refine (Tryz.Builder_WriteString w.heap.size w.heap.size (Lib.byteCells o.data.toList) t _ (builder_below HI.out HW.out) HL1.out HZ.out).mono ?_; rintro e w4 ⟨rfl, E1, E2⟩))
            go_roundg k1
            case measure => omega
            case rel => exact ⟨p + m, o ++ t, by go_num, H', ⟨by rw [cells_join]; exact .inr E1⟩, ⟨(HB.out.trans (HW.out.mono HB.out.size)).trans E2⟩⟩
           ·rw [if_neg z3] at H; cases H
          ·rw [if_neg z2] at H; cases H
         ·rw [if_neg z1] at H; cases H
        ·rw [if_neg z] at H
         have c9 : (er != 0) = true := bne_iff_ne.mpr z
         cases H
         go_wp2_with fail
         simp only [Exit.noGoto_ret]
         go_ret3
         exact ⟨rfl, HB.out.trans (HW.out.mono HB.out.size)⟩
       ·rw [if_neg e5] at hone
        have H5 := Aside0.mk e5
        have hfl := fld78 83
        have HO := Aside0.mk hone
        clear hone e5
        go_wp2_with fail
        go_region_held3 (fun w' => Below wr.heap.size wr w')
         (first
          | assumption
          | exact below_drew (Below.refl _ _)
          | exact below_drew (by assumption)
          | exact below_alloc (by assumption) _)
         (first
          | (go_at_call 73; refine (of_other _ _ H5.out).mono ?_; rintro e w' ⟨rfl, hb⟩; have hB2 := below_step ‹Below wr.heap.size wr _› hb)
          | (go_at_call 83; refine (quote_plain.calls _ t n er _ HO.out (Tabs.step HT.out (HB.out.trans (Below.mono ‹Below wr.heap.size wr _› HB.out.size)))).mono ?_; rintro e w' ⟨rfl, hb⟩; have hB2 := below_step ‹Below wr.heap.size wr _› hb))
        have HW : Aside0 (Below wr.heap.size wr (w')) := ⟨hB2⟩
        clear hB2
        generalize w' = W at HW ⊢
        have H := HH.out
        clear HH HO
        by_cases z : er = 0
        ·subst z
         rw [if_pos rfl] at H
         by_cases z1 : o.size + t.size ≤ 140737488355328
         ·rw [if_pos z1] at H
          by_cases z2 : 0 ≤ n
          ·rw [if_pos z2] at H
           obtain ⟨m, rfl⟩ : ∃ m : Nat, n = m := ⟨n.toNat, by omega⟩
           by_cases z3 : (p : Int) + (m : Int) ≤ s.size
           ·rw [if_pos z3, Int.toNat_natCast] at H
            have H' := Aside0.mk H
            clear H
            have HZ : Aside0 (w.heap.size ≤ W.heap.size) := ⟨Nat.le_trans HB.out.size HW.out.size⟩
            have HL1 : Aside0 ((Lib.byteCells o.data.toList).length + t.size ≤ 140737488355328) := ⟨by rw [Lib.byteCells_length, data_length]; exact z1⟩
            clear z1
            go_wp2_with (first
             | (go_at_call 35; refine (Tryz.Builder_WriteString w.heap.size w.heap.size (Lib.byteCells o.data.toList) t _ (builder_below HI.out HW.out) HL1.out HZ.out).mono ?_; rintro e w4 ⟨rfl, E1, E2⟩))
            go_roundg k1
            case measure => omega
            case rel => exact ⟨p + m, o ++ t, by go_num, H', ⟨by rw [cells_join]; exact .inr E1⟩, ⟨(HB.out.trans (HW.out.mono HB.out.size)).trans E2⟩⟩
           ·rw [if_neg z3] at H; cases H
          ·rw [if_neg z2] at H; cases H
         ·rw [if_neg z1] at H; cases H
        ·rw [if_neg z] at H
         have c9 : (er != 0) = true := bne_iff_ne.mpr z
         cases H
         go_wp2_with fail
         simp only [Exit.noGoto_ret]
         go_ret3
         exact ⟨rfl, HB.out.trans (HW.out.mono HB.out.size)⟩
set_option maxHeartbeats 4000000 in
set_option maxRecDepth 100000 in
theorem read_none (s : ByteArray) (w : World) (h : s.size = 0) :
  Calls Tryz.prog 62 #[.string s] w fun e w' => e = .returned (.tuple #[.string ⟨#[]⟩, .int .i64 0, .int .i64 70]) ∧ Below w.heap.size w w' := by
 have hE : (s.toList == ([] : List UInt8)) = true := by
  rw [beq_iff_eq, Lib.toList_data]
  exact List.eq_nil_of_length_eq_zero (by rw [data_length]; exact h)
 go_enter Tryz.func62, Tryz.ntmps62
 go_wp2_with fail
 go_step3
 go_wp2_with fail
 simp only [Exit.noGoto_ret]
 go_ret3
 exact ⟨rfl, Below.refl _ _⟩
set_option maxHeartbeats 4000000 in
set_option maxRecDepth 100000 in
theorem read_not (s : ByteArray) (w : World) (h0 : s.size ≠ 0) (hq : bt s 0 ≠ 34) :
  Calls Tryz.prog 62 #[.string s] w fun e w' => e = .returned (.tuple #[.string ⟨#[]⟩, .int .i64 0, .int .i64 70]) ∧ Below w.heap.size w w' := by
 have hE : (s.toList == ([] : List UInt8)) = false := by
  rw [beq_eq_false_iff_ne, Lib.toList_data]
  intro e; apply h0; rw [← data_length, e]; rfl
 have hb : (bt s 0 != 34) = true := bne_iff_ne.mpr hq
 have hx : ∀ h : 0 < s.size, ((s[0]'h).toNat : Int) = bt s 0 := bt_at s 0
 have q0 : (0 < s.size) = True := eq_true (by omega)
 have q1 : (0 < (s.size : Int)) = True := eq_true (by omega)
 clear hq
 go_enter Tryz.func62, Tryz.ntmps62
 go_wp2_with fail
 go_step3
 go_wp2_with fail
 simp only [Exit.noGoto_ret]
 go_ret3
 exact ⟨rfl, Below.refl _ _⟩
theorem quote_Read.calls (k : Nat) (a0 : ByteArray) (r1 : ByteArray) (r2 r3 : Int) (w : World) (h : quote_Read.f k a0 = some (r1, r2, r3)) (ht : Tabs w := by first | assumption | (refine Tabs.step (by assumption) ?_; repeat (first | exact Aside0.out (by assumption) | apply below_alloc | apply pw_below_drewN | apply below_drew1 | exact Below.refl _ _))) :
  Calls Tryz.prog 62 #[.string a0] w fun e w' => e = .returned (.tuple #[.string r1, .int .i64 r2, .int .i64 r3]) ∧ Below w.heap.size w w' := by
 unfold quote_Read.f at h
 split at h
 ·rename_i hs
  split at h
  ·rename_i h0; cases h; exact read_none a0 w h0
  ·rename_i h0
   split at h
   ·rename_i hq; exact read_loop k a0 r1 r2 r3 w ht hs h0 hq h
   ·rename_i hq; cases h; exact read_not a0 w h0 hq
 ·cases h
end Go.Proofs.YthhmmaihbjhhgaaGreatDoor.Giv
