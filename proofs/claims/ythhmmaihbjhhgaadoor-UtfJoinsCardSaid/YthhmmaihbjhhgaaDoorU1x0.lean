-- written for this claim by pr.py of the session (the printer's text with hand-proved callees). Not trusted: Lean checks it.
import Derived.Test.YthhmmaihbjhhgaaDoorProg
import Derived.Below
import Derived.Deep.Draws
import Derived.Deep.AppendLies
import Derived.Maps.AppendAt
import Derived.OwnWalk
import Derived.Laws.BytesArg
import Derived.Laws.MakeOwn
import Derived.Laws.OwnMore
import Derived.Deep.OwnRows
import Derived.Tactics
import Derived.Lib.ConvBytes
import Derived.Laws.Slices
import Derived.WalkKit
import Derived.KernelRfl
import Derived.RowKit3
import Derived.Deep.LoopGhost
import Derived.Deep.QuietTactic
import Derived.BigQuiet
import Derived.WideLaws
import Derived.Deep.DeepCutAuto
import Derived.Deep.CutBlock
import Derived.Deep.RegionHeld3
import Derived.Laws.Rows
import Derived.Lib.AppendStr
import Derived.ArgAppend
import Derived.Laws.IdiomCopy
import Derived.OrdersHeld
import Derived.Laws.BitsLemmas
import Derived.RowKit
import Derived.Test.YthhmmaihbjhhgaaDoorUtfA
import Derived.Test.YthhmmaihbjhhgaaDoorWWords
import Derived.Test.YthhmmaihbjhhgaaDoorWLast
import Derived.Test.YthhmmaihbjhhgaaDoorWTab
import Derived.Test.YthhmmaihbjhhgaaDoorWFour
import Derived.Test.YthhmmaihbjhhgaaDoorWQPut
import Derived.Test.YthhmmaihbjhhgaaDoorWApart
import Derived.Test.YthhmmaihbjhhgaaDoorWArr
import Derived.Test.YthhmmaihbjhhgaaDoorWZeros
import Derived.Test.YthhmmaihbjhhgaaDoorWFoot
import Derived.Test.YthhmmaihbjhhgaaDoorWKept
import Derived.Test.YthhmmaihbjhhgaaDoorWShare
import Derived.Test.YthhmmaihbjhhgaaDoorWN
import Derived.Test.YthhmmaihbjhhgaaDoorWFootNe
import Derived.Test.YthhmmaihbjhhgaaDoorWAt
import Derived.Test.YthhmmaihbjhhgaaDoorWEqStruct
import Derived.Test.YthhmmaihbjhhgaaDoorWRepsOne
import Derived.Test.YthhmmaihbjhhgaaDoorWInv
import Derived.Test.YthhmmaihbjhhgaaDoorWInvWords
import Derived.Test.YthhmmaihbjhhgaaDoorWGuard
import Derived.Test.YthhmmaihbjhhgaaDoorWNEv
import Derived.Test.YthhmmaihbjhhgaaDoorWMore
namespace Go.Proofs.YthhmmaihbjhhgaaDoor.U1
open Go.Proofs.YthhmmaihbjhhgaaDoor.Giv Go.RowKit Go.Proofs.YthhmmaihbjhhgaaDoorW.PrintWords Go.Proofs.YthhmmaihbjhhgaaDoorW.PrintLast Go.Proofs.YthhmmaihbjhhgaaDoorW.PrintMore
attribute [local go_sem] max2_int min2_int max_two min_two max_three min_three max_four min_four   -- for this text's walks alone
set_option linter.unusedVariables false
set_option linter.unusedSimpArgs false



def errW : Option Int → Value
  | none => .nilIface
  | some c => .iface 0 (.int .i64 c)
theorem errW_none : errW none = .nilIface := rfl
theorem errW_some (c : Int) : errW (some c) = .iface 0 (.int .i64 c) := rfl

theorem info3 : (Tryd.prog.info? 3).map (fun i => (i.zero, i.size, i.bytes)) = some (some (.int .i64 0), 1, 8) := by kernel_rfl
theorem info5 : (Tryd.prog.info? 5).map (fun i => (i.zero, i.size, i.bytes)) = some (some (.int .u8 0), 1, 1) := by kernel_rfl
-- the values' own types

end Go.Proofs.YthhmmaihbjhhgaaDoor.U1
