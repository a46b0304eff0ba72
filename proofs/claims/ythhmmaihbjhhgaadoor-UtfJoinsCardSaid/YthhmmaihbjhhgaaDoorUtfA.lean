/- The library's tables are held by the world ('Tabs'), and the contracts of utf8.DecodeRuneInString and ValidString in the shape of printed ones. -/
import Derived.Test.YthhmmaihbjhhgaaDoorShelf
import Derived.Test.YthhmmaihbjhhgaaDoorWMore
namespace Go.Proofs.YthhmmaihbjhhgaaDoor.Giv
open Go.RowKit Go.Proofs.YthhmmaihbjhhgaaDoorW.PrintWords Go.Proofs.YthhmmaihbjhhgaaDoorW.PrintLast Go.Proofs.YthhmmaihbjhhgaaDoorW.PrintMore

/-- unicode/utf8's two tables are as the program's text lays them. -/
def Tabs (w : World) : Prop := Lib.Utf8Tabs 0 1 w
theorem Tabs.step {w W : World} (h : Tabs w) (hb : Below w.heap.size w W) : Tabs W := Go.Proofs.Utf8Tabs_below h hb

def utf8_DecodeRuneInString.f (s : ByteArray) : Option (Int × Int) := some (((Lib.decodeGo s).1 : Int), ((Lib.decodeGo s).2 : Int))
theorem utf8_DecodeRuneInString.calls (a0 : ByteArray) (r1 r2 : Int) (w : World) (h : utf8_DecodeRuneInString.f a0 = some (r1, r2)) (ht : Tabs w := by first | assumption | (refine Tabs.step (by assumption) ?_; repeat (first | exact Aside0.out (by assumption) | apply below_alloc | apply pw_below_drewN | apply below_drew1 | exact Below.refl _ _))) :
    Calls Tryd.prog 52 #[.string a0] w fun e w' => e = .returned (.tuple #[.int .i32 r1, .int .i64 r2]) ∧ Below w.heap.size w w' := by
  unfold utf8_DecodeRuneInString.f at h
  simp only [Option.some.injEq, Prod.mk.injEq] at h
  obtain ⟨rfl, rfl⟩ := h
  exact Tryd.utf8_DecodeRuneInString a0 w ht
def utf8_ValidString.f (s : ByteArray) : Option Bool := if s.size ≤ 9223372036854775807 then some (Lib.validD s.data.toList) else none
theorem utf8_ValidString.calls (a0 : ByteArray) (r : Bool) (w : World) (h : utf8_ValidString.f a0 = some r) (ht : Tabs w := by first | assumption | (refine Tabs.step (by assumption) ?_; repeat (first | exact Aside0.out (by assumption) | apply below_alloc | apply pw_below_drewN | apply below_drew1 | exact Below.refl _ _))) :
    Calls Tryd.prog 56 #[.string a0] w fun e w' => e = .returned (.bool r) ∧ Below w.heap.size w w' := by
  unfold utf8_ValidString.f at h
  split at h
  · rename_i hs
    obtain rfl := Option.some.inj h
    exact Tryd.utf8_ValidString a0 w hs ht
  · cases h
end Go.Proofs.YthhmmaihbjhhgaaDoor.Giv
