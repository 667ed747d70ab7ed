/-
  The seat's own facts for the pure logic: mixed orders, and the property of memory that every contract keeps: the table of package math/bits lies in its block.
-/
import Derived.Test.YtcijnloneigfcaaGreatDoorPvNum
import Derived.Test.YtcijnloneigfcaaGreatDoorProg
namespace Go.Proofs.YtcijnloneigfcaaGreatDoor
theorem hP : Tryz.prog.follows .mixedOrders = true := by kernel_rfl
/-- the table of math/bits, as the program's text lays it -/
def tab32 : List Int := [0, 1, 28, 2, 29, 14, 24, 3, 30, 22, 20, 15, 25, 17, 4, 8, 31, 27, 13, 23, 21, 19, 16, 7, 26, 12, 18, 6, 11, 5, 10, 9]
def Amb (w : World) : Prop := ∀ i v, tab32[i]? = some v → w.cell? ⟨0, i, none⟩ = some (.int .u8 v)
theorem hAmb : Stable Amb := by
  intro w w' h hb i v hi
  have h1 := h i v hi
  have hlt : 0 < w.heap.size := by
    rcases Nat.lt_or_ge 0 w.heap.size with q | q
    · exact q
    · simp [World.cell?, Array.getElem?_eq_none q] at h1
  rw [cell_of_block (hb.block _ hlt)]
  exact h1
end Go.Proofs.YtcijnloneigfcaaGreatDoor
