/- What the functions of package listsize that compute numbers, and those of its reference, return. Conditions: the element size code is 0 to 7, the count 0 to 2^32; the table lies as the program's text lays it. -/
import Derived.Test.YtmbecfiajkalcaaDoorProg
import Derived.Test.YtmbecfiajkalcaaDoorBytes
import Derived.WalkSpells
set_option linter.unusedVariables false
set_option linter.unusedSimpArgs false
namespace Go.Proofs.YtmbecfiajkalcaaDoor
open Go.RowKit

/-- The element size. -/
def bitsOf (e : Int) : Int := if e = 1 then 1 else if e = 2 then 8 else if e = 3 then 16 else if e = 4 then 32 else if e = 5 then 64 else if e = 6 then 64 else 0
/-- The table's cells. -/
structure Tab (w : World) : Prop where
  c0 : w.cell? ⟨0, 0, none⟩ = some (.int .i64 0)
  c1 : w.cell? ⟨0, 1, none⟩ = some (.int .i64 1)
  c2 : w.cell? ⟨0, 2, none⟩ = some (.int .i64 8)
  c3 : w.cell? ⟨0, 3, none⟩ = some (.int .i64 16)
  c4 : w.cell? ⟨0, 4, none⟩ = some (.int .i64 32)
  c5 : w.cell? ⟨0, 5, none⟩ = some (.int .i64 64)
  c6 : w.cell? ⟨0, 6, none⟩ = some (.int .i64 64)
  c7 : w.cell? ⟨0, 7, none⟩ = some (.int .i64 0)
theorem Tab.pos {w : World} (h : Tab w) : 0 < w.heap.size := World.block_lt_of_cell? w _ h.c0
theorem Tab.below {w w1 : World} (h : Tab w) (hb : Below w.heap.size w w1) : Tab w1 :=
  ⟨(hb.cell (p := ⟨0, 0, none⟩) h.pos).trans h.c0, (hb.cell (p := ⟨0, 1, none⟩) h.pos).trans h.c1, (hb.cell (p := ⟨0, 2, none⟩) h.pos).trans h.c2, (hb.cell (p := ⟨0, 3, none⟩) h.pos).trans h.c3,
    (hb.cell (p := ⟨0, 4, none⟩) h.pos).trans h.c4, (hb.cell (p := ⟨0, 5, none⟩) h.pos).trans h.c5, (hb.cell (p := ⟨0, 6, none⟩) h.pos).trans h.c6, (hb.cell (p := ⟨0, 7, none⟩) h.pos).trans h.c7⟩

theorem cases8 {e : Int} (h0 : 0 ≤ e) (h7 : e ≤ 7) : e = 0 ∨ e = 1 ∨ e = 2 ∨ e = 3 ∨ e = 4 ∨ e = 5 ∨ e = 6 ∨ e = 7 := by omega

theorem bits_any (e : Int) (h0 : 0 ≤ e) (h7 : e ≤ 7) (w : World) (ht : Tab w) : Calls Tryd.prog 9 #[.int .i64 e] w fun e' w' => e' = .returned (.int .i64 (bitsOf e)) ∧ w = w' := by
  obtain ⟨c0, c1, c2, c3, c4, c5, c6, c7⟩ := ht
  rcases cases8 h0 h7 with rfl | rfl | rfl | rfl | rfl | rfl | rfl | rfl
  all_goals
    go_enter Tryd.func9, Tryd.ntmps9
    go_wp2
    go_ret
    exact ⟨rfl, rfl⟩
theorem rbits_any (e : Int) (h0 : 0 ≤ e) (h7 : e ≤ 7) (w : World) : Calls Tryd.prog 10 #[.int .i64 e] w fun e' w' => e' = .returned (.int .i64 (bitsOf e)) ∧ w = w' := by
  rcases cases8 h0 h7 with rfl | rfl | rfl | rfl | rfl | rfl | rfl | rfl
  all_goals
    go_enter Tryd.func10, Tryd.ntmps10
    go_wp2
    go_ret
    exact ⟨rfl, rfl⟩
end Go.Proofs.YtmbecfiajkalcaaDoor
