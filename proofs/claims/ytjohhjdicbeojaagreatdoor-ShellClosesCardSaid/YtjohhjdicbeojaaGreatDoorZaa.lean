/- Texts joined: KSa. -/
import Derived.Test.YtjohhjdicbeojaaGreatDoorProg
import Derived.WalkKit
import Derived.WalkLawsBesides
import Derived.Lib.Hide
import Derived.Deep.LoopGhost
import Derived.Deep.QuietTactic
import Derived.BigQuiet
import Derived.Below
import Derived.Deep.Draws
import Derived.RegionTactic
import Derived.Deep.DeepFit
namespace Go.Proofs.YtjohhjdicbeojaaGreatDoor.KSa
open Go.RowKit
/-- A form: its word, its parts, the act and the ask. -/
structure FormD where
  word : ByteArray
  parts : ByteArray
  act : Int
  ask : Int
def formsL : List FormD := [
  ⟨⟨#[102, 111, 114, 109, 97, 116]⟩, ⟨#[100, 99]⟩, 1, 0⟩, ⟨⟨#[111, 112, 101, 110]⟩, ⟨#[]⟩, 2, 0⟩, ⟨⟨#[115, 116, 101, 112]⟩, ⟨#[110]⟩, 4, 0⟩, ⟨⟨#[102, 97, 105, 108]⟩, ⟨#[110]⟩, 6, 0⟩, ⟨⟨#[99, 114, 97, 115, 104]⟩, ⟨#[107]⟩, 7, 0⟩,
  ⟨⟨#[99, 114, 101, 97, 116, 101]⟩, ⟨#[100]⟩, 0, 1⟩, ⟨⟨#[100, 101, 108, 101, 116, 101]⟩, ⟨#[98]⟩, 0, 2⟩, ⟨⟨#[115, 110, 97, 112]⟩, ⟨#[98]⟩, 0, 3⟩, ⟨⟨#[114, 101, 97, 100]⟩, ⟨#[98, 99]⟩, 0, 4⟩, ⟨⟨#[119, 114, 105, 116, 101]⟩, ⟨#[98, 99, 120]⟩, 0, 5⟩,
  ⟨⟨#[100, 105, 115, 99, 97, 114, 100]⟩, ⟨#[98, 99]⟩, 0, 6⟩, ⟨⟨#[115, 121, 110, 99]⟩, ⟨#[]⟩, 0, 7⟩, ⟨⟨#[115, 116, 97, 116]⟩, ⟨#[]⟩, 0, 8⟩, ⟨⟨#[101, 110, 116, 114, 121]⟩, ⟨#[98]⟩, 0, 9⟩]
def formVal (f : FormD) : Value := .agg #[.string f.word, .string f.parts, .int .i64 f.act, .int .i64 f.ask]
def formCells : Array Value := #[
  .string ⟨#[102, 111, 114, 109, 97, 116]⟩, .string ⟨#[100, 99]⟩, .int .i64 1, .int .i64 0, .string ⟨#[111, 112, 101, 110]⟩, .string ⟨#[]⟩, .int .i64 2, .int .i64 0, .string ⟨#[115, 116, 101, 112]⟩, .string ⟨#[110]⟩, .int .i64 4, .int .i64 0, .string ⟨#[102, 97, 105, 108]⟩, .string ⟨#[110]⟩, .int .i64 6, .int .i64 0, .string ⟨#[99, 114, 97, 115, 104]⟩, .string ⟨#[107]⟩, .int .i64 7, .int .i64 0,
  .string ⟨#[99, 114, 101, 97, 116, 101]⟩, .string ⟨#[100]⟩, .int .i64 0, .int .i64 1, .string ⟨#[100, 101, 108, 101, 116, 101]⟩, .string ⟨#[98]⟩, .int .i64 0, .int .i64 2, .string ⟨#[115, 110, 97, 112]⟩, .string ⟨#[98]⟩, .int .i64 0, .int .i64 3, .string ⟨#[114, 101, 97, 100]⟩, .string ⟨#[98, 99]⟩, .int .i64 0, .int .i64 4, .string ⟨#[119, 114, 105, 116, 101]⟩, .string ⟨#[98, 99, 120]⟩, .int .i64 0, .int .i64 5,
  .string ⟨#[100, 105, 115, 99, 97, 114, 100]⟩, .string ⟨#[98, 99]⟩, .int .i64 0, .int .i64 6, .string ⟨#[115, 121, 110, 99]⟩, .string ⟨#[]⟩, .int .i64 0, .int .i64 7, .string ⟨#[115, 116, 97, 116]⟩, .string ⟨#[]⟩, .int .i64 0, .int .i64 8, .string ⟨#[101, 110, 116, 114, 121]⟩, .string ⟨#[98]⟩, .int .i64 0, .int .i64 9]
def formAt (i : Nat) : FormD := formsL.getD i ⟨⟨#[]⟩, ⟨#[]⟩, 0, 0⟩
/-- The table of forms lies at block b. -/
structure FormsAt (w : World) (b : Nat) : Prop where
  lt : b < w.heap.size
  word : ∀ i, i < 14 → w.cell? ⟨b, i * 4, none⟩ = some (.string (formAt i).word)
  parts : ∀ i, i < 14 → w.cell? ⟨b, i * 4 + 1, none⟩ = some (.string (formAt i).parts)
  act : ∀ i, i < 14 → w.cell? ⟨b, i * 4 + 2, none⟩ = some (.int .i64 (formAt i).act)
  ask : ∀ i, i < 14 → w.cell? ⟨b, i * 4 + 3, none⟩ = some (.int .i64 (formAt i).ask)
theorem FormsAt.below {w w' : World} {b : Nat} (h : FormsAt w b) (hb : Below w.heap.size w w') : FormsAt w' b :=
  ⟨Nat.lt_of_lt_of_le h.lt hb.size, fun i hi => (hb.cell (p := ⟨b, i * 4, none⟩) h.lt).trans (h.word i hi), fun i hi => (hb.cell (p := ⟨b, i * 4 + 1, none⟩) h.lt).trans (h.parts i hi), fun i hi => (hb.cell (p := ⟨b, i * 4 + 2, none⟩) h.lt).trans (h.act i hi), fun i hi => (hb.cell (p := ⟨b, i * 4 + 3, none⟩) h.lt).trans (h.ask i hi)⟩
theorem at_new (w : World) (t : TypeId) (j : Nat) (v : Value) (h : formCells[j]? = some v) : (w.alloc (.cells formCells t)).cell? ⟨w.heap.size, j, none⟩ = some v := (World.cell?_alloc_new w _ t j).trans h
theorem cells_of (i : Nat) (hi : i < 14) : formCells[i * 4]? = some (.string (formAt i).word) ∧ formCells[i * 4 + 1]? = some (.string (formAt i).parts) ∧ formCells[i * 4 + 2]? = some (.int .i64 (formAt i).act) ∧ formCells[i * 4 + 3]? = some (.int .i64 (formAt i).ask) := by
  have : i = 0 ∨ i = 1 ∨ i = 2 ∨ i = 3 ∨ i = 4 ∨ i = 5 ∨ i = 6 ∨ i = 7 ∨ i = 8 ∨ i = 9 ∨ i = 10 ∨ i = 11 ∨ i = 12 ∨ i = 13 := by omega
  rcases this with rfl | rfl | rfl | rfl | rfl | rfl | rfl | rfl | rfl | rfl | rfl | rfl | rfl | rfl <;> exact ⟨rfl, rfl, rfl, rfl⟩
theorem forms_at (w : World) (t : TypeId) : FormsAt (w.alloc (.cells formCells t)) w.heap.size :=
  ⟨by simp, fun i hi => at_new w t _ _ (cells_of i hi).1, fun i hi => at_new w t _ _ (cells_of i hi).2.1, fun i hi => at_new w t _ _ (cells_of i hi).2.2.1, fun i hi => at_new w t _ _ (cells_of i hi).2.2.2⟩
set_option maxHeartbeats 8000000 in
set_option maxRecDepth 100000 in
theorem forms_c (w : World) : Calls Tryz.prog 30 #[] w fun e w' => e = .returned (.slice (some ⟨w.heap.size, 0, none⟩) 14 14) ∧ FormsAt w' w.heap.size ∧ Below w.heap.size w w' := by
  have F := Lib.hid (forms_at w 49)
  have hb : Hid (Below w.heap.size w (w.alloc (.cells formCells 49))) := Lib.hid ((Below.refl _ _).alloc (Nat.le_refl _) _)
  unfold formCells at F hb
  go_enter Tryz.func30, Tryz.ntmps30
  go_wp2
  go_ret
  exact ⟨rfl, F.out, hb.out⟩
end Go.Proofs.YtjohhjdicbeojaaGreatDoor.KSa
