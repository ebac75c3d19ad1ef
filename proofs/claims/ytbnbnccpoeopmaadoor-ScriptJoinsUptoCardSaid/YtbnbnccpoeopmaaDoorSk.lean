/- The walk of the law's first facts. -/
import Derived.Test.YtbnbnccpoeopmaaDoorSi
import Derived.Test.YtbnbnccpoeopmaaDoorSj
import Derived.Lib.SlBytesConst
namespace Go.Proofs.YtbnbnccpoeopmaaDoor.Sk
open Go.RowKit Go.Proofs.YtbnbnccpoeopmaaDoor.Sa Go.Proofs.YtbnbnccpoeopmaaDoor.Sb Go.Proofs.YtbnbnccpoeopmaaDoor.Sd Go.Proofs.YtbnbnccpoeopmaaDoor.Se Go.Proofs.YtbnbnccpoeopmaaDoor.Sf Go.Proofs.YtbnbnccpoeopmaaDoor.Sg Go.Proofs.YtbnbnccpoeopmaaDoor.Sh Go.Proofs.YtbnbnccpoeopmaaDoor.Si Go.Proofs.YtbnbnccpoeopmaaDoor.Sj

theorem itoa_three : Lib.itoa 3 = [51] := by rw [show (3 : Int) = ((3 : Nat) : Int) from rfl, Lib.itoa_nonneg, Lib.decDigits_one (by decide)]; rfl
theorem num_three : atoiN [51] = 3 ∧ numL [51] = true := itoa_three ▸ atoiN_itoa 3 (by decide) (by decide)
theorem num_one : atoiN [49] = 1 ∧ numL [49] = true := itoa_one ▸ atoiN_itoa 1 (by decide) (by decide)

/-- A crash of two numbers. -/
theorem act_crash : actM? ⟨#[99, 114, 97, 115, 104, 32, 51, 32, 49]⟩ = some ⟨7, 0, 0, 0, 0, 0, [], [3, 1]⟩ := by
  rw [actM_L]
  have h1 : actL [99, 114, 97, 115, 104, 32, 51, 32, 49] = actTailL (formAt 4) 7 [[51], [49]] := rfl
  show actL [99, 114, 97, 115, 104, 32, 51, 32, 49] = _
  rw [h1]
  have s1 : ∀ a, partStepL (Sg.partAt (formAt 4).parts 0) [51] a = ({ a with keep := a.keep ++ [3] }, true) := fun a => by
    show ({ a with keep := a.keep ++ [atoiN [51]] }, numL [51]) = _
    rw [num_three.1, num_three.2]
  have s2 : ∀ a, partStepL (Sg.partAt (formAt 4).parts 1) [49] a = ({ a with keep := a.keep ++ [1] }, true) := fun a => by
    show ({ a with keep := a.keep ++ [atoiN [49]] }, numL [49]) = _
    rw [num_one.1, num_one.2]
  have hok : okPartsL (formAt 4) 2 = true := rfl
  unfold actTailL
  rw [show ([[51], [49]] : List (List UInt8)).length = 2 from rfl, hok, if_pos rfl]
  simp only [actLoopL, s1, s2]
  rfl

theorem act_aw (w : World) (hE : Env w) :
    Calls Tryd.prog 12 #[.string ⟨#[99, 114, 97, 115, 104, 32, 51, 32, 49]⟩] w fun e w' => ∃ pd cd g cap, e = .returned (.tuple #[.agg #[.int .i64 7, .int .i64 0, .int .i64 0, .int .i64 0, .int .i64 0, .int .i64 0, .slice pd 0 cd, .slice (some ⟨g, 0, none⟩) 2 cap], .int .i64 0]) ∧ w'.cell? ⟨g, 0, none⟩ = some (.int .i64 3) ∧ g < w'.heap.size ∧ Below w.heap.size w w' := by
  refine (act_c ⟨#[99, 114, 97, 115, 104, 32, 51, 32, 49]⟩ (by decide) w hE).mono ?_
  rintro e w' ⟨dv, kv, he, hd, hk, hb⟩
  rw [act_crash] at he hd hk
  obtain ⟨pd, cd, rfl⟩ := own_slice hd
  obtain ⟨g, cap, rfl, _, hg⟩ := hk.form (by decide)
  refine ⟨pd, cd, g, cap, he, ?_, hg, hb⟩
  have := hk.cells (g := g) rfl 0 (.int .i64 3) rfl
  rw [Lib.add_plain] at this
  exact this

set_option maxRecDepth 100000 in
theorem awake_c (w : World) (hE : Env w) : Calls Tryd.prog 9 #[] w fun e w' => e = .returned (.bool true) ∧ Below w.heap.size w w' := by
  have hcv : (convert 22 22 (.slice (some ⟨w.heap.size, 0, none⟩) 2 2)).run Tryd.prog (w.alloc (.cells #[.int .u8 97, .int .u8 98] 5)) = .ok (.slice (some ⟨w.heap.size, 0, none⟩) 2 2) (w.alloc (.cells #[.int .u8 97, .int .u8 98] 5 (2, 3))) := Lib.run_convert_bytes_const w 22 5 _ 2 2 (by kernel_rfl) (by kernel_rfl)
  have B0 : Below w.heap.size w (w.alloc (.cells #[.int .u8 97, .int .u8 98] 5 (2, 3))) := (Below.refl _ _).alloc (Nat.le_refl _) _
  have hE1 := hE.below B0
  have hv : BytesIn (w.alloc (.cells #[.int .u8 97, .int .u8 98] 5 (2, 3))) (.slice (some ⟨w.heap.size, 0, none⟩) 2 2) [97, 98] := by
    refine ⟨some ⟨w.heap.size, 0, none⟩, 2, rfl, fun _ => ⟨w.heap.size, 0, rfl, by rw [sz_alloc]; omega, fun j x hx => ?_⟩⟩
    have hh : (w.alloc (.cells #[.int .u8 97, .int .u8 98] 5 (2, 3))).heap[w.heap.size]? = _ := heap_alloc_new w _
    rw [Nat.zero_add, Joins.cell_of_block hh]
    match j, hx with
    | 0, hx => simp at hx; subst hx; rfl
    | 1, hx => simp at hx; subst hx; rfl
  have hl := line_aw (some ⟨w.heap.size, 0, none⟩) 2 _ hE1 hv
  obtain ⟨res, hres⟩ : ∃ res : ByteArray, res = ⟨(Lib.join ((outs 3).map (·.data.toList)) [32]).toArray⟩ := ⟨_, rfl⟩
  rw [← hres] at hl
  have htx : (res.toList == [108, 97, 116, 101, 114, 32, 119, 114, 105, 116, 101, 32, 49, 32, 50, 32, 120, 54, 49, 54, 50]) = true := by
    rw [hres, line_text, ByteArray.toList_eq]
    rfl
  have HE := Lib.hid hE
  have HB := Lib.hid B0
  clear hres B0 hE hE1 hv
  go_enter Tryd.func9, Tryd.ntmps9
  go_wp2_with (first | (go_at_call 10; (with_reducible refine hl.mono ?_); rintro e w1 ⟨rfl, hb1⟩; have HB1 := Lib.hid (HB.out.trans (hb1.mono HB.out.size)); clear hb1) | (go_at_call 12; (with_reducible refine (act_aw _ (HE.out.below HB1.out)).mono ?_); rintro e w2 ⟨pd, cd, g, cap, rfl, hg, hlt, hb2⟩; have HB2 := Lib.hid (HB1.out.trans (hb2.mono HB1.out.size)); clear hb2))
  go_ret
  exact ⟨rfl, HB2.out.alloc HB2.out.size _⟩

end Go.Proofs.YtbnbnccpoeopmaaDoor.Sk
