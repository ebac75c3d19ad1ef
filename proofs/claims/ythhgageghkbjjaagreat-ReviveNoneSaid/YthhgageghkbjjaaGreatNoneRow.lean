/- ReviveNone holds: no device answers that there is none; for every geometry. No conditions. -/
import Derived.Test.YthhgageghkbjjaaGreatTa
import Derived.Test.YthhgageghkbjjaaGreatRows
import Derived.WalkKit
import Derived.ProofKit
import Derived.OpenShut
import Derived.ShutString
import Derived.ChangeOld
import Derived.Below
import Derived.SizedLaws
import Derived.Lib.SmallJoins
namespace Go.Proofs.YthhgageghkbjjaaGreat.reviveNone
open Go.ChangeShapes Go.WideShapes Go.ChangeAt Go.RowKit Go.Joins
theorem own : ownKnob Tryz.prog.godebug = none := by kernel_rfl
theorem laidOut : laidOutB Tryz.prog = true := by kernel_rfl
theorem cellsP : Tryz.prog.cellsOf 23 = 2 := by kernel_rfl
set_option maxRecDepth 100000 in
theorem lifted (os : Os) (started : os.Started) (H : Type) (enc : TypeId × Value → H) :
    ReturnsInHanded {} Tryz.checked os 3 .any (Rows.reviveNoneSpec.pre6 enc Tryz.prog Tryz.f3 Rows.reviveNoneRow.domain false) (Rows.reviveNoneSpec.post enc Tryz.prog Tryz.f3 false true false false) := by
  refine returnsInHanded_of_change_sized (C := Tryz.checked) own started (by kernel_rfl) Tryz.func3
    (ChangeSpec.witness6 (enc := enc) (C := Tryz.checked) false ⟨#[], #[.agg #[.int .i64 0, .int .i64 0]], []⟩ 8 (by kernel_rfl) (by kernel_rfl) (by kernel_rfl) (by kernel_rfl)) ?_
  intro W base args ds gs before hval0 hW hcnd hsz0 _
  have hval : ∀ (j : Nat) t v, Tryz.f3.params[j]? = some t → args[j]? = some v → Value.okWide Tryz.prog W .any base t v := hval0
  have hW' := hW
  obtain ⟨p, q, hA0, hV, rfl, hfz, hnd⟩ := hW
  have hA : DataW.TrodAll enc Tryz.prog W 0 (fun _ => true) true Tryz.f3.params.toList args.toList ds p := hA0
  rw [Tryz.params3] at hA hval
  obtain ⟨v0, vs0, d0, ds0, p0, q0, hargs, rfl, rfl, h0, r0⟩ := trodAll_cons hA
  obtain ⟨rfl, rfl, rfl⟩ := trodAll_nil r0
  obtain rfl : args = #[v0] := by cases args; simp_all
  obtain ⟨rfl, rfl⟩ := trodVars_none hV
  obtain ⟨c00, c01, y00, y01, m0, rfl, rfl, rfl, hy00, hy01⟩ := open_agg2 Tryz.underlying23 (by kernel_rfl) cellsP (hval 0 23 v0 rfl rfl) h0
  obtain ⟨a00, e00, rfl, wa00⟩ := DataW.trod_int Tryz.underlying3 hy00
  obtain ⟨a01, e01, rfl, wa01⟩ := DataW.trod_int Tryz.underlying3 hy01
  simp at e00 e01
  subst e00 e01
  have s0 : ∀ (W' : World) (sp : Nat → Bool), DataW.Trod enc Tryz.prog W' 0 sp true 23 (.agg #[.int .i64 a00, .int .i64 a01]) (.agg [.lit (.int .i64 a00), .lit (.int .i64 a01)]) [] := fun W' sp =>
    shut_agg2 (y0 := (.lit (.int .i64 a00), [])) (y1 := (.lit (.int .i64 a01), [])) Tryz.underlying23 (by kernel_rfl) cellsP ⟨1, by simp [DataW.trod, Tryz.underlying3, wa00]⟩ ⟨1, by simp [DataW.trod, Tryz.underlying3, wa01]⟩
  clear hA0 hval0 hsz0
  refine (Ta.none_c a00 a01 W).mono fun e W' ⟨he, bel⟩ => ?_
  subst he
  simp only [List.append_nil] at hW' ⊢
  exact ⟨_, rfl, _, _, _, [], _, [], hW', trodAll_mk1 (shut_bool Tryz.underlying4 _), (trodAll_cons_mk (s0 _ _) trodAll_mk0), rfl, bel.frame _, fun h => by cases h⟩
theorem over : Rows.reviveNoneRow.holds Tryz.pinned (OpenSpec.ofChange Rows.reviveNoneSpec) :=
  OpenClaim.holds_of_wide 3 Tryz.f3 rfl rfl rfl rfl rfl rfl rfl ⟨rfl, rfl, rfl, rfl, rfl⟩ rfl rfl rfl rfl rfl (by kernel_rfl) Tryz.func3 (by kernel_rfl)
    (of_decide_eq_true (by kernel_rfl)) (by unfold Func.isWrapper; first | (rw [if_pos (by decide +kernel)]; kernel_rfl) | (rw [if_neg (by decide +kernel)]; exact ⟨rfl, rfl⟩))
    (fun os started H enc _ => lifted os started H enc)
theorem proved : Rows.ReviveNoneSaid := over
#print axioms proved
end Go.Proofs.YthhgageghkbjjaaGreat.reviveNone
namespace Go.Proofs.YthhgageghkbjjaaGreat
/-- The row, under a short name, for the claim. -/
theorem reviveNone_holds : Rows.ReviveNoneSaid := reviveNone.proved
end Go.Proofs.YthhgageghkbjjaaGreat
