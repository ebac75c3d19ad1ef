/- ReviveFormats holds: any device is formatted, if it has room; then it is empty, whatever was there; for every size, geometry and writes. No conditions. -/
import Derived.Test.YthhgageghkbjjaaGreatTb
import Derived.Test.YthhgageghkbjjaaGreatTc
import Derived.Test.YthhgageghkbjjaaGreatRows
import Derived.WalkKit
import Derived.ProofKit
import Derived.OpenShut
import Derived.ShutString
import Derived.ChangeOld
import Derived.Below
import Derived.SizedLaws
import Derived.Lib.SmallJoins
namespace Go.Proofs.YthhgageghkbjjaaGreat.reviveFormats
open Go.ChangeShapes Go.WideShapes Go.ChangeAt Go.RowKit Go.Joins
theorem own : ownKnob Tryz.prog.godebug = none := by kernel_rfl
theorem laidOut : laidOutB Tryz.prog = true := by kernel_rfl
theorem cellsP : Tryz.prog.cellsOf 23 = 2 := by kernel_rfl
set_option maxRecDepth 100000 in
theorem lifted (os : Os) (started : os.Started) (H : Type) (enc : TypeId × Value → H) :
    ReturnsInHanded {} Tryz.checked os 5 .any (Rows.reviveFormatsSpec.pre6 enc Tryz.prog Tryz.f5 Rows.reviveFormatsRow.domain false) (Rows.reviveFormatsSpec.post enc Tryz.prog Tryz.f5 false true false false) := by
  refine returnsInHanded_of_change_sized (C := Tryz.checked) own started (by kernel_rfl) Tryz.func5
    (ChangeSpec.witness6 (enc := enc) (C := Tryz.checked) false ⟨#[], #[.int .i64 0, .agg #[.int .i64 0, .int .i64 0], .slice none 0 0], []⟩ 8 (by kernel_rfl) (by kernel_rfl) (by kernel_rfl) (by kernel_rfl)) ?_
  intro W base args ds gs before hval0 hW hcnd hsz0 _
  have hval : ∀ (j : Nat) t v, Tryz.f5.params[j]? = some t → args[j]? = some v → Value.okWide Tryz.prog W .any base t v := hval0
  have hW' := hW
  obtain ⟨p, q, hA0, hV, rfl, hfz, hnd⟩ := hW
  have hA : DataW.TrodAll enc Tryz.prog W 0 (fun _ => true) true Tryz.f5.params.toList args.toList ds p := hA0
  rw [Tryz.params5] at hA hval
  obtain ⟨v0, vs0, d0, ds0, p0, q0, hargs, rfl, rfl, h0, r0⟩ := trodAll_cons hA
  obtain ⟨v1, vs1, d1, ds1, p1, q1, rfl, rfl, rfl, h1, r1⟩ := trodAll_cons r0
  obtain ⟨v2, vs2, d2, ds2, p2, q2, rfl, rfl, rfl, h2, r2⟩ := trodAll_cons r1
  obtain ⟨rfl, rfl, rfl⟩ := trodAll_nil r2
  obtain rfl : args = #[v0, v1, v2] := by cases args; simp_all
  obtain ⟨rfl, rfl⟩ := trodVars_none hV
  obtain ⟨a0, rfl, rfl, rfl, w0⟩ := open_int Tryz.underlying3 (hval 0 3 v0 rfl rfl) h0
  obtain ⟨c00, c01, y00, y01, m0, rfl, rfl, rfl, hy00, hy01⟩ := open_agg2 Tryz.underlying23 (by kernel_rfl) cellsP (hval 1 23 v1 rfl rfl) h1
  obtain ⟨a00, e00, rfl, wa00⟩ := DataW.trod_int Tryz.underlying3 hy00
  obtain ⟨a01, e01, rfl, wa01⟩ := DataW.trod_int Tryz.underlying3 hy01
  simp at e00 e01
  subst e00 e01
  have s1 : ∀ (W' : World) (sp : Nat → Bool), DataW.Trod enc Tryz.prog W' 0 sp true 23 (.agg #[.int .i64 a00, .int .i64 a01]) (.agg [.lit (.int .i64 a00), .lit (.int .i64 a01)]) [] := fun W' sp =>
    shut_agg2 (y0 := (.lit (.int .i64 a00), [])) (y1 := (.lit (.int .i64 a01), [])) Tryz.underlying23 (by kernel_rfl) cellsP ⟨1, by simp [DataW.trod, Tryz.underlying3, wa00]⟩ ⟨1, by simp [DataW.trod, Tryz.underlying3, wa01]⟩
  have k2 := h2
  have lt2 : ∀ x ∈ p2, x.block < W.heap.size := by obtain ⟨m, hm⟩ := k2; exact DataW.trod_lt m _ _ _ hm
  obtain ⟨ws, hws⟩ := Tc.writes_of (okWide_slice Tryz.underlying38 (hval 2 38 v2 rfl rfl)) h2
  clear hA0 hval0 hsz0
  have law : Calls Tryz.prog 5 #[.int .i64 a0, .agg #[.int .i64 a00, .int .i64 a01], v2] W fun e w' => e = .returned (.bool true) ∧ Below W.heap.size W w' := by
    rcases Classical.em (a0 < 1 ∨ 424 < a0) with hb | hb
    · exact Tb.formats_none a0 a00 a01 v2 W hb
    · obtain ⟨n, rfl⟩ : ∃ n : Nat, a0 = (n : Int) := ⟨a0.toNat, by omega⟩
      exact Tb.formats_some n a00 a01 v2 ws W (by omega) (by omega) hws
  refine law.mono fun e W' ⟨he, bel⟩ => ?_
  subst he
  simp only [List.append_nil, List.nil_append] at hW' ⊢
  exact ⟨_, rfl, _, _, _, [], _, [], hW', trodAll_mk1 (shut_bool Tryz.underlying4 _), (trodAll_cons_mk (shut_int Tryz.underlying3 w0) (trodAll_cons_mk (s1 _ _) (trodAll_cons_mk (Below.trod laidOut (by kernel_rfl) (of_decide_eq_true (by kernel_rfl)) k2 bel lt2) trodAll_mk0))), rfl, bel.frame _, fun h => by cases h⟩
theorem over : Rows.reviveFormatsRow.holds Tryz.pinned (OpenSpec.ofChange Rows.reviveFormatsSpec) :=
  OpenClaim.holds_of_wide 5 Tryz.f5 rfl rfl rfl rfl rfl rfl rfl ⟨rfl, rfl, rfl, rfl, rfl⟩ rfl rfl rfl rfl rfl (by kernel_rfl) Tryz.func5 (by kernel_rfl)
    (of_decide_eq_true (by kernel_rfl)) (by unfold Func.isWrapper; first | (rw [if_pos (by decide +kernel)]; kernel_rfl) | (rw [if_neg (by decide +kernel)]; exact ⟨rfl, rfl⟩))
    (fun os started H enc _ => lifted os started H enc)
theorem proved : Rows.ReviveFormatsSaid := over
#print axioms proved
end Go.Proofs.YthhgageghkbjjaaGreat.reviveFormats
namespace Go.Proofs.YthhgageghkbjjaaGreat
/-- The row, under a short name, for the claim. -/
theorem reviveFormats_holds : Rows.ReviveFormatsSaid := reviveFormats.proved
end Go.Proofs.YthhgageghkbjjaaGreat
