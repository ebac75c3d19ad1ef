/- Two scripts, one behind the other, are the script of the acts of both; where the arguments hold together at most 1048576 values and letters. The listed tables and errors of the library read as the program's text lays them. -/
import Derived.Test.YtbnbnccpoeopmaaDoorTm
import Derived.Test.YtbnbnccpoeopmaaDoorTn
import Derived.Test.YtbnbnccpoeopmaaDoorSn
import Derived.Test.YtbnbnccpoeopmaaDoorTie
import Derived.Test.YtbnbnccpoeopmaaDoorCards
import Derived.SevenTiedAt
import Derived.ChangeMaps5
import Derived.ProofKit
import Derived.MakeChecks
import Derived.Deep.DeepHandedRow
import Derived.Deep.DeepWitnessRowRef
namespace Go.Proofs.YtbnbnccpoeopmaaDoor.scriptJoins
open Go.ChangeShapes Go.WideShapes Go.ChangeAt Go.RowKit Go.Proofs.YtbnbnccpoeopmaaDoor.Sn

theorem laid_plain (W : World) (h : laidMetH Tryd.prog Rows.scriptJoinsUptoRow.laid W) : laidMet Tryd.prog laidL W := by
  have e := MakeChecks.laidMetH_plain Tryd.prog laidL W (by kernel_rfl)
  have h : laidMetH Tryd.prog laidL W := h
  rw [e] at h
  exact h

theorem reads (os : Os) {H : Type} (enc : TypeId × Value → H) : ∃ places, DataW.whole enc Tryd.prog ((laidWorld os).forCall (fun _ _ => 0) ⟨#[], #[.slice none 0 0, .slice none 0 0], []⟩).memory Tryd.f6.params.toList Rows.scriptJoinsSpec.vars false #[Value.slice none 0 0, .slice none 0 0].toList 8 = some ([.nil, .nil], [], places) :=
  ⟨[], by kernel_rfl⟩

theorem small_of {es : List Sx.Ent} {N : Nat} (hN : N ≤ 1048576) (h : ∀ e ∈ es, e.m.data.length ≤ N ∧ e.m.keep.length ≤ N) : Ti.Small 1099511627776 es := by
  intro i e he _
  have := h e (List.mem_of_getElem? he)
  omega

set_option maxRecDepth 100000 in
theorem liftedUpto (os : Os) (started : os.Started) (H : Type) (enc : TypeId × Value → H) (F : Stop.Interp) :
    ReturnsInHanded {} Tryd.checked os 6 .any ((Rows.OpenSpec.upto Rows.scriptJoinsSpec).preRow enc Tryd.prog Tryd.f6 Rows.scriptJoinsUptoRow.domain false Rows.scriptJoinsUptoRow.laid) (((Rows.OpenSpec.upto Rows.scriptJoinsSpec).at F).post enc Tryd.prog Tryd.f6 false true false false) := by
  obtain ⟨places, hx⟩ := reads os enc
  have hl : laidMetH Tryd.prog Rows.scriptJoinsUptoRow.laid ((laidWorld os).forCall (fun _ _ => 0) ⟨#[], #[.slice none 0 0, .slice none 0 0], []⟩).memory := by
    show laidMetH Tryd.prog laidL _
    rw [MakeChecks.laidMetH_plain Tryd.prog laidL _ (by kernel_rfl)]
    exact laidWorld_met os _
  refine returnsInHanded_of_row (C := Tryd.checked) (s := Rows.OpenSpec.upto Rows.scriptJoinsSpec) Sn.own started (by kernel_rfl) Tryd.func6
    (witness_row_atRef (enc := enc) (C := Tryd.checked) false (laidWorld os) #[.slice none 0 0, .slice none 0 0] rfl (by kernel_rfl) (by kernel_rfl) (by kernel_rfl)
      (OpenSpec.preRow_of_cond 8 hx (by kernel_rfl) (fun k hk => by cases hk; kernel_rfl) (by kernel_rfl) hl)) ?_
  intro W base args ds gs before hval0 hW _ hcond _ hLH hsh _
  have hL := laid_plain W hLH
  have hbulk0 := hcond _ rfl
  have hval : ∀ (j : Nat) t v, Tryd.f6.params[j]? = some t → args[j]? = some v → Value.okWide Tryd.prog W .any base t v := hval0
  have hW' := hW
  obtain ⟨p, q, hA0, hV, rfl, _, _⟩ := hW
  have hA : DataW.TrodAll enc Tryd.prog W 0 (fun _ => true) true Tryd.f6.params.toList args.toList ds p := hA0
  rw [Tryd.params6] at hA hval
  obtain ⟨v0, v1, d0, d1, q0, q1, rfl, rfl, rfl, h0, h1⟩ := trodAll_two hA
  obtain ⟨rfl, rfl⟩ := trodVars_none hV
  have hbulk : Rows.uptoBulkAll [d0, d1] ≤ 1048576 := by
    have h := of_decide_eq_true hbulk0
    exact h
  have hb0 : Rows.uptoBulk d0 ≤ 1048576 := Nat.le_trans (bulks.part_le (by simp)) hbulk
  have hb1 : Rows.uptoBulk d1 ≤ 1048576 := Nat.le_trans (bulks.part_le (by simp)) hbulk
  obtain ⟨pa, la, ca, rfl⟩ := okWide_slice Tryd.underlying42 (hval 0 42 v0 rfl rfl)
  obtain ⟨pb, lb, cb, rfl⟩ := okWide_slice Tryd.underlying42 (hval 1 42 v1 rfl rfl)
  have h0k := h0
  have h1k := h1
  obtain ⟨fuel0, hf0⟩ := h0
  obtain ⟨fuel1, hf1⟩ := h1
  clear hA0 hval0
  simp only [List.append_nil] at hW'
  have hlt : ∀ x ∈ q0 ++ q1, x.block < W.heap.size := fun x hx => by simpa using hW'.lt x hx
  obtain ⟨p1, es1, c1, hv1, hin1, hn1, hle1, hsm1⟩ := Tn.open_listB (v := .slice pa la ca) (by simpa [Value.cells] using hf0)
  obtain ⟨rfl, rfl, rfl⟩ : pa = p1 ∧ la = es1.length ∧ ca = c1 := by simpa using hv1
  obtain ⟨p2, es2, c2, hv2, hin2, hn2, hle2, hsm2⟩ := Tn.open_listB (v := .slice pb lb cb) (by simpa [Value.cells] using hf1)
  obtain ⟨rfl, rfl, rfl⟩ : pb = p2 ∧ lb = es2.length ∧ cb = c2 := by simpa using hv2
  have hs3 : Ti.Small 1099511627776 (es1 ++ es2) := small_of (N := 1048576) (Nat.le_refl _) (fun e he => by
    rcases List.mem_append.1 he with h | h
    · have h2 := hsm1 e h
      exact ⟨Nat.le_trans h2.1 hb0, Nat.le_trans h2.2 hb0⟩
    · have h2 := hsm2 e h
      exact ⟨Nat.le_trans h2.1 hb1, Nat.le_trans h2.2 hb1⟩)
  refine (Tm.joins_c pa pb es1 es2 ca cb W (env_of hL hsh) hin1 hin2 hn1 hn2 (Nat.le_trans hle1 hb0) (Nat.le_trans hle2 hb1) (small_of hb0 hsm1) (small_of hb1 hsm2) hs3).mono fun e W' ⟨he, bel⟩ => ?_
  subst he
  have ha0 := Below.trod (t := 42) Sn.laidOut (by kernel_rfl) (of_decide_eq_true (by kernel_rfl)) h0k bel (fun x hx => hlt x (List.mem_append.2 (.inl hx)))
  have ha1 := Below.trod (t := 42) Sn.laidOut (by kernel_rfl) (of_decide_eq_true (by kernel_rfl)) h1k bel (fun x hx => hlt x (List.mem_append.2 (.inr hx)))
  exact ⟨_, rfl, _, _, _, [], _, [], hW', trodAll_mk1 (shut_bool Tryd.underlying4 _), trodAll_mk2 ha0 ha1, rfl, bel.frame _, fun h => by cases h⟩

theorem row_holds : Rows.ScriptJoinsUptoSaid :=
  OpenClaim.holds_of_cond 6 Tryd.f6 rfl rfl rfl rfl rfl rfl rfl ⟨rfl, rfl, rfl, rfl, rfl⟩ rfl rfl rfl rfl rfl (by kernel_rfl) Tryd.func6 (by kernel_rfl)
    (of_decide_eq_true (by kernel_rfl)) (by unfold Func.isWrapper; first | (rw [if_pos (by decide +kernel)]; kernel_rfl) | (rw [if_neg (by decide +kernel)]; exact ⟨rfl, rfl⟩))
    (fun os started H enc _ F => by rw [OpenClaim.pre_eq_preRow]; exact liftedUpto os started H enc F)

end Go.Proofs.YtbnbnccpoeopmaaDoor.scriptJoins
namespace Go.Proofs.YtbnbnccpoeopmaaDoor
open Go

theorem scriptJoinsUpto_holds : Rows.ScriptJoinsUptoCardSaid :=
  Claim7.holds_tied_plain_at .later [] [.data, .data, .data, .data, .sentinel, .sentinel, .pinned] true (true, "e28caa0c156bc6755e9567d817388f1b40d90f2df2067ff92cc837d2aa7cd73f") true
    scriptJoins.row_holds (fun _ h => by cases h) (by kernel_rfl) (fun _ h => by cases h) scriptJoinsUpto_row_tie rfl ⟨rfl, rfl⟩ (by kernel_rfl) rfl
    (fun f fn hf hfn => by
      obtain rfl : f = 6 := Option.some.inj ((show Tryd.prog.funcNamed "stopcock/stopcocklaw21.ScriptJoins" = some 6 by kernel_rfl).symm.trans hf) |>.symm
      obtain rfl : fn = Tryd.f6 := (Option.some.inj (Tryd.func6.symm.trans hfn)).symm
      exact ⟨by kernel_rfl, fun j t ht => by
        rw [Tryd.params6] at ht
        have hm : t ∈ [42, 42] := by simpa using Array.mem_of_getElem? ht
        have hall : ([42, 42].all fun u => !Tryd.prog.wantsStandIn u) = true := by kernel_rfl
        exact (show Tryd.prog.wantsStandIn t = false by simpa using List.all_eq_true.1 hall t hm)⟩)
    (by kernel_rfl)
#print axioms scriptJoinsUpto_holds
end Go.Proofs.YtbnbnccpoeopmaaDoor
