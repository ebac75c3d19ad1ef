/- Without a pool requests and picks are answered so, and behind a crash there is none till one is opened; for every request, pick and list of kept writes. The listed tables and errors of the library read as the program's text lays them. -/
import Derived.Test.YtjohhjdicbeojaaGreatDoorWe
import Derived.Test.YtjohhjdicbeojaaGreatDoorWf
import Derived.Test.YtjohhjdicbeojaaGreatDoorKSn
import Derived.Test.YtjohhjdicbeojaaGreatDoorTie
import Derived.Test.YtjohhjdicbeojaaGreatDoorCards
import Derived.SevenTiedAt
import Derived.ChangeMaps5
import Derived.ProofKit
namespace Go.Proofs.YtjohhjdicbeojaaGreatDoor.shellCloses
open Go.ChangeShapes Go.WideShapes Go.ChangeAt Go.RowKit Go.Proofs.YtjohhjdicbeojaaGreatDoor.KSn
open Go.ChangeMaps (open_string shut_string)

set_option maxRecDepth 100000 in
theorem lifted (os : Os) (started : os.Started) (H : Type) (enc : TypeId × Value → H) :
    ReturnsInHanded {} Tryz.checked os 3 .any (fun w args => (Rows.shellClosesSpec.pre enc Tryz.prog Tryz.f3 Rows.shellClosesRow.domain false w args ∧ laidMet Tryz.prog laidL w) ∧ sizedMet enc Tryz.prog Tryz.f3 (OpenSpec.ofChange Rows.shellClosesSpec) false w args)
      (Rows.shellClosesSpec.post enc Tryz.prog Tryz.f3 false true false false) := by
  refine change_and_shaped (C := Tryz.checked) (X := fun w _ => laidMet Tryz.prog laidL w) (fun _ _ _ hh h => h.of_heap hh) KSn.own started (by kernel_rfl) Tryz.func3
    (ChangeSpec.witness_at (enc := enc) (C := Tryz.checked) (os := os) (X := fun w _ => laidMet Tryz.prog laidL w) false (laidWorld os) #[.agg #[.int .i64 0, .int .i64 0, .int .i64 0, .int .i64 0, .slice none 0 0], .int .i64 0, .slice none 0 0] 8 rfl (by kernel_rfl) (by kernel_rfl) (by kernel_rfl) (by kernel_rfl) (by kernel_rfl) (laidWorld_met os _)) ?_
  intro W base args ds gs before hval0 hW hL hsh
  have hval : ∀ (j : Nat) t v, Tryz.f3.params[j]? = some t → args[j]? = some v → Value.okWide Tryz.prog W .any base t v := hval0
  have hW' := hW
  obtain ⟨p, q, hA0, hV, rfl, _, _⟩ := hW
  have hA : DataW.TrodAll enc Tryz.prog W 0 (fun _ => true) true Tryz.f3.params.toList args.toList ds p := hA0
  rw [Tryz.params3] at hA hval
  obtain ⟨v0, vs0, d0, ds0, p0, q0, hargs, rfl, rfl, h0, r0⟩ := trodAll_cons hA
  obtain ⟨v1, vs1, d1, ds1, p1, q1, rfl, rfl, rfl, h1, r1⟩ := trodAll_cons r0
  obtain ⟨v2, vs2, d2, ds2, p2, q2, rfl, rfl, rfl, h2, r2⟩ := trodAll_cons r1
  obtain ⟨rfl, rfl, rfl⟩ := trodAll_nil r2
  obtain rfl : args = #[v0, v1, v2] := by cases args; simp_all
  obtain ⟨rfl, rfl⟩ := trodVars_none hV
  obtain ⟨pick, rfl, rfl, rfl, wp⟩ := open_int Tryz.underlying3 (hval 1 3 v1 rfl rfl) h1
  obtain ⟨cs, rfl, _⟩ := okWide_struct Tryz.underlying24 (hval 0 24 v0 rfl rfl)
  obtain ⟨sp, sl, sc, rfl⟩ := okWide_slice Tryz.underlying25 (hval 2 25 v2 rfl rfl)
  have h0k := h0
  have h2k := h2
  obtain ⟨fuel, hf⟩ := h0
  obtain ⟨fuel2, hf2⟩ := h2
  clear hA0 hval0
  simp only [List.append_nil, List.nil_append] at hW'
  have hlt : ∀ x ∈ p0, x.block < W.heap.size := DataW.trod_lt fuel _ _ _ hf
  have hlt2 : ∀ x ∈ p2, x.block < W.heap.size := DataW.trod_lt fuel2 _ _ _ hf2
  obtain ⟨rk, v, b, s, bp, bl, bc, la, hcs, hla, hr⟩ := Wf.open_req hf
  have hcs : cs.toList = [.int .i64 rk, .int .i64 v, .int .i64 b, .int .i64 s, .slice bp bl bc] := by simpa [Value.cells] using hcs
  obtain rfl : cs = #[.int .i64 rk, .int .i64 v, .int .i64 b, .int .i64 s, .slice bp bl bc] := by
    obtain ⟨l⟩ := cs
    exact congrArg Array.mk hcs
  obtain ⟨kp, kl, kc, lk, hkv, hlk, hk⟩ := Wf.open_keep hf2
  obtain ⟨rfl, rfl, rfl⟩ : sp = kp ∧ sl = kl ∧ sc = kc := by
    injection hkv with a b c
    exact ⟨a, b, c⟩
  refine (We.closes_c rk v b s pick bp sp bl bc sl sc la lk W (env_of hL hsh) (KTg.wf_i64' wp) hla hlk hr hk).mono fun e W' ⟨he, bel⟩ => ?_
  subst he
  exact ⟨_, rfl, _, _, _, [], _, [], hW', trodAll_mk1 (shut_bool Tryz.underlying4 _), (trodAll_cons_mk (Below.trod KSn.laidOut (by kernel_rfl) (of_decide_eq_true (by kernel_rfl)) h0k bel hlt) (trodAll_cons_mk (shut_int Tryz.underlying3 wp) (trodAll_cons_mk (Below.trod KSn.laidOut (by kernel_rfl) (of_decide_eq_true (by kernel_rfl)) h2k bel hlt2) trodAll_mk0))), rfl, bel.frame _, fun h => by cases h⟩

theorem row_holds : Rows.ShellClosesSaid :=
  OpenClaim.holds_of_wide 3 Tryz.f3 rfl rfl rfl rfl rfl rfl rfl ⟨rfl, rfl, rfl, rfl, rfl⟩ rfl rfl rfl rfl rfl (by kernel_rfl) Tryz.func3 (by kernel_rfl)
    (of_decide_eq_true (by kernel_rfl)) (by unfold Func.isWrapper; first | (rw [if_pos (by decide +kernel)]; kernel_rfl) | (rw [if_neg (by decide +kernel)]; exact ⟨rfl, rfl⟩))
    (fun os started H enc _ => lifted os started H enc)

end Go.Proofs.YtjohhjdicbeojaaGreatDoor.shellCloses
namespace Go.Proofs.YtjohhjdicbeojaaGreatDoor
open Go

theorem shellCloses_holds : Rows.ShellClosesCardSaid :=
  Claim7.holds_tied_plain_at .later [] [.data, .data, .data, .data, .sentinel, .sentinel, .pinned] true (true, "686a650929db8cd807c8844a32629704f98c883d5a136b1a573a32f7e5a08bb6") true
    shellCloses.row_holds (fun _ h => by cases h) (by kernel_rfl) (fun _ h => by cases h) shellCloses_row_tie rfl ⟨rfl, rfl⟩ (by kernel_rfl) rfl
    (fun f fn hf hfn => by
      obtain rfl : f = 3 := Option.some.inj ((show Tryz.prog.funcNamed "stopcock/stopcocklaw22.ShellCloses" = some 3 by kernel_rfl).symm.trans hf) |>.symm
      obtain rfl : fn = Tryz.f3 := (Option.some.inj (Tryz.func3.symm.trans hfn)).symm
      exact ⟨by kernel_rfl, fun j t ht => by
        rw [Tryz.params3] at ht
        have hm : t ∈ [24, 3, 25] := by simpa using Array.mem_of_getElem? ht
        have hall : ([24, 3, 25].all fun u => !Tryz.prog.wantsStandIn u) = true := by kernel_rfl
        exact (show Tryz.prog.wantsStandIn t = false by simpa using List.all_eq_true.1 hall t hm)⟩)
    (by kernel_rfl)
#print axioms shellCloses_holds
end Go.Proofs.YtjohhjdicbeojaaGreatDoor
