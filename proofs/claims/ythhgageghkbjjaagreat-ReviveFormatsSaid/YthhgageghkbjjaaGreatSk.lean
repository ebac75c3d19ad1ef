/- slices.Equal of equal bytes, slices.EqualFunc of equal pages. -/
import Derived.Test.YthhgageghkbjjaaGreatSj
namespace Go.Proofs.YthhgageghkbjjaaGreat.Sk
open Go.RowKit Go.Proofs.YthhgageghkbjjaaGreat.Ra Go.Proofs.YthhgageghkbjjaaGreat.Rc Go.Proofs.YthhgageghkbjjaaGreat.Rd Go.Proofs.YthhgageghkbjjaaGreat.Re Go.Proofs.YthhgageghkbjjaaGreat.Rj Go.Proofs.YthhgageghkbjjaaGreat.Rl Go.Proofs.YthhgageghkbjjaaGreat.Sf Go.Proofs.YthhgageghkbjjaaGreat.Sg
set_option maxRecDepth 8000

set_option maxHeartbeats 4000000 in
theorem eq_c (v u : Value) (l : List UInt8) (w : World) (hv : BytesIn 0 w v l) (hu : BytesIn 0 w u l) (hl : l.length ≤ 1000000) :
    Calls Tryz.prog 63 #[v, u] w fun e w' => e = .returned (.bool true) ∧ Below w.heap.size w w' := by
  obtain ⟨p, c, rfl, hcap, hp⟩ := hv
  obtain ⟨q, d, rfl, hcaq, hq⟩ := hu
  have HP := Lib.hid hp
  have HQ := Lib.hid hq
  clear hp hcap hq hcaq
  obtain ⟨N, hN⟩ : ∃ N, N = l.length := ⟨_, rfl⟩
  rw [← hN] at hl ⊢
  have HN := Lib.hid hN
  clear hN
  go_enter Tryz.func63, Tryz.ntmps63
  go_wp2
  go_loopg [5, 13] (N + 1) (fun gg _ s13 wr => ∃ k : Nat, k ≤ N ∧ N - k < gg ∧ s13 = .int .i64 (k : Int) ∧ Hid (Below w.heap.size w wr))
  case atStart => exact ⟨0, by omega, by omega, rfl, Lib.hid (Below.refl _ _)⟩
  case round =>
    obtain ⟨k, hk, hgg, rfl, HB⟩ := hrel
    by_cases h : k < N
    · have hil : (k : Int) < (N : Int) := by omega
      obtain ⟨y, hy⟩ : ∃ y, l[k]? = some y := ⟨_, List.getElem?_eq_getElem (by rw [← HN.out]; exact h)⟩
      have hne : l ≠ [] := fun e => by rw [e] at hy; cases hy
      obtain ⟨b, o, rfl, hlt, _, hc⟩ := HP.out hne
      obtain ⟨b2, o2, rfl, hlt2, _, hc2⟩ := HQ.out hne
      have cy : wr.cell? ⟨b, o + k, none⟩ = some (.int .u8 (y.toNat : Int)) := (HB.out.cell (p := ⟨b, o + k, none⟩) hlt).trans (hc k y hy)
      have cz : wr.cell? ⟨b2, o2 + k, none⟩ = some (.int .u8 (y.toNat : Int)) := (HB.out.cell (p := ⟨b2, o2 + k, none⟩) hlt2).trans (hc2 k y hy)
      clear hc hc2 hy
      generalize (y.toNat : Int) = yy at *
      go_wp2
      go_quiet (fail)
      have HB2 := Lib.hid (below_drewN HB.out nq)
      go_wp2
      go_roundg (N - (k + 1) + 1)
      case measure => omega
      case rel => exact ⟨k + 1, by omega, by omega, by go_num, HB2⟩
    · have hil : ¬ (k : Int) < (N : Int) := by omega
      obtain rfl : k = N := by omega
      go_wp2
      go_ret
      exact ⟨rfl, HB.out⟩

theorem pages_at {l0 l1 : List UInt8} {v : Value} {w : World} (h : PagesP l0 l1 v w) : ∃ g cap u0 u1, v = .slice (some ⟨g, 0, none⟩) 2 cap ∧ w.cell? ⟨g, 0, none⟩ = some u0 ∧ w.cell? ⟨g, 1, none⟩ = some u1 ∧ BytesIn 0 w u0 l0 ∧ BytesIn 0 w u1 l1 ∧ g < w.heap.size := by
  obtain ⟨g, cap, cs, u0, u1, h1, h2, h3, h4, h5, h6, h7⟩ := h
  exact ⟨g, cap, u0, u1, h1, (blk_cell h3 0).trans h4, (blk_cell h3 1).trans h5, h6.bytes, h7.bytes, lt_of_block h3⟩

set_option maxHeartbeats 4000000 in
theorem equals_c (v u : Value) (l0 l1 : List UInt8) (w : World) (hv : PagesP l0 l1 v w) (hu : PagesP l0 l1 u w) (hl0 : l0.length ≤ 1000000) (hl1 : l1.length ≤ 1000000) :
    Calls Tryz.prog 62 #[v, u, .func (.func 63) #[] #[]] w fun e w' => e = .returned (.bool true) ∧ Below w.heap.size w w' := by
  obtain ⟨g, cap, v0, v1, rfl, gv0, gv1, bv0, bv1, hg⟩ := pages_at hv
  obtain ⟨k, kap, u0, u1, rfl, gu0, gu1, bu0, bu1, hk⟩ := pages_at hu
  have KE := Lib.hid (fun (W : World) (hb : Below w.heap.size w W) => eq_c v0 u0 l0 W (bv0.step (Step.of hb (Nat.zero_le _))) (bu0.step (Step.of hb (Nat.zero_le _))) hl0)
  have KF := Lib.hid (fun (W : World) (hb : Below w.heap.size w W) => eq_c v1 u1 l1 W (bv1.step (Step.of hb (Nat.zero_le _))) (bu1.step (Step.of hb (Nat.zero_le _))) hl1)
  have CL := Lib.hid (fun (W : World) (hb : Below w.heap.size w W) => (⟨(hb.cell (p := ⟨g, 0, none⟩) hg).trans gv0, (hb.cell (p := ⟨g, 1, none⟩) hg).trans gv1, (hb.cell (p := ⟨k, 0, none⟩) hk).trans gu0, (hb.cell (p := ⟨k, 1, none⟩) hk).trans gu1⟩ : W.cell? ⟨g, 0, none⟩ = some v0 ∧ W.cell? ⟨g, 1, none⟩ = some v1 ∧ W.cell? ⟨k, 0, none⟩ = some u0 ∧ W.cell? ⟨k, 1, none⟩ = some u1))
  clear hv hu bv0 bv1 bu0 bu1 gv0 gv1 gu0 gu1
  go_enter Tryz.func62, Tryz.ntmps62
  go_wp2
  go_loopg [7, 8, 9, 17] (3) (fun gg _ _ _ s17 wr => ∃ j : Nat, j ≤ 2 ∧ 2 - j < gg ∧ s17 = .int .i64 (j : Int) ∧ Hid (Below w.heap.size w wr))
  case atStart => exact ⟨0, by omega, by omega, rfl, Lib.hid (Below.refl _ _)⟩
  case round =>
    obtain ⟨j, hj, hgg, rfl, HB⟩ := hrel
    obtain ⟨q0, q1, r0, r1⟩ := CL.out wr HB.out
    have hX := Nat.lt_of_lt_of_le hg HB.out.size
    obtain rfl | rfl | rfl : j = 0 ∨ j = 1 ∨ j = 2 := by omega
    · rw [show ((0 : Nat) : Int) = 0 from rfl]
      go_wp2_with (go_at_call 63; (with_reducible refine (KE.out _ HB.out).mono ?_); rintro e w5 ⟨rfl, hb5⟩; have HB2 := Lib.hid (HB.out.trans (hb5.mono HB.out.size)); clear hb5)
      go_roundg (2)
      case measure => omega
      case rel => exact ⟨1, by omega, by omega, by go_num, HB2⟩
    · rw [show ((1 : Nat) : Int) = 1 from rfl]
      go_wp2_with (go_at_call 63; (with_reducible refine (KF.out _ HB.out).mono ?_); rintro e w5 ⟨rfl, hb5⟩; have HB2 := Lib.hid (HB.out.trans (hb5.mono HB.out.size)); clear hb5)
      go_roundg (1)
      case measure => omega
      case rel => exact ⟨2, by omega, by omega, by go_num, HB2⟩
    · rw [show ((2 : Nat) : Int) = 2 from rfl]
      go_wp2
      go_ret
      exact ⟨rfl, HB.out⟩
end Go.Proofs.YthhgageghkbjjaaGreat.Sk
