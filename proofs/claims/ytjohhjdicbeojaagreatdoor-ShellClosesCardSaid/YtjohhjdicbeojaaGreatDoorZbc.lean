/- Texts joined: Sl Sm. -/
import Derived.Deep.RegionHeld3
import Derived.Test.YtjohhjdicbeojaaGreatDoorZbb
namespace Go.Proofs.YtjohhjdicbeojaaGreatDoor.Sl
open Go.RowKit Go.Proofs.YtjohhjdicbeojaaGreatDoor.Ra Go.Proofs.YtjohhjdicbeojaaGreatDoor.Rc Go.Proofs.YtjohhjdicbeojaaGreatDoor.Rd Go.Proofs.YtjohhjdicbeojaaGreatDoor.Re Go.Proofs.YtjohhjdicbeojaaGreatDoor.Rj Go.Proofs.YtjohhjdicbeojaaGreatDoor.Rl Go.Proofs.YtjohhjdicbeojaaGreatDoor.Rn Go.Proofs.YtjohhjdicbeojaaGreatDoor.Ro Go.Proofs.YtjohhjdicbeojaaGreatDoor.Rp Go.Proofs.YtjohhjdicbeojaaGreatDoor.Rq Go.Proofs.YtjohhjdicbeojaaGreatDoor.Rw Go.Proofs.YtjohhjdicbeojaaGreatDoor.Sf Go.Proofs.YtjohhjdicbeojaaGreatDoor.Sg
set_option maxRecDepth 8000
theorem unrow_c (p : Option Addr) (c : Nat) (w : World) : Calls Tryz.prog 213 #[.slice p 0 c, .int .i64 2] w fun e w' => e = .returned (.tuple #[.slice none 0 0, .int .i64 0]) ∧ w = w' := by
  have KS := Lib.hid (fun (W : World) => size_c 2 W (by omega) (by omega))
  go_enter Tryz.func213, Tryz.ntmps213
  go_wp2_with (go_at_call 241; (with_reducible refine (KS.out _).mono ?_); rintro e w1 ⟨rfl, rfl⟩)
  go_loopg [0, 6] (1) (fun gg s0 s6 wr => s0 = .slice p 0 c ∧ s6 = .slice none 0 0 ∧ gg = 1 ∧ wr = w)
  case atStart => exact ⟨rfl, rfl, rfl, rfl⟩
  case round =>
    obtain ⟨rfl, rfl, _, rfl⟩ := hrel
    go_wp2
    go_ret2
    exact ⟨rfl, rfl⟩
theorem cellE {w : World} {b : Nat} (h : w.heap[b]? = some (.cells emptyCells 96 (0, 0))) (k : Nat) (hk : k < 16) : w.cell? ⟨b, k, none⟩ = some (.int .i64 0) := by
  have := (Ru.rangeEn h) k (.int .i64 0) (by
    have hcase : k = 0 ∨ k = 1 ∨ k = 2 ∨ k = 3 ∨ k = 4 ∨ k = 5 ∨ k = 6 ∨ k = 7 ∨ k = 8 ∨ k = 9 ∨ k = 10 ∨ k = 11 ∨ k = 12 ∨ k = 13 ∨ k = 14 ∨ k = 15 := by omega
    rcases hcase with rfl | rfl | rfl | rfl | rfl | rfl | rfl | rfl | rfl | rfl | rfl | rfl | rfl | rfl | rfl | rfl <;> rfl)
  rwa [Nat.zero_add] at this
theorem setE0 (k : Nat) (hk : k < 16) : emptyCells.setIfInBounds k (.int .i64 0) = emptyCells := by
  have hcase : k = 0 ∨ k = 1 ∨ k = 2 ∨ k = 3 ∨ k = 4 ∨ k = 5 ∨ k = 6 ∨ k = 7 ∨ k = 8 ∨ k = 9 ∨ k = 10 ∨ k = 11 ∨ k = 12 ∨ k = 13 ∨ k = 14 ∨ k = 15 := by omega
  rcases hcase with rfl | rfl | rfl | rfl | rfl | rfl | rfl | rfl | rfl | rfl | rfl | rfl | rfl | rfl | rfl | rfl <;> rfl
set_option maxHeartbeats 4000000 in
theorem state_c (v : Value) (s b : Int) (w : World) (hv : BytesIn 0 w v (List.replicate 16 0)) :
    Calls Tryz.prog 161 #[v, .agg #[.int .i64 s, .int .i64 b]] w fun e w' => e = .returned (.tuple #[.agg emptyCells, .bool true]) ∧ Below w.heap.size w w' := by
  have h1 := blk_new (w.alloc (.cells #[.int .i64 s, .int .i64 b] 58)) emptyCells 96
  have H0 : Hid (((w.alloc (.cells #[.int .i64 s, .int .i64 b] 58)).alloc (.cells emptyCells 96)).heap[w.heap.size + 1]? = some (.cells emptyCells 96 (0, 0)) ∧ Below w.heap.size w ((w.alloc (.cells #[.int .i64 s, .int .i64 b] 58)).alloc (.cells emptyCells 96))) := Lib.hid ⟨by rw [sz_alloc] at h1; exact h1, ((Below.refl _ _).alloc (Nat.le_refl _) _).alloc (by rw [sz_alloc]; omega) _⟩
  clear h1
  have HV := Lib.hid (hv.step (Step.of H0.out.2 (Nat.zero_le _)))
  have HSE := Lib.hid (fun (W : World) (p : Option Addr) (c : Nat) => unrow_c p c W)
  obtain ⟨p, c, rfl, _⟩ := hv.form
  clear hv
  rw [show (List.replicate 16 (0 : UInt8)).length = 16 from rfl] at HV ⊢
  go_enter Tryz.func161, Tryz.ntmps161
  go_upto_region 1 with fail
  rw [show (w.alloc (.cells #[.int .i64 s, .int .i64 b] 58)).alloc (.cells #[.int .i64 0, .int .i64 0, .int .i64 0, .int .i64 0, .int .i64 0, .int .i64 0, .int .i64 0, .int .i64 0, .int .i64 0, .int .i64 0, .int .i64 0, .int .i64 0, .int .i64 0, .int .i64 0, .int .i64 0, .int .i64 0, .slice none 0 0, .slice none 0 0, .slice none 0 0, .slice none 0 0, .slice none 0 0, .slice none 0 0, .slice none 0 0, .slice none 0 0] 96) = (w.alloc (.cells #[.int .i64 s, .int .i64 b] 58)).alloc (.cells emptyCells 96) from rfl]
  generalize (w.alloc (.cells #[.int .i64 s, .int .i64 b] 58)).alloc (.cells emptyCells 96) = w0 at *
  go_wp2
  go_loopg [0, 14] (9) (fun gg s0 s14 wr => ∃ (j : Nat) (q : Option Addr) (d : Nat), j ≤ 8 ∧ 8 - j < gg ∧ s14 = .int .i64 (j : Int) ∧ s0 = .slice q (16 - 2 * j) d ∧ Hid (BytesIn 0 wr (.slice q (16 - 2 * j) d) (List.replicate (16 - 2 * j) 0) ∧ wr.heap[w.heap.size + 1]? = some (.cells emptyCells 96 (0, 0)) ∧ Below w.heap.size w wr))
  case atStart => exact ⟨0, p, c, by omega, by omega, rfl, rfl, Lib.hid ⟨HV.out, H0.out⟩⟩
  case round =>
    obtain ⟨j, q, d, hj, hgg, rfl, rfl, HR⟩ := hrel
    by_cases hlt : j < 8
    · have hil : (j : Int) < 8 := by omega
      obtain ⟨n, hn⟩ : ∃ n, 16 - 2 * j = n + 2 := ⟨14 - 2 * j, by omega⟩
      rw [hn] at HR ⊢
      obtain ⟨g, o, rfl, hgl, hgs, hgc⟩ := bytes_at HR.out.1 (by simp)
      have z0 : wr.cell? ⟨g, o, none⟩ = some (.int .u8 0) := hgc 0 0 (by simp)
      have z1 : wr.cell? ⟨g, o + 1, none⟩ = some (.int .u8 0) := hgc 1 0 (by simp)
      have hge : ¬ ((n : Int) + 2 < 2) := by omega
      have i0 : (0 : Int) < (n : Int) + 2 := by omega
      have i1 : (1 : Int) < (n : Int) + 2 := by omega
      have hnc : n + 2 ≤ d := by
        obtain ⟨_, _, e, hcap, _⟩ := HR.out.1
        injection e with _ e2 e3
        rw [e3]; simpa using hcap
      clear hgc hgs
      go_wp2
      have hX := lt_of_block HR.out.2.1
      have hgne : g ≠ wr.heap.size := Nat.ne_of_lt hgl
      have hgne2 : wr.heap.size ≠ g := fun e => hgne e.symm
      go_region_held3 (fun W => W.cell? ⟨g, o, none⟩ = some (.int .u8 0) ∧ W.cell? ⟨g, o + 1, none⟩ = some (.int .u8 0)) (go_keep) (fail)
      rw [show IntKind.i64.wrap 0 = 0 from by decide]
      obtain ⟨w6, hw6⟩ : ∃ W, W = (wr.alloc (.cells #[.int .i64 0, .int .i64 0] 91)).drew := ⟨_, rfl⟩
      have hb6 : Below wr.heap.size wr w6 := by rw [hw6]; exact ((Below.refl _ _).alloc (Nat.le_refl _) _).drew
      have he6 : w6.heap[wr.heap.size]? = some (.cells #[.int .i64 0, .int .i64 0] 91 (0, 0)) := by rw [hw6]; exact blk_new _ _ _
      have H6 : Hid (BytesIn 0 w6 (.slice (some ⟨g, o, none⟩) (n + 2) d) (List.replicate (n + 2) 0) ∧ w6.heap[w.heap.size + 1]? = some (.cells emptyCells 96 (0, 0)) ∧ Below w.heap.size w w6) := Lib.hid ⟨HR.out.1.step (Step.of hb6 (Nat.zero_le _)), blk_below HR.out.2.1 hb6 hX, HR.out.2.2.trans (hb6.mono HR.out.2.2.size)⟩
      have hM : w.heap.size + 1 < wr.heap.size := hX
      rw [← hw6]
      have e0 : w6.cell? ⟨wr.heap.size, 0, none⟩ = some (.int .i64 0) := blk_cell he6 0
      have e1 : w6.cell? ⟨wr.heap.size, 1, none⟩ = some (.int .i64 0) := blk_cell he6 1
      have HE6 := Lib.hid he6
      clear hw6 hb6 he6 HR z0 z1 hgl hgne hgne2 hX
      generalize wr.heap.size = M at *
      have n0 : ¬ ((n : Int) < 0) := by omega
      have n2 : ¬ ((n : Int) + 2 < 2) := by omega
      have n22 : (2 : Int) ≤ (n : Int) + 2 := by omega
      have nd : (n : Int) + 2 ≤ (d : Int) := by omega
      go_wp2_with (go_at_call 213; (with_reducible refine (HSE.out _ _ _).mono ?_); rintro e w7 ⟨rfl, rfl⟩)
      · obtain rfl : n = 0 := by omega
        have HNB : Hid (BytesIn 0 w6 (.slice (some ⟨g, o, none⟩) 0 0) (List.replicate 0 0)) := Lib.hid (BytesIn.nil _ _ _ _)
        go_loopg [50] (1) (fun gg s50 wr2 => s50 = .int .i64 0 ∧ gg = 1 ∧ wr2 = w6)
        case atStart => exact ⟨rfl, rfl, rfl⟩
        case round =>
          obtain ⟨rfl, _, rfl⟩ := hrel
          go_wp2
          have hM1 : M ≠ w.heap.size + 1 := fun e => by omega
          have hM2 : w.heap.size + 1 ≠ M := fun e => by omega
          have cs0 : wr.cell? ⟨w.heap.size + 1, j * 2, none⟩ = some (.int .i64 0) := cellE H6.out.2.1 (j * 2) (by omega)
          have cs1 : wr.cell? ⟨w.heap.size + 1, j * 2 + 1, none⟩ = some (.int .i64 0) := cellE H6.out.2.1 (j * 2 + 1) (by omega)
          have fs0 : wr.frozen? ⟨w.heap.size + 1, j * 2, none⟩ = false := blk_free H6.out.2.1 _
          have fs1 : wr.frozen? ⟨w.heap.size + 1, j * 2 + 1, none⟩ = false := blk_free H6.out.2.1 _
          have hj0 : ¬ ((j : Int) < 0) := by omega
          have hw0 : IntKind.i64.wrap 0 = 0 := by decide
          have hix := index_entry (j : Int) ⟨by omega, hil⟩
          have hX := lt_of_block H6.out.2.1
          go_region_held3 (fun W => W.cell? ⟨M, 0, none⟩ = some (.int .i64 0) ∧ W.cell? ⟨M, 1, none⟩ = some (.int .i64 0)) (go_keep) (fail)
          obtain ⟨w9, hw9⟩ : ∃ W, W = ((wr.setCell ⟨w.heap.size + 1, j * 2, none⟩ (.int .i64 0)).setCell ⟨w.heap.size + 1, j * 2 + 1, none⟩ (.int .i64 0)).drew := ⟨_, rfl⟩
          have H9 : Hid (BytesIn 0 w9 (.slice (some ⟨g, o, none⟩) 0 0) (List.replicate 0 0) ∧ w9.heap[w.heap.size + 1]? = some (.cells emptyCells 96 (0, 0)) ∧ Below w.heap.size w w9) := Lib.hid (by
            have hbe : w9.heap[w.heap.size + 1]? = wr.heap[w.heap.size + 1]? := by
              have e1 := blk_set (blk_set H6.out.2.1 (j * 2) (.int .i64 0)) (j * 2 + 1) (.int .i64 0)
              rw [setE0 _ (by omega), setE0 _ (by omega)] at e1
              rw [hw9, H6.out.2.1]
              exact e1
            have hbo : ∀ k, k ≠ w.heap.size + 1 → w9.heap[k]? = wr.heap[k]? := fun k hk => by
              rw [hw9]
              show (((wr.setCell _ _).setCell _ _).heap)[k]? = _
              rw [Below.heap_setCell _ _ _ k hk, Below.heap_setCell _ _ _ k hk]
            have hba : ∀ k : Nat, w9.heap[k]? = wr.heap[k]? := fun k => if h : k = w.heap.size + 1 then h ▸ hbe else hbo k h
            have hsz : w9.heap.size = wr.heap.size := by rw [hw9]; simp
            have hst : Step 0 wr w9 := ⟨by rw [hw9]; exact (((Below.refl 0 wr).setCell (Nat.zero_le _) _).setCell (Nat.zero_le _) _).drew, fun b o h _ => (hba b).trans h⟩
            refine ⟨HNB.out.step hst, hbe.trans H6.out.2.1, H6.out.2.2.trans ⟨?_, ?_, ?_, by rw [hsz]; exact Nat.le_refl _, fun k _ => hba k⟩⟩ <;> rw [hw9] <;> rfl)
          rw [← hw9]
          clear hw9 cs0 cs1 fs0 fs1 hX
          go_wp2_with (fail)
          go_roundg (8 - (j + 1) + 1)
          case measure => omega
          case rel => exact ⟨j + 1, (some ⟨g, o, none⟩), 0, by omega, by omega, by go_num, by rw [show 16 - 2 * (j + 1) = 0 from by omega], by rw [show 16 - 2 * (j + 1) = 0 from by omega]; exact H9⟩
      · have HNB : Hid (BytesIn 0 w6 (.slice (some ⟨g, o + 2, none⟩) n (d - 2)) (List.replicate n 0)) := Lib.hid (by
          have := H6.out.1.cut 2 (n + 2) (by omega) (by simp) (some ⟨g, o + 2, none⟩) (d - 2) (by omega) (fun b' o' e _ => by
            injection e with e
            injection e with e1 e2
            rw [e1, e2])
          rw [Nat.add_sub_cancel, List.drop_replicate, Nat.add_sub_cancel, List.take_replicate, Nat.min_self] at this
          exact this)
        have nd2 : (n : Int) ≤ ((d - 2 : Nat) : Int) := by omega
        have hd2 : ¬ d - 2 = 0 := by omega
        generalize d - 2 = d2 at *
        go_loopg [50] (1) (fun gg s50 wr2 => s50 = .int .i64 0 ∧ gg = 1 ∧ wr2 = w6)
        case atStart => exact ⟨rfl, rfl, rfl⟩
        case round =>
          obtain ⟨rfl, _, rfl⟩ := hrel
          go_wp2
          have hM1 : M ≠ w.heap.size + 1 := fun e => by omega
          have hM2 : w.heap.size + 1 ≠ M := fun e => by omega
          have cs0 : wr.cell? ⟨w.heap.size + 1, j * 2, none⟩ = some (.int .i64 0) := cellE H6.out.2.1 (j * 2) (by omega)
          have cs1 : wr.cell? ⟨w.heap.size + 1, j * 2 + 1, none⟩ = some (.int .i64 0) := cellE H6.out.2.1 (j * 2 + 1) (by omega)
          have fs0 : wr.frozen? ⟨w.heap.size + 1, j * 2, none⟩ = false := blk_free H6.out.2.1 _
          have fs1 : wr.frozen? ⟨w.heap.size + 1, j * 2 + 1, none⟩ = false := blk_free H6.out.2.1 _
          have hj0 : ¬ ((j : Int) < 0) := by omega
          have hw0 : IntKind.i64.wrap 0 = 0 := by decide
          have hix := index_entry (j : Int) ⟨by omega, hil⟩
          have hX := lt_of_block H6.out.2.1
          go_region_held3 (fun W => W.cell? ⟨M, 0, none⟩ = some (.int .i64 0) ∧ W.cell? ⟨M, 1, none⟩ = some (.int .i64 0)) (go_keep) (fail)
          obtain ⟨w9, hw9⟩ : ∃ W, W = ((wr.setCell ⟨w.heap.size + 1, j * 2, none⟩ (.int .i64 0)).setCell ⟨w.heap.size + 1, j * 2 + 1, none⟩ (.int .i64 0)).drew := ⟨_, rfl⟩
          have H9 : Hid (BytesIn 0 w9 (.slice (some ⟨g, o + 2, none⟩) n d2) (List.replicate n 0) ∧ w9.heap[w.heap.size + 1]? = some (.cells emptyCells 96 (0, 0)) ∧ Below w.heap.size w w9) := Lib.hid (by
            have hbe : w9.heap[w.heap.size + 1]? = wr.heap[w.heap.size + 1]? := by
              have e1 := blk_set (blk_set H6.out.2.1 (j * 2) (.int .i64 0)) (j * 2 + 1) (.int .i64 0)
              rw [setE0 _ (by omega), setE0 _ (by omega)] at e1
              rw [hw9, H6.out.2.1]
              exact e1
            have hbo : ∀ k, k ≠ w.heap.size + 1 → w9.heap[k]? = wr.heap[k]? := fun k hk => by
              rw [hw9]
              show (((wr.setCell _ _).setCell _ _).heap)[k]? = _
              rw [Below.heap_setCell _ _ _ k hk, Below.heap_setCell _ _ _ k hk]
            have hba : ∀ k : Nat, w9.heap[k]? = wr.heap[k]? := fun k => if h : k = w.heap.size + 1 then h ▸ hbe else hbo k h
            have hsz : w9.heap.size = wr.heap.size := by rw [hw9]; simp
            have hst : Step 0 wr w9 := ⟨by rw [hw9]; exact (((Below.refl 0 wr).setCell (Nat.zero_le _) _).setCell (Nat.zero_le _) _).drew, fun b o h _ => (hba b).trans h⟩
            refine ⟨HNB.out.step hst, hbe.trans H6.out.2.1, H6.out.2.2.trans ⟨?_, ?_, ?_, by rw [hsz]; exact Nat.le_refl _, fun k _ => hba k⟩⟩ <;> rw [hw9] <;> rfl)
          rw [← hw9]
          clear hw9 cs0 cs1 fs0 fs1 hX
          go_wp2_with (fail)
          go_roundg (8 - (j + 1) + 1)
          case measure => omega
          case rel => exact ⟨j + 1, (some ⟨g, o + 2, none⟩), d2, by omega, by omega, by go_num, by rw [show 16 - 2 * (j + 1) = n from by omega], by rw [show 16 - 2 * (j + 1) = n from by omega]; exact H9⟩
    · have hil : ¬ (j : Int) < 8 := by omega
      obtain rfl : j = 8 := by omega
      rw [show 16 - 2 * 8 = 0 from rfl] at HR ⊢
      go_wp2_with (first
        | (refine wpList_load_row rfl 96 (.tmp 4) rfl (w.heap.size + 1) rfl _ emptyCells _ _ HR.out.2.1 Tryz.underlying96 rfl sizeE' ?_)
        | (refine wpList_store_mid rfl 96 (.tmp 4) (.tmp 88) rfl (w.heap.size + 1) 0 emptyCells rfl rfl (thereE' HR.out.2.1) sizeE' (by kernel_rfl) ?_))
      exact bodyPost_ret (results_cell_one rfl _ _ (w.heap.size + 1) _ _ _ _ rfl (setE' HR.out.2.1) Tryz.underlying96 rfl sizeE') rfl ⟨rfl, belowSet HR.out.2.2 (Nat.le_refl _) (Nat.le_succ _) _⟩
end Go.Proofs.YtjohhjdicbeojaaGreatDoor.Sl
namespace Go.Proofs.YtjohhjdicbeojaaGreatDoor.Sm
open Go.RowKit Go.Proofs.YtjohhjdicbeojaaGreatDoor.Ra Go.Proofs.YtjohhjdicbeojaaGreatDoor.Rc Go.Proofs.YtjohhjdicbeojaaGreatDoor.Rd Go.Proofs.YtjohhjdicbeojaaGreatDoor.Re Go.Proofs.YtjohhjdicbeojaaGreatDoor.Ri Go.Proofs.YtjohhjdicbeojaaGreatDoor.Rj Go.Proofs.YtjohhjdicbeojaaGreatDoor.Rl Go.Proofs.YtjohhjdicbeojaaGreatDoor.Rn Go.Proofs.YtjohhjdicbeojaaGreatDoor.Ro Go.Proofs.YtjohhjdicbeojaaGreatDoor.Rp Go.Proofs.YtjohhjdicbeojaaGreatDoor.Rq Go.Proofs.YtjohhjdicbeojaaGreatDoor.Rw Go.Proofs.YtjohhjdicbeojaaGreatDoor.Sd Go.Proofs.YtjohhjdicbeojaaGreatDoor.Se Go.Proofs.YtjohhjdicbeojaaGreatDoor.Sf Go.Proofs.YtjohhjdicbeojaaGreatDoor.Sg
set_option maxRecDepth 8000
noncomputable def r22 : Array Oper := funcOps Tryz.f105 22
/-- Decode's boxes behind its checks: the answers' (A, A + 1), the found ones' (G, H), the header's (K). -/
structure DB (A G H K : Nat) (s b : Int) (w W : World) : Prop where
  st : W.heap[A]? = some (.cells emptyCells 96 (0, 0))
  pl : ∃ x y, W.heap[A + 1]? = some (.cells #[x, y] 58 (0, 0))
  fs : W.heap[G]? = some (.cells emptyCells 96 (0, 0))
  fp : W.heap[H]? = some (.cells #[.int .i64 s, .int .i64 b] 58 (0, 0))
  hd : W.cell? ⟨K, 0, none⟩ = some (.int .i64 1)
  below : Below w.heap.size w W
def T22 (s b : Int) (K : Nat) : Nat → Value → Prop
  | 0, v => v = .agg emptyCells
  | 1, v => v = .agg #[.int .i64 s, .int .i64 b]
  | 2, v => v = .pointer (some ⟨K, 0, none⟩)
  | 3, v => v = .int .i64 1
  | 6, v => v = .int .i64 1
  | 7, v => v = .int .i64 0
  | _, _ => True
def T22L (s b : Int) (K : Nat) (_ : Nat → Prop) (j : Nat) (v : Value) (_ : World) : Prop := T22 s b K j v
theorem setCells_cell {w : World} {b k : Nat} {v : Value} (l : List Value) (hne : b ≠ k) (h : w.cell? ⟨k, 0, none⟩ = some v) : (w.setCells b 0 l).cell? ⟨k, 0, none⟩ = some v :=
  (World.cell?_of_block ((grownBy_setCells b l 0 w).block k (World.block_lt_of_cell? w ⟨k, 0, none⟩ h) (fun e => hne (Option.some.inj e).symm))).trans h
theorem field_h (K : Nat) (w : World) : (Instr.fieldAt 267 (.pointer (some ⟨K, 0, none⟩)) 0).run Tryz.prog w = .ok (.pointer (some ⟨K, 0, none⟩)) w := by kernel_rfl
set_option maxHeartbeats 4000000 in
theorem owes22 {Q : Exit → Act → World → Prop} (A G H K : Nat) (s b : Int) (w0 : World) (hA : w0.heap.size ≤ A) (h1 : A ≠ G) (h2 : A ≠ H) (h3 : A ≠ K) (h4 : A + 1 ≠ G) (h5 : A + 1 ≠ H) (h6 : A + 1 ≠ K) (a0 : Act)
    (e2 : a0.tmps[2]? = some (.pointer (some ⟨A, 0, none⟩))) (e3 : a0.tmps[3]? = some (.pointer (some ⟨A + 1, 0, none⟩))) (e6 : a0.tmps[6]? = some (.pointer (some ⟨K, 0, none⟩))) (e13 : a0.tmps[13]? = some (.pointer (some ⟨H, 0, none⟩))) (e14 : a0.tmps[14]? = some (.pointer (some ⟨G, 0, none⟩))) :
    ∀ (i : Nat) (o : Oper), r22[i]? = some o → Owes Tryz.prog r22 Q (T22L s b K) (fun L w => DB A G H K s b w0 w ∧ (L 5 → w.heap[A + 1]? = some (.cells #[.int .i64 s, .int .i64 b] 58 (0, 0)))) a0 i o := by
  intro i o ho L a w P hsh hnl haf hF ⟨hS, hS5⟩ hT hK
  have hi : i < 8 := by
    have h1 := (Array.getElem?_eq_some_iff.1 ho).1
    rwa [show r22.size = 8 from by kernel_rfl] at h1
  have plain : ∀ v, i ≠ 5 → T22 s b K i v → P (a.put o.dst v) w := fun v hne hv => hK v w hv ⟨hS, fun h => hS5 (h.resolve_right fun e => hne e.symm)⟩ fun j u _ _ h => h
  obtain rfl | rfl | rfl | rfl | rfl | rfl | rfl | rfl : i = 0 ∨ i = 1 ∨ i = 2 ∨ i = 3 ∨ i = 4 ∨ i = 5 ∨ i = 6 ∨ i = 7 := by omega
  · exact wp_load_row 96 (.tmp 14) (op_is ho (by kernel_rfl)) G (slot hF (by kernel_rfl) e14) _ emptyCells _ _ hS.fs Tryz.underlying96 rfl sizeE' (plain _ (by decide) rfl)
  · exact wp_load_row 58 (.tmp 13) (op_is ho (by kernel_rfl)) H (slot hF (by kernel_rfl) e13) _ _ _ _ hS.fp Tryz.underlying58 rfl (by kernel_rfl) (plain _ (by decide) rfl)
  · exact wp_field (f := 0) (op_is ho (by kernel_rfl)) (slot hF (by kernel_rfl) e6) (field_h K) (plain _ (by decide) rfl)
  · obtain ⟨v, q1, p1⟩ := has (a := a) hT (haf 2 (on_is ho (by kernel_rfl))) (d := 111) (by kernel_rfl)
    obtain rfl : v = .pointer (some ⟨K, 0, none⟩) := p1
    exact wp_load1 (x := .tmp 111) (op_is ho (by kernel_rfl)) q1 hS.hd agg_int (plain _ (by decide) rfl)
  · obtain ⟨v, q1, p1⟩ := has (a := a) hT (haf 0 (on_is ho (by kernel_rfl))) (d := 109) (by kernel_rfl)
    obtain rfl : v = .agg emptyCells := p1
    obtain ⟨x, y, hp⟩ := hS.pl
    refine wp_store_mid 96 (.tmp 2) (.tmp 109) (op_is ho (by kernel_rfl)) A 0 emptyCells (slot hF (by kernel_rfl) e2) q1 (thereE' hS.st) sizeE' (by kernel_rfl) (hK _ _ trivial ⟨⟨setE' hS.st, ⟨x, y, setOther hp (by omega) _⟩, setOther hS.fs (fun e => h1 e.symm) _, setOther hS.fp (fun e => h2 e.symm) _, ?_, belowSet hS.below (Nat.le_refl _) hA _⟩, fun h => setOther (hS5 (h.resolve_right (by decide))) (by omega) _⟩ fun j u _ _ h => h)
    exact setCells_cell _ h3 hS.hd
  · obtain ⟨v, q1, p1⟩ := has (a := a) hT (haf 1 (on_is ho (by kernel_rfl))) (d := 110) (by kernel_rfl)
    obtain rfl : v = .agg #[.int .i64 s, .int .i64 b] := p1
    obtain ⟨x, y, hp⟩ := hS.pl
    obtain ⟨hp1, hp2⟩ := put_plat hp (.int .i64 s) (.int .i64 b)
    refine wp_store_mid 58 (.tmp 3) (.tmp 110) (op_is ho (by kernel_rfl)) (A + 1) 0 #[.int .i64 s, .int .i64 b] (slot hF (by kernel_rfl) e3) q1 hp2 (by kernel_rfl) (by simp [Value.oneCell']) (hK _ _ trivial ⟨⟨setOther hS.st (by omega) _, ⟨_, _, hp1⟩, setOther hS.fs (fun e => h4 e.symm) _, setOther hS.fp (fun e => h5 e.symm) _, ?_, belowSet hS.below (Nat.le_refl _) (by omega) _⟩, fun _ => hp1⟩ fun j u _ _ h => h)
    exact setCells_cell _ h6 hS.hd
  · obtain ⟨v, q1, p1⟩ := has (a := a) hT (haf 3 (on_is ho (by kernel_rfl))) (d := 112) (by kernel_rfl)
    obtain rfl : v = .int .i64 1 := p1
    exact wp_assign (x := .tmp 112) (op_is ho (by kernel_rfl)) (by rw [q1]; exact plain _ (by decide) rfl)
  · exact wp_assign (x := .const (.int .i64 0)) (op_is ho (by kernel_rfl)) (plain _ (by decide) rfl)
end Go.Proofs.YtjohhjdicbeojaaGreatDoor.Sm
