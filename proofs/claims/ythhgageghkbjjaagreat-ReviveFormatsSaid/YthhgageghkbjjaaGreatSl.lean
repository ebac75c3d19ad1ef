/- leaf.state of sixteen zeros: the empty state. -/
import Derived.Test.YthhgageghkbjjaaGreatSk
import Derived.Deep.RegionHeld3
namespace Go.Proofs.YthhgageghkbjjaaGreat.Sl
open Go.RowKit Go.Proofs.YthhgageghkbjjaaGreat.Ra Go.Proofs.YthhgageghkbjjaaGreat.Rc Go.Proofs.YthhgageghkbjjaaGreat.Rd Go.Proofs.YthhgageghkbjjaaGreat.Re Go.Proofs.YthhgageghkbjjaaGreat.Rj Go.Proofs.YthhgageghkbjjaaGreat.Rl Go.Proofs.YthhgageghkbjjaaGreat.Rn Go.Proofs.YthhgageghkbjjaaGreat.Ro Go.Proofs.YthhgageghkbjjaaGreat.Rp Go.Proofs.YthhgageghkbjjaaGreat.Rq Go.Proofs.YthhgageghkbjjaaGreat.Rw Go.Proofs.YthhgageghkbjjaaGreat.Sf Go.Proofs.YthhgageghkbjjaaGreat.Sg
set_option maxRecDepth 8000

theorem unrow_c (p : Option Addr) (c : Nat) (w : World) : Calls Tryz.prog 90 #[.slice p 0 c, .int .i64 2] w fun e w' => e = .returned (.tuple #[.slice none 0 0, .int .i64 0]) ∧ w = w' := by
  have KS := Lib.hid (fun (W : World) => size_c 2 W (by omega) (by omega))
  go_enter Tryz.func90, Tryz.ntmps90
  go_wp2_with (go_at_call 102; (with_reducible refine (KS.out _).mono ?_); rintro e w1 ⟨rfl, rfl⟩)
  go_loopg [0, 6] (1) (fun gg s0 s6 wr => s0 = .slice p 0 c ∧ s6 = .slice none 0 0 ∧ gg = 1 ∧ wr = w)
  case atStart => exact ⟨rfl, rfl, rfl, rfl⟩
  case round =>
    obtain ⟨rfl, rfl, _, rfl⟩ := hrel
    go_wp2
    go_ret2
    exact ⟨rfl, rfl⟩

theorem cellE {w : World} {b : Nat} (h : w.heap[b]? = some (.cells emptyCells 30 (0, 0))) (k : Nat) (hk : k < 16) : w.cell? ⟨b, k, none⟩ = some (.int .i64 0) := by
  have := (Ru.rangeEn h) k (.int .i64 0) (by
    have hcase : k = 0 ∨ k = 1 ∨ k = 2 ∨ k = 3 ∨ k = 4 ∨ k = 5 ∨ k = 6 ∨ k = 7 ∨ k = 8 ∨ k = 9 ∨ k = 10 ∨ k = 11 ∨ k = 12 ∨ k = 13 ∨ k = 14 ∨ k = 15 := by omega
    rcases hcase with rfl | rfl | rfl | rfl | rfl | rfl | rfl | rfl | rfl | rfl | rfl | rfl | rfl | rfl | rfl | rfl <;> rfl)
  rwa [Nat.zero_add] at this
theorem setE0 (k : Nat) (hk : k < 16) : emptyCells.setIfInBounds k (.int .i64 0) = emptyCells := by
  have hcase : k = 0 ∨ k = 1 ∨ k = 2 ∨ k = 3 ∨ k = 4 ∨ k = 5 ∨ k = 6 ∨ k = 7 ∨ k = 8 ∨ k = 9 ∨ k = 10 ∨ k = 11 ∨ k = 12 ∨ k = 13 ∨ k = 14 ∨ k = 15 := by omega
  rcases hcase with rfl | rfl | rfl | rfl | rfl | rfl | rfl | rfl | rfl | rfl | rfl | rfl | rfl | rfl | rfl | rfl <;> rfl

set_option maxHeartbeats 4000000 in
theorem state_c (v : Value) (s b : Int) (w : World) (hv : BytesIn 0 w v (List.replicate 16 0)) :
    Calls Tryz.prog 61 #[v, .agg #[.int .i64 s, .int .i64 b]] w fun e w' => e = .returned (.tuple #[.agg emptyCells, .bool true]) ∧ Below w.heap.size w w' := by
  have h1 := blk_new (w.alloc (.cells #[.int .i64 s, .int .i64 b] 23)) emptyCells 30
  have H0 : Hid (((w.alloc (.cells #[.int .i64 s, .int .i64 b] 23)).alloc (.cells emptyCells 30)).heap[w.heap.size + 1]? = some (.cells emptyCells 30 (0, 0)) ∧ Below w.heap.size w ((w.alloc (.cells #[.int .i64 s, .int .i64 b] 23)).alloc (.cells emptyCells 30))) := Lib.hid ⟨by rw [sz_alloc] at h1; exact h1, ((Below.refl _ _).alloc (Nat.le_refl _) _).alloc (by rw [sz_alloc]; omega) _⟩
  clear h1
  have HV := Lib.hid (hv.step (Step.of H0.out.2 (Nat.zero_le _)))
  have HSE := Lib.hid (fun (W : World) (p : Option Addr) (c : Nat) => unrow_c p c W)
  obtain ⟨p, c, rfl, _⟩ := hv.form
  clear hv
  rw [show (List.replicate 16 (0 : UInt8)).length = 16 from rfl] at HV ⊢
  go_enter Tryz.func61, Tryz.ntmps61
  go_upto_region 1 with fail
  rw [show (w.alloc (.cells #[.int .i64 s, .int .i64 b] 23)).alloc (.cells #[.int .i64 0, .int .i64 0, .int .i64 0, .int .i64 0, .int .i64 0, .int .i64 0, .int .i64 0, .int .i64 0, .int .i64 0, .int .i64 0, .int .i64 0, .int .i64 0, .int .i64 0, .int .i64 0, .int .i64 0, .int .i64 0, .slice none 0 0, .slice none 0 0, .slice none 0 0, .slice none 0 0, .slice none 0 0, .slice none 0 0, .slice none 0 0, .slice none 0 0] 30) = (w.alloc (.cells #[.int .i64 s, .int .i64 b] 23)).alloc (.cells emptyCells 30) from rfl]
  generalize (w.alloc (.cells #[.int .i64 s, .int .i64 b] 23)).alloc (.cells emptyCells 30) = w0 at *
  go_wp2
  go_loopg [0, 14] (9) (fun gg s0 s14 wr => ∃ (j : Nat) (q : Option Addr) (d : Nat), j ≤ 8 ∧ 8 - j < gg ∧ s14 = .int .i64 (j : Int) ∧ s0 = .slice q (16 - 2 * j) d ∧ Hid (BytesIn 0 wr (.slice q (16 - 2 * j) d) (List.replicate (16 - 2 * j) 0) ∧ wr.heap[w.heap.size + 1]? = some (.cells emptyCells 30 (0, 0)) ∧ Below w.heap.size w wr))
  case atStart => exact ⟨0, p, c, by omega, by omega, rfl, rfl, Lib.hid ⟨HV.out, H0.out⟩⟩
  case round =>
    obtain ⟨j, q, d, hj, hgg, rfl, rfl, HR⟩ := hrel
    by_cases hlt : j < 8
    · have hil : (j : Int) < 8 := by omega
      obtain ⟨n, hn⟩ : ∃ n, 16 - 2 * j = n + 2 := ⟨14 - 2 * j, by omega⟩
      rw [hn] at HR ⊢
      obtain ⟨g, o, rfl, hgl, hgs, hgc⟩ := bytes_at HR.out.1 (by simp)
      have z0 : wr.cell? ⟨g, o, none⟩ = some (.int .u8 0) := hgc 0 0 (by simp)
      have z1 : wr.cell? ⟨g, o + 1, none⟩ = some (.int .u8 0) := hgc 1 0 (by simp)
      have hge : ¬ ((n : Int) + 2 < 2) := by omega
      have i0 : (0 : Int) < (n : Int) + 2 := by omega
      have i1 : (1 : Int) < (n : Int) + 2 := by omega
      have hnc : n + 2 ≤ d := by
        obtain ⟨_, _, e, hcap, _⟩ := HR.out.1
        injection e with _ e2 e3
        rw [e3]; simpa using hcap
      clear hgc hgs
      go_wp2
      have hX := lt_of_block HR.out.2.1
      have hgne : g ≠ wr.heap.size := Nat.ne_of_lt hgl
      have hgne2 : wr.heap.size ≠ g := fun e => hgne e.symm
      go_region_held3 (fun W => W.cell? ⟨g, o, none⟩ = some (.int .u8 0) ∧ W.cell? ⟨g, o + 1, none⟩ = some (.int .u8 0)) (go_keep) (fail)
      rw [show IntKind.i64.wrap 0 = 0 from by decide]
      obtain ⟨w6, hw6⟩ : ∃ W, W = (wr.alloc (.cells #[.int .i64 0, .int .i64 0] 25)).drew := ⟨_, rfl⟩
      have hb6 : Below wr.heap.size wr w6 := by rw [hw6]; exact ((Below.refl _ _).alloc (Nat.le_refl _) _).drew
      have he6 : w6.heap[wr.heap.size]? = some (.cells #[.int .i64 0, .int .i64 0] 25 (0, 0)) := by rw [hw6]; exact blk_new _ _ _
      have H6 : Hid (BytesIn 0 w6 (.slice (some ⟨g, o, none⟩) (n + 2) d) (List.replicate (n + 2) 0) ∧ w6.heap[w.heap.size + 1]? = some (.cells emptyCells 30 (0, 0)) ∧ Below w.heap.size w w6) := Lib.hid ⟨HR.out.1.step (Step.of hb6 (Nat.zero_le _)), blk_below HR.out.2.1 hb6 hX, HR.out.2.2.trans (hb6.mono HR.out.2.2.size)⟩
      have hM : w.heap.size + 1 < wr.heap.size := hX
      rw [← hw6]
      have e0 : w6.cell? ⟨wr.heap.size, 0, none⟩ = some (.int .i64 0) := blk_cell he6 0
      have e1 : w6.cell? ⟨wr.heap.size, 1, none⟩ = some (.int .i64 0) := blk_cell he6 1
      have HE6 := Lib.hid he6
      clear hw6 hb6 he6 HR z0 z1 hgl hgne hgne2 hX
      generalize wr.heap.size = M at *
      have n0 : ¬ ((n : Int) < 0) := by omega
      have n2 : ¬ ((n : Int) + 2 < 2) := by omega
      have n22 : (2 : Int) ≤ (n : Int) + 2 := by omega
      have nd : (n : Int) + 2 ≤ (d : Int) := by omega
      go_wp2_with (go_at_call 90; (with_reducible refine (HSE.out _ _ _).mono ?_); rintro e w7 ⟨rfl, rfl⟩)
      · obtain rfl : n = 0 := by omega
        have HNB : Hid (BytesIn 0 w6 (.slice (some ⟨g, o, none⟩) 0 0) (List.replicate 0 0)) := Lib.hid (BytesIn.nil _ _ _ _)
        go_loopg [50] (1) (fun gg s50 wr2 => s50 = .int .i64 0 ∧ gg = 1 ∧ wr2 = w6)
        case atStart => exact ⟨rfl, rfl, rfl⟩
        case round =>
          obtain ⟨rfl, _, rfl⟩ := hrel
          go_wp2
          have hM1 : M ≠ w.heap.size + 1 := fun e => by omega
          have hM2 : w.heap.size + 1 ≠ M := fun e => by omega
          have cs0 : wr.cell? ⟨w.heap.size + 1, j * 2, none⟩ = some (.int .i64 0) := cellE H6.out.2.1 (j * 2) (by omega)
          have cs1 : wr.cell? ⟨w.heap.size + 1, j * 2 + 1, none⟩ = some (.int .i64 0) := cellE H6.out.2.1 (j * 2 + 1) (by omega)
          have fs0 : wr.frozen? ⟨w.heap.size + 1, j * 2, none⟩ = false := blk_free H6.out.2.1 _
          have fs1 : wr.frozen? ⟨w.heap.size + 1, j * 2 + 1, none⟩ = false := blk_free H6.out.2.1 _
          have hj0 : ¬ ((j : Int) < 0) := by omega
          have hw0 : IntKind.i64.wrap 0 = 0 := by decide
          have hix := index_entry (j : Int) ⟨by omega, hil⟩
          have hX := lt_of_block H6.out.2.1
          go_region_held3 (fun W => W.cell? ⟨M, 0, none⟩ = some (.int .i64 0) ∧ W.cell? ⟨M, 1, none⟩ = some (.int .i64 0)) (go_keep) (fail)
          obtain ⟨w9, hw9⟩ : ∃ W, W = ((wr.setCell ⟨w.heap.size + 1, j * 2, none⟩ (.int .i64 0)).setCell ⟨w.heap.size + 1, j * 2 + 1, none⟩ (.int .i64 0)).drew := ⟨_, rfl⟩
          have H9 : Hid (BytesIn 0 w9 (.slice (some ⟨g, o, none⟩) 0 0) (List.replicate 0 0) ∧ w9.heap[w.heap.size + 1]? = some (.cells emptyCells 30 (0, 0)) ∧ Below w.heap.size w w9) := Lib.hid (by
            have hbe : w9.heap[w.heap.size + 1]? = wr.heap[w.heap.size + 1]? := by
              have e1 := blk_set (blk_set H6.out.2.1 (j * 2) (.int .i64 0)) (j * 2 + 1) (.int .i64 0)
              rw [setE0 _ (by omega), setE0 _ (by omega)] at e1
              rw [hw9, H6.out.2.1]
              exact e1
            have hbo : ∀ k, k ≠ w.heap.size + 1 → w9.heap[k]? = wr.heap[k]? := fun k hk => by
              rw [hw9]
              show (((wr.setCell _ _).setCell _ _).heap)[k]? = _
              rw [Below.heap_setCell _ _ _ k hk, Below.heap_setCell _ _ _ k hk]
            have hba : ∀ k : Nat, w9.heap[k]? = wr.heap[k]? := fun k => if h : k = w.heap.size + 1 then h ▸ hbe else hbo k h
            have hsz : w9.heap.size = wr.heap.size := by rw [hw9]; simp
            have hst : Step 0 wr w9 := ⟨by rw [hw9]; exact (((Below.refl 0 wr).setCell (Nat.zero_le _) _).setCell (Nat.zero_le _) _).drew, fun b o h _ => (hba b).trans h⟩
            refine ⟨HNB.out.step hst, hbe.trans H6.out.2.1, H6.out.2.2.trans ⟨?_, ?_, ?_, by rw [hsz]; exact Nat.le_refl _, fun k _ => hba k⟩⟩ <;> rw [hw9] <;> rfl)
          rw [← hw9]
          clear hw9 cs0 cs1 fs0 fs1 hX
          go_wp2_with (fail)
          go_roundg (8 - (j + 1) + 1)
          case measure => omega
          case rel => exact ⟨j + 1, (some ⟨g, o, none⟩), 0, by omega, by omega, by go_num, by rw [show 16 - 2 * (j + 1) = 0 from by omega], by rw [show 16 - 2 * (j + 1) = 0 from by omega]; exact H9⟩
      · have HNB : Hid (BytesIn 0 w6 (.slice (some ⟨g, o + 2, none⟩) n (d - 2)) (List.replicate n 0)) := Lib.hid (by
          have := H6.out.1.cut 2 (n + 2) (by omega) (by simp) (some ⟨g, o + 2, none⟩) (d - 2) (by omega) (fun b' o' e _ => by
            injection e with e
            injection e with e1 e2
            rw [e1, e2])
          rw [Nat.add_sub_cancel, List.drop_replicate, Nat.add_sub_cancel, List.take_replicate, Nat.min_self] at this
          exact this)
        have nd2 : (n : Int) ≤ ((d - 2 : Nat) : Int) := by omega
        have hd2 : ¬ d - 2 = 0 := by omega
        generalize d - 2 = d2 at *
        go_loopg [50] (1) (fun gg s50 wr2 => s50 = .int .i64 0 ∧ gg = 1 ∧ wr2 = w6)
        case atStart => exact ⟨rfl, rfl, rfl⟩
        case round =>
          obtain ⟨rfl, _, rfl⟩ := hrel
          go_wp2
          have hM1 : M ≠ w.heap.size + 1 := fun e => by omega
          have hM2 : w.heap.size + 1 ≠ M := fun e => by omega
          have cs0 : wr.cell? ⟨w.heap.size + 1, j * 2, none⟩ = some (.int .i64 0) := cellE H6.out.2.1 (j * 2) (by omega)
          have cs1 : wr.cell? ⟨w.heap.size + 1, j * 2 + 1, none⟩ = some (.int .i64 0) := cellE H6.out.2.1 (j * 2 + 1) (by omega)
          have fs0 : wr.frozen? ⟨w.heap.size + 1, j * 2, none⟩ = false := blk_free H6.out.2.1 _
          have fs1 : wr.frozen? ⟨w.heap.size + 1, j * 2 + 1, none⟩ = false := blk_free H6.out.2.1 _
          have hj0 : ¬ ((j : Int) < 0) := by omega
          have hw0 : IntKind.i64.wrap 0 = 0 := by decide
          have hix := index_entry (j : Int) ⟨by omega, hil⟩
          have hX := lt_of_block H6.out.2.1
          go_region_held3 (fun W => W.cell? ⟨M, 0, none⟩ = some (.int .i64 0) ∧ W.cell? ⟨M, 1, none⟩ = some (.int .i64 0)) (go_keep) (fail)
          obtain ⟨w9, hw9⟩ : ∃ W, W = ((wr.setCell ⟨w.heap.size + 1, j * 2, none⟩ (.int .i64 0)).setCell ⟨w.heap.size + 1, j * 2 + 1, none⟩ (.int .i64 0)).drew := ⟨_, rfl⟩
          have H9 : Hid (BytesIn 0 w9 (.slice (some ⟨g, o + 2, none⟩) n d2) (List.replicate n 0) ∧ w9.heap[w.heap.size + 1]? = some (.cells emptyCells 30 (0, 0)) ∧ Below w.heap.size w w9) := Lib.hid (by
            have hbe : w9.heap[w.heap.size + 1]? = wr.heap[w.heap.size + 1]? := by
              have e1 := blk_set (blk_set H6.out.2.1 (j * 2) (.int .i64 0)) (j * 2 + 1) (.int .i64 0)
              rw [setE0 _ (by omega), setE0 _ (by omega)] at e1
              rw [hw9, H6.out.2.1]
              exact e1
            have hbo : ∀ k, k ≠ w.heap.size + 1 → w9.heap[k]? = wr.heap[k]? := fun k hk => by
              rw [hw9]
              show (((wr.setCell _ _).setCell _ _).heap)[k]? = _
              rw [Below.heap_setCell _ _ _ k hk, Below.heap_setCell _ _ _ k hk]
            have hba : ∀ k : Nat, w9.heap[k]? = wr.heap[k]? := fun k => if h : k = w.heap.size + 1 then h ▸ hbe else hbo k h
            have hsz : w9.heap.size = wr.heap.size := by rw [hw9]; simp
            have hst : Step 0 wr w9 := ⟨by rw [hw9]; exact (((Below.refl 0 wr).setCell (Nat.zero_le _) _).setCell (Nat.zero_le _) _).drew, fun b o h _ => (hba b).trans h⟩
            refine ⟨HNB.out.step hst, hbe.trans H6.out.2.1, H6.out.2.2.trans ⟨?_, ?_, ?_, by rw [hsz]; exact Nat.le_refl _, fun k _ => hba k⟩⟩ <;> rw [hw9] <;> rfl)
          rw [← hw9]
          clear hw9 cs0 cs1 fs0 fs1 hX
          go_wp2_with (fail)
          go_roundg (8 - (j + 1) + 1)
          case measure => omega
          case rel => exact ⟨j + 1, (some ⟨g, o + 2, none⟩), d2, by omega, by omega, by go_num, by rw [show 16 - 2 * (j + 1) = n from by omega], by rw [show 16 - 2 * (j + 1) = n from by omega]; exact H9⟩
    · have hil : ¬ (j : Int) < 8 := by omega
      obtain rfl : j = 8 := by omega
      rw [show 16 - 2 * 8 = 0 from rfl] at HR ⊢
      go_wp2_with (first
        | (refine wpList_load_row rfl 30 (.tmp 4) rfl (w.heap.size + 1) rfl _ emptyCells _ _ HR.out.2.1 Tryz.underlying30 rfl sizeE' ?_)
        | (refine wpList_store_mid rfl 30 (.tmp 4) (.tmp 88) rfl (w.heap.size + 1) 0 emptyCells rfl rfl (thereE' HR.out.2.1) sizeE' (by kernel_rfl) ?_))
      exact bodyPost_ret (results_cell_one rfl _ _ (w.heap.size + 1) _ _ _ _ rfl (setE' HR.out.2.1) Tryz.underlying30 rfl sizeE') rfl ⟨rfl, belowSet HR.out.2.2 (Nat.le_refl _) (Nat.le_succ _) _⟩
end Go.Proofs.YthhgageghkbjjaaGreat.Sl
