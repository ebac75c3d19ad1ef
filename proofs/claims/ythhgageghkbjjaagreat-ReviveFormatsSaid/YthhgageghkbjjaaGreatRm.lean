/- The walk of basin's Crash, of which no write lasts. -/
import Derived.Test.YthhgageghkbjjaaGreatRl
namespace Go.Proofs.YthhgageghkbjjaaGreat.Rm
open Go.RowKit Go.Proofs.YthhgageghkbjjaaGreat.Ra Go.Proofs.YthhgageghkbjjaaGreat.Re Go.Proofs.YthhgageghkbjjaaGreat.Rf Go.Proofs.YthhgageghkbjjaaGreat.Rg Go.Proofs.YthhgageghkbjjaaGreat.Rh Go.Proofs.YthhgageghkbjjaaGreat.Ri Go.Proofs.YthhgageghkbjjaaGreat.Rj Go.Proofs.YthhgageghkbjjaaGreat.Rk Go.Proofs.YthhgageghkbjjaaGreat.Rl
set_option maxRecDepth 8000

/-- What a crash makes of a device. -/
def crashed (d : Dev) : Dev := { d with now := d.sure, loose := [], after := -1, off := false }

theorem looseCells_len : ∀ (l : List (Int × List UInt8)), (∀ x ∈ l, x.2.length = 64) → (looseCells l).length = l.length * 65
  | [], _ => rfl
  | x :: l, h => by
    show ((Value.int .i64 x.1 :: byteVals x.2) ++ looseCells l).length = _
    rw [List.length_append, List.length_cons, byteVals_len, h x (List.mem_cons_self ..), looseCells_len l (fun y hy => h y (List.mem_cons_of_mem _ hy)), List.length_cons, Nat.succ_mul, Nat.add_comm]
theorem looseCells_one (l : List (Int × List UInt8)) : ∀ u ∈ looseCells l, u.oneCell' = true := by
  intro u hu
  unfold looseCells at hu
  obtain ⟨x, _, hx⟩ := List.mem_flatMap.1 hu
  rcases List.mem_cons.1 hx with rfl | hx
  · rfl
  · exact byteVals_one _ u hx

theorem crash_at {B : Nat} {w w1 w6 : World} {D S N : Nat} {lv : Value} {d : Dev} (hw : DevAt B w1 D S N lv d ∧ Step B w w1) (hs : w6.heap[N]? = some (.cells (byteVals d.sure).toArray 75 (0, 0))) (hg : w1.grownBy w6 (some N)) :
    w6.heap[D]? = w1.heap[D]? ∧ DevAt B (((w6.setCell ⟨D, 2, none⟩ (.slice none 0 0)).setCell ⟨D, 3, none⟩ (.int .i64 (-1))).setCell ⟨D, 4, none⟩ (.bool false)) D S N (.slice none 0 0) (crashed d) ∧ Step B w (((w6.setCell ⟨D, 2, none⟩ (.slice none 0 0)).setCell ⟨D, 3, none⟩ (.int .i64 (-1))).setCell ⟨D, 4, none⟩ (.bool false)) := by
  obtain ⟨h1, s1⟩ := hw
  obtain ⟨hDS, hDN⟩ := dev_ne h1
  have hD6 := (hg.block D h1.lt (fun e => hDN (Option.some.inj e))).trans h1.dev
  have hS6 := (hg.block S (lt_of_block h1.sure) (fun e => h1.ne (Option.some.inj e))).trans h1.sure
  have hDa := blk_set hD6 2 (.slice none 0 0)
  have hDb := blk_set hDa 3 (.int .i64 (-1))
  have hDc := blk_set hDb 4 (.bool false)
  refine ⟨hg.block D h1.lt (fun e => hDN (Option.some.inj e)), ⟨h1.baseD, h1.baseS, h1.baseN, h1.ne, hDc, ?_, ?_, h1.lsure, h1.lsure, h1.n1, h1.n2, World.ownsRow_nil _ _ _ _, (fun x hx => by cases hx), Nat.zero_le _, by show (-1 : Int) ≤ -1 ∧ (-1 : Int) ≤ _; omega⟩, ?_⟩
  · exact blk_set_other (blk_set_other (blk_set_other hS6 (fun e => hDS e.symm) _) (fun e => hDS e.symm) _) (fun e => hDS e.symm) _
  · exact blk_set_other (blk_set_other (blk_set_other hs (fun e => hDN e.symm) _) (fun e => hDN e.symm) _) (fun e => hDN e.symm) _
  · exact (((s1.trans (Step.of_grown hg h1.now rfl h1.baseN)).trans (Step.set_dev hD6 rfl h1.baseD 2 _)).trans (Step.set_dev hDa rfl h1.baseD 3 _)).trans (Step.set_dev hDb rfl h1.baseD 4 _)

set_option maxHeartbeats 4000000 in
theorem crash_c {B : Nat} {w : World} {D S N : Nat} {lv : Value} {d : Dev} (h : DevAt B w D S N lv d) :
    Calls Tryz.prog 17 #[.pointer (some ⟨D, 0, none⟩), .slice none 0 0] w fun e w' => e = .returned (.tuple #[]) ∧ DevAt B w' D S N (.slice none 0 0) (crashed d) ∧ Step B w w' := by
  have hL := h.lt
  have hB := h.size
  have HD := Lib.hid h
  obtain ⟨c0, c1, c2, -, -⟩ := h.cells
  obtain ⟨pl, cl, hlv⟩ := h.lv
  subst hlv
  have hfew := h.few
  clear c0 c1 h
  generalize hm : d.loose.length = m at *
  have HM := Lib.hid hm
  clear hm
  go_enter Tryz.func17, Tryz.ntmps17
  go_wp2
  go_loopg [4, 5, 13] (m + 1) (fun gg _ _ s13 wr => ∃ j : Nat, j ≤ m ∧ m - j < gg ∧ s13 = .int .i64 (j : Int) ∧ Hid (Below w.heap.size w wr))
  case atStart => exact ⟨0, by omega, by omega, rfl, Lib.hid (Below.refl _ _)⟩
  case round =>
    obtain ⟨j, hj, hgg, rfl, HR⟩ := hrel
    by_cases hlt : j < m
    · have hil : (j : Int) < (m : Int) := by omega
      obtain ⟨g, off, hplq, hrg⟩ : ∃ g off, pl = some ⟨g, off, none⟩ ∧ off = 0 ∧ ∀ k v, (looseCells d.loose)[k]? = some v → w.cell? ⟨g, k, none⟩ = some v := by
        rcases HD.out.loose.2 with ⟨hv, h0⟩ | ⟨g, cap, cur, hv, hgB, hh, r⟩
        · rw [HM.out] at h0; omega
        · refine ⟨g, 0, by injection hv, rfl, fun k v hk => ?_⟩
          have := HD.out.loose.cells (g := g) (by rw [show pl = some ⟨g, 0, none⟩ by injection hv]; rfl) k v hk
          rwa [add_plain, Nat.zero_add] at this
      obtain ⟨rfl, hrg⟩ := hrg
      subst hplq
      have hlen := looseCells_len d.loose (fun x hx => (HD.out.each x hx).1)
      rw [HM.out] at hlen
      have hjm : (j + 1) * 65 ≤ m * 65 := Nat.mul_le_mul_right _ hlt
      obtain ⟨cs, hcs⟩ : ∃ cs, cs = ((looseCells d.loose).drop (j * 65)).take 65 := ⟨_, rfl⟩
      have hcl : cs.length = 65 := by rw [hcs, List.length_take, List.length_drop, hlen]; omega
      have hone : Hid (∀ u ∈ cs, u.oneCell' = true) := Lib.hid (fun u hu => looseCells_one _ u (by rw [hcs] at hu; exact List.mem_of_mem_drop (List.mem_of_mem_take hu)))
      have HRG : Hid (wr.rangeAt g (j * 65) cs) := Lib.hid (fun k v hk => by
        have hk65 : k < 65 := by rw [← hcl]; exact (List.getElem?_eq_some_iff.1 hk).1
        rw [hcs, List.getElem?_take, if_pos hk65, List.getElem?_drop] at hk
        have hc := hrg (j * 65 + k) v hk
        exact (HR.out.cell (p := ⟨g, j * 65 + k, none⟩) (cell_lt hc)).trans hc)
      have HSZ : Hid ((Tryz.prog.info? 77).map (·.size) = some cs.length) := Lib.hid (by rw [hcl]; kernel_rfl)
      have HCL := Lib.hid hcl
      have HTH : Hid ((wr.alloc (.cells Tryz.zeroCells77 77)).there wr.heap.size 0 cs.length) := Lib.hid (fun k hk => by
        have hb := blk_new wr Tryz.zeroCells77 77
        have h65 : (Tryz.zeroCells77).size = 65 := by kernel_rfl
        rw [hcl] at hk
        exact ⟨by rw [blk_cell hb, Array.getElem?_eq_getElem (by rw [h65]; omega)]; rfl, blk_free hb _⟩)
      clear hrg hlen hcs hcl
      have KN := Lib.hid (fun W : World => contains_none (j : Int) W)
      go_wp2_with (first
        | (refine wpList_load_mid rfl 77 (.tmp 16) rfl g (j * 65) rfl cs _ HRG.out Tryz.underlying77 rfl HSZ.out ?_)
        | (refine wpList_store_named rfl 77 (.tmp 5) (.tmp 17) rfl wr.heap.size 0 cs rfl rfl HTH.out HSZ.out hone.out ?_; intro w4 hw4; have HW4 := Lib.hid hw4; clear hw4)
        | (go_at_call 36; (with_reducible refine (KN.out _).mono ?_); rintro e w2 ⟨rfl, rfl⟩))
      have HB4 : Hid (Below w.heap.size w w4) := Lib.hid (by
        rw [HW4.out]
        have hg := grownBy_setCells wr.heap.size cs 0 (wr.alloc (.cells Tryz.zeroCells77 77))
        have h1 : Below wr.heap.size wr (wr.alloc (.cells Tryz.zeroCells77 77)) := (Below.refl _ _).alloc (Nat.le_refl _) _
        have h2 : Below wr.heap.size (wr.alloc (.cells Tryz.zeroCells77 77)) ((wr.alloc (.cells Tryz.zeroCells77 77)).setCells wr.heap.size 0 cs) := ⟨hg.os, hg.tape, hg.output, hg.size, fun k hk => hg.block k (by rw [sz_alloc]; omega) (fun e => by have := Option.some.inj e; omega)⟩
        exact HR.out.trans ((h1.trans h2).mono HR.out.size))
      go_roundg (m - (j + 1) + 1)
      case measure => omega
      case rel => exact ⟨j + 1, by omega, by omega, by go_num, HB4⟩
    · have hil : ¬ (j : Int) < (m : Int) := by omega
      obtain rfl : j = m := by omega
      have HW : Hid (DevAt B wr D S N (.slice pl j cl) d ∧ Step B w wr) := Lib.hid ⟨HD.out.later HR.out, Step.of HR.out hB⟩
      go_wp2_with (fail)
      refine wp_region_still_tail 8 (by kernel_rfl) (by kernel_rfl) ?_
      rw [show ({ wr with drawn := wr.drawn + 1 } : World) = wr.drew from rfl]
      have HWd : Hid (DevAt B wr.drew D S N (.slice pl j cl) d ∧ Step B w wr.drew) := Lib.hid ⟨HW.out.1.later (Below.refl _ _).drew, HW.out.2.drewN 1⟩
      clear HW
      generalize wr.drew = wd at *
      have hLd : D < wd.heap.size := HWd.out.1.lt
      obtain ⟨c0, c1, -, -, -⟩ := HWd.out.1.cells
      have hS : Hid (∀ k v, (byteVals d.sure)[k]? = some v → wd.cell? ((⟨S, 0, none⟩ : Addr).add k) = some v) := Lib.hid (fun k v hv => by
        rw [add_plain, Nat.zero_add, blk_cell HWd.out.1.sure, ← Array.getElem?_toList, List.toList_toArray]
        exact hv)
      have hN := Lib.hid HWd.out.1.now
      have hcs : Hid ((byteVals d.sure).length = Nat.min d.n d.n * 64) := Lib.hid (by rw [byteVals_len, HD.out.lsure]; simp)
      have hft : Hid ((byteVals d.sure).length = (byteVals d.now).toArray.size) := Lib.hid (by rw [List.size_toArray, byteVals_len, byteVals_len, HD.out.lnow, HD.out.lsure])
      have hsz : Hid ((Tryz.prog.info? 75).map (·.size) = some 64) := Lib.hid (by kernel_rfl)
      clear c2
      generalize d.n = n at *
      simp only [List.take_succ_cons, List.take_zero, List.drop_succ_cons, List.drop_zero]
      repeat still_step
      try refine wpStill_nil ?_
      go_wp2_with (with_reducible refine wpList_copy_wide rfl _ _ 68 68 rfl 75 64 Tryz.underlying68 hsz.out N n n ⟨S, 0, none⟩ n n rfl rfl _ _ hN.out (byteVals d.sure) hcs.out hS.out hft.out (byteVals_one _) ?_)
      intro w6 hs6 hg6 hz6
      have HC := Lib.hid (crash_at HWd.out hs6.out hg6)
      have hd6 := HC.out.1.trans HWd.out.1.dev
      have hL6 : D < w6.heap.size := lt_of_block hd6
      have k2 : w6.cell? ⟨D, 2, none⟩ = some (.slice pl j cl) := blk_cell hd6 2
      have k3 : w6.cell? ⟨D, 3, none⟩ = some (.int .i64 d.after) := blk_cell hd6 3
      have k4 : w6.cell? ⟨D, 4, none⟩ = some (.bool d.off) := blk_cell hd6 4
      have f2 : w6.frozen? ⟨D, 2, none⟩ = false := blk_free hd6 2
      have f3 : w6.frozen? ⟨D, 3, none⟩ = false := blk_free hd6 3
      have f4 : w6.frozen? ⟨D, 4, none⟩ = false := blk_free hd6 4
      clear hs6 hg6 hz6 hd6 c0 c1
      go_wp2
      refine bodyPost_end (v := .tuple #[]) (by simp [results, Tryz.results17, go_sem]) rfl ?_
      exact ⟨rfl, HC.out.2.1, HC.out.2.2⟩
end Go.Proofs.YthhgageghkbjjaaGreat.Rm
