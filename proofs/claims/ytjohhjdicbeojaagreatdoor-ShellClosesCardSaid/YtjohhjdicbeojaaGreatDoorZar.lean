/- Texts joined: Rl Rm Rn. -/
import Derived.Test.YtjohhjdicbeojaaGreatDoorZaq
namespace Go.Proofs.YtjohhjdicbeojaaGreatDoor.Rl
open Go.RowKit Go.Proofs.YtjohhjdicbeojaaGreatDoor.Ra
set_option maxRecDepth 8000
/-- May it be a geometry? -/
def MayP (s b : Int) : Prop := 6 ≤ s ∧ s ≤ 24 ∧ 2 ≤ b ∧ b ≤ 16
instance (s b : Int) : Decidable (MayP s b) := by unfold MayP; infer_instance
theorem check_c (s b : Int) (w : World) : Calls Tryz.prog 67 #[.agg #[.int .i64 s, .int .i64 b]] w fun e w' => e = .returned (.int .i64 (if MayP s b then 0 else 1)) ∧ Below w.heap.size w w' := by
  have hB : Below w.heap.size w (w.alloc (.cells #[.int .i64 s, .int .i64 b] 58)) := (Below.refl _ _).alloc (Nat.le_refl _) _
  by_cases h1 : s < 6
  · have hm : ¬ MayP s b := fun h => by have := h.1; omega
    rw [if_neg hm]
    have d1 : decide (s < 6) = true := decide_eq_true h1
    go_enter Tryz.func67, Tryz.ntmps67
    go_wp2
    go_ret
    exact ⟨rfl, hB⟩
  · have d1 : decide (s < 6) = false := decide_eq_false h1
    by_cases h2 : 24 < s
    · have hm : ¬ MayP s b := fun h => by have := h.2.1; omega
      rw [if_neg hm]
      have d2 : decide (24 < s) = true := decide_eq_true h2
      go_enter Tryz.func67, Tryz.ntmps67
      go_wp2
      go_ret
      exact ⟨rfl, hB⟩
    · have d2 : decide (24 < s) = false := decide_eq_false h2
      by_cases h3 : b < 2
      · have hm : ¬ MayP s b := fun h => by have := h.2.2.1; omega
        rw [if_neg hm]
        have d3 : decide (b < 2) = true := decide_eq_true h3
        go_enter Tryz.func67, Tryz.ntmps67
        go_wp2
        go_ret
        exact ⟨rfl, hB⟩
      · have d3 : decide (b < 2) = false := decide_eq_false h3
        by_cases h4 : 16 < b
        · have hm : ¬ MayP s b := fun h => by have := h.2.2.2; omega
          rw [if_neg hm]
          have d4 : decide (16 < b) = true := decide_eq_true h4
          go_enter Tryz.func67, Tryz.ntmps67
          go_wp2
          go_ret
          exact ⟨rfl, hB⟩
        · have hm : MayP s b := ⟨by omega, by omega, by omega, by omega⟩
          rw [if_pos hm]
          have d4 : decide (16 < b) = false := decide_eq_false h4
          go_enter Tryz.func67, Tryz.ntmps67
          go_wp2
          go_ret
          exact ⟨rfl, hB⟩
theorem sectors_c (s b : Int) (hm : MayP s b) (w : World) : Calls Tryz.prog 53 #[.agg #[.int .i64 s, .int .i64 b]] w fun e w' => e = .returned (.tuple #[.int .i64 (40 + s * b), .int .i64 0]) ∧ Below w.heap.size w w' := by
  have K := Lib.hid (check_c s b (w.alloc (.cells #[.int .i64 s, .int .i64 b] 58)))
  rw [if_pos hm] at K
  have hB : Below w.heap.size w (w.alloc (.cells #[.int .i64 s, .int .i64 b] 58)) := (Below.refl _ _).alloc (Nat.le_refl _) _
  have HB := Lib.hid hB
  obtain ⟨m1, m2, m3, m4⟩ := hm
  have hsb1 : 0 ≤ s * b := Int.mul_nonneg (by omega) (by omega)
  have hsb2 : s * b ≤ 24 * 16 := by
    have := Int.mul_le_mul m2 m4 (by omega) (by omega : (0 : Int) ≤ 24)
    exact this
  clear hB
  go_enter Tryz.func53, Tryz.ntmps53
  go_wp2_with (go_at_call 67; (with_reducible refine K.out.mono ?_); rintro e w1 ⟨rfl, hb⟩; have hk := blk_below (blk_new w #[.int .i64 s, .int .i64 b] 58) hb (by rw [sz_alloc]; omega); have c0 : w1.cell? ⟨w.heap.size, 0, none⟩ = some (.int .i64 s) := blk_cell hk 0; have c1 : w1.cell? ⟨w.heap.size, 1, none⟩ = some (.int .i64 b) := blk_cell hk 1; have HBB := Lib.hid hb; clear hk hb)
  go_ret2
  exact ⟨rfl, HB.out.trans (HBB.out.mono HB.out.size)⟩
theorem capacity_c (s b : Int) (hm : MayP s b) (w : World) : Calls Tryz.prog 110 #[.agg #[.int .i64 s, .int .i64 b]] w fun e w' => e = .returned (.tuple #[.int .i64 ((s - 2 - 2) * b), .int .i64 0]) ∧ Below w.heap.size w w' := by
  have K := Lib.hid (check_c s b (w.alloc (.cells #[.int .i64 s, .int .i64 b] 58)))
  rw [if_pos hm] at K
  have hB : Below w.heap.size w (w.alloc (.cells #[.int .i64 s, .int .i64 b] 58)) := (Below.refl _ _).alloc (Nat.le_refl _) _
  have HB := Lib.hid hB
  obtain ⟨m1, m2, m3, m4⟩ := hm
  have hsb1 : 0 ≤ (s - 2 - 2) * b := Int.mul_nonneg (by omega) (by omega)
  have hsb2 : (s - 2 - 2) * b ≤ 20 * 16 := Int.mul_le_mul (by omega) m4 (by omega) (by omega : (0 : Int) ≤ 20)
  clear hB
  go_enter Tryz.func110, Tryz.ntmps110
  go_wp2_with (go_at_call 67; (with_reducible refine K.out.mono ?_); rintro e w1 ⟨rfl, hb⟩; have hk := blk_below (blk_new w #[.int .i64 s, .int .i64 b] 58) hb (by rw [sz_alloc]; omega); have c0 : w1.cell? ⟨w.heap.size, 0, none⟩ = some (.int .i64 s) := blk_cell hk 0; have c1 : w1.cell? ⟨w.heap.size, 1, none⟩ = some (.int .i64 b) := blk_cell hk 1; have HBB := Lib.hid hb; clear hk hb)
  go_ret2
  exact ⟨rfl, HB.out.trans (HBB.out.mono HB.out.size)⟩
/-! ### No numbers -/
theorem index_none (x : Int) (w : World) : Calls Tryz.prog 69 #[.slice none 0 0, .int .i64 x] w fun e w' => e = .returned (.int .i64 (-1)) ∧ w = w' := by
  go_enter Tryz.func69, Tryz.ntmps69
  go_wp2
  go_loopg [5, 8] (1) (fun gg _ s8 wr => s8 = .int .i64 0 ∧ gg = 1 ∧ wr = w)
  case atStart => exact ⟨rfl, rfl, rfl⟩
  case round =>
    obtain ⟨rfl, _, rfl⟩ := hrel
    go_wp2
    go_ret
    exact ⟨rfl, rfl⟩
theorem contains_none (x : Int) (w : World) : Calls Tryz.prog 39 #[.slice none 0 0, .int .i64 x] w fun e w' => e = .returned (.bool false) ∧ w = w' := by
  have K := Lib.hid (index_none x w)
  go_enter Tryz.func39, Tryz.ntmps39
  go_wp2_with (go_at_call 69; (with_reducible refine K.out.mono ?_); rintro e w1 ⟨rfl, rfl⟩)
  go_ret
  exact ⟨rfl, rfl⟩
end Go.Proofs.YtjohhjdicbeojaaGreatDoor.Rl
namespace Go.Proofs.YtjohhjdicbeojaaGreatDoor.Rm
open Go.RowKit Go.Proofs.YtjohhjdicbeojaaGreatDoor.Ra Go.Proofs.YtjohhjdicbeojaaGreatDoor.Re Go.Proofs.YtjohhjdicbeojaaGreatDoor.Rf Go.Proofs.YtjohhjdicbeojaaGreatDoor.Rg Go.Proofs.YtjohhjdicbeojaaGreatDoor.Rh Go.Proofs.YtjohhjdicbeojaaGreatDoor.Ri Go.Proofs.YtjohhjdicbeojaaGreatDoor.Rj Go.Proofs.YtjohhjdicbeojaaGreatDoor.Rl
set_option maxRecDepth 8000
/-- What a crash makes of a device. -/
def crashed (d : Dev) : Dev := { d with now := d.sure, loose := [], after := -1, off := false }
theorem looseCells_len : ∀ (l : List (Int × List UInt8)), (∀ x ∈ l, x.2.length = 64) → (looseCells l).length = l.length * 65
  | [], _ => rfl
  | x :: l, h => by
    show ((Value.int .i64 x.1 :: byteVals x.2) ++ looseCells l).length = _
    rw [List.length_append, List.length_cons, byteVals_len, h x (List.mem_cons_self ..), looseCells_len l (fun y hy => h y (List.mem_cons_of_mem _ hy)), List.length_cons, Nat.succ_mul, Nat.add_comm]
theorem looseCells_one (l : List (Int × List UInt8)) : ∀ u ∈ looseCells l, u.oneCell' = true := by
  intro u hu
  unfold looseCells at hu
  obtain ⟨x, _, hx⟩ := List.mem_flatMap.1 hu
  rcases List.mem_cons.1 hx with rfl | hx
  · rfl
  · exact byteVals_one _ u hx
theorem crash_at {B : Nat} {w w1 w6 : World} {D S N : Nat} {lv : Value} {d : Dev} (hw : DevAt B w1 D S N lv d ∧ Step B w w1) (hs : w6.heap[N]? = some (.cells (byteVals d.sure).toArray 113 (0, 0))) (hg : w1.grownBy w6 (some N)) :
    w6.heap[D]? = w1.heap[D]? ∧ DevAt B (((w6.setCell ⟨D, 2, none⟩ (.slice none 0 0)).setCell ⟨D, 3, none⟩ (.int .i64 (-1))).setCell ⟨D, 4, none⟩ (.bool false)) D S N (.slice none 0 0) (crashed d) ∧ Step B w (((w6.setCell ⟨D, 2, none⟩ (.slice none 0 0)).setCell ⟨D, 3, none⟩ (.int .i64 (-1))).setCell ⟨D, 4, none⟩ (.bool false)) := by
  obtain ⟨h1, s1⟩ := hw
  obtain ⟨hDS, hDN⟩ := dev_ne h1
  have hD6 := (hg.block D h1.lt (fun e => hDN (Option.some.inj e))).trans h1.dev
  have hS6 := (hg.block S (lt_of_block h1.sure) (fun e => h1.ne (Option.some.inj e))).trans h1.sure
  have hDa := blk_set hD6 2 (.slice none 0 0)
  have hDb := blk_set hDa 3 (.int .i64 (-1))
  have hDc := blk_set hDb 4 (.bool false)
  refine ⟨hg.block D h1.lt (fun e => hDN (Option.some.inj e)), ⟨h1.baseD, h1.baseS, h1.baseN, h1.ne, hDc, ?_, ?_, h1.lsure, h1.lsure, h1.n1, h1.n2, World.ownsRow_nil _ _ _ _, (fun x hx => by cases hx), Nat.zero_le _, by show (-1 : Int) ≤ -1 ∧ (-1 : Int) ≤ _; omega⟩, ?_⟩
  · exact blk_set_other (blk_set_other (blk_set_other hS6 (fun e => hDS e.symm) _) (fun e => hDS e.symm) _) (fun e => hDS e.symm) _
  · exact blk_set_other (blk_set_other (blk_set_other hs (fun e => hDN e.symm) _) (fun e => hDN e.symm) _) (fun e => hDN e.symm) _
  · exact (((s1.trans (Step.of_grown hg h1.now rfl h1.baseN)).trans (Step.set_dev hD6 rfl h1.baseD 2 _)).trans (Step.set_dev hDa rfl h1.baseD 3 _)).trans (Step.set_dev hDb rfl h1.baseD 4 _)
set_option maxHeartbeats 4000000 in
theorem crash_c {B : Nat} {w : World} {D S N : Nat} {lv : Value} {d : Dev} (h : DevAt B w D S N lv d) :
    Calls Tryz.prog 22 #[.pointer (some ⟨D, 0, none⟩), .slice none 0 0] w fun e w' => e = .returned (.tuple #[]) ∧ DevAt B w' D S N (.slice none 0 0) (crashed d) ∧ Step B w w' := by
  have hL := h.lt
  have hB := h.size
  have HD := Lib.hid h
  obtain ⟨c0, c1, c2, -, -⟩ := h.cells
  obtain ⟨pl, cl, hlv⟩ := h.lv
  subst hlv
  have hfew := h.few
  clear c0 c1 h
  generalize hm : d.loose.length = m at *
  have HM := Lib.hid hm
  clear hm
  go_enter Tryz.func22, Tryz.ntmps22
  go_wp2
  go_loopg [4, 5, 13] (m + 1) (fun gg _ _ s13 wr => ∃ j : Nat, j ≤ m ∧ m - j < gg ∧ s13 = .int .i64 (j : Int) ∧ Hid (Below w.heap.size w wr))
  case atStart => exact ⟨0, by omega, by omega, rfl, Lib.hid (Below.refl _ _)⟩
  case round =>
    obtain ⟨j, hj, hgg, rfl, HR⟩ := hrel
    by_cases hlt : j < m
    · have hil : (j : Int) < (m : Int) := by omega
      obtain ⟨g, off, hplq, hrg⟩ : ∃ g off, pl = some ⟨g, off, none⟩ ∧ off = 0 ∧ ∀ k v, (looseCells d.loose)[k]? = some v → w.cell? ⟨g, k, none⟩ = some v := by
        rcases HD.out.loose.2 with ⟨hv, h0⟩ | ⟨g, cap, cur, hv, hgB, hh, r⟩
        · rw [HM.out] at h0; omega
        · refine ⟨g, 0, by injection hv, rfl, fun k v hk => ?_⟩
          have := HD.out.loose.cells (g := g) (by rw [show pl = some ⟨g, 0, none⟩ by injection hv]; rfl) k v hk
          rwa [add_plain, Nat.zero_add] at this
      obtain ⟨rfl, hrg⟩ := hrg
      subst hplq
      have hlen := looseCells_len d.loose (fun x hx => (HD.out.each x hx).1)
      rw [HM.out] at hlen
      have hjm : (j + 1) * 65 ≤ m * 65 := Nat.mul_le_mul_right _ hlt
      obtain ⟨cs, hcs⟩ : ∃ cs, cs = ((looseCells d.loose).drop (j * 65)).take 65 := ⟨_, rfl⟩
      have hcl : cs.length = 65 := by rw [hcs, List.length_take, List.length_drop, hlen]; omega
      have hone : Hid (∀ u ∈ cs, u.oneCell' = true) := Lib.hid (fun u hu => looseCells_one _ u (by rw [hcs] at hu; exact List.mem_of_mem_drop (List.mem_of_mem_take hu)))
      have HRG : Hid (wr.rangeAt g (j * 65) cs) := Lib.hid (fun k v hk => by
        have hk65 : k < 65 := by rw [← hcl]; exact (List.getElem?_eq_some_iff.1 hk).1
        rw [hcs, List.getElem?_take, if_pos hk65, List.getElem?_drop] at hk
        have hc := hrg (j * 65 + k) v hk
        exact (HR.out.cell (p := ⟨g, j * 65 + k, none⟩) (cell_lt hc)).trans hc)
      have HSZ : Hid ((Tryz.prog.info? 115).map (·.size) = some cs.length) := Lib.hid (by rw [hcl]; kernel_rfl)
      have HCL := Lib.hid hcl
      have HTH : Hid ((wr.alloc (.cells Tryz.zeroCells115 115)).there wr.heap.size 0 cs.length) := Lib.hid (fun k hk => by
        have hb := blk_new wr Tryz.zeroCells115 115
        have h65 : (Tryz.zeroCells115).size = 65 := by kernel_rfl
        rw [hcl] at hk
        exact ⟨by rw [blk_cell hb, Array.getElem?_eq_getElem (by rw [h65]; omega)]; rfl, blk_free hb _⟩)
      clear hrg hlen hcs hcl
      have KN := Lib.hid (fun W : World => contains_none (j : Int) W)
      go_wp2_with (first
        | (refine wpList_load_mid rfl 115 (.tmp 16) rfl g (j * 65) rfl cs _ HRG.out Tryz.underlying115 rfl HSZ.out ?_)
        | (refine wpList_store_named rfl 115 (.tmp 5) (.tmp 17) rfl wr.heap.size 0 cs rfl rfl HTH.out HSZ.out hone.out ?_; intro w4 hw4; have HW4 := Lib.hid hw4; clear hw4)
        | (go_at_call 39; (with_reducible refine (KN.out _).mono ?_); rintro e w2 ⟨rfl, rfl⟩))
      have HB4 : Hid (Below w.heap.size w w4) := Lib.hid (by
        rw [HW4.out]
        have hg := grownBy_setCells wr.heap.size cs 0 (wr.alloc (.cells Tryz.zeroCells115 115))
        have h1 : Below wr.heap.size wr (wr.alloc (.cells Tryz.zeroCells115 115)) := (Below.refl _ _).alloc (Nat.le_refl _) _
        have h2 : Below wr.heap.size (wr.alloc (.cells Tryz.zeroCells115 115)) ((wr.alloc (.cells Tryz.zeroCells115 115)).setCells wr.heap.size 0 cs) := ⟨hg.os, hg.tape, hg.output, hg.size, fun k hk => hg.block k (by rw [sz_alloc]; omega) (fun e => by have := Option.some.inj e; omega)⟩
        exact HR.out.trans ((h1.trans h2).mono HR.out.size))
      go_roundg (m - (j + 1) + 1)
      case measure => omega
      case rel => exact ⟨j + 1, by omega, by omega, by go_num, HB4⟩
    · have hil : ¬ (j : Int) < (m : Int) := by omega
      obtain rfl : j = m := by omega
      have HW : Hid (DevAt B wr D S N (.slice pl j cl) d ∧ Step B w wr) := Lib.hid ⟨HD.out.later HR.out, Step.of HR.out hB⟩
      go_wp2_with (fail)
      refine wp_region_still_tail 8 (by kernel_rfl) (by kernel_rfl) ?_
      rw [show ({ wr with drawn := wr.drawn + 1 } : World) = wr.drew from rfl]
      have HWd : Hid (DevAt B wr.drew D S N (.slice pl j cl) d ∧ Step B w wr.drew) := Lib.hid ⟨HW.out.1.later (Below.refl _ _).drew, HW.out.2.drewN 1⟩
      clear HW
      generalize wr.drew = wd at *
      have hLd : D < wd.heap.size := HWd.out.1.lt
      obtain ⟨c0, c1, -, -, -⟩ := HWd.out.1.cells
      have hS : Hid (∀ k v, (byteVals d.sure)[k]? = some v → wd.cell? ((⟨S, 0, none⟩ : Addr).add k) = some v) := Lib.hid (fun k v hv => by
        rw [add_plain, Nat.zero_add, blk_cell HWd.out.1.sure, ← Array.getElem?_toList, List.toList_toArray]
        exact hv)
      have hN := Lib.hid HWd.out.1.now
      have hcs : Hid ((byteVals d.sure).length = Nat.min d.n d.n * 64) := Lib.hid (by rw [byteVals_len, HD.out.lsure]; simp)
      have hft : Hid ((byteVals d.sure).length = (byteVals d.now).toArray.size) := Lib.hid (by rw [List.size_toArray, byteVals_len, byteVals_len, HD.out.lnow, HD.out.lsure])
      have hsz : Hid ((Tryz.prog.info? 113).map (·.size) = some 64) := Lib.hid (by kernel_rfl)
      clear c2
      generalize d.n = n at *
      simp only [List.take_succ_cons, List.take_zero, List.drop_succ_cons, List.drop_zero]
      repeat still_step
      try refine wpStill_nil ?_
      go_wp2_with (with_reducible refine wpList_copy_wide rfl _ _ 82 82 rfl 113 64 Tryz.underlying82 hsz.out N n n ⟨S, 0, none⟩ n n rfl rfl _ _ hN.out (byteVals d.sure) hcs.out hS.out hft.out (byteVals_one _) ?_)
      intro w6 hs6 hg6 hz6
      have HC := Lib.hid (crash_at HWd.out hs6.out hg6)
      have hd6 := HC.out.1.trans HWd.out.1.dev
      have hL6 : D < w6.heap.size := lt_of_block hd6
      have k2 : w6.cell? ⟨D, 2, none⟩ = some (.slice pl j cl) := blk_cell hd6 2
      have k3 : w6.cell? ⟨D, 3, none⟩ = some (.int .i64 d.after) := blk_cell hd6 3
      have k4 : w6.cell? ⟨D, 4, none⟩ = some (.bool d.off) := blk_cell hd6 4
      have f2 : w6.frozen? ⟨D, 2, none⟩ = false := blk_free hd6 2
      have f3 : w6.frozen? ⟨D, 3, none⟩ = false := blk_free hd6 3
      have f4 : w6.frozen? ⟨D, 4, none⟩ = false := blk_free hd6 4
      clear hs6 hg6 hz6 hd6 c0 c1
      go_wp2
      refine bodyPost_end (v := .tuple #[]) (by simp [results, Tryz.results22, go_sem]) rfl ?_
      exact ⟨rfl, HC.out.2.1, HC.out.2.2⟩
end Go.Proofs.YtjohhjdicbeojaaGreatDoor.Rm
namespace Go.Proofs.YtjohhjdicbeojaaGreatDoor.Rn
open Go.RowKit Go.Proofs.YtjohhjdicbeojaaGreatDoor.Ra Go.Proofs.YtjohhjdicbeojaaGreatDoor.Rl
set_option maxRecDepth 8000
/-- The state in which nothing is. -/
def emptyCells : Array Value := #[.int .i64 0, .int .i64 0, .int .i64 0, .int .i64 0, .int .i64 0, .int .i64 0, .int .i64 0, .int .i64 0, .int .i64 0, .int .i64 0, .int .i64 0, .int .i64 0, .int .i64 0, .int .i64 0, .int .i64 0, .int .i64 0, .slice none 0 0, .slice none 0 0, .slice none 0 0, .slice none 0 0, .slice none 0 0, .slice none 0 0, .slice none 0 0, .slice none 0 0]
theorem in_c (n a b : Int) (w : World) : Calls Tryz.prog 113 #[.int .i64 n, .int .i64 a, .int .i64 b] w fun e w' => e = .returned (.bool (decide (a ≤ n ∧ n < b))) ∧ w = w' := by
  by_cases h1 : a ≤ n
  · have d1 : decide (a ≤ n) = true := decide_eq_true h1
    have hd : decide (a ≤ n ∧ n < b) = decide (n < b) := by simp [h1]
    rw [hd]
    go_enter Tryz.func113, Tryz.ntmps113
    go_wp2
    go_ret
    exact ⟨rfl, rfl⟩
  · have d1 : decide (a ≤ n) = false := decide_eq_false h1
    have hd : decide (a ≤ n ∧ n < b) = false := by simp [h1]
    rw [hd]
    go_enter Tryz.func113, Tryz.ntmps113
    go_wp2
    go_ret
    exact ⟨rfl, rfl⟩
theorem index_nil (f : Value) (w : World) : Calls Tryz.prog 172 #[.slice none 0 0, f] w fun e w' => e = .returned (.int .i64 (-1)) ∧ w = w' := by
  go_enter Tryz.func172, Tryz.ntmps172
  go_wp2
  go_loopg [5, 8] (1) (fun gg _ s8 wr => s8 = .int .i64 0 ∧ gg = 1 ∧ wr = w)
  case atStart => exact ⟨rfl, rfl, rfl⟩
  case round =>
    obtain ⟨rfl, _, rfl⟩ := hrel
    go_wp2
    go_ret
    exact ⟨rfl, rfl⟩
theorem contains_nil (f : Value) (w : World) : Calls Tryz.prog 114 #[.slice none 0 0, f] w fun e w' => e = .returned (.bool false) ∧ w = w' := by
  have K := Lib.hid (index_nil f w)
  go_enter Tryz.func114, Tryz.ntmps114
  go_wp2_with (go_at_call 172; (with_reducible refine K.out.mono ?_); rintro e w1 ⟨rfl, rfl⟩)
  go_ret
  exact ⟨rfl, rfl⟩
theorem index_entry (j : Int) (h : 0 ≤ j ∧ j < 8) (W : World) : (Instr.index 92 (.agg #[.int .i64 0, .int .i64 0, .int .i64 0, .int .i64 0, .int .i64 0, .int .i64 0, .int .i64 0, .int .i64 0, .int .i64 0, .int .i64 0, .int .i64 0, .int .i64 0, .int .i64 0, .int .i64 0, .int .i64 0, .int .i64 0]) (.int .i64 j)).run Tryz.prog W = .ok (.agg #[.int .i64 0, .int .i64 0]) W := by
  have hcase : j = 0 ∨ j = 1 ∨ j = 2 ∨ j = 3 ∨ j = 4 ∨ j = 5 ∨ j = 6 ∨ j = 7 := by omega
  rcases hcase with rfl | rfl | rfl | rfl | rfl | rfl | rfl | rfl <;> rfl
set_option maxHeartbeats 4000000 in
theorem sound_c (w : World) : Calls Tryz.prog 63 #[.agg #[.int .i64 0, .int .i64 0, .int .i64 0, .int .i64 0, .int .i64 0, .int .i64 0, .int .i64 0, .int .i64 0, .int .i64 0, .int .i64 0, .int .i64 0, .int .i64 0, .int .i64 0, .int .i64 0, .int .i64 0, .int .i64 0, .slice none 0 0, .slice none 0 0, .slice none 0 0, .slice none 0 0, .slice none 0 0, .slice none 0 0, .slice none 0 0, .slice none 0 0]] w fun e w' => e = .returned (.bool true) ∧ Below w.heap.size w w' := by
  have hbx := blk_new w #[.int .i64 0, .int .i64 0, .int .i64 0, .int .i64 0, .int .i64 0, .int .i64 0, .int .i64 0, .int .i64 0, .int .i64 0, .int .i64 0, .int .i64 0, .int .i64 0, .int .i64 0, .int .i64 0, .int .i64 0, .int .i64 0, .slice none 0 0, .slice none 0 0, .slice none 0 0, .slice none 0 0, .slice none 0 0, .slice none 0 0, .slice none 0 0, .slice none 0 0] 96
  have HB0 : Hid (Below w.heap.size w (w.alloc (.cells #[.int .i64 0, .int .i64 0, .int .i64 0, .int .i64 0, .int .i64 0, .int .i64 0, .int .i64 0, .int .i64 0, .int .i64 0, .int .i64 0, .int .i64 0, .int .i64 0, .int .i64 0, .int .i64 0, .int .i64 0, .int .i64 0, .slice none 0 0, .slice none 0 0, .slice none 0 0, .slice none 0 0, .slice none 0 0, .slice none 0 0, .slice none 0 0, .slice none 0 0] 96))) := Lib.hid ((Below.refl _ _).alloc (Nat.le_refl _) _)
  have HBX := Lib.hid hbx
  clear hbx
  go_enter Tryz.func63, Tryz.ntmps63
  go_wp2
  go_loopg [3, 4, 5, 8] (9) (fun gg _ _ _ s8 wr => ∃ j : Int, 0 ≤ j ∧ j ≤ 8 ∧ 8 - j < gg ∧ s8 = .int .i64 j ∧ Hid (Below (w.alloc (.cells #[.int .i64 0, .int .i64 0, .int .i64 0, .int .i64 0, .int .i64 0, .int .i64 0, .int .i64 0, .int .i64 0, .int .i64 0, .int .i64 0, .int .i64 0, .int .i64 0, .int .i64 0, .int .i64 0, .int .i64 0, .int .i64 0, .slice none 0 0, .slice none 0 0, .slice none 0 0, .slice none 0 0, .slice none 0 0, .slice none 0 0, .slice none 0 0, .slice none 0 0] 96)).heap.size (w.alloc (.cells #[.int .i64 0, .int .i64 0, .int .i64 0, .int .i64 0, .int .i64 0, .int .i64 0, .int .i64 0, .int .i64 0, .int .i64 0, .int .i64 0, .int .i64 0, .int .i64 0, .int .i64 0, .int .i64 0, .int .i64 0, .int .i64 0, .slice none 0 0, .slice none 0 0, .slice none 0 0, .slice none 0 0, .slice none 0 0, .slice none 0 0, .slice none 0 0, .slice none 0 0] 96)) wr))
  case atStart => exact ⟨0, by omega, by omega, by omega, rfl, Lib.hid (Below.refl _ _)⟩
  case round =>
    obtain ⟨j, hj0, hj, hgg, rfl, HR⟩ := hrel
    have KI := Lib.hid (fun (n a b : Int) (W : World) => in_c n a b W)
    have KC := Lib.hid (fun (f : Value) (W : World) => contains_nil f W)
    have hk := blk_below HBX.out HR.out (by rw [sz_alloc]; omega)
    have hlt : w.heap.size < wr.heap.size := lt_of_block hk
    have b0 : Below wr.heap.size wr (wr.alloc (.cells #[.int .i64 0, .int .i64 0] 91)) := (Below.refl _ _).alloc (Nat.le_refl _) _
    have HBR := Lib.hid (HR.out.trans (b0.mono HR.out.size))
    clear b0
    have hix := fun (h : j < 8) => index_entry j ⟨hj0, h⟩
    have hcase : j = 0 ∨ j = 1 ∨ j = 2 ∨ j = 3 ∨ j = 4 ∨ j = 5 ∨ j = 6 ∨ j = 7 ∨ j = 8 := by omega
    rcases hcase with rfl | rfl | rfl | rfl | rfl | rfl | rfl | rfl | rfl
    · have hix := hix (by decide)
      have cj : wr.cell? ⟨w.heap.size, 16, none⟩ = some (.slice none 0 0) := blk_cell hk 16
      clear hk hj hj0
      go_wp2_with (first
        | (go_at_call 113; (with_reducible refine (KI.out _ _ _ _).mono ?_); rintro e w2 ⟨rfl, rfl⟩)
        | (go_at_call 114; (with_reducible refine (KC.out _ _).mono ?_); rintro e w2 ⟨rfl, rfl⟩))
      go_roundg (8)
      case measure => omega
      case rel => exact ⟨1, by omega, by omega, by omega, by go_num, HBR⟩
    · have hix := hix (by decide)
      have cj : wr.cell? ⟨w.heap.size, 17, none⟩ = some (.slice none 0 0) := blk_cell hk 17
      clear hk hj hj0
      go_wp2_with (first
        | (go_at_call 113; (with_reducible refine (KI.out _ _ _ _).mono ?_); rintro e w2 ⟨rfl, rfl⟩)
        | (go_at_call 114; (with_reducible refine (KC.out _ _).mono ?_); rintro e w2 ⟨rfl, rfl⟩))
      go_roundg (7)
      case measure => omega
      case rel => exact ⟨2, by omega, by omega, by omega, by go_num, HBR⟩
    · have hix := hix (by decide)
      have cj : wr.cell? ⟨w.heap.size, 18, none⟩ = some (.slice none 0 0) := blk_cell hk 18
      clear hk hj hj0
      go_wp2_with (first
        | (go_at_call 113; (with_reducible refine (KI.out _ _ _ _).mono ?_); rintro e w2 ⟨rfl, rfl⟩)
        | (go_at_call 114; (with_reducible refine (KC.out _ _).mono ?_); rintro e w2 ⟨rfl, rfl⟩))
      go_roundg (6)
      case measure => omega
      case rel => exact ⟨3, by omega, by omega, by omega, by go_num, HBR⟩
    · have hix := hix (by decide)
      have cj : wr.cell? ⟨w.heap.size, 19, none⟩ = some (.slice none 0 0) := blk_cell hk 19
      clear hk hj hj0
      go_wp2_with (first
        | (go_at_call 113; (with_reducible refine (KI.out _ _ _ _).mono ?_); rintro e w2 ⟨rfl, rfl⟩)
        | (go_at_call 114; (with_reducible refine (KC.out _ _).mono ?_); rintro e w2 ⟨rfl, rfl⟩))
      go_roundg (5)
      case measure => omega
      case rel => exact ⟨4, by omega, by omega, by omega, by go_num, HBR⟩
    · have hix := hix (by decide)
      have cj : wr.cell? ⟨w.heap.size, 20, none⟩ = some (.slice none 0 0) := blk_cell hk 20
      clear hk hj hj0
      go_wp2_with (first
        | (go_at_call 113; (with_reducible refine (KI.out _ _ _ _).mono ?_); rintro e w2 ⟨rfl, rfl⟩)
        | (go_at_call 114; (with_reducible refine (KC.out _ _).mono ?_); rintro e w2 ⟨rfl, rfl⟩))
      go_roundg (4)
      case measure => omega
      case rel => exact ⟨5, by omega, by omega, by omega, by go_num, HBR⟩
    · have hix := hix (by decide)
      have cj : wr.cell? ⟨w.heap.size, 21, none⟩ = some (.slice none 0 0) := blk_cell hk 21
      clear hk hj hj0
      go_wp2_with (first
        | (go_at_call 113; (with_reducible refine (KI.out _ _ _ _).mono ?_); rintro e w2 ⟨rfl, rfl⟩)
        | (go_at_call 114; (with_reducible refine (KC.out _ _).mono ?_); rintro e w2 ⟨rfl, rfl⟩))
      go_roundg (3)
      case measure => omega
      case rel => exact ⟨6, by omega, by omega, by omega, by go_num, HBR⟩
    · have hix := hix (by decide)
      have cj : wr.cell? ⟨w.heap.size, 22, none⟩ = some (.slice none 0 0) := blk_cell hk 22
      clear hk hj hj0
      go_wp2_with (first
        | (go_at_call 113; (with_reducible refine (KI.out _ _ _ _).mono ?_); rintro e w2 ⟨rfl, rfl⟩)
        | (go_at_call 114; (with_reducible refine (KC.out _ _).mono ?_); rintro e w2 ⟨rfl, rfl⟩))
      go_roundg (2)
      case measure => omega
      case rel => exact ⟨7, by omega, by omega, by omega, by go_num, HBR⟩
    · have hix := hix (by decide)
      have cj : wr.cell? ⟨w.heap.size, 23, none⟩ = some (.slice none 0 0) := blk_cell hk 23
      clear hk hj hj0
      go_wp2_with (first
        | (go_at_call 113; (with_reducible refine (KI.out _ _ _ _).mono ?_); rintro e w2 ⟨rfl, rfl⟩)
        | (go_at_call 114; (with_reducible refine (KC.out _ _).mono ?_); rintro e w2 ⟨rfl, rfl⟩))
      go_roundg (1)
      case measure => omega
      case rel => exact ⟨8, by omega, by omega, by omega, by go_num, HBR⟩
    · clear hix
      go_wp2
      go_ret
      exact ⟨rfl, HB0.out.trans (HR.out.mono HB0.out.size)⟩
end Go.Proofs.YtjohhjdicbeojaaGreatDoor.Rn
