/- The walks of basin's Get and Flush. -/
import Derived.Test.YthhgageghkbjjaaGreatRf
import Derived.WalkSpells
namespace Go.Proofs.YthhgageghkbjjaaGreat.Rg
open Go.RowKit Go.Proofs.YthhgageghkbjjaaGreat.Ra Go.Proofs.YthhgageghkbjjaaGreat.Re Go.Proofs.YthhgageghkbjjaaGreat.Rf

set_option maxHeartbeats 1000000 in
theorem get_c {B : Nat} {w : World} {D S N : Nat} {lv : Value} {d : Dev} (h : DevAt B w D S N lv d) (hd : d.off = false) (i : Nat) (hi : i < d.n) :
    Calls Tryz.prog 41 #[.pointer (some ⟨D, 0, none⟩), .int .i64 (i : Int)] w fun e w' => ∃ v', e = .returned (.tuple #[v', .int .i64 0]) ∧ NewBytes w (secL d.now i) v' w' := by
  have hL := h.lt
  obtain ⟨c0, c1, c2, c3, c4⟩ := h.cells
  have KR := Lib.hid (ready_c h hd)
  have hl := secL_len d.now d.n i h.lnow hi
  have KC := Lib.hid (clone_c (N + 1) _ _ w (h.bytes i hi) (by rw [hl]; decide) (by rw [hl]; decide))
  have HL := Lib.hid hl
  have g1 : (0 : Int) ≤ (i : Int) := by omega
  have g2 : ¬ (i : Int) < 0 := by omega
  have g3 : (i : Int) < (d.n : Int) := by omega
  have g4 : ¬ (d.n : Int) ≤ (i : Int) := by omega
  have h2 := h.n2
  clear h hd hl c0 c2 c3 c4
  generalize d.n = n at *
  go_enter Tryz.func41, Tryz.ntmps41
  go_wp2_with (first
    | (go_at_call 27; (with_reducible refine KR.out.mono ?_); rintro e w1 ⟨rfl, rfl⟩)
    | (go_at_call 64; (with_reducible refine KC.out.mono ?_); rintro e w2 ⟨v2, rfl, hn⟩; have HN := Lib.hid hn; clear hn))
  have hr := HN.out.row
  rw [HL.out] at hr
  obtain ⟨g5, c5, rfl, _, _⟩ := hr.form (by decide)
  refine bodyPost_ret (v := .tuple #[.slice (some ⟨g5, 0, none⟩) 64 c5, .int .i64 0]) (by simp [results, Tryz.results41, go_sem]) rfl ⟨_, rfl, HN.out⟩

/-- What flushing makes of a device. -/
def flushed (d : Dev) : Dev := { d with sure := d.now, loose := [] }

theorem flush_at {B : Nat} {w w1 w6 : World} {D S N : Nat} {lv : Value} {d : Dev} (h : DevAt B w D S N lv d) (hw : w1.heap = w.heap ∧ Below B w w1 ∧ w.heap.size = w1.heap.size) (hs : w6.heap[S]? = some (.cells (byteVals d.now).toArray 75 (0, 0))) (hg : w1.grownBy w6 (some S)) :
    DevAt B (w6.setCell ⟨D, 2, none⟩ (.slice none 0 0)) D S N (.slice none 0 0) (flushed d) ∧ Step B w (w6.setCell ⟨D, 2, none⟩ (.slice none 0 0)) := by
  obtain ⟨e1, e2, e3⟩ := hw
  have hDS : D ≠ S := fun e => by
    have h1 := h.dev
    rw [e, h.sure] at h1
    injection (Option.some.inj h1) with _ h2 _
    exact absurd h2 (by decide)
  have hDN : D ≠ N := fun e => by
    have h1 := h.dev
    rw [e, h.now] at h1
    injection (Option.some.inj h1) with _ h2 _
    exact absurd h2 (by decide)
  have hD6 : w6.heap[D]? = some (.cells #[.slice (some ⟨S, 0, none⟩) d.n d.n, .slice (some ⟨N, 0, none⟩) d.n d.n, lv, .int .i64 d.after, .bool d.off] 71 (0, 0)) := by
    rw [hg.block D (by rw [← e3]; exact h.lt) (fun e => hDS (Option.some.inj e)), e1]
    exact h.dev
  have hN6 : w6.heap[N]? = some (.cells (byteVals d.now).toArray 75 (0, 0)) := by
    rw [hg.block N (by rw [← e3]; exact lt_of_block h.now) (fun e => h.ne (Option.some.inj e).symm), e1]
    exact h.now
  refine ⟨⟨h.baseD, h.baseS, h.baseN, h.ne, ?_, blk_set_other hs (fun e => hDS e.symm) _, blk_set_other hN6 (fun e => hDN e.symm) _, h.lnow, h.lnow, h.n1, h.n2, World.ownsRow_nil _ _ _ _, (fun x hx => by cases hx), Nat.zero_le _, h.aft⟩, ?_⟩
  · exact blk_set hD6 2 _
  · have s1 : Step B w w1 := ⟨e2, fun b o hb _ => by rw [e1]; exact hb⟩
    have hS1 : w1.heap[S]? = some (.cells (byteVals d.sure).toArray 75 (0, 0)) := by rw [e1]; exact h.sure
    exact (s1.trans (Step.of_grown hg hS1 rfl h.baseS)).trans (Step.set_dev hD6 rfl h.baseD 2 _)

set_option maxRecDepth 8000 in
set_option maxHeartbeats 2000000 in
theorem flush_c {B : Nat} {w : World} {D S N : Nat} {lv : Value} {d : Dev} (h : DevAt B w D S N lv d) (hd : OnDev d) :
    Calls Tryz.prog 25 #[.pointer (some ⟨D, 0, none⟩)] w fun e w' => e = .returned (.int .i64 0) ∧ DevAt B w' D S N (.slice none 0 0) (flushed d) ∧ Step B w w' := by
  have hL := h.lt
  have KR := Lib.hid (ready_c h hd.off)
  have KS := Lib.hid (spend_c h hd)
  have HD := Lib.hid h
  obtain ⟨pl, cl, hlv⟩ := h.lv
  subst hlv
  have h2 := h.n2
  clear h hd
  go_enter Tryz.func25, Tryz.ntmps25
  go_wp2_with (first
    | (go_at_call 27; (with_reducible refine KR.out.mono ?_); rintro e w1 ⟨rfl, rfl⟩)
    | (go_at_call 31; (with_reducible refine KS.out.mono ?_); rintro e w1 ⟨rfl, rfl⟩))
  clear KR KS
  refine wp_region_still_tail 8 (by kernel_rfl) (by kernel_rfl) ?_
  rw [show ({ w with drawn := w.drawn + 1 } : World) = w.drew from rfl]
  obtain ⟨wd, hwd⟩ : ∃ wd, wd = w.drew := ⟨_, rfl⟩
  rw [← hwd]
  have HW : Hid (wd.heap = w.heap ∧ Below B w wd ∧ w.heap.size = wd.heap.size) := Lib.hid (by rw [hwd]; exact ⟨rfl, (Below.refl _ _).drew, rfl⟩)
  have hLd : D < wd.heap.size := by rw [← HW.out.2.2]; exact hL
  have hdv : wd.heap[D]? = some (.cells #[.slice (some ⟨S, 0, none⟩) d.n d.n, .slice (some ⟨N, 0, none⟩) d.n d.n, .slice pl d.loose.length cl, .int .i64 d.after, .bool d.off] 71 (0, 0)) := by rw [HW.out.1]; exact HD.out.dev
  have c0 : wd.cell? ⟨D, 0, none⟩ = some (.slice (some ⟨S, 0, none⟩) d.n d.n) := blk_cell hdv 0
  have c1 : wd.cell? ⟨D, 1, none⟩ = some (.slice (some ⟨N, 0, none⟩) d.n d.n) := blk_cell hdv 1
  have hS : Hid (wd.heap[S]? = some (.cells (byteVals d.sure).toArray 75 (0, 0))) := Lib.hid (by rw [HW.out.1]; exact HD.out.sure)
  have hN : Hid (∀ j v, (byteVals d.now)[j]? = some v → wd.cell? ((⟨N, 0, none⟩ : Addr).add j) = some v) := Lib.hid (fun j v hv => by
    rw [add_plain, Nat.zero_add]
    have hn : wd.heap[N]? = some (.cells (byteVals d.now).toArray 75 (0, 0)) := by rw [HW.out.1]; exact HD.out.now
    rw [blk_cell hn, ← Array.getElem?_toList, List.toList_toArray]
    exact hv)
  have hcs : Hid ((byteVals d.now).length = Nat.min d.n d.n * 64) := Lib.hid (by rw [byteVals_len, HD.out.lnow]; simp)
  have hft : Hid ((byteVals d.now).length = (byteVals d.sure).toArray.size) := Lib.hid (by rw [List.size_toArray, byteVals_len, byteVals_len, HD.out.lnow, HD.out.lsure])
  have hsz : Hid ((Tryz.prog.info? 75).map (·.size) = some 64) := Lib.hid (by kernel_rfl)
  clear hdv hwd
  generalize d.n = n at *
  simp only [List.take_succ_cons, List.take_zero, List.drop_succ_cons, List.drop_zero]
  repeat still_step
  try refine wpStill_nil ?_
  go_wp2_with (with_reducible refine wpList_copy_wide rfl _ _ 68 68 rfl 75 64 Tryz.underlying68 hsz.out S n n ⟨N, 0, none⟩ n n rfl rfl _ _ hS.out (byteVals d.now) hcs.out hN.out hft.out (byteVals_one _) ?_)
  intro w6 hs6 hg6 hz6
  have HE := Lib.hid (flush_at HD.out HW.out hs6.out hg6)
  have hL6 : D < w6.heap.size := by rw [hz6]; exact hLd
  have d6 : w6.heap[D]? = wd.heap[D]? := hg6.block D hLd (fun e => by
    have h1 := HD.out.dev
    rw [Option.some.inj e, HD.out.sure] at h1
    injection (Option.some.inj h1) with _ h2 _
    exact absurd h2 (by decide))
  have k2 : w6.cell? ⟨D, 2, none⟩ = some (.slice pl d.loose.length cl) := by
    show World.cell? w6 _ = _
    rw [World.cell?_of_block (a := ⟨D, 2, none⟩) (w := wd) (w' := w6) d6]
    exact blk_cell (by rw [HW.out.1]; exact HD.out.dev) 2
  have k3 : w6.frozen? ⟨D, 2, none⟩ = false := by
    rw [World.frozen?_of_block (a := ⟨D, 2, none⟩) (w := wd) (w' := w6) d6]
    exact blk_free (by rw [HW.out.1]; exact HD.out.dev) 2
  clear hs6 hg6 hz6 d6 c0 c1
  go_wp2
  go_ret
  exact ⟨rfl, HE.out⟩

end Go.Proofs.YthhgageghkbjjaaGreat.Rg
