/- leaf.read and leaf.Count of a good header. -/
import Derived.Test.YthhgageghkbjjaaGreatSh
import Derived.StillTailTactics
import Derived.Deep.RegionHeld3
namespace Go.Proofs.YthhgageghkbjjaaGreat.Si
open Go.RowKit Go.Proofs.YthhgageghkbjjaaGreat.Ra Go.Proofs.YthhgageghkbjjaaGreat.Rb Go.Proofs.YthhgageghkbjjaaGreat.Rc Go.Proofs.YthhgageghkbjjaaGreat.Rd Go.Proofs.YthhgageghkbjjaaGreat.Re Go.Proofs.YthhgageghkbjjaaGreat.Rj Go.Proofs.YthhgageghkbjjaaGreat.Rl Go.Proofs.YthhgageghkbjjaaGreat.Rn Go.Proofs.YthhgageghkbjjaaGreat.Rp Go.Proofs.YthhgageghkbjjaaGreat.Rq Go.Proofs.YthhgageghkbjjaaGreat.Ru Go.Proofs.YthhgageghkbjjaaGreat.Rv Go.Proofs.YthhgageghkbjjaaGreat.Rw Go.Proofs.YthhgageghkbjjaaGreat.Rx Go.Proofs.YthhgageghkbjjaaGreat.Sf Go.Proofs.YthhgageghkbjjaaGreat.Sg Go.Proofs.YthhgageghkbjjaaGreat.Sh
set_option maxRecDepth 8000

/-- A good header of a geometry. -/
structure Head (s b : Int) (l : List UInt8) : Prop where
  len : l.length = 64
  shut : closeL (l.take 60) = l
  mag : (l.take 60).take 4 = slatL
  n0 : numOf 0 (((l.take 60).drop 4).take 4) = 1
  n1 : numOf 0 (((l.take 60).drop 8).take 1) = s
  n2 : numOf 0 (((l.take 60).drop 9).take 1) = b
  n3 : numOf 0 (((l.take 60).drop 10).take 1) = 1
  n4 : numOf 0 (((l.take 60).drop 11).take 2) = 16

set_option maxHeartbeats 4000000 in
theorem read_good (v : Value) (s b : Int) (l : List UInt8) (w : World) (hv : BytesIn 0 w v l) (hh : Head s b l) :
    Calls Tryz.prog 59 #[v] w fun e w' => e = .returned (.tuple #[.agg #[.int .i64 1, .int .i64 s, .int .i64 b, .int .i64 1, .int .i64 16], .bool true]) ∧ Below w.heap.size w w' := by
  have S1 : Step 0 w (w.alloc (.cells #[.int .i64 0, .int .i64 0, .int .i64 0, .int .i64 0, .int .i64 0] 112)) := (Step.refl 0 w).alloc (Nat.zero_le _) _
  have K := Lib.hid (open_ok 0 v l _ (Nat.zero_le _) (hv.step S1) hh.len hh.shut)
  have hb0 := blk_new w #[.int .i64 0, .int .i64 0, .int .i64 0, .int .i64 0, .int .i64 0] 112
  have H0 : Hid ((w.alloc (.cells #[.int .i64 0, .int .i64 0, .int .i64 0, .int .i64 0, .int .i64 0] 112)).heap[w.heap.size]? = some (.cells #[.int .i64 0, .int .i64 0, .int .i64 0, .int .i64 0, .int .i64 0] 112 (0, 0)) ∧ Below w.heap.size w (w.alloc (.cells #[.int .i64 0, .int .i64 0, .int .i64 0, .int .i64 0, .int .i64 0] 112))) := Lib.hid ⟨hb0, (Below.refl _ _).alloc (Nat.le_refl _) _⟩
  have HH := Lib.hid hh
  have HL : Hid ((l.take 60).length = 60) := Lib.hid (by rw [List.length_take, hh.len]; rfl)
  clear hb0 S1
  obtain ⟨p, c, rfl, _⟩ := hv.form
  clear hv
  rw [hh.len] at K ⊢
  clear hh
  go_enter Tryz.func59, Tryz.ntmps59
  go_upto_region 1 with fail
  generalize (w.alloc (.cells #[.int .i64 0, .int .i64 0, .int .i64 0, .int .i64 0, .int .i64 0] 112)) = w0 at *
  go_upto_region 2 with (go_at_call 60; (with_reducible refine K.out.mono ?_); rintro e w1 ⟨v1, rfl, hn1⟩; have hr1 := hn1.row; rw [HL.out] at hr1; obtain ⟨g, c1, rfl, hg1, hg2⟩ := hr1.form (by decide); have HN1 := Lib.hid hn1; clear hn1 hr1)
  have hw2 : ∃ W, W = w1.alloc (.cells #[.slice (some ⟨g, 0, none⟩) 60 c1] 44) := ⟨_, rfl⟩
  obtain ⟨w2, hw2⟩ := hw2
  have hbox : w2.heap[w1.heap.size]? = some (.cells #[.slice (some ⟨g, 0, none⟩) 60 c1] 44 (0, 0)) := by rw [hw2]; exact blk_new _ _ _
  have hbl : Below w1.heap.size w1 w2 := by rw [hw2]; exact (Below.refl _ _).alloc (Nat.le_refl _) _
  have hby : BytesIn 0 w2 (.slice (some ⟨g, 0, none⟩) 60 c1) (l.take 60) := by
    have : BytesIn 0 w1 (.slice (some ⟨g, 0, none⟩) 60 c1) (l.take 60) := HN1.out.bytes
    exact this.step (Step.of hbl (Nat.zero_le _))
  have cbox : w2.cell? ⟨w1.heap.size, 0, none⟩ = some (.slice (some ⟨g, 0, none⟩) 60 c1) := blk_cell hbox 0
  have hc60 : 60 ≤ c1 := by
    obtain ⟨_, _, e, hcap, _⟩ := hby
    injection e with _ _ e3
    rw [e3, ← HL.out]
    exact hcap
  have h4 : BytesIn 0 w2 (.slice (some ⟨g, 0, none⟩) 4 c1) slatL := by
    have := hby.cut 0 4 (by decide) (by rw [HL.out]; decide) (some ⟨g, 0, none⟩) c1 (by omega) (fun b o e _ => by rw [Nat.add_zero]; exact e)
    rw [List.drop_zero, HH.out.mag] at this
    exact this
  have hconv := conv_in h4
  have KR : ∀ a k : Nat, 1 ≤ k ∧ k ≤ 4 → a + k ≤ 60 → Calls Tryz.prog 87 #[.int .i64 (a : Int), .int .i64 (k : Int), .pointer (some ⟨w1.heap.size, 0, none⟩)] w2 fun e w' => e = .returned (.int .i64 (numOf 0 (((l.take 60).drop a).take k))) ∧ w2 = w' := fun a k hk hak => by
    refine read1_c 0 w1.heap.size (some ⟨g, 0, none⟩) c1 (l.take 60) a k w2 ?_ ?_ hk (by rw [HL.out]; exact hak) (by rw [HL.out]; decide)
    · rw [HL.out]; exact cbox
    · rw [HL.out]; exact hby
  have k0 := KR 4 4 (by decide) (by decide)
  have k1 := KR 8 1 (by decide) (by decide)
  have k2 := KR 9 1 (by decide) (by decide)
  have k3 := KR 10 1 (by decide) (by decide)
  have k4 := KR 11 2 (by decide) (by decide)
  rw [HH.out.n0, show ((4 : Nat) : Int) = 4 from rfl] at k0
  rw [HH.out.n1, show ((8 : Nat) : Int) = 8 from rfl, show ((1 : Nat) : Int) = 1 from rfl] at k1
  rw [HH.out.n2, show ((9 : Nat) : Int) = 9 from rfl, show ((1 : Nat) : Int) = 1 from rfl] at k2
  rw [HH.out.n3, show ((10 : Nat) : Int) = 10 from rfl, show ((1 : Nat) : Int) = 1 from rfl] at k3
  rw [HH.out.n4, show ((11 : Nat) : Int) = 11 from rfl, show ((2 : Nat) : Int) = 2 from rfl] at k4
  have K0 := Lib.hid k0
  have K1 := Lib.hid k1
  have K2 := Lib.hid k2
  have K3 := Lib.hid k3
  have K4 := Lib.hid k4
  have H2 : Hid (w2.heap[w.heap.size]? = some (.cells #[.int .i64 0, .int .i64 0, .int .i64 0, .int .i64 0, .int .i64 0] 112 (0, 0)) ∧ Below w.heap.size w w2) := Lib.hid ⟨blk_below (blk_below H0.out.1 HN1.out.below (lt_of_block H0.out.1)) hbl (lt_of_block (blk_below H0.out.1 HN1.out.below (lt_of_block H0.out.1))), H0.out.2.trans ((HN1.out.below.mono H0.out.2.size).trans (hbl.mono (Nat.le_trans H0.out.2.size HN1.out.below.size)))⟩
  rw [← hw2]
  clear hw2 KR k0 k1 k2 k3 k4 hby h4 hbl HN1 K
  go_upto_region 6 with (first
    | (go_at_call 87; (with_reducible refine K0.out.mono ?_); rintro e w3 ⟨rfl, rfl⟩)
    | (go_at_call 87; (with_reducible refine K1.out.mono ?_); rintro e w3 ⟨rfl, rfl⟩)
    | (go_at_call 87; (with_reducible refine K2.out.mono ?_); rintro e w3 ⟨rfl, rfl⟩)
    | (go_at_call 87; (with_reducible refine K3.out.mono ?_); rintro e w3 ⟨rfl, rfl⟩)
    | (go_at_call 87; (with_reducible refine K4.out.mono ?_); rintro e w3 ⟨rfl, rfl⟩))
  obtain ⟨w3, hw3⟩ : ∃ W, W = w2.alloc (.cells #[.int .i64 1, .int .i64 s, .int .i64 b, .int .i64 1, .int .i64 16] 112) := ⟨_, rfl⟩
  have hn7 : w3.heap[w2.heap.size]? = some (.cells #[.int .i64 1, .int .i64 s, .int .i64 b, .int .i64 1, .int .i64 16] 112 (0, 0)) := by rw [hw3]; exact blk_new _ _ _
  have hk2 : w3.heap[w.heap.size]? = some (.cells #[.int .i64 0, .int .i64 0, .int .i64 0, .int .i64 0, .int .i64 0] 112 (0, 0)) := by rw [hw3]; exact blk_old H2.out.1 _
  have hne : w.heap.size ≠ w2.heap.size := Nat.ne_of_lt (lt_of_block H2.out.1)
  have hne' : w2.heap.size ≠ w.heap.size := fun e => hne e.symm
  have H3 : Hid (Below w.heap.size w w3) := Lib.hid (by rw [hw3]; exact H2.out.2.alloc H2.out.2.size _)
  rw [← hw3]
  clear hw3
  have HK2 := Lib.hid hk2
  have HN7 := Lib.hid hn7
  have c0 : w3.cell? ⟨w.heap.size, 0, none⟩ = some (.int .i64 0) := blk_cell hk2 0
  have c1 : w3.cell? ⟨w.heap.size, 1, none⟩ = some (.int .i64 0) := blk_cell hk2 1
  have c2 : w3.cell? ⟨w.heap.size, 2, none⟩ = some (.int .i64 0) := blk_cell hk2 2
  have c3 : w3.cell? ⟨w.heap.size, 3, none⟩ = some (.int .i64 0) := blk_cell hk2 3
  have c4 : w3.cell? ⟨w.heap.size, 4, none⟩ = some (.int .i64 0) := blk_cell hk2 4
  have f0 : w3.frozen? ⟨w.heap.size, 0, none⟩ = false := blk_free hk2 0
  have f1 : w3.frozen? ⟨w.heap.size, 1, none⟩ = false := blk_free hk2 1
  have f2 : w3.frozen? ⟨w.heap.size, 2, none⟩ = false := blk_free hk2 2
  have f3 : w3.frozen? ⟨w.heap.size, 3, none⟩ = false := blk_free hk2 3
  have f4 : w3.frozen? ⟨w.heap.size, 4, none⟩ = false := blk_free hk2 4
  have g0 : w3.cell? ⟨w2.heap.size, 0, none⟩ = some (.int .i64 1) := blk_cell hn7 0
  have g1 : w3.cell? ⟨w2.heap.size, 1, none⟩ = some (.int .i64 s) := blk_cell hn7 1
  have g2 : w3.cell? ⟨w2.heap.size, 2, none⟩ = some (.int .i64 b) := blk_cell hn7 2
  have g3 : w3.cell? ⟨w2.heap.size, 3, none⟩ = some (.int .i64 1) := blk_cell hn7 3
  have g4 : w3.cell? ⟨w2.heap.size, 4, none⟩ = some (.int .i64 16) := blk_cell hn7 4
  have hX : w.heap.size < w3.heap.size := lt_of_block hk2
  clear hk2 hn7 HN7 H2 H0 hconv cbox hbox
  go_region_held3 (fun W => W.cell? ⟨w2.heap.size, 0, none⟩ = some (.int .i64 1) ∧ W.cell? ⟨w2.heap.size, 1, none⟩ = some (.int .i64 s) ∧ W.cell? ⟨w2.heap.size, 2, none⟩ = some (.int .i64 b) ∧ W.cell? ⟨w2.heap.size, 3, none⟩ = some (.int .i64 1) ∧ W.cell? ⟨w2.heap.size, 4, none⟩ = some (.int .i64 16)) (go_keep) (fail)
  go_wp2_with (fail)
  have hs0 := blk_set HK2.out 0 (.int .i64 1)
  have hs1 := blk_set hs0 1 (.int .i64 s)
  have hs2 := blk_set hs1 2 (.int .i64 b)
  have hs3 := blk_set hs2 3 (.int .i64 1)
  have hs4 := blk_set hs3 4 (.int .i64 16)
  have BF := (((((H3.out.setCell (p := ⟨w.heap.size, 0, none⟩) (Nat.le_refl _) (.int .i64 1)).setCell (p := ⟨w.heap.size, 1, none⟩) (Nat.le_refl _) (.int .i64 s)).setCell (p := ⟨w.heap.size, 2, none⟩) (Nat.le_refl _) (.int .i64 b)).setCell (p := ⟨w.heap.size, 3, none⟩) (Nat.le_refl _) (.int .i64 1)).setCell (p := ⟨w.heap.size, 4, none⟩) (Nat.le_refl _) (.int .i64 16)).drew
  refine bodyPost_ret (results_cell_one rfl _ _ w.heap.size _ _ _ _ rfl hs4 Tryz.underlying112 rfl (by kernel_rfl)) rfl ?_
  exact ⟨rfl, BF⟩

set_option maxHeartbeats 2000000 in
theorem count_good (v : Value) (s b : Int) (l : List UInt8) (w : World) (hv : BytesIn 0 w v l) (hh : Head s b l) :
    Calls Tryz.prog 58 #[v] w fun e w' => e = .returned (.tuple #[.int .i64 1, .int .i64 1, .int .i64 0]) ∧ Below w.heap.size w w' := by
  have K := Lib.hid (read_good v s b l w hv hh)
  obtain ⟨p, c, rfl, _⟩ := hv.form
  clear hv
  rw [hh.len] at K ⊢
  clear hh
  go_enter Tryz.func58, Tryz.ntmps58
  go_wp2_with (go_at_call 59; (with_reducible refine K.out.mono ?_); rintro e w1 ⟨rfl, hb1⟩; have HB1 := Lib.hid hb1; clear hb1)
  obtain ⟨w2, hw2⟩ : ∃ W, W = w1.alloc (.cells #[.int .i64 1, .int .i64 s, .int .i64 b, .int .i64 1, .int .i64 16] 112) := ⟨_, rfl⟩
  have hb := blk_new w1 #[.int .i64 1, .int .i64 s, .int .i64 b, .int .i64 1, .int .i64 16] 112
  rw [← hw2] at hb ⊢
  have g0 : w2.cell? ⟨w1.heap.size, 0, none⟩ = some (.int .i64 1) := blk_cell hb 0
  have g3 : w2.cell? ⟨w1.heap.size, 3, none⟩ = some (.int .i64 1) := blk_cell hb 3
  have H2 : Hid (Below w.heap.size w w2) := Lib.hid (by rw [hw2]; exact HB1.out.alloc HB1.out.size _)
  clear hw2 hb
  go_quiet (fail)
  go_wp2_with (fail)
  refine bodyPost_ret (v := .tuple #[.int .i64 1, .int .i64 1, .int .i64 0]) (by simp [results, Tryz.results58, go_sem]) rfl ⟨rfl, ?_⟩
  exact below_drewN H2.out _
end Go.Proofs.YthhgageghkbjjaaGreat.Si
