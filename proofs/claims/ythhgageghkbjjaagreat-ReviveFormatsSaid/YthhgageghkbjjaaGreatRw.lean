/- The walks of leaf's read. -/
import Derived.Test.YthhgageghkbjjaaGreatRv
namespace Go.Proofs.YthhgageghkbjjaaGreat.Rw
open Go.RowKit Go.Proofs.YthhgageghkbjjaaGreat.Ra Go.Proofs.YthhgageghkbjjaaGreat.Rc Go.Proofs.YthhgageghkbjjaaGreat.Re Go.Proofs.YthhgageghkbjjaaGreat.Rj Go.Proofs.YthhgageghkbjjaaGreat.Rp Go.Proofs.YthhgageghkbjjaaGreat.Rv
set_option maxRecDepth 8000

theorem read1_c (B : Nat) (hb : Nat) (p : Option Addr) (c : Nat) (l : List UInt8) (a k : Nat) (w : World) (hc : w.cell? ⟨hb, 0, none⟩ = some (.slice p l.length c)) (hv : BytesIn B w (.slice p l.length c) l) (hk : 1 ≤ k ∧ k ≤ 4) (ha : a + k ≤ l.length) (hl : l.length ≤ 1000000) :
    Calls Tryz.prog 87 #[.int .i64 (a : Int), .int .i64 (k : Int), .pointer (some ⟨hb, 0, none⟩)] w fun e w' => e = .returned (.int .i64 (numOf 0 ((l.drop a).take k))) ∧ w = w' := by
  have K := Lib.hid (Get_c B p c l a k w hv hk ha hl)
  generalize numOf 0 ((l.drop a).take k) = x at *
  generalize l.length = n at *
  go_enter Tryz.func87, Tryz.ntmps87
  go_wp2_with (go_at_call 88; (with_reducible refine K.out.mono ?_); rintro e w1 ⟨rfl, rfl⟩)
  go_ret
  exact ⟨rfl, rfl⟩

theorem results_cell_one {P : Program} {fn : Func} {p u : Tmp} {ty : TypeId} (h : fn.results = #[.cell p ty, .tmp u]) (tmps : Array Value) (w : World) (g : Nat) (t : TypeId) (cs : Array Value) (fr : Nat × Nat) (d : TypeDesc)
    (hp : tmps.getD p undef = .pointer (some ⟨g, 0, none⟩)) (hg : w.heap[g]? = some (.cells cs t fr))
    (hu : P.underlying ty = some d) (hd : (match d with | .struct _ | .array _ _ => true | _ => false) = true) (hi : (P.info? ty).map (·.size) = some cs.size) :
    (results fn tmps).run P w = .ok (.tuple #[.agg cs, tmps.getD u undef]) w := by
  have hp' : tmps[p]?.getD undef = .pointer (some ⟨g, 0, none⟩) := by simpa using hp
  simp [results, h, hp', asAddr, run_loadVar_row w g t ty cs fr d hg hu hd hi]

set_option maxHeartbeats 2000000 in
theorem read_bad (B : Nat) (v : Value) (l : List UInt8) (w : World) (hB : B ≤ w.heap.size) (hv : BytesIn B w v l) (h64 : l.length = 64) (heq : closeL (l.take 60) ≠ l) :
    Calls Tryz.prog 59 #[v] w fun e w' => e = .returned (.tuple #[.agg #[.int .i64 0, .int .i64 0, .int .i64 0, .int .i64 0, .int .i64 0], .bool false]) ∧ Below w.heap.size w w' := by
  have S1 : Step B w (w.alloc (.cells #[.int .i64 0, .int .i64 0, .int .i64 0, .int .i64 0, .int .i64 0] 112)) := (Step.refl B w).alloc hB _
  have K := Lib.hid (open_bad B v l _ (Nat.le_trans hB S1.size) (hv.step S1) h64 heq)
  have hb0 := blk_new w #[.int .i64 0, .int .i64 0, .int .i64 0, .int .i64 0, .int .i64 0] 112
  have H0 : Hid ((w.alloc (.cells #[.int .i64 0, .int .i64 0, .int .i64 0, .int .i64 0, .int .i64 0] 112)).heap[w.heap.size]? = some (.cells #[.int .i64 0, .int .i64 0, .int .i64 0, .int .i64 0, .int .i64 0] 112 (0, 0)) ∧ Below w.heap.size w (w.alloc (.cells #[.int .i64 0, .int .i64 0, .int .i64 0, .int .i64 0, .int .i64 0] 112))) := Lib.hid ⟨hb0, (Below.refl _ _).alloc (Nat.le_refl _) _⟩
  clear hb0 S1
  obtain ⟨p, c, rfl, _⟩ := hv.form
  clear hv
  rw [h64] at K ⊢
  clear heq h64
  go_enter Tryz.func59, Tryz.ntmps59
  go_upto_region 1 with fail
  generalize (w.alloc (.cells #[.int .i64 0, .int .i64 0, .int .i64 0, .int .i64 0, .int .i64 0] 112)) = w0 at *
  have d1 : decide ((2 : Int) ≠ 0) = true := by decide
  go_wp2_with (go_at_call 60; (with_reducible refine K.out.mono ?_); rintro e w1 ⟨rfl, hb1⟩; have hk1 := blk_below H0.out.1 hb1 (lt_of_block H0.out.1); have hX : w.heap.size < w1.heap.size := lt_of_block hk1; have c0 : w1.cell? ⟨w.heap.size, 0, none⟩ = some (.int .i64 0) := blk_cell hk1 0; have c1 : w1.cell? ⟨w.heap.size, 1, none⟩ = some (.int .i64 0) := blk_cell hk1 1; have c2 : w1.cell? ⟨w.heap.size, 2, none⟩ = some (.int .i64 0) := blk_cell hk1 2; have c3 : w1.cell? ⟨w.heap.size, 3, none⟩ = some (.int .i64 0) := blk_cell hk1 3; have c4 : w1.cell? ⟨w.heap.size, 4, none⟩ = some (.int .i64 0) := blk_cell hk1 4; have f0 : w1.frozen? ⟨w.heap.size, 0, none⟩ = false := blk_free hk1 0; have f1 : w1.frozen? ⟨w.heap.size, 1, none⟩ = false := blk_free hk1 1; have f2 : w1.frozen? ⟨w.heap.size, 2, none⟩ = false := blk_free hk1 2; have f3 : w1.frozen? ⟨w.heap.size, 3, none⟩ = false := blk_free hk1 3; have f4 : w1.frozen? ⟨w.heap.size, 4, none⟩ = false := blk_free hk1 4; have HB1 := Lib.hid (H0.out.2.trans (hb1.mono H0.out.2.size)); have HK1 := Lib.hid hk1; clear hb1 hk1)
  have hs0 := blk_set HK1.out 0 (.int .i64 0)
  have hs1 := blk_set hs0 1 (.int .i64 0)
  have hs2 := blk_set hs1 2 (.int .i64 0)
  have hs3 := blk_set hs2 3 (.int .i64 0)
  have hs4 := blk_set hs3 4 (.int .i64 0)
  have hs5 := blk_old hs4 (.cells #[.slice none 0 0] 44)
  have BF : Below w.heap.size w ((((((w1.setCell ⟨w.heap.size, 0, none⟩ (.int .i64 0)).setCell ⟨w.heap.size, 1, none⟩ (.int .i64 0)).setCell ⟨w.heap.size, 2, none⟩ (.int .i64 0)).setCell ⟨w.heap.size, 3, none⟩ (.int .i64 0)).setCell ⟨w.heap.size, 4, none⟩ (.int .i64 0)).alloc (.cells #[.slice none 0 0] 44)) :=
    (((((HB1.out.setCell (Nat.le_refl _) _).setCell (Nat.le_refl _) _).setCell (Nat.le_refl _) _).setCell (Nat.le_refl _) _).setCell (Nat.le_refl _) _).alloc (by simp; omega) _
  refine bodyPost_ret (results_cell_one rfl _ _ w.heap.size _ _ _ _ rfl hs5 Tryz.underlying112 rfl (by kernel_rfl)) rfl ?_
  exact ⟨rfl, BF⟩
end Go.Proofs.YthhgageghkbjjaaGreat.Rw
