/- The walk of basin's Put of what is refused. -/
import Derived.Test.YthhgageghkbjjaaGreatRj
namespace Go.Proofs.YthhgageghkbjjaaGreat.Rk
open Go.RowKit Go.Proofs.YthhgageghkbjjaaGreat.Ra Go.Proofs.YthhgageghkbjjaaGreat.Re Go.Proofs.YthhgageghkbjjaaGreat.Rf Go.Proofs.YthhgageghkbjjaaGreat.Rg Go.Proofs.YthhgageghkbjjaaGreat.Rh Go.Proofs.YthhgageghkbjjaaGreat.Ri Go.Proofs.YthhgageghkbjjaaGreat.Rj
set_option maxRecDepth 8000

set_option maxHeartbeats 4000000 in
theorem put_bad {B : Nat} {w : World} {D S N : Nat} {lv : Value} {d : Dev} (h : DevAt B w D S N lv d) (hd : OnDev d) (v : Value) (ws : List Wr) (hv : WritesIn B w v ws) (hg : ws.any bad1 = true ∨ ws.any (bad2 d.n) = true) (hl : ws.length ≤ 1000000) :
    Calls Tryz.prog 11 #[.pointer (some ⟨D, 0, none⟩), v] w fun e w' => (∃ k, e = .returned (.int .i64 k)) ∧ DevAt B w' D S N lv d ∧ Step B w w' := by
  have hL := h.lt
  have hB := h.size
  have SB : Hid (Step B w (w.alloc (.cells #[.pointer (some ⟨D, 0, none⟩)] 40))) := Lib.hid ((Step.refl B w).alloc hB _)
  have hbx : (w.alloc (.cells #[.pointer (some ⟨D, 0, none⟩)] 40)).heap[w.heap.size]? = some (.cells #[.pointer (some ⟨D, 0, none⟩)] 40 (0, 0)) := blk_new _ _ _
  have D0 : Hid (DevAt B (w.alloc (.cells #[.pointer (some ⟨D, 0, none⟩)] 40)) D S N lv d) := Lib.hid (h.later ((Below.refl _ _).alloc (Nat.le_refl _) _))
  have hX0 : w.heap.size < (w.alloc (.cells #[.pointer (some ⟨D, 0, none⟩)] 40)).heap.size := lt_of_block hbx
  have cb0 : (w.alloc (.cells #[.pointer (some ⟨D, 0, none⟩)] 40)).cell? ⟨w.heap.size, 0, none⟩ = some (.pointer (some ⟨D, 0, none⟩)) := blk_cell hbx 0
  have K0 := Lib.hid (ready_c D0.out hd.off)
  have hB0 : B ≤ (w.alloc (.cells #[.pointer (some ⟨D, 0, none⟩)] 40)).heap.size := Nat.le_trans hB SB.out.size
  have K1 := Lib.hid (contains_len_c B v ws (w.alloc (.cells #[.pointer (some ⟨D, 0, none⟩)] 40)) hB0 (hv.step SB.out) hl bad1 (fun x hx w' hb => by
    obtain ⟨p, c, hxv, _⟩ := (hv.2 x hx).form
    have := plen_c w' x.at_ p x.l.length c
    unfold wrVal bad1
    rw [hxv]
    exact this))
  have K2 := Lib.hid (fun (W : World) (hW : Below (w.alloc (.cells #[.pointer (some ⟨D, 0, none⟩)] 40)).heap.size (w.alloc (.cells #[.pointer (some ⟨D, 0, none⟩)] 40)) W) => contains_rng_c B v ws W (Nat.le_trans hB0 hW.size) ((hv.step SB.out).step (Step.of hW hB0)) hl w.heap.size (bad2 d.n) (fun x hx w' hb => by
    have hd2 := D0.out.later (hW.trans (hb.mono hW.size))
    have := prng_c hd2 w.heap.size (((hW.trans (hb.mono hW.size)).cell (p := ⟨w.heap.size, 0, none⟩) hX0).trans cb0) x.at_ x.v
    unfold wrVal bad2
    exact this))
  have HB0 := Lib.hid hB0
  obtain ⟨⟨p, c, rfl, -⟩, -⟩ := hv
  generalize ws.length = M at *
  clear hbx h hd hX0 cb0 hB0
  cases hb : ws.any bad1 with
  | true =>
    rw [hb] at K1
    clear hg hb
    go_enter Tryz.func11, Tryz.ntmps11
    go_wp2_with (first
      | (go_at_call 27; (with_reducible refine K0.out.mono ?_); rintro e w1 ⟨rfl, rfl⟩)
      | (go_at_call 28; (with_reducible refine K1.out.mono ?_); rintro e w1 ⟨rfl, hb1⟩; have HB1 := Lib.hid hb1; clear hb1))
    go_ret
    exact ⟨⟨_, rfl⟩, D0.out.later HB1.out, SB.out.trans (Step.of HB1.out HB0.out)⟩
  | false =>
    rw [hb] at K1
    have hb2 : ws.any (bad2 d.n) = true := by
      rcases hg with h | h
      · rw [hb] at h; cases h
      · exact h
    rw [hb2] at K2
    clear hg hb hb2
    go_enter Tryz.func11, Tryz.ntmps11
    go_wp2_with (first
      | (go_at_call 27; (with_reducible refine K0.out.mono ?_); rintro e w1 ⟨rfl, rfl⟩)
      | (go_at_call 28; (with_reducible refine K1.out.mono ?_); rintro e w1 ⟨rfl, hb1⟩; have HB1 := Lib.hid hb1; clear hb1)
      | (go_at_call 28; (with_reducible refine (K2.out _ HB1.out).mono ?_); rintro e w1 ⟨rfl, hb2⟩; have HB2 := Lib.hid hb2; clear hb2))
    go_ret
    exact ⟨⟨_, rfl⟩, D0.out.later (HB1.out.trans (HB2.out.mono HB1.out.size)), SB.out.trans (Step.of (HB1.out.trans (HB2.out.mono HB1.out.size)) HB0.out)⟩

/-- Put of one write. -/
def put1 (d : Dev) (x : Wr) : Dev := if x.l.length = 64 ∧ 0 ≤ x.at_ ∧ x.at_ < (d.n : Int) then putDev d x.at_.toNat x.l else d
theorem put1_on {d : Dev} (h : OnDev d) (x : Wr) : OnDev (put1 d x) := by
  unfold put1
  split
  · exact ⟨h.off, h.after⟩
  · exact h
theorem put1_n (d : Dev) (x : Wr) : (put1 d x).n = d.n := by
  unfold put1
  split <;> rfl
theorem put1_loose (d : Dev) (x : Wr) : (put1 d x).loose.length ≤ d.loose.length + 1 := by
  unfold put1
  split
  · show (d.loose ++ _).length ≤ _
    simp
  · exact Nat.le_succ _

theorem put1_c {B : Nat} {w : World} {D S N : Nat} {lv : Value} {d : Dev} (h : DevAt B w D S N lv d) (hd : OnDev d) (v : Value) (x : Wr) (hv : WritesIn B w v [x]) (hfew : d.loose.length + 1 ≤ 100000) :
    Calls Tryz.prog 11 #[.pointer (some ⟨D, 0, none⟩), v] w fun e w' => (∃ k, e = .returned (.int .i64 k)) ∧ (∃ lv', DevAt B w' D S N lv' (put1 d x)) ∧ Step B w w' := by
  unfold put1
  by_cases hg : x.l.length = 64 ∧ 0 ≤ x.at_ ∧ x.at_ < (d.n : Int)
  · rw [if_pos hg]
    exact (put_c h hd v [x] hv (fun y hy => by obtain rfl : y = x := by simpa using hy
                                               exact hg) hfew).mono fun e w' ⟨h1, h2, h3⟩ => ⟨⟨_, h1⟩, h2, h3⟩
  · rw [if_neg hg]
    refine (put_bad h hd v [x] hv ?_ (by show 1 ≤ 1000000; omega)).mono fun e w' ⟨h1, h2, h3⟩ => ⟨h1, ⟨_, h2⟩, h3⟩
    by_cases h1 : x.l.length = 64
    · refine Or.inr ?_
      show (bad2 d.n x || false) = true
      unfold bad2
      rw [Bool.or_false]
      exact decide_eq_true (by omega)
    · refine Or.inl ?_
      show (bad1 x || false) = true
      unfold bad1
      rw [Bool.or_false]
      exact decide_eq_true h1

end Go.Proofs.YthhgageghkbjjaaGreat.Rk
