/- slate.pages of an area that is there. -/
import Derived.Test.YthhgageghkbjjaaGreatSn
namespace Go.Proofs.YthhgageghkbjjaaGreat.So
open Go.RowKit Go.Proofs.YthhgageghkbjjaaGreat.Ra Go.Proofs.YthhgageghkbjjaaGreat.Rc Go.Proofs.YthhgageghkbjjaaGreat.Re Go.Proofs.YthhgageghkbjjaaGreat.Rf Go.Proofs.YthhgageghkbjjaaGreat.Rg Go.Proofs.YthhgageghkbjjaaGreat.Rj Go.Proofs.YthhgageghkbjjaaGreat.Rl Go.Proofs.YthhgageghkbjjaaGreat.Rz Go.Proofs.YthhgageghkbjjaaGreat.Sf Go.Proofs.YthhgageghkbjjaaGreat.Sg Go.Proofs.YthhgageghkbjjaaGreat.Si
set_option maxRecDepth 8000

theorem sec_new {w w' : World} {l : List UInt8} {v : Value} (h : NewBytes w l v w') (hl : l.length = 64) : SecB 0 l v w' := by
  have hb : BytesIn 0 w' v l := h.bytes
  rcases h.row.2 with ⟨rfl, h0⟩ | ⟨g, cap, cur, rfl, hg, hh, hc, _, _, ht⟩
  · rw [hl] at h0; cases h0
  · rw [hl] at hc ht ⊢
    exact ⟨g, cur, ⟨cap, rfl, hc⟩, Nat.zero_le _, hh, by rw [hl]; simpa using ht, hl⟩

theorem secb_grown {w w' : World} {B n : Nat} {l : List UInt8} {u v : Value} {xs : List Value} (h : SecB 0 l u w) (hr : w.ownsRow B 44 1 v n xs) (hg : w.grownBy w' v.ownBlock) : SecB 0 l u w' := h.kept fun g _ cs hgc => by
  refine (hg.block g (lt_of_block hgc) (fun e => ?_)).trans hgc
  rcases hr.2 with ⟨rfl, _⟩ | ⟨g2, cap2, cur, rfl, _, hh, _⟩
  · cases e
  · obtain rfl : g = g2 := Option.some.inj e
    rw [hgc] at hh
    injection hh with hh
    injection hh with _ hh _
    exact absurd hh (by decide)
theorem pages_of_row {w : World} {B g cap : Nat} {l0 l1 : List UInt8} {u0 u1 : Value} (h : w.ownsRow B 44 1 (.slice (some ⟨g, 0, none⟩) 2 cap) 2 [u0, u1]) (h0 : SecB 0 l0 u0 w) (h1 : SecB 0 l1 u1 w) : PagesP l0 l1 (.slice (some ⟨g, 0, none⟩) 2 cap) w := by
  rcases h.2 with ⟨e, _⟩ | ⟨g2, cap2, cur, e, hge, hh, hc1, _, _, ht2⟩
  · cases e
  · injection e with e1' _ e3'
    injection e1' with e1'
    injection e1' with e1' _
    subst e1' e3'
    refine ⟨g, cap, cur, u0, u1, rfl, hc1, hh, ?_, ?_, h0, h1⟩
    · rw [← Array.getElem?_toList]
      have := congrArg (fun l => l[0]?) ht2
      simpa using this
    · rw [← Array.getElem?_toList]
      have := congrArg (fun l => l[1]?) ht2
      simpa using this

set_option maxHeartbeats 4000000 in
theorem pages_good {B : Nat} {w : World} {D S N : Nat} {lv : Value} {d : Dev} {s b : Int} (h : DevAt B w D S N lv d) (hd : d.off = false) (hn : 13 < d.n) (hz : Head s b (secL d.now 12)) :
    Calls Tryz.prog 37 #[.pointer (some ⟨D, 0, none⟩), .int .i64 12] w fun e w' => ∃ v, e = .returned (.tuple #[v, .int .i64 0]) ∧ PagesP (secL d.now 12) (secL d.now 13) v w' ∧ Below w.heap.size w w' := by
  have hg := get_c h hd 12 (by omega)
  rw [show ((12 : Nat) : Int) = 12 from rfl] at hg
  have KG := Lib.hid hg
  have KG2 := Lib.hid (fun (W : World) (hb : Below w.heap.size w W) => get_c (h.later hb) hd 13 hn)
  have KR := Lib.hid (fun (W : World) (u : Value) (hu : BytesIn 0 W u (secL d.now 12)) => count_good u s b _ W hu hz)
  have HL1 := Lib.hid (secL_len d.now d.n 12 h.lnow (by omega))
  have HL2 := Lib.hid (secL_len d.now d.n 13 h.lnow hn)
  rw [show ((13 : Nat) : Int) = 13 from rfl] at KG2
  clear hg h hd hz
  go_enter Tryz.func37, Tryz.ntmps37
  go_wp2_with (first
    | (go_at_call 41; (with_reducible refine KG.out.mono ?_); rintro e w1 ⟨v1, rfl, hn1⟩; have hr1 := hn1.row; rw [HL1.out] at hr1; obtain ⟨g1, c1, rfl, _, _⟩ := hr1.form (by decide); clear hr1; have HN1 := Lib.hid hn1; clear hn1)
    | (go_at_call 58; (with_reducible refine (KR.out _ _ HN1.out.bytes).mono ?_); rintro e w2 ⟨rfl, hb2⟩; have HB2 := Lib.hid (HN1.out.below.trans (hb2.mono HN1.out.below.size)); have HS2 := Lib.hid ((sec_new HN1.out HL1.out).below hb2); clear hb2)
    | (go_at_call 38; (with_reducible refine (area_1 _).mono ?_); rintro e w3 ⟨rfl, rfl⟩)
    | go_quiet (fail))
  obtain ⟨w3, hw3⟩ : ∃ W, W = w2.alloc (.cells #[.slice (some ⟨g1, 0, none⟩) 64 c1] 44) := ⟨_, rfl⟩
  have HB3 : Hid (Below w.heap.size w w3) := Lib.hid (by rw [hw3]; exact HB2.out.alloc HB2.out.size _)
  have OW3 : Hid (w3.ownsRow w2.heap.size 44 1 (.slice (some ⟨w2.heap.size, 0, none⟩) 1 1) 1 [.slice (some ⟨g1, 0, none⟩) 64 c1]) := Lib.hid (by rw [hw3]; exact ⟨rfl, .inr ⟨_, _, _, rfl, Nat.le_refl _, blk_new _ _ _, Nat.le_refl _, by decide, rfl, rfl⟩⟩)
  have HS3 : Hid (SecB 0 (secL d.now 12) (.slice (some ⟨g1, 0, none⟩) 64 c1) w3) := Lib.hid (by rw [hw3]; exact HS2.out.below ((Below.refl _ _).alloc (Nat.le_refl _) _))
  have HM3 : Hid (w2.heap.size ≤ w3.heap.size) := Lib.hid (by rw [hw3, sz_alloc]; omega)
  have HMW : Hid (w.heap.size ≤ w2.heap.size) := Lib.hid HB2.out.size
  rw [← hw3]
  clear hw3 HN1 HS2 HB2
  generalize w2.heap.size = M at *
  go_loopg [10, 40] (2) (fun gg s10 s40 wr => (gg = 2 ∧ s40 = .int .i64 0 ∧ s10 = .slice (some ⟨M, 0, none⟩) 1 1 ∧ wr = w3) ∨ (gg = 1 ∧ s40 = .int .i64 1 ∧ ∃ g c, s10 = .slice (some ⟨g, 0, none⟩) 2 c ∧ Hid (PagesP (secL d.now 12) (secL d.now 13) s10 wr ∧ Below w.heap.size w wr)))
  case atStart => exact .inl ⟨rfl, rfl, rfl, rfl⟩
  case round =>
    rcases hrel with ⟨rfl, rfl, rfl, rfl⟩ | ⟨rfl, rfl, g', c', rfl, HR⟩
    · have K2 := Lib.hid (KG2.out _ HB3.out)
      obtain ⟨i0, hi, hz0, hz1, hz2⟩ := info_parts info_bs
      have HI := Lib.hid hi
      have HZ0 := Lib.hid hz0
      have HZ1 := Lib.hid hz1
      have HZ2 := Lib.hid hz2
      clear hi hz0 hz1 hz2
      go_upto_region 14 with (go_at_call 41; (with_reducible refine K2.out.mono ?_); rintro e w4 ⟨v2, rfl, hn2⟩; have hr2 := hn2.row; rw [HL2.out] at hr2; obtain ⟨g2, c2, rfl, _, _⟩ := hr2.form (by decide); clear hr2; have HN2 := Lib.hid hn2; clear hn2)
      have OW5 : Hid ((w4.alloc (.cells #[.slice (some ⟨g2, 0, none⟩) 64 c2] 44)).ownsRow M 44 1 (.slice (some ⟨M, 0, none⟩) 1 1) 1 [.slice (some ⟨g1, 0, none⟩) 64 c1]) := Lib.hid (row_below (row_below OW3.out HN2.out.below) ((Below.refl _ _).alloc (Nat.le_refl _) _))
      have HNEWS : Hid (∀ j u, [Value.slice (some ⟨g2, 0, none⟩) 64 c2][j]? = some u → (w4.alloc (.cells #[.slice (some ⟨g2, 0, none⟩) 64 c2] 44)).cell? ((⟨w4.heap.size, 0, none⟩ : Addr).add j) = some u) := Lib.hid (World.news_of_block (blk_new _ _ _))
      have HBS : Hid (M ≤ (w4.alloc (.cells #[.slice (some ⟨g2, 0, none⟩) 64 c2] 44)).heap.size) := Lib.hid (by rw [sz_alloc]; have := HN2.out.below.size; have := HM3.out; omega)
      go_wp2_with (first | (at_builtin; go_loud (refine wpList_append_lies _ rfl _ _ 82 rfl M 44 i0 (.slice none 0 0) 1 24 Tryz.underlying82 HI.out HZ0.out HZ1.out HZ2.out rfl (by decide) _ 1 [.slice (some ⟨g1, 0, none⟩) 64 c1] rfl OW5.out ⟨w4.heap.size, 0, none⟩ 1 1 [.slice (some ⟨g2, 0, none⟩) 64 c2] rfl rfl HNEWS.out (by intro y hy; simp at hy; subst hy; rfl) (by decide) (by decide) (by decide) HBS.out _ rfl ?_)))
      intro g5 cap5 w5 hown hgrow _ _
      have hb45 : Below wr.heap.size wr (w4.alloc (.cells #[.slice (some ⟨g2, 0, none⟩) 64 c2] 44)) := HN2.out.below.trans (((Below.refl _ _).alloc (Nat.le_refl _) _).mono HN2.out.below.size)
      have hbw : Below w.heap.size w w5 := HB3.out.trans ⟨hgrow.os.trans hb45.os, hgrow.tape.trans hb45.tape, hgrow.output.trans hb45.output, Nat.le_trans hb45.size hgrow.size, fun k hk => (hgrow.block k (Nat.lt_of_lt_of_le (Nat.lt_of_lt_of_le hk HB3.out.size) hb45.size) (fun e => by have e2 : k = M := Option.some.inj e; have := HMW.out; omega)).trans (hb45.block k (Nat.lt_of_lt_of_le hk HB3.out.size))⟩
      have HR5 : Hid (PagesP (secL d.now 12) (secL d.now 13) (.slice (some ⟨g5, 0, none⟩) 2 cap5) w5 ∧ Below w.heap.size w w5) := Lib.hid ⟨pages_of_row hown (secb_grown (HS3.out.below hb45) OW5.out hgrow) (secb_grown ((sec_new HN2.out HL2.out).below ((Below.refl _ _).alloc (Nat.le_refl _) _)) OW5.out hgrow), hbw⟩
      clear hown hgrow hbw hb45
      go_wp2_with (fail)
      go_roundg (1)
      case measure => omega
      case rel => exact .inr ⟨rfl, by go_num, g5, cap5, rfl, HR5⟩
    · go_wp2_with (fail)
      refine bodyPost_ret (v := .tuple #[.slice (some ⟨g', 0, none⟩) 2 c', .int .i64 0]) (by simp [results, Tryz.results37, go_sem]) rfl ⟨_, rfl, HR.out.1, HR.out.2⟩
end Go.Proofs.YthhgageghkbjjaaGreat.So
