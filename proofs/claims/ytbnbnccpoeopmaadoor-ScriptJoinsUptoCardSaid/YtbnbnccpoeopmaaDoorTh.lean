/- The walk of ScriptLines. -/
import Derived.Test.YtbnbnccpoeopmaaDoorTg
namespace Go.Proofs.YtbnbnccpoeopmaaDoor.Th
open Go.RowKit Go.Proofs.YtbnbnccpoeopmaaDoor.Sa Go.Proofs.YtbnbnccpoeopmaaDoor.Sb Go.Proofs.YtbnbnccpoeopmaaDoor.Sd Go.Proofs.YtbnbnccpoeopmaaDoor.Se Go.Proofs.YtbnbnccpoeopmaaDoor.Sf Go.Proofs.YtbnbnccpoeopmaaDoor.Sg Go.Proofs.YtbnbnccpoeopmaaDoor.Sh Go.Proofs.YtbnbnccpoeopmaaDoor.Sj Go.Proofs.YtbnbnccpoeopmaaDoor.Sk Go.Proofs.YtbnbnccpoeopmaaDoor.Sp Go.Proofs.YtbnbnccpoeopmaaDoor.Sq Go.Proofs.YtbnbnccpoeopmaaDoor.Sr Go.Proofs.YtbnbnccpoeopmaaDoor.Su Go.Proofs.YtbnbnccpoeopmaaDoor.Sv Go.Proofs.YtbnbnccpoeopmaaDoor.Sw Go.Proofs.YtbnbnccpoeopmaaDoor.Tc Go.Proofs.YtbnbnccpoeopmaaDoor.Td Go.Proofs.YtbnbnccpoeopmaaDoor.Te Go.Proofs.YtbnbnccpoeopmaaDoor.Tf Go.Proofs.YtbnbnccpoeopmaaDoor.Tg

def actAgg (m : ActM) (dv kv : Value) : Value := .agg #[.int .i64 m.kind, .int .i64 m.n, .int .i64 m.rk, .int .i64 m.vol, .int .i64 m.block, .int .i64 m.size, dv, kv]

/-- Line's answer at an act that has a line. -/
theorem line_good (m : ActM) (dv kv : Value) (W : World) (hE : Env W) (h : ActIn W m dv kv) (h1 : m.data.length ≤ 1099511627776) (h2 : m.keep.length ≤ 1099511627776) (hl : (lineL m).2 = true) :
    Calls Tryd.prog 10 #[actAgg m dv kv] W fun e w' => e = .returned (.tuple #[.string (mkB (lineL m).1), .int .i64 0]) ∧ Below W.heap.size W w' := by
  refine (line_c m dv kv W hE (h.ok h1 h2) h.data h.keep).mono ?_
  rintro e w' ⟨rfl, hb⟩
  refine ⟨?_, hb⟩
  unfold lineOut
  rw [if_pos hl]

theorem line_none (m : ActM) (dv kv : Value) (W : World) (hE : Env W) (h : ActIn W m dv kv) (h1 : m.data.length ≤ 1099511627776) (h2 : m.keep.length ≤ 1099511627776) (hl : (lineL m).2 = false) :
    Calls Tryd.prog 10 #[actAgg m dv kv] W fun e w' => e = .returned (.tuple #[.string ⟨#[]⟩, .int .i64 1]) ∧ Below W.heap.size W w' := by
  refine (line_c m dv kv W hE (h.ok h1 h2) h.data h.keep).mono ?_
  rintro e w' ⟨rfl, hb⟩
  refine ⟨?_, hb⟩
  unfold lineOut
  rw [if_neg (by rw [hl]; exact Bool.false_ne_true)]

/-- The law's line. -/
theorem law_good (m : ActM) (dv kv : Value) (W : World) (h : ActIn W m dv kv) (h1 : m.data.length ≤ 1099511627776) (h2 : m.keep.length ≤ 1099511627776) (hl : (lineL m).2 = true) :
    Calls Tryd.prog 11 #[actAgg m dv kv] W fun e w' => e = .returned (.tuple #[.string (mkB (lineL m).1), .bool true]) ∧ Below W.heap.size W w' := by
  have e := line_ok m.kind m.n m.rk m.vol m.block m.size dv kv m.data m.keep W h.n h.vol h.block h.size h.keeps h.data h1 h.keep h2 hl
  have hl' : (lineL ⟨m.kind, m.n, m.rk, m.vol, m.block, m.size, m.data, m.keep⟩).2 = true := hl
  rw [hl'] at e
  exact e
theorem law_none (m : ActM) (dv kv : Value) (W : World) (h : ActIn W m dv kv) (h1 : m.data.length ≤ 1099511627776) (h2 : m.keep.length ≤ 1099511627776) (hl : (lineL m).2 = false) :
    Calls Tryd.prog 11 #[actAgg m dv kv] W (BadLine W) :=
  line_bad m.kind m.n m.rk m.vol m.block m.size dv kv m.data m.keep W h.n h.vol h.block h.size h.keeps h.data h1 h.keep h2 hl

/-- Act's answer at an act's line. -/
theorem act_back (m : ActM) (W : World) (hE : Env W) (hok : NumsOk m) (hs : (lineL m).1.length ≤ 4294967280) (hl : (lineL m).2 = true) :
    Calls Tryd.prog 12 #[.string (mkB (lineL m).1)] W fun e w' => ∃ pd cd pk ck, e = .returned (.tuple #[actAgg m (.slice pd m.data.length cd) (.slice pk m.keep.length ck), .int .i64 0]) ∧ BytesIn w' (.slice pd m.data.length cd) m.data ∧ IntsIn w' (.slice pk m.keep.length ck) m.keep ∧ Below W.heap.size W w' := by
  have hm : actM? (mkB (lineL m).1) = some m := by
    rw [actM_L]
    have : (mkB (lineL m).1).data.toList = (lineL m).1 := by simp [mkB]
    rw [this]
    exact line_forth m hok hl
  have hsz : (mkB (lineL m).1).size = (lineL m).1.length := by
    show ((lineL m).1).toArray.size = _
    simp
  refine (act_c _ (by omega) W hE).mono ?_
  rintro e w' ⟨dv, kv, he, hd, hk, hb⟩
  rw [hm] at he hd hk
  have b1 := bytes_of_row hd
  have b2 := ints_of_row hk
  obtain ⟨pd, cd, rfl⟩ := own_slice hd
  obtain ⟨pk, ck, rfl⟩ := own_slice hk
  exact ⟨pd, cd, pk, ck, he, b1, b2, hb⟩

theorem req_len (rk vol block size : Int) (la : List UInt8) (hv : I64 vol) (hb : I64 block) (hd : I64 size) : (reqL rk vol block size la).1.length ≤ 512 + 2 * la.length := by
  have z1 := itoa_len vol hv
  have z2 := itoa_len block hb
  have z3 := itoa_len size hd
  have z4 := hexOf_length la
  unfold reqL sp
  repeat' split
  all_goals simp only [List.length_append, List.length_cons, List.length_nil]
  all_goals omega

theorem line_size (m : ActM) (hok : NumsOk m) (h1 : m.data.length ≤ 1000000) (h2 : m.keep.length ≤ 1000000) : (lineL m).1.length ≤ 4294967280 := by
  have z0 := itoa_len m.n hok.n
  have z2 := itoa_len m.block hok.block
  have z3 := itoa_len m.size hok.size
  have z4 := keepL_len m.keep hok.keep
  have z5 := req_len m.rk m.vol m.block m.size m.data hok.vol hok.block hok.size
  unfold lineL laterB
  repeat' split
  all_goals simp only [List.length_append, List.length_cons, List.length_nil]
  all_goals omega

set_option maxHeartbeats 4000000 in
set_option maxRecDepth 100000 in
theorem lines_c (m : ActM) (dv kv : Value) (w : World) (hE : Env w) (h : ActIn w m dv kv) : Calls Tryd.prog 3 #[actAgg m dv kv] w fun e w' => e = .returned (.bool true) ∧ Below w.heap.size w w' := by
  have HW : Hid (∀ W, Below w.heap.size w W → Calls Tryd.prog 9 #[] W fun e w' => e = .returned (.bool true) ∧ Below W.heap.size W w') := Lib.hid (fun W h => awake_c W (hE.below h))
  have hq := h
  obtain ⟨-, -, -, -, -, hd, hk⟩ := hq
  obtain ⟨p1, c1, rfl, -⟩ := hd
  obtain ⟨p3, c3, rfl, -⟩ := hk
  obtain ⟨l1, hl1⟩ : ∃ l1, l1 = m.data.length := ⟨_, rfl⟩
  obtain ⟨l3, hl3⟩ : ∃ l3, l3 = m.keep.length := ⟨_, rfl⟩
  rw [← hl1, ← hl3] at h ⊢
  have B0 : Hid (∀ ob, Below w.heap.size w (w.alloc ob)) := Lib.hid (fun ob => (Below.refl _ _).alloc (Nat.le_refl _) _)
  have hA0 := blk_new w #[.int .i64 m.kind, .int .i64 m.n, .int .i64 m.rk, .int .i64 m.vol, .int .i64 m.block, .int .i64 m.size, .slice p1 l1 c1, .slice p3 l3 c3] 27
  have HA := Lib.hid hA0
  clear hA0
  unfold actAgg
  by_cases hbig : l3 ≤ 500 ∧ l1 ≤ 2000
  · obtain ⟨hb3, hb1⟩ := hbig
    have g1 : ¬ (500 : Int) < (l3 : Int) := by omega
    have g2 : ¬ (2000 : Int) < (l1 : Int) := by omega
    have e1 : m.data.length ≤ 1099511627776 := by omega
    have e3 : m.keep.length ≤ 1099511627776 := by omega
    cases hl : (lineL m).2 with
    | false =>
      have K10 := Lib.hid (fun W (hW : Below w.heap.size w W) => line_none m _ _ W (hE.below hW) (h.below hW) e1 e3 hl)
      have K11 := Lib.hid (fun W (hW : Below w.heap.size w W) => law_none m _ _ W (h.below hW) e1 e3 hl)
      unfold actAgg at K10 K11
      clear hE h hl hl1 hl3 e1 e3
      obtain ⟨kind, n, rk, vol, block, size, data, keep⟩ := m
      simp only at K10 K11 HA ⊢
      go_enter Tryd.func3, Tryd.ntmps3
      go_wp2_with (first
        | (go_at_call 10; (with_reducible refine (K10.out _ (B0.out _)).mono ?_); rintro e w1 ⟨rfl, hb⟩; have B1 := Lib.hid ((B0.out _).trans (hb.mono (B0.out _).size)); obtain ⟨⟨q0, q1, q2, q3, q4, q5, q6, q7⟩, _, _, _, _, _, _, _, _⟩ := cells8 (blk_below HA.out hb (by rw [sz_alloc]; exact Nat.lt_succ_self _)); clear hb)
        | (go_at_call 11; (with_reducible refine (K11.out _ B1.out).mono ?_); rintro e w2 ⟨⟨s, rfl⟩, hb⟩; have B2 := Lib.hid (B1.out.trans (hb.mono B1.out.size)); clear hb)
        | (go_at_call 9; (with_reducible refine (HW.out _ B2.out).mono ?_); rintro e w3 ⟨rfl, hb⟩; have B3 := Lib.hid (B2.out.trans (hb.mono B2.out.size)); clear hb))
      go_ret
      exact ⟨rfl, B3.out⟩
    | true =>
      have hok := h.ok e1 e3
      have hls := line_size m hok (by omega) (by omega)
      have K10 := Lib.hid (fun W (hW : Below w.heap.size w W) => line_good m _ _ W (hE.below hW) (h.below hW) e1 e3 hl)
      have K11 := Lib.hid (fun W (hW : Below w.heap.size w W) => law_good m _ _ W (h.below hW) e1 e3 hl)
      have K12 := Lib.hid (fun W (hW : Below w.heap.size w W) => act_back m W (hE.below hW) hok hls hl)
      have K13 := Lib.hid (fun (p q : Option Addr) (c d : Nat) W (hW : Below w.heap.size w W) (h1 : BytesIn W (.slice p l1 c) m.data) (h2 : IntsIn W (.slice q l3 d) m.keep) => same_c m.kind m.n m.rk m.vol m.block m.size (.slice p1 l1 c1) (.slice p l1 c) (.slice p3 l3 c3) (.slice q l3 d) m.data m.keep W (h.data.below hW) h1 (h.keep.below hW) h2 e3)
      rw [← hl1, ← hl3] at K12
      unfold actAgg at K10 K11 K12
      unfold actVal at K13
      generalize mkB (lineL m).1 = tx at K10 K11 K12
      clear hE h hl hl1 hl3 e1 e3 hok hls
      obtain ⟨kind, n, rk, vol, block, size, data, keep⟩ := m
      simp only at K10 K11 K12 K13 HA ⊢
      go_enter Tryd.func3, Tryd.ntmps3
      go_wp2_with (first
        | (go_at_call 10; (with_reducible refine (K10.out _ (B0.out _)).mono ?_); rintro e w1 ⟨rfl, hb⟩; have B1 := Lib.hid ((B0.out _).trans (hb.mono (B0.out _).size)); have HA1 := Lib.hid (blk_below HA.out hb (by rw [sz_alloc]; exact Nat.lt_succ_self _)); have HS1 := Lib.hid hb.size; obtain ⟨⟨q0, q1, q2, q3, q4, q5, q6, q7⟩, _, _, _, _, _, _, _, _⟩ := cells8 HA1.out; clear hb)
        | (go_at_call 11; (with_reducible refine (K11.out _ B1.out).mono ?_); rintro e w2 ⟨rfl, hb⟩; have B2 := Lib.hid (B1.out.trans (hb.mono B1.out.size)); have hlt1 : w.heap.size < w1.heap.size := (by have := HS1.out; rw [sz_alloc] at this; omega); have HA2 := Lib.hid (blk_below HA1.out hb hlt1); have HS2 := Lib.hid hb.size; clear hb)
        | (go_at_call 12; (with_reducible refine (K12.out _ B2.out).mono ?_); rintro e w3 ⟨pd, cd, pk, ck, rfl, hd3, hk3, hb⟩; have B3 := Lib.hid (B2.out.trans (hb.mono B2.out.size)); have hlt2 : w.heap.size < w2.heap.size := (by have := HS2.out; omega); have HA3 := Lib.hid (blk_below HA2.out hb hlt2); have HS3 := Lib.hid hb.size; have HD := Lib.hid hd3; have HK := Lib.hid hk3; have HQ := Lib.hid (blk_new w3 #[.int .i64 kind, .int .i64 n, .int .i64 rk, .int .i64 vol, .int .i64 block, .int .i64 size, .slice pd l1 cd, .slice pk l3 ck] 27); clear hb hd3 hk3)
        | (go_at_call 9; (with_reducible refine (HW.out _ (by exact B3.out.alloc B3.out.size _)).mono ?_); rintro e w4 ⟨rfl, hb⟩; have hlt3 : w.heap.size < w3.heap.size := (by have := HS3.out; omega); have B4 := Lib.hid ((B3.out.alloc B3.out.size _).trans (hb.mono (by rw [sz_alloc]; exact Nat.le_succ_of_le B3.out.size))); have BB := (((Below.refl w3.heap.size w3).alloc (Nat.le_refl _) _).trans (hb.mono (by rw [sz_alloc]; exact Nat.le_succ _))); have HD4 := Lib.hid (HD.out.below BB); have HK4 := Lib.hid (HK.out.below BB); obtain ⟨⟨q0', q1', q2', q3', q4', q5', q6', q7'⟩, _, _, _, _, _, _, _, _⟩ := cells8 (blk_below HA3.out BB hlt3); obtain ⟨⟨r0, r1, r2, r3, r4, r5, r6, r7⟩, _, _, _, _, _, _, _, _⟩ := cells8 (blk_below HQ.out hb (by rw [sz_alloc]; exact Nat.lt_succ_self _)); clear hb BB)
        | (go_at_call 13; (with_reducible refine (K13.out _ _ _ _ _ B4.out HD4.out HK4.out).mono ?_); rintro e w5 ⟨rfl, hb⟩; have B5 := Lib.hid (B4.out.trans (hb.mono B4.out.size)); clear hb))
      go_ret
      exact ⟨rfl, B5.out⟩
  · clear hE h hl1 hl3
    obtain ⟨kind, n, rk, vol, block, size, data, keep⟩ := m
    simp only at HA ⊢
    by_cases hb3 : l3 ≤ 500
    · have g1 : ¬ (500 : Int) < (l3 : Int) := by omega
      have g2 : (2000 : Int) < (l1 : Int) := by omega
      go_enter Tryd.func3, Tryd.ntmps3
      go_wp2_with (go_at_call 9; (with_reducible refine (HW.out _ (B0.out _)).mono ?_); rintro e w3 ⟨rfl, hb⟩; have B3 := Lib.hid ((B0.out _).trans (hb.mono (B0.out _).size)); clear hb)
      go_ret
      exact ⟨rfl, B3.out⟩
    · have g1 : (500 : Int) < (l3 : Int) := by omega
      go_enter Tryd.func3, Tryd.ntmps3
      go_wp2_with (go_at_call 9; (with_reducible refine (HW.out _ (B0.out _)).mono ?_); rintro e w3 ⟨rfl, hb⟩; have B3 := Lib.hid ((B0.out _).trans (hb.mono (B0.out _).size)); clear hb)
      go_ret
      exact ⟨rfl, B3.out⟩

end Go.Proofs.YtbnbnccpoeopmaaDoor.Th
