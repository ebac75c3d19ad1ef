/- Texts joined: Vb Vg Rx. -/
import Derived.Deep.RegionLawGrows
import Derived.Test.YtjohhjdicbeojaaGreatDoorZap
import Derived.Test.YtjohhjdicbeojaaGreatDoorZau
import Derived.Test.YtjohhjdicbeojaaGreatDoorZav
import Derived.Test.YtjohhjdicbeojaaGreatDoorZaw
namespace Go.Proofs.YtjohhjdicbeojaaGreatDoor.Vb
open Go.RowKit Go.Proofs.YtjohhjdicbeojaaGreatDoor.Ra Go.Proofs.YtjohhjdicbeojaaGreatDoor.Rj Go.Proofs.YtjohhjdicbeojaaGreatDoor.Va
set_option maxRecDepth 8000
/-! ### A row of anything, of which nothing is kept but what is there -/
structure QRow (B : Nat) (w : World) (l : List Value) (p : Option Addr) (c : Nat) : Prop where
  len : l.length ≤ c
  row : 0 < c → ∃ g o cs, p = some ⟨g, o, none⟩ ∧ B ≤ g ∧ w.heap[g]? = some (.cells cs 20 (0, 0)) ∧ o + c ≤ cs.size ∧ ∀ j u, l[j]? = some u → cs[o + j]? = some u
theorem QRow.empty (B : Nat) (w : World) : QRow B w [] none 0 := ⟨Nat.le_refl _, fun h => absurd h (Nat.lt_irrefl _)⟩
theorem QRow.kept {B : Nat} {w w' : World} {l : List Value} {p : Option Addr} {c : Nat} {ts : List TypeId} (h : QRow B w l p c) (k : Kept ts B w w') (ht : ts.contains 20 = false) : QRow B w' l p c :=
  ⟨h.len, fun hc => by
    obtain ⟨g, o, cs, h1, h2, h3, h4, h5⟩ := h.row hc
    exact ⟨g, o, cs, h1, h2, k.at h3 ht, h4, h5⟩⟩
theorem QRow.below {B : Nat} {w w' : World} {l : List Value} {p : Option Addr} {c : Nat} (h : QRow B w l p c) (k : Below w.heap.size w w') : QRow B w' l p c :=
  ⟨h.len, fun hc => by
    obtain ⟨g, o, cs, h1, h2, h3, h4, h5⟩ := h.row hc
    exact ⟨g, o, cs, h1, h2, blk_below h3 k (lt_of_block h3), h4, h5⟩⟩
theorem QRow.other {B : Nat} {w : World} {l : List Value} {p : Option Addr} {c : Nat} (h : QRow B w l p c) {x : Nat} {vs : Array Value} {t : TypeId} {fz : Nat × Nat} (hx : w.heap[x]? = some (.cells vs t fz)) (ht : t ≠ 20) (j : Nat) (v : Value) : QRow B (w.setCell ⟨x, j, none⟩ v) l p c :=
  ⟨h.len, fun hc => by
    obtain ⟨g, o, cs, h1, h2, h3, h4, h5⟩ := h.row hc
    refine ⟨g, o, cs, h1, h2, blk_set_other h3 (fun e => ?_) v, h4, h5⟩
    have e' : g = x := e
    subst e'
    rw [h3] at hx
    injection hx with hx
    injection hx with _ hx _
    exact ht hx.symm⟩
/-- The first one is no more. -/
theorem QRow.tail {B : Nat} {w : World} {u : Value} {p : Option Addr} {c : Nat} (h : QRow B w [u] p c) : ∃ g o, p = some ⟨g, o, none⟩ ∧ ∀ q, (1 < c → q = some ⟨g, o + 1, none⟩) → QRow B w [] q (c - 1) := by
  have hc : 0 < c := h.len
  obtain ⟨g, o, cs, h1, h2, h3, h4, h5⟩ := h.row hc
  exact ⟨g, o, h1, fun q hq => ⟨Nat.zero_le _, fun h0 => ⟨g, o + 1, cs, hq (by omega), h2, h3, by omega, fun j u hj => by cases hj⟩⟩⟩
theorem info_any : (Tryz.prog.info? 20).map (fun i => (i.zero, i.size, i.bytes)) = some (some .nilIface, 1, 16) := by kernel_rfl
/-- What an append of one leaves. -/
structure Put1 (B : Nat) (w w' : World) (u v' : Value) : Prop where
  row : ∃ p c, v' = .slice p 1 c ∧ QRow B w' [u] p c
  kept : Kept [20] B w w'
theorem step_append_q {ops : Array Oper} {o : Oper} {a : Act} {w : World} {K : Act → World → Prop} {Q : Exit → Act → World → Prop} {E : Prop}
    (hg : o.guard = none) (s x : Operand) (hop : o.op = Op.call { callee := Callee.builtin Builtin.append, args := #[s, x], argTypes := #[71, 71] })
    {B : Nat} {p : Option Addr} {c : Nat} (hq : QRow B w [] p c) (hB : B ≤ w.heap.size) (hs : a.eval s = .slice p 0 c) (ad : Addr) (cx : Nat) (u : Value) (hx : a.eval x = .slice (some ad) 1 cx) (hc : w.cell? (ad.add 0) = some u) (h1c : u.oneCell' = true)
    (hK : ∀ v' w', Put1 B w w' u v' → K (a.put o.dst v') w') :
    if Region.wanted o (yielded ops a.tmps) = true then Oper.wp Tryz.prog o a w K Q else E := by
  obtain ⟨i0, hi, hz0, hz1, hz2⟩ := info_parts info_any
  have hnews : ∀ j v, [u][j]? = some v → w.cell? (ad.add j) = some v := by
    intro j v hj
    cases j with
    | zero => obtain rfl := Option.some.inj hj; exact hc
    | succ j => cases hj
  have h1 : ∀ v ∈ [u], v.oneCell' = true := by
    intro v hv
    rcases List.mem_cons.1 hv with rfl | hv
    · exact h1c
    · cases hv
  rcases Nat.eq_zero_or_pos c with h0 | h0
  · subst h0
    refine step_append_grows hg s x 71 hop 20 i0 .nilIface 1 16 Tryz.underlying71 hi hz0 hz1 hz2 rfl (by decide) p 0 0 [] hs (fun _ => ⟨rfl, rfl⟩) rfl (fun b _ j v hj => by cases hj) ad 1 cx [u] hx rfl hnews h1 (by decide) (by decide) (by decide) (fun v' w' hown hgrow => hK v' w' ?_)
    obtain ⟨g, cap, cur, rfl, hge, hh, hnc, hcm, hsz, htk⟩ : ∃ g cap cur, v' = .slice (some ⟨g, 0, none⟩) 1 cap ∧ w.heap.size ≤ g ∧ w'.heap[g]? = some (.cells cur 20 (0, 0)) ∧ 1 ≤ cap ∧ cap ≤ maxLen ∧ cur.size = cap * 1 ∧ cur.toList.take 1 = [u] := by
      rcases hown.2 with ⟨_, h⟩ | ⟨g, cap, cur, h1, h2, h3, h4, h5, h6, h7⟩
      · cases h
      · exact ⟨g, cap, cur, h1, h2, h3, h4, h5, h6, h7⟩
    refine ⟨⟨_, _, rfl, ⟨hnc, fun _ => ⟨g, 0, cur, rfl, Nat.le_trans hB hge, hh, by omega, fun j v hj => ?_⟩⟩⟩, Kept.of ⟨hgrow.os, hgrow.tape, hgrow.output, hgrow.size, fun k hk => hgrow.block k hk (by simp)⟩ hB⟩
    cases j with
    | zero =>
      obtain rfl := Option.some.inj hj
      have : (cur.toList.take 1)[0]? = some u := by rw [htk]; rfl
      rw [List.getElem?_take, if_pos (by decide)] at this
      rw [← Array.getElem?_toList]
      exact this
    | succ j => cases hj
  · obtain ⟨g, off, cs, rfl, hgB, hh, hfit, _⟩ := hq.row h0
    have hlt : off < cs.size := by omega
    have e0 : ∀ j, j < [u].length → off + 0 * 1 + j = off := fun j hj => by have : j < 1 := hj; omega
    refine step_append_room hg s x 71 hop 20 i0 1 Tryz.underlying71 hi hz1 g off 0 c hs ad 1 cx [u] hx rfl hnews h1 h0 (fun j hj => ?_) (hK _ _ ?_)
    · rw [e0 j hj, blk_cell hh, blk_free hh]
      exact ⟨by rw [Array.getElem?_eq_getElem hlt]; rfl, rfl⟩
    · show Put1 B w (w.setCell ⟨g, off + 0 * 1, none⟩ u) u _
      rw [show off + 0 * 1 = off from by omega]
      refine ⟨⟨_, _, rfl, ⟨h0, fun _ => ⟨g, off, _, rfl, hgB, blk_set hh off u, by rw [Array.size_setIfInBounds]; omega, fun j v hj => ?_⟩⟩⟩, (Kept.refl _ _ _).set hh hgB (by rfl) _ _⟩
      cases j with
      | zero =>
        obtain rfl := Option.some.inj hj
        show (cs.setIfInBounds off u)[off + 0]? = some u
        rw [Nat.add_zero, Array.getElem?_setIfInBounds, if_pos rfl, if_pos hlt]
      | succ j => cases hj
/-- A gate, and what waits. -/
structure GateAt (B : Nat) (w : World) (G : Nat) (t : Int) (l : List Value) (p : Option Addr) (c : Nat) : Prop where
  base : B ≤ G
  blk : w.heap[G]? = some (.cells #[.slice p l.length c, .int .i64 t] 142 (0, 0))
  row : QRow B w l p c
theorem GateAt.kept {B : Nat} {w w' : World} {G : Nat} {t : Int} {l : List Value} {p : Option Addr} {c : Nat} {ts : List TypeId} (h : GateAt B w G t l p c) (k : Kept ts B w w') (h1 : ts.contains 142 = false) (h2 : ts.contains 20 = false) : GateAt B w' G t l p c := ⟨h.base, k.at h.blk h1, h.row.kept k h2⟩
theorem GateAt.below {B : Nat} {w w' : World} {G : Nat} {t : Int} {l : List Value} {p : Option Addr} {c : Nat} (h : GateAt B w G t l p c) (k : Below w.heap.size w w') : GateAt B w' G t l p c := ⟨h.base, blk_below h.blk k (lt_of_block h.blk), h.row.below k⟩
theorem GateAt.size {B : Nat} {w : World} {G : Nat} {t : Int} {l : List Value} {p : Option Addr} {c : Nat} (h : GateAt B w G t l p c) : B ≤ w.heap.size := Nat.le_of_lt (Nat.lt_of_le_of_lt h.base (lt_of_block h.blk))
theorem gnew_c (w : World) : Calls Tryz.prog 36 #[] w fun e w' => e = .returned (.pointer (some ⟨w.heap.size, 0, none⟩)) ∧ GateAt w.heap.size w' w.heap.size 0 [] none 0 ∧ Below w.heap.size w w' := by
  go_enter Tryz.func36, Tryz.ntmps36
  go_wp2
  go_ret
  exact ⟨rfl, ⟨Nat.le_refl _, blk_new _ _ _, QRow.empty _ _⟩, (Below.refl _ _).alloc (Nat.le_refl _) _⟩
theorem glen_c {B : Nat} {w : World} {G : Nat} {t : Int} {l : List Value} {p : Option Addr} {c : Nat} (h : GateAt B w G t l p c) : Calls Tryz.prog 41 #[.pointer (some ⟨G, 0, none⟩)] w fun e w' => e = .returned (.int .i64 (l.length : Int)) ∧ w = w' := by
  have c0 : w.cell? ⟨G, 0, none⟩ = some (.slice p l.length c) := blk_cell h.blk 0
  clear h
  generalize l.length = n at *
  go_enter Tryz.func41, Tryz.ntmps41
  go_wp2
  go_ret
  exact ⟨rfl, rfl⟩
theorem gcheck_c (k v b s : Int) (d : Value) (w : World) (h1 : 1 ≤ k) (h2 : k ≤ 9) : Calls Tryz.prog 70 #[.agg #[.int .i64 k, .int .i64 v, .int .i64 b, .int .i64 s, d]] w fun e w' => e = .returned (.int .i64 0) ∧ Below w.heap.size w w' := by
  have g1 : ¬ k < 1 := by omega
  have g2 : ¬ 9 < k := by omega
  go_enter Tryz.func70, Tryz.ntmps70
  go_wp2
  go_ret
  exact ⟨rfl, (Below.refl _ _).alloc (Nat.le_refl _) _⟩
theorem bclone_nil (w : World) : Calls Tryz.prog 121 #[.slice none 0 0] w fun e w' => e = .returned (.slice none 0 0) ∧ w = w' := by
  have hnil := fun (W : World) => Lib.run_eql_slice_nil (P := Tryz.prog) W 22 5 none 0 0 0 0 Tryz.underlying22
  go_enter Tryz.func121, Tryz.ntmps121
  go_wp2
  go_ret
  exact ⟨rfl, rfl⟩
theorem sizeR : (Tryz.prog.info? 24).map (·.size) = some 5 := by kernel_rfl
theorem gclone_c (k v b s : Int) (w : World) : Calls Tryz.prog 71 #[.agg #[.int .i64 k, .int .i64 v, .int .i64 b, .int .i64 s, .slice none 0 0]] w fun e w' => e = .returned (.agg #[.int .i64 k, .int .i64 v, .int .i64 b, .int .i64 s, .slice none 0 0]) ∧ Below w.heap.size w w' := by
  have KC := Lib.hid (fun (W : World) => bclone_nil W)
  have h2 := blk_new (w.alloc (.cells #[.int .i64 k, .int .i64 v, .int .i64 b, .int .i64 s, .slice none 0 0] 24)) #[.int .i64 k, .int .i64 v, .int .i64 b, .int .i64 s, .slice none 0 0] 24
  rw [sz_alloc] at h2
  have H2 := Lib.hid h2
  clear h2
  go_enter Tryz.func71, Tryz.ntmps71
  go_wp2_with (go_at_call 121; (with_reducible refine (KC.out _).mono ?_); rintro e w1 ⟨rfl, rfl⟩)
  refine bodyPost_ret (v := .agg #[.int .i64 k, .int .i64 v, .int .i64 b, .int .i64 s, .slice none 0 0]) (results_cell_row rfl _ _ (w.heap.size + 1) _ _ _ _ rfl H2.out Tryz.underlying24 rfl sizeR) rfl ?_
  exact ⟨rfl, ((Below.refl _ _).alloc (Nat.le_refl _) _).alloc (by rw [sz_alloc]; exact Nat.le_succ _) _⟩
/-- The cells of a request, in a box. -/
structure BoxAt (w : World) (M : Nat) (k v b s : Int) : Prop where
  blk : w.heap[M]? = some (.cells #[.int .i64 k, .int .i64 v, .int .i64 b, .int .i64 s, .slice none 0 0] 24 (0, 0))
theorem BoxAt.below {w w' : World} {M : Nat} {k v b s : Int} (h : BoxAt w M k v b s) (hb : Below w.heap.size w w') : BoxAt w' M k v b s := ⟨blk_below h.blk hb (lt_of_block h.blk)⟩
theorem BoxAt.cells {w : World} {M : Nat} {k v b s : Int} (h : BoxAt w M k v b s) : w.cell? ⟨M, 0, none⟩ = some (.int .i64 k) ∧ w.cell? ⟨M, 1, none⟩ = some (.int .i64 v) ∧ w.cell? ⟨M, 2, none⟩ = some (.int .i64 b) ∧ w.cell? ⟨M, 3, none⟩ = some (.int .i64 s) ∧ w.cell? ⟨M, 4, none⟩ = some (.slice none 0 0) :=
  ⟨blk_cell h.blk 0, blk_cell h.blk 1, blk_cell h.blk 2, blk_cell h.blk 3, blk_cell h.blk 4⟩
theorem GateAt.cells {B : Nat} {w : World} {G : Nat} {t : Int} {l : List Value} {p : Option Addr} {c : Nat} (h : GateAt B w G t l p c) : w.cell? ⟨G, 0, none⟩ = some (.slice p l.length c) ∧ w.cell? ⟨G, 1, none⟩ = some (.int .i64 t) ∧ w.frozen? ⟨G, 0, none⟩ = false ∧ w.frozen? ⟨G, 1, none⟩ = false :=
  ⟨blk_cell h.blk 0, blk_cell h.blk 1, blk_free h.blk 0, blk_free h.blk 1⟩
theorem GateAt.drew {B : Nat} {w : World} {G : Nat} {t : Int} {l : List Value} {p : Option Addr} {c : Nat} (h : GateAt B w G t l p c) : GateAt B w.drew G t l p c := ⟨h.base, h.blk, ⟨h.row.len, h.row.row⟩⟩
theorem BoxAt.drew {w : World} {M : Nat} {k v b s : Int} (h : BoxAt w M k v b s) : BoxAt w.drew M k v b s := ⟨h.blk⟩
/-- Behind the append. -/
structure GateMid (B : Nat) (w0 w : World) (G : Nat) (t : Int) (p : Option Addr) (c : Nat) (u v' : Value) : Prop where
  base : B ≤ G
  blk : w.heap[G]? = some (.cells #[.slice p 0 c, .int .i64 t] 142 (0, 0))
  row : ∃ p c, v' = .slice p 1 c ∧ QRow B w [u] p c
  kept : Kept [142, 20] B w0 w
theorem GateAt.mid {B : Nat} {w0 w w1 w' : World} {G : Nat} {t : Int} {p : Option Addr} {c : Nat} {u v' : Value} (h : GateAt B w G t [] p c) (k : Kept [142, 20] B w0 w) (hb : Below w.heap.size w w1) (hp : Put1 B w1 w' u v') : GateMid B w0 w' G t p c u v' :=
  ⟨h.base, hp.kept.at (blk_below h.blk hb (lt_of_block h.blk)) (by rfl), hp.row, (k.step hb h.size).trans (hp.kept.mono (by rfl))⟩
theorem GateMid.done {B : Nat} {w0 w : World} {G : Nat} {t : Int} {p : Option Addr} {c : Nat} {u v' : Value} (h : GateMid B w0 w G t p c u v') : (∃ p' c', GateAt B (w.setCell ⟨G, 0, none⟩ v') G t [u] p' c') ∧ Kept [142, 20] B w0 (w.setCell ⟨G, 0, none⟩ v') := by
  obtain ⟨p', c', rfl, hr⟩ := h.row
  exact ⟨⟨p', c', h.base, blk_set h.blk 0 _, hr.other h.blk (by decide) 0 _⟩, h.kept.set h.blk h.base (by rfl) 0 _⟩
set_option maxHeartbeats 4000000 in
theorem submit_c {B : Nat} {w : World} {G : Nat} {t : Int} {p : Option Addr} {c : Nat} (k v b s : Int) (h1 : 1 ≤ k) (h2 : k ≤ 9) (ht : 0 ≤ t) (ht2 : t ≤ 1000) (h : GateAt B w G t [] p c) :
    Calls Tryz.prog 40 #[.pointer (some ⟨G, 0, none⟩), .agg #[.int .i64 k, .int .i64 v, .int .i64 b, .int .i64 s, .slice none 0 0]] w fun e w' =>
      e = .returned (.tuple #[.int .i64 (t + 1), .int .i64 0]) ∧ (∃ p' c', GateAt B w' G (t + 1) [.iface 161 (.agg #[.int .i64 k, .int .i64 v, .int .i64 b, .int .i64 s, .slice none 0 0, .int .i64 (t + 1)])] p' c') ∧ Kept [142, 20] B w w' := by
  have KK := Lib.hid (fun (W : World) => gcheck_c k v b s (.slice none 0 0) W h1 h2)
  have KC := Lib.hid (fun (W : World) => gclone_c k v b s W)
  have hwt : wrap64 (t + 1) = t + 1 := by unfold wrap64; omega
  have HB0 := Lib.hid (BoxAt.mk (blk_new w #[.int .i64 k, .int .i64 v, .int .i64 b, .int .i64 s, .slice none 0 0] 24))
  have HG0 := Lib.hid (h.below ((Below.refl _ _).alloc (Nat.le_refl _) (.cells #[.int .i64 k, .int .i64 v, .int .i64 b, .int .i64 s, .slice none 0 0] 24)))
  have HK0 : Hid (Kept [142, 20] B w (w.alloc (.cells #[.int .i64 k, .int .i64 v, .int .i64 b, .int .i64 s, .slice none 0 0] 24))) := Lib.hid ((Kept.refl _ _ _).alloc h.size _)
  have hne : w.heap.size ≠ G := fun e => by have := lt_of_block h.blk; omega
  clear h h1 h2 ht ht2
  go_enter Tryz.func40, Tryz.ntmps40
  go_upto_region 1 with fail
  generalize (w.alloc (.cells #[.int .i64 k, .int .i64 v, .int .i64 b, .int .i64 s, .slice none 0 0] 24)) = w0 at *
  generalize w.heap.size = M at *
  obtain ⟨b0, b1, b2, b3, b4⟩ := HB0.out.cells
  go_upto_region 9 with (go_at_call 70; (with_reducible refine (KK.out _).mono ?_); rintro e w1 ⟨rfl, hb1⟩; have HG1 := Lib.hid (HG0.out.below hb1); have HB1 := Lib.hid (HB0.out.below hb1); have HK1 := Lib.hid (HK0.out.step hb1 HG0.out.size); clear hb1; obtain ⟨c0, c1, f0, f1⟩ := HG1.out.cells; have c0' : w1.cell? ⟨G, 0, none⟩ = some (.slice p 0 c) := c0)
  have HG2 : Hid (GateAt B (w1.setCell ⟨G, 1, none⟩ (.int .i64 (t + 1))) G (t + 1) [] p c) := Lib.hid ⟨HG1.out.base, blk_set HG1.out.blk 1 _, HG1.out.row.other HG1.out.blk (by decide) 1 _⟩
  have HB2 : Hid (BoxAt (w1.setCell ⟨G, 1, none⟩ (.int .i64 (t + 1))) M k v b s) := Lib.hid ⟨blk_set_other HB1.out.blk hne _⟩
  have HK2 : Hid (Kept [142, 20] B w (w1.setCell ⟨G, 1, none⟩ (.int .i64 (t + 1))).drew) := Lib.hid (HK1.out.set HG1.out.blk HG1.out.base (by rfl) 1 _).drew
  clear b0 b1 b2 b3 b4 c0 c1 c0' f0 f1
  generalize (w1.setCell ⟨G, 1, none⟩ (.int .i64 (t + 1))) = w2 at *
  obtain ⟨b0, b1, b2, b3, b4⟩ := HB2.out.cells
  obtain ⟨c0, c1, f0, f1⟩ := HG2.out.cells

  go_region_law (first
    | (refine step_append_q rfl (.tmp 31) (.tmp 40) rfl (HG3.out.row.below ((Below.refl _ _).alloc (Nat.le_refl _) _)) (Nat.le_trans HG3.out.size (by rw [sz_alloc]; exact Nat.le_succ _)) rfl ⟨_, 0, none⟩ 1 _ rfl (blk_cell (blk_new _ _ _) 0) rfl ?_; intro v' w5 hput; have HM := Lib.hid (HG3.out.mid HK3.out ((Below.refl _ _).alloc (Nat.le_refl _) _) hput); have d0 := blk_cell HM.out.blk 0; have f5 := blk_free HM.out.blk 0; clear hput; obtain ⟨p5, c5, rfl, _⟩ := id HM.out.row)
    | (go_simp; go_at_call 71; (with_reducible refine (KC.out _).mono ?_); rintro e w3 ⟨rfl, hb3⟩; have HG3 := Lib.hid (HG2.out.drew.below hb3); have HB3 := Lib.hid (HB2.out.drew.below hb3); have HK3 := Lib.hid (HK2.out.step hb3 HG2.out.drew.size); clear hb3; obtain ⟨b0', b1', b2', b3', b4'⟩ := HB3.out.cells; obtain ⟨c0', c1', f0', f1'⟩ := HG3.out.cells; have hL3 : G < w3.heap.size := lt_of_block HG3.out.blk))
  all_goals (
    obtain ⟨⟨p', c', hg⟩, hk⟩ := HM.out.done
    have e0 := blk_cell hg.blk 1
    go_wp2
    go_ret2
    exact ⟨rfl, ⟨p', c', hg⟩, hk⟩)
/-- What waits longest, one. -/
theorem GateAt.first {B : Nat} {w : World} {G : Nat} {t : Int} {u : Value} {p : Option Addr} {c : Nat} (h : GateAt B w G t [u] p c) : ∃ g o, p = some ⟨g, o, none⟩ ∧ w.cell? ⟨g, o, none⟩ = some u := by
  have hc : 0 < c := h.row.len
  obtain ⟨g, o, cs, h1, h2, h3, h4, h5⟩ := h.row.row hc
  exact ⟨g, o, h1, (blk_cell h3 o).trans (by have := h5 0 u rfl; rwa [Nat.add_zero] at this)⟩
theorem five {W : World} {R : Nat} {a0 a1 a2 a3 a4 : Value} {t : TypeId} (h : W.heap[R]? = some (.cells #[a0, a1, a2, a3, a4] t (0, 0))) (x0 x1 x2 x3 x4 : Value) :
    (((((W.setCell ⟨R, 0, none⟩ x0).setCell ⟨R, 1, none⟩ x1).setCell ⟨R, 2, none⟩ x2).setCell ⟨R, 3, none⟩ x3).setCell ⟨R, 4, none⟩ x4).heap[R]? = some (.cells #[x0, x1, x2, x3, x4] t (0, 0)) :=
  blk_set (blk_set (blk_set (blk_set (blk_set h 0 x0) 1 x1) 2 x2) 3 x3) 4 x4
theorem below5 {B : Nat} {a W : World} (h : Below B a W) {R : Nat} (hR : B ≤ R) (x0 x1 x2 x3 x4 : Value) : Below B a (((((W.setCell ⟨R, 0, none⟩ x0).setCell ⟨R, 1, none⟩ x1).setCell ⟨R, 2, none⟩ x2).setCell ⟨R, 3, none⟩ x3).setCell ⟨R, 4, none⟩ x4) :=
  ((((h.setCell hR x0).setCell hR x1).setCell hR x2).setCell hR x3).setCell hR x4
theorem results_tct {P : Program} {fn : Func} {t p u : Tmp} {ty : TypeId} (h : fn.results = #[.tmp t, .cell p ty, .tmp u]) (tmps : Array Value) (w : World) (g : Nat) (T : TypeId) (cs : Array Value) (fr : Nat × Nat) (d : TypeDesc)
    (hp : tmps.getD p undef = .pointer (some ⟨g, 0, none⟩)) (hg : w.heap[g]? = some (.cells cs T fr)) (hu : P.underlying ty = some d) (hd : (match d with | .struct _ | .array _ _ => true | _ => false) = true) (hi : (P.info? ty).map (·.size) = some cs.size) :
    (results fn tmps).run P w = .ok (.tuple #[tmps.getD t undef, .agg cs, tmps.getD u undef]) w := by
  have hp' : tmps[p]?.getD undef = .pointer (some ⟨g, 0, none⟩) := by simpa using hp
  simp [results, h, hp', asAddr, run_loadVar_row w g T ty cs fr d hg hu hd hi]
theorem as_wait (v : Value) (w : World) : (Instr.typeAssert (.iface 161 v) 20 161 true).run Tryz.prog w = .ok (.tuple #[v, .bool true]) w := by kernel_rfl
set_option maxHeartbeats 4000000 in
theorem first_c {B : Nat} {w : World} {G : Nat} {t tk : Int} {k v b s : Int} {p : Option Addr} {c : Nat} (h : GateAt B w G t [.iface 161 (.agg #[.int .i64 k, .int .i64 v, .int .i64 b, .int .i64 s, .slice none 0 0, .int .i64 tk])] p c) :
    Calls Tryz.prog 72 #[.pointer (some ⟨G, 0, none⟩)] w fun e w' => e = .returned (.tuple #[.int .i64 tk, .agg #[.int .i64 k, .int .i64 v, .int .i64 b, .int .i64 s, .slice none 0 0], .int .i64 0]) ∧ Below w.heap.size w w' := by
  have c0 : w.cell? ⟨G, 0, none⟩ = some (.slice p 1 c) := blk_cell h.blk 0
  have hL : G < w.heap.size := lt_of_block h.blk
  have KC := Lib.hid (fun (W : World) => gclone_c k v b s W)
  obtain ⟨g, o, rfl, c1⟩ := h.first
  have hL2 : g < w.heap.size := World.block_lt_of_cell? w ⟨g, o, none⟩ c1
  have has := as_wait
  have hb0 := blk_new (w.alloc (.cells #[.int .i64 0, .int .i64 0, .int .i64 0, .int .i64 0, .slice none 0 0] 24)) #[.int .i64 k, .int .i64 v, .int .i64 b, .int .i64 s, .slice none 0 0, .int .i64 tk] 161
  have hr0 := blk_old (blk_new w #[.int .i64 0, .int .i64 0, .int .i64 0, .int .i64 0, .slice none 0 0] 24) (.cells #[.int .i64 k, .int .i64 v, .int .i64 b, .int .i64 s, .slice none 0 0, .int .i64 tk] 161)
  have hb1 : Below w.heap.size w ((w.alloc (.cells #[.int .i64 0, .int .i64 0, .int .i64 0, .int .i64 0, .slice none 0 0] 24)).alloc (.cells #[.int .i64 k, .int .i64 v, .int .i64 b, .int .i64 s, .slice none 0 0, .int .i64 tk] 161)) := ((Below.refl _ _).alloc (Nat.le_refl _) _).alloc (by rw [sz_alloc]; exact Nat.le_succ _) _
  rw [sz_alloc] at hb0
  have HB0 := Lib.hid hb0
  have HR0 := Lib.hid hr0
  have HL0 := Lib.hid hb1
  clear h hb0 hr0 hb1
  go_enter Tryz.func72, Tryz.ntmps72
  go_upto_region 8 with fail
  generalize ((w.alloc (.cells #[.int .i64 0, .int .i64 0, .int .i64 0, .int .i64 0, .slice none 0 0] 24)).alloc (.cells #[.int .i64 k, .int .i64 v, .int .i64 b, .int .i64 s, .slice none 0 0, .int .i64 tk] 161)) = w2 at *
  have q0 : w2.cell? ⟨w.heap.size + 1, 0, none⟩ = some (.int .i64 k) := blk_cell HB0.out 0
  have q1 : w2.cell? ⟨w.heap.size + 1, 1, none⟩ = some (.int .i64 v) := blk_cell HB0.out 1
  have q2 : w2.cell? ⟨w.heap.size + 1, 2, none⟩ = some (.int .i64 b) := blk_cell HB0.out 2
  have q3 : w2.cell? ⟨w.heap.size + 1, 3, none⟩ = some (.int .i64 s) := blk_cell HB0.out 3
  have q4 : w2.cell? ⟨w.heap.size + 1, 4, none⟩ = some (.slice none 0 0) := blk_cell HB0.out 4
  have q5 : w2.cell? ⟨w.heap.size + 1, 5, none⟩ = some (.int .i64 tk) := blk_cell HB0.out 5
  go_region_with (go_at_call 71; (with_reducible refine (KC.out _).mono ?_); rintro e w3 ⟨rfl, hb3⟩; have HL3 := Lib.hid (HL0.out.drew.trans (hb3.mono HL0.out.size)); have HR3 := Lib.hid (blk_below (w := World.drew _) HR0.out hb3 (lt_of_block HR0.out)); have r5 : w3.cell? ⟨w.heap.size + 1, 5, none⟩ = some (.int .i64 tk) := blk_cell (blk_below (w := World.drew _) HB0.out hb3 (lt_of_block HB0.out)) 5; clear hb3; have s0 := blk_cell HR3.out 0; have s1 := blk_cell HR3.out 1; have s2 := blk_cell HR3.out 2; have s3 := blk_cell HR3.out 3; have s4 := blk_cell HR3.out 4; have t0 := blk_free HR3.out 0; have t1 := blk_free HR3.out 1; have t2 := blk_free HR3.out 2; have t3 := blk_free HR3.out 3; have t4 := blk_free HR3.out 4)
  all_goals (
    go_wp2
    refine bodyPost_ret (results_tct rfl _ _ w.heap.size _ #[.int .i64 k, .int .i64 v, .int .i64 b, .int .i64 s, .slice none 0 0] _ _ rfl (five HR3.out _ _ _ _ _) Tryz.underlying24 rfl sizeR) rfl ?_
    exact ⟨rfl, below5 HL3.out (Nat.le_refl _) _ _ _ _ _⟩)
set_option maxHeartbeats 4000000 in
theorem done_c {B : Nat} {w : World} {G : Nat} {t tk : Int} {k v b s : Int} {p : Option Addr} {c : Nat} (h : GateAt B w G t [.iface 161 (.agg #[.int .i64 k, .int .i64 v, .int .i64 b, .int .i64 s, .slice none 0 0, .int .i64 tk])] p c) :
    Calls Tryz.prog 42 #[.pointer (some ⟨G, 0, none⟩)] w fun e w' => e = .returned (.int .i64 0) ∧ (∃ p' c', GateAt B w' G t [] p' c') ∧ Kept [142, 20] B w w' := by
  have KF := Lib.hid (fun (W : World) (hh : GateAt B W G t [.iface 161 (.agg #[.int .i64 k, .int .i64 v, .int .i64 b, .int .i64 s, .slice none 0 0, .int .i64 tk])] p c) => first_c hh)
  have HG := Lib.hid h
  have hc1 : 1 ≤ c := h.row.len
  have hc2 : ¬ c < 1 := by omega
  clear h
  go_enter Tryz.func42, Tryz.ntmps42
  go_upto_region 2 with (go_at_call 72; (with_reducible refine (KF.out _ HG.out).mono ?_); rintro e w1 ⟨rfl, hb1⟩; have HG1 := Lib.hid (HG.out.below hb1); have HK1 := Lib.hid (Kept.of (ts := [142, 20]) hb1 HG.out.size); clear hb1)
  have HG2 := Lib.hid (HG1.out.below ((Below.refl _ _).alloc (Nat.le_refl _) (.cells #[.int .i64 k, .int .i64 v, .int .i64 b, .int .i64 s, .slice none 0 0] 24)))
  have HK2 := Lib.hid (HK1.out.alloc HG1.out.size (.cells #[.int .i64 k, .int .i64 v, .int .i64 b, .int .i64 s, .slice none 0 0] 24))
  generalize (w1.alloc (.cells #[.int .i64 k, .int .i64 v, .int .i64 b, .int .i64 s, .slice none 0 0] 24)) = w2 at *
  obtain ⟨g, o, rfl, hq⟩ := HG2.out.row.tail
  have HQ := Lib.hid hq
  clear hq
  obtain ⟨c0, c1, f0, f1⟩ := HG2.out.cells
  have c0' : w2.cell? ⟨G, 0, none⟩ = some (.slice (some ⟨g, o, none⟩) 1 c) := c0
  clear c0
  go_wp2
  · have h0 : QRow B w2 [] (some ⟨g, o, none⟩) 0 := by
      have := HQ.out (some ⟨g, o, none⟩) (fun h => absurd h (by omega))
      rwa [show c - 1 = 0 by omega] at this
    go_ret
    exact ⟨rfl, ⟨_, 0, HG2.out.base, blk_set HG2.out.blk 0 _, h0.other HG2.out.blk (by decide) 0 _⟩, HK2.out.set HG2.out.blk HG2.out.base (by rfl) 0 _⟩
  · go_ret
    exact ⟨rfl, ⟨_, c - 1, HG2.out.base, blk_set HG2.out.blk 0 _, (HQ.out (some ⟨g, o + 1, none⟩) (fun _ => rfl)).other HG2.out.blk (by decide) 0 _⟩, HK2.out.set HG2.out.blk HG2.out.base (by rfl) 0 _⟩
end Go.Proofs.YtjohhjdicbeojaaGreatDoor.Vb
namespace Go.Proofs.YtjohhjdicbeojaaGreatDoor.Vg
open Go.RowKit Go.Proofs.YtjohhjdicbeojaaGreatDoor.Ra Go.Proofs.YtjohhjdicbeojaaGreatDoor.Rj Go.Proofs.YtjohhjdicbeojaaGreatDoor.Rn Go.Proofs.YtjohhjdicbeojaaGreatDoor.Ro Go.Proofs.YtjohhjdicbeojaaGreatDoor.Rq Go.Proofs.YtjohhjdicbeojaaGreatDoor.Ua Go.Proofs.YtjohhjdicbeojaaGreatDoor.Ub Go.Proofs.YtjohhjdicbeojaaGreatDoor.Va Go.Proofs.YtjohhjdicbeojaaGreatDoor.Vb Go.Proofs.YtjohhjdicbeojaaGreatDoor.Vc Go.Proofs.YtjohhjdicbeojaaGreatDoor.Vd Go.Proofs.YtjohhjdicbeojaaGreatDoor.Ve
set_option maxRecDepth 8000
theorem must_ok (w : World) : Calls Tryz.prog 79 #[.int .i64 0] w fun e w' => e = .returned (.tuple #[]) ∧ w = w' := by
  go_enter Tryz.func79, Tryz.ntmps79
  go_wp2
  refine bodyPost_end (v := .tuple #[]) (by simp [results, Tryz.results79, go_sem]) rfl ?_
  exact ⟨rfl, rfl⟩
theorem must_bad (n : Int) (h : n ≠ 0) (w : World) : Calls Tryz.prog 79 #[.int .i64 n] w fun e w' => e = .panicked [{ v := .iface 167 (.agg #[.int .i64 n]), recovered := false }] ∧ w = w' := by
  go_enter Tryz.func79, Tryz.ntmps79
  go_wp2
  exact ⟨rfl, rfl, rfl⟩
set_option maxHeartbeats 4000000 in
theorem live_c (g c : Nat) (w : World) (h3 : Three w g) : Calls Tryz.prog 130 #[.agg (volCells (.slice (some ⟨g, 0, none⟩) 3 c))] w fun e w' => e = .returned (.tuple #[.int .i64 0, .int .i64 0]) ∧ Below w.heap.size w w' := by
  have KS : Hid (∀ (W : World) (hh : Three W g), Calls Tryz.prog 63 #[.agg (volCells (.slice (some ⟨g, 0, none⟩) 3 c))] W fun e w' => e = .returned (.bool true) ∧ Below W.heap.size W w') := Lib.hid (fun W hh => Ua.sound_c g c W hh)
  have KA := Lib.hid (fun (W : World) (hh : Three W g) => Uc.all_c g c W hh)
  have HBX := Lib.hid (blk_new w (volCells (.slice (some ⟨g, 0, none⟩) 3 c)) 96)
  have H3 := Lib.hid (h3.later ((Below.refl _ _).alloc (Nat.le_refl _) (.cells (volCells (.slice (some ⟨g, 0, none⟩) 3 c)) 96)))
  have HB0 : Hid (Below w.heap.size w (w.alloc (.cells (volCells (.slice (some ⟨g, 0, none⟩) 3 c)) 96))) := Lib.hid ((Below.refl _ _).alloc (Nat.le_refl _) _)
  have HSV := Lib.hid (sizeV (.slice (some ⟨g, 0, none⟩) 3 c))
  clear h3
  generalize (volCells (.slice (some ⟨g, 0, none⟩) 3 c)) = cs at *
  go_enter Tryz.func130, Tryz.ntmps130
  go_upto_region 1 with fail
  generalize (w.alloc (.cells cs 96)) = w0 at *
  go_wp2_with (first
    | (refine wpList_load_row rfl 96 (.tmp 1) rfl w.heap.size rfl _ cs _ _ HBX.out Tryz.underlying96 rfl HSV.out ?_)
    | (go_at_call 63; (refine (KS.out _ H3.out).mono ?_); rintro e w1 ⟨rfl, hb1⟩; have HBX1 := Lib.hid (blk_below HBX.out hb1 (lt_of_block HBX.out)); have HB1 := Lib.hid (HB0.out.trans (hb1.mono HB0.out.size)); have H31 := Lib.hid (H3.out.later hb1); clear hb1)
    | (refine wpList_load_row rfl 96 (.tmp 1) rfl w.heap.size rfl _ cs _ _ HBX1.out Tryz.underlying96 rfl HSV.out ?_)
    | (go_at_call 111; (refine (KA.out _ H31.out).mono ?_); rintro e w3 ⟨mm, rfl, hmm, hmap, hb3⟩; have HB3 := Lib.hid (HB1.out.trans (hb3.mono HB1.out.size)); have hlen := len_owners w3 mm 3 hmap; clear hb3 hmm hmap))
  go_ret2
  exact ⟨rfl, HB3.out⟩
/-- A pool: what its calls read and write. -/
structure PoolV where
  d : Value
  sv : Value
  dl : Value
  tu : Bool
  ck : Int
  st : Value
def PoolV.cells (x : PoolV) (G R : Nat) : Array Value := #[.pointer (some ⟨G, 0, none⟩), x.d, .int .i64 6, .int .i64 2, .pointer (some ⟨R, 0, none⟩), x.sv, .int .i64 1, .int .i64 16, x.dl, .bool x.tu, .int .i64 x.ck, x.st, .bool false]
structure PoolAt (B : Nat) (w : World) (P G R : Nat) (x : PoolV) : Prop where
  base : B ≤ P
  blk : w.heap[P]? = some (.cells (x.cells G R) 107 (0, 0))
theorem PoolAt.below {B : Nat} {w w' : World} {P G R : Nat} {x : PoolV} (h : PoolAt B w P G R x) (hb : Below w.heap.size w w') : PoolAt B w' P G R x := ⟨h.base, blk_below h.blk hb (lt_of_block h.blk)⟩
theorem PoolAt.kept {ts : List TypeId} {B C : Nat} {w w' : World} {P G R : Nat} {x : PoolV} (h : PoolAt B w P G R x) (hk : Kept ts C w w') (ht : ts.contains 107 = false) : PoolAt B w' P G R x := ⟨h.base, hk.at h.blk ht⟩
theorem PoolAt.size {B : Nat} {w : World} {P G R : Nat} {x : PoolV} (h : PoolAt B w P G R x) : B ≤ w.heap.size := Nat.le_of_lt (Nat.lt_of_le_of_lt h.base (lt_of_block h.blk))
theorem PoolAt.drew {B : Nat} {w : World} {P G R : Nat} {x : PoolV} (h : PoolAt B w P G R x) : PoolAt B w.drew P G R x := ⟨h.base, h.blk⟩
theorem RollAt.kept {ts : List TypeId} {C : Nat} {w w' : World} {R : Nat} {k s : Int} {t : Value} (h : RollAt w R k s t) (hk : Kept ts C w w') (ht : ts.contains 148 = false) : RollAt w' R k s t := ⟨hk.at h.blk ht⟩
theorem RollAt.drew {w : World} {R : Nat} {k s : Int} {t : Value} (h : RollAt w R k s t) : RollAt w.drew R k s t := ⟨h.blk⟩
theorem TabAt.drew {w : World} {T : Nat} (h : TabAt w T) : TabAt w.drew T := ⟨h.tab⟩
theorem BoxAt.kept {ts : List TypeId} {C : Nat} {w w' : World} {M : Nat} {k v b s : Int} (h : BoxAt w M k v b s) (hk : Kept ts C w w') (ht : ts.contains 24 = false) : BoxAt w' M k v b s := ⟨hk.at h.blk ht⟩
theorem noted_cells (x : PoolV) (G R : Nat) (dl : Value) : (((x.cells G R).setIfInBounds 8 dl).setIfInBounds 9 (.bool true)) = ({ x with dl := dl, tu := true } : PoolV).cells G R := by kernel_rfl
theorem noted {B : Nat} {w0 w : World} {P G R : Nat} {x : PoolV} (h : PoolAt B w P G R x) (hk : Kept [107] B w0 w) (dl : Value) : PoolAt B ((w.setCell ⟨P, 8, none⟩ dl).setCell ⟨P, 9, none⟩ (.bool true)) P G R { x with dl := dl, tu := true } ∧ Kept [107] B w0 ((w.setCell ⟨P, 8, none⟩ dl).setCell ⟨P, 9, none⟩ (.bool true)) := by
  have b1 := blk_set h.blk 8 dl
  have b2 := blk_set b1 9 (.bool true)
  rw [noted_cells] at b2
  exact ⟨⟨h.base, b2⟩, (hk.set h.blk h.base (by rfl) 8 dl).set b1 h.base (by rfl) 9 (.bool true)⟩
theorem info_delta : (Tryz.prog.info? 209).map (fun i => (i.zero, i.size, i.bytes)) = some (some (.agg #[.int .i64 0, .int .i64 0, .int .i64 0, .int .i64 0, .complex .f64 0 0]), 5, 48) := by kernel_rfl
set_option maxHeartbeats 4000000 in
theorem note_c {B : Nat} {w : World} {P G R : Nat} {x : PoolV} (h : PoolAt B w P G R x) (hx : x.dl = .slice none 0 0) (k v o b : Int) :
    Calls Tryz.prog 123 #[.pointer (some ⟨P, 0, none⟩), .agg #[.int .i64 k, .int .i64 v, .int .i64 o, .int .i64 b, .complex .f64 0 0]] w fun e w' => (e = .returned (.tuple #[])) ∧ (∃ dl, PoolAt B w' P G R { x with dl := dl, tu := true }) ∧ Kept [107] B w w' := by
  obtain ⟨i0, hi, hz0, hz1, hz2⟩ := info_parts info_delta
  have HI := Lib.hid hi
  have HZ0 := Lib.hid hz0
  have HZ1 := Lib.hid hz1
  have HZ2 := Lib.hid hz2
  have HDB := Lib.hid (blk_new w #[.int .i64 k, .int .i64 v, .int .i64 o, .int .i64 b, .complex .f64 0 0] 209)
  have H0 := Lib.hid (h.below ((Below.refl _ _).alloc (Nat.le_refl _) (.cells #[.int .i64 k, .int .i64 v, .int .i64 o, .int .i64 b, .complex .f64 0 0] 209)))
  have HK0 : Hid (Kept [107] B w (w.alloc (.cells #[.int .i64 k, .int .i64 v, .int .i64 o, .int .i64 b, .complex .f64 0 0] 209))) := Lib.hid ((Kept.refl _ _ _).alloc h.size _)
  clear hi hz0 hz1 hz2 h
  go_enter Tryz.func123, Tryz.ntmps123
  go_upto_region 1 with fail
  generalize (w.alloc (.cells #[.int .i64 k, .int .i64 v, .int .i64 o, .int .i64 b, .complex .f64 0 0] 209)) = w0 at *
  generalize w.heap.size = M at *
  have b0 : w0.cell? ⟨M, 0, none⟩ = some (.int .i64 k) := blk_cell HDB.out 0
  have b1 : w0.cell? ⟨M, 1, none⟩ = some (.int .i64 v) := blk_cell HDB.out 1
  have b2 : w0.cell? ⟨M, 2, none⟩ = some (.int .i64 o) := blk_cell HDB.out 2
  have b3 : w0.cell? ⟨M, 3, none⟩ = some (.int .i64 b) := blk_cell HDB.out 3
  have b4 : w0.cell? ⟨M, 4, none⟩ = some (.complex .f64 0 0) := blk_cell HDB.out 4
  have c8 : w0.cell? ⟨P, 8, none⟩ = some (.slice none 0 0) := by rw [← hx]; exact blk_cell H0.out.blk 8
  have f8 : w0.frozen? ⟨P, 8, none⟩ = false := blk_free H0.out.blk 8
  have hL : P < w0.heap.size := lt_of_block H0.out.blk
  have hD := Lib.hid H0.out.drew
  have hKD := Lib.hid HK0.out.drew
  go_region_law (refine step_append_grows rfl (.tmp 8) (.tmp 10) 105 rfl 209 i0 _ 5 48 Tryz.underlying105 HI.out HZ0.out HZ1.out HZ2.out rfl (by decide) none 0 0 [] rfl (fun _ => ⟨rfl, rfl⟩) rfl (fun b e => by cases e) ⟨w0.drew.heap.size, 0, none⟩ 1 1 [.int .i64 k, .int .i64 v, .int .i64 o, .int .i64 b, .complex .f64 0 0] rfl rfl (World.news_of_block (blk_new _ _ _)) (by simp [Value.oneCell']) (by decide) (by decide) (by decide) ?_; intro v' w5 hown hgrow; have HB5 : Hid (Below w0.drew.heap.size w0.drew w5) := Lib.hid (((Below.refl _ _).alloc (Nat.le_refl _) _).trans ⟨hgrow.os, hgrow.tape, hgrow.output, hgrow.size, fun k hk => hgrow.block k (Nat.lt_of_lt_of_le hk (by show w0.heap.size ≤ (w0.alloc _).heap.size; rw [sz_alloc]; exact Nat.le_succ _)) (by simp)⟩); have H5 := Lib.hid (hD.out.below HB5.out); have d8 : w5.cell? ⟨P, 8, none⟩ = some (.slice none 0 0) := (by rw [← hx]; exact blk_cell H5.out.blk 8); have e8 := blk_free H5.out.blk 8; have d9 : w5.cell? ⟨P, 9, none⟩ = some (.bool x.tu) := blk_cell H5.out.blk 9; have e9 := blk_free H5.out.blk 9; have HK5 := Lib.hid (hKD.out.step HB5.out hD.out.size); obtain ⟨pv, nv, cv, rfl⟩ : ∃ pv nv cv, v' = .slice pv nv cv := (by rcases hown.2 with ⟨h, _⟩ | ⟨g, cap, cur, h, _⟩ <;> exact ⟨_, _, _, h⟩); clear hown hgrow)
  all_goals (
    have HN := Lib.hid (noted H5.out HK5.out (.slice pv nv cv))
    clear c8 f8 b0 b1 b2 b3 b4
    go_wp2
    refine bodyPost_end (v := .tuple #[]) (by simp [results, Tryz.results123, go_sem]) rfl ?_
    exact ⟨rfl, ⟨_, HN.out.1⟩, HN.out.2⟩)
end Go.Proofs.YtjohhjdicbeojaaGreatDoor.Vg
namespace Go.Proofs.YtjohhjdicbeojaaGreatDoor.Rx
open Go.RowKit Go.Proofs.YtjohhjdicbeojaaGreatDoor.Ra Go.Proofs.YtjohhjdicbeojaaGreatDoor.Rc Go.Proofs.YtjohhjdicbeojaaGreatDoor.Re Go.Proofs.YtjohhjdicbeojaaGreatDoor.Rj Go.Proofs.YtjohhjdicbeojaaGreatDoor.Rp Go.Proofs.YtjohhjdicbeojaaGreatDoor.Rv Go.Proofs.YtjohhjdicbeojaaGreatDoor.Rw
set_option maxRecDepth 8000
theorem count_bad (B : Nat) (v : Value) (l : List UInt8) (w : World) (hB : B ≤ w.heap.size) (hv : BytesIn B w v l) (h64 : l.length = 64) (heq : closeL (l.take 60) ≠ l) :
    Calls Tryz.prog 158 #[v] w fun e w' => e = .returned (.tuple #[.int .i64 0, .int .i64 0, .int .i64 11]) ∧ Below w.heap.size w w' := by
  have K := Lib.hid (read_bad B v l w hB hv h64 heq)
  obtain ⟨p, c, rfl, _⟩ := hv.form
  clear hv
  rw [h64] at K ⊢
  clear heq h64
  go_enter Tryz.func158, Tryz.ntmps158
  go_wp2_with (go_at_call 159; (with_reducible refine K.out.mono ?_); rintro e w1 ⟨rfl, hb1⟩; have HB1 := Lib.hid hb1; clear hb1)
  refine bodyPost_ret (v := .tuple #[.int .i64 0, .int .i64 0, .int .i64 11]) (by simp [results, Tryz.results158, go_sem]) rfl ⟨rfl, HB1.out.alloc HB1.out.size _⟩
/-- A sector of zeros is no header. -/
theorem zeros_bad : closeL ((List.replicate 64 (0 : UInt8)).take 60) ≠ List.replicate 64 0 := by decide +kernel
end Go.Proofs.YtjohhjdicbeojaaGreatDoor.Rx
