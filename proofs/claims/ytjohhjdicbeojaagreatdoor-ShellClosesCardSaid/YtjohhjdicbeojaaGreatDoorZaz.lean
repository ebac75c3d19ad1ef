/- Texts joined: Sf. -/
import Derived.Test.YtjohhjdicbeojaaGreatDoorZay
namespace Go.Proofs.YtjohhjdicbeojaaGreatDoor.Sf
open Go.RowKit Go.Proofs.YtjohhjdicbeojaaGreatDoor.Ra Go.Proofs.YtjohhjdicbeojaaGreatDoor.Rb Go.Proofs.YtjohhjdicbeojaaGreatDoor.Rc Go.Proofs.YtjohhjdicbeojaaGreatDoor.Rd Go.Proofs.YtjohhjdicbeojaaGreatDoor.Re Go.Proofs.YtjohhjdicbeojaaGreatDoor.Rj Go.Proofs.YtjohhjdicbeojaaGreatDoor.Rl Go.Proofs.YtjohhjdicbeojaaGreatDoor.Rt Go.Proofs.YtjohhjdicbeojaaGreatDoor.Ru Go.Proofs.YtjohhjdicbeojaaGreatDoor.Sb Go.Proofs.YtjohhjdicbeojaaGreatDoor.Sc Go.Proofs.YtjohhjdicbeojaaGreatDoor.Sd Go.Proofs.YtjohhjdicbeojaaGreatDoor.Se
set_option maxRecDepth 8000
noncomputable def r10 : Array Oper := funcOps Tryz.f102 10
/-- A sealed sector in a block at or beyond B. -/
def SecB (B : Nat) (l : List UInt8) (v : Value) (w : World) : Prop := ∃ g cs, (∃ c, v = .slice (some ⟨g, 0, none⟩) 64 c ∧ 64 ≤ c) ∧ B ≤ g ∧ w.heap[g]? = some (.cells cs 5 (0, 0)) ∧ cs.toList.take l.length = byteVals l ∧ l.length = 64
theorem SecB.kept {B : Nat} {l : List UInt8} {v : Value} {w w' : World} (h : SecB B l v w) (hk : ∀ g, B ≤ g → ∀ cs, w.heap[g]? = some (.cells cs 5 (0, 0)) → w'.heap[g]? = some (.cells cs 5 (0, 0))) : SecB B l v w' := by
  obtain ⟨g, cs, h1, h2, h3, h4⟩ := h
  exact ⟨g, cs, h1, h2, hk g h2 cs h3, h4⟩
theorem SecB.below {B : Nat} {l : List UInt8} {v : Value} {w w' : World} (h : SecB B l v w) (hb : Below w.heap.size w w') : SecB B l v w' := h.kept (fun _ _ _ h => blk_below h hb (lt_of_block h))
theorem SecB.of {B : Nat} {l : List UInt8} {v : Value} {w w' : World} (h : SectorAt w l v w') (hl : l.length = 64) (hB : B ≤ w.heap.size) : SecB B l v w' := by
  obtain ⟨g, rfl⟩ := h.form
  rcases h.row.2 with ⟨e, _⟩ | ⟨g', cap, cur, e, hg, hh, _, _, _, ht⟩
  · cases e
  · injection e with e _ _
    injection e with e
    injection e with e _
    subst e
    exact ⟨g, cur, ⟨_, rfl, Nat.le_refl _⟩, Nat.le_trans hB hg, hh, by rw [hl]; simpa using ht, hl⟩
theorem SecB.bytes {B C : Nat} {l : List UInt8} {v : Value} {w : World} (h : SecB B l v w) : BytesIn C w v l := by
  obtain ⟨g, cs, ⟨c, rfl, hc⟩, _, h3, h4, h5⟩ := h
  exact bytes_of_blk h3 h5.symm hc h4
/-- What Encode's leaf holds ahead of the seal. -/
def leafL : List UInt8 := rowL 4 [1] ++ rowL 1 [0, 16] ++ List.replicate 16 0
/-- What a round keeps. -/
structure Kr (X : Nat) (W0 : World) (free : Prop) (w : World) : Prop where
  os : w.os = W0.os
  tape : w.tape = W0.tape
  output : w.output = W0.output
  size : W0.heap.size ≤ w.heap.size
  block : ∀ b, b < W0.heap.size → (b = X → free) → w.heap[b]? = W0.heap[b]?
theorem Kr.below {X : Nat} {W0 : World} {p q : Prop} {w w' : World} (h : Kr X W0 p w) (hq : q → p) (hb : Below W0.heap.size w w') : Kr X W0 q w' :=
  ⟨hb.os.trans h.os, hb.tape.trans h.tape, hb.output.trans h.output, Nat.le_trans h.size hb.size, fun b hlt hX => (hb.block b hlt).trans (h.block b hlt (fun e => hq (hX e)))⟩
theorem Kr.grown {X : Nat} {W0 : World} {p q : Prop} {w w' : World} {row : Option Nat} (h : Kr X W0 p w) (hq : q → p) (hg : w.grownBy w' row) (hr : ∀ k, row = some k → W0.heap.size ≤ k) : Kr X W0 q w' :=
  ⟨hg.os.trans h.os, hg.tape.trans h.tape, hg.output.trans h.output, Nat.le_trans h.size hg.size, fun b hlt hX => (hg.block b (Nat.lt_of_lt_of_le hlt h.size) (fun e => by have := hr b e.symm; omega)).trans (h.block b hlt (fun e => hq (hX e)))⟩
def T10 (X B : Nat) (part : Value) (L : Nat → Prop) : Nat → Value → World → Prop
  | 0, v, _ => v = .slice none 0 0
  | 1, v, _ => v = .int .i64 1
  | 2, v, w => ¬ L 3 → IntsIn 0 w v [1]
  | 3, v, w => ¬ L 9 → w.ownsRow B 5 1 v (rowL 4 [1]).length (byteVals (rowL 4 [1]))
  | 4, v, _ => v = .slice none 0 0
  | 5, v, _ => v = .int .i64 0
  | 6, v, _ => v = part
  | 7, v, _ => v = .int .i64 16
  | 8, v, w => ¬ L 9 → IntsIn 0 w v [0, 16]
  | 9, v, w => ¬ L 11 → w.ownsRow B 5 1 v (rowL 4 [1] ++ rowL 1 [0, 16]).length (byteVals (rowL 4 [1] ++ rowL 1 [0, 16]))
  | 10, v, _ => v = part
  | 11, v, w => ¬ L 12 → BytesIn 0 w v leafL
  | 12, v, w => ¬ L 13 → SecB B (closeL leafL) v w
  | 13, v, w => ¬ L 14 → ∃ g u, v = .slice (some ⟨g, 0, none⟩) 1 1 ∧ w.heap[g]? = some (.cells #[u] 22 (0, 0)) ∧ SecB B (closeL leafL) u w
  | 14, v, w => ¬ L 15 → ∃ g cap cs u, v = .slice (some ⟨g, 0, none⟩) 1 cap ∧ 1 ≤ cap ∧ B ≤ g ∧ w.heap[g]? = some (.cells cs 22 (0, 0)) ∧ cs[0]? = some u ∧ SecB B (closeL leafL) u w
  | _, _, w => ∃ g cap cs u, w.heap[X]? = some (.cells #[.slice (some ⟨g, 0, none⟩) 1 cap] 199 (0, 0)) ∧ 1 ≤ cap ∧ B ≤ g ∧ w.heap[g]? = some (.cells cs 22 (0, 0)) ∧ cs[0]? = some u ∧ SecB B (closeL leafL) u w
theorem T10_keep {X B i : Nat} {part : Value} {L : Nat → Prop} {w w' : World} (hb : Below w.heap.size w w') : ∀ j u, T10 X B part L j u w → T10 X B part (fun k => L k ∨ k = i) j u w' := by
  intro j u h
  have hs : Step 0 w w' := Step.of hb (Nat.zero_le _)
  match j, h with
  | 0, h => exact h
  | 1, h => exact h
  | 2, h => exact fun hL => (h fun x => hL (.inl x)).step hs
  | 3, h => exact fun hL => row_below (h fun x => hL (.inl x)) hb
  | 4, h => exact h
  | 5, h => exact h
  | 6, h => exact h
  | 7, h => exact h
  | 8, h => exact fun hL => (h fun x => hL (.inl x)).step hs
  | 9, h => exact fun hL => row_below (h fun x => hL (.inl x)) hb
  | 10, h => exact h
  | 11, h => exact fun hL => (h fun x => hL (.inl x)).step hs
  | 12, h => exact fun hL => (h fun x => hL (.inl x)).below hb
  | 13, h =>
    intro hL
    obtain ⟨g, u, h1, h2, h3⟩ := h fun x => hL (.inl x)
    exact ⟨g, u, h1, blk_below h2 hb (lt_of_block h2), h3.below hb⟩
  | 14, h =>
    intro hL
    obtain ⟨g, cap, cs, u, h1, h2, h3, h4, h5, h6⟩ := h fun x => hL (.inl x)
    exact ⟨g, cap, cs, u, h1, h2, h3, blk_below h4 hb (lt_of_block h4), h5, h6.below hb⟩
  | j + 15, h =>
    obtain ⟨g, cap, cs, u, h1, h2, h3, h4, h5, h6⟩ := h
    exact ⟨g, cap, cs, u, blk_below h1 hb (lt_of_block h1), h2, h3, blk_below h4 hb (lt_of_block h4), h5, h6.below hb⟩
theorem agg_int (w : World) : (isAgg 3).run Tryz.prog w = .ok false w := by kernel_rfl
theorem agg_sl (w : World) : (isAgg 199).run Tryz.prog w = .ok false w := by kernel_rfl
theorem info_int : (Tryz.prog.info? 3).map (fun i => (i.zero, i.size, i.bytes)) = some (some (.int .i64 0), 1, 8) := by kernel_rfl
theorem info_bs : (Tryz.prog.info? 22).map (fun i => (i.zero, i.size, i.bytes)) = some (some (.slice none 0 0), 1, 24) := by kernel_rfl
theorem fits_of {k : Nat} {l : List Int} (h : (l.all fun x => decide (0 ≤ x ∧ x < 256 ^ k)) = true) : Fits k l := fun x hx => of_decide_eq_true (List.all_eq_true.1 h x hx)
set_option maxHeartbeats 4000000 in
theorem owes10 {Q : Exit → Act → World → Prop} (X q : Nat) (tg : Nat) (W0 : World) (a0 : Act) (h5 : a0.tmps[5]? = some (.pointer (some ⟨q, 0, none⟩))) (h10 : a0.tmps[10]? = some (.pointer (some ⟨X, 0, none⟩))) (h11 : a0.tmps[11]? = some (.slice (some ⟨tg, 0, none⟩) 16 16))
    (hX : W0.heap[X]? = some (.cells #[.slice none 0 0] 199 (0, 0))) (hq : W0.heap[q]? = some (.cells #[.int .i64 1] 3 (0, 0))) (hX2 : q ≠ X) (ht : BytesIn 0 W0 (.slice (some ⟨tg, 0, none⟩) 16 16) (List.replicate 16 0)) (htX : tg ≠ X) (htl : tg < W0.heap.size) :
    ∀ (i : Nat) (o : Oper), r10[i]? = some o → Owes Tryz.prog r10 Q (T10 X W0.heap.size (.slice (some ⟨tg, 0, none⟩) 16 16)) (fun L w => Kr X W0 (¬ L 15) w) a0 i o := by
  intro i o ho L a w K hsh hnl haf hF hS hT hK
  have hsz : r10.size = 16 := by kernel_rfl
  have hi : i < 16 := by
    have h1 := (Array.getElem?_eq_some_iff.1 ho).1
    rwa [hsz] at h1
  have hXl : X < W0.heap.size := lt_of_block hX
  have hql : q < W0.heap.size := lt_of_block hq
  -- an operation behind which all lies as it lay
  have plain : ∀ v w', i ≠ 15 → Below w.heap.size w w' → T10 X W0.heap.size (.slice (some ⟨tg, 0, none⟩) 16 16) (fun k => L k ∨ k = i) i v w' → K (a.put o.dst v) w' := fun v w' hne hb hv =>
    hK v w' hv (hS.below (fun h x => h (.inl x)) (hb.mono hS.size)) (fun j u _ _ h => T10_keep hb j u h)
  have qc : w.cell? ⟨q, 0, none⟩ = some (.int .i64 1) := by rw [World.cell?_of_block (hS.block q hql (fun e => absurd e hX2))]; exact blk_cell hq 0
  have xc : ¬ L 15 → w.cell? ⟨X, 0, none⟩ = some (.slice none 0 0) := fun h => by rw [World.cell?_of_block (hS.block X hXl (fun _ => h))]; exact blk_cell hX 0
  have n15 : ∀ k, onOf r10 15 k = true → ¬ L k → ¬ L 15 := fun k hk hn h => hn (came hsh h hk)
  obtain rfl | rfl | rfl | rfl | rfl | rfl | rfl | rfl | rfl | rfl | rfl | rfl | rfl | rfl | rfl | rfl : i = 0 ∨ i = 1 ∨ i = 2 ∨ i = 3 ∨ i = 4 ∨ i = 5 ∨ i = 6 ∨ i = 7 ∨ i = 8 ∨ i = 9 ∨ i = 10 ∨ i = 11 ∨ i = 12 ∨ i = 13 ∨ i = 14 ∨ i = 15 := by omega
  · exact wp_load1 (op_is ho (by kernel_rfl)) (slot hF (by kernel_rfl) h10) (xc fun h => hnl (run_down hsh [14, 0] 15 (by kernel_rfl) h)) agg_sl (plain _ _ (by decide) (Below.refl _ _) rfl)
  · exact wp_load1 (op_is ho (by kernel_rfl)) (slot hF (by kernel_rfl) h5) qc agg_int (plain _ _ (by decide) (Below.refl _ _) rfl)
  · obtain ⟨v, e1, h1⟩ := has (a := a) hT (haf 1 (on_is ho (by kernel_rfl))) (d := 32) (by kernel_rfl)
    obtain rfl : v = .int .i64 1 := h1
    obtain ⟨i0, hi0, hz0, hs0, -⟩ := info_parts info_int
    refine wp_buildSlice 25 3 1 #[(0, .tmp 32)] (op_is ho (by kernel_rfl)) #[.int .i64 1] i0 _ Tryz.underlying25 hi0 hz0 (by rw [hs0]; decide) (by rw [hs0]; decide) ?_ (plain _ _ (by decide) ((Below.refl _ _).alloc (Nat.le_refl _) _) fun _ => ints_of_blk (blk_new _ _ _) rfl rfl)
    simp only [List.map_toArray, List.map_cons, List.map_nil, e1, hs0]
    exact fill1 _ (by simp) _ rfl
  · obtain ⟨v, e1, h1⟩ := has (a := a) hT (haf 2 (on_is ho (by kernel_rfl))) (d := 33) (by kernel_rfl)
    have kp := leafput_c 0 W0.heap.size (.slice none 0 0) [] 4 v [1] w (Nat.zero_le _) hS.size (World.ownsRow_nil _ _ _ _) (by decide) (h1 hnl) (by decide) (by decide) (fits_of (by decide)) (by decide)
    rw [show ((4 : Nat) : Int) = 4 from rfl] at kp
    refine wp_call (args := #[.const (.slice none 0 0), .const (.int .i64 4), .tmp 33]) (ts := #[22, 3, 25]) (vs := #[.slice none 0 0, .int .i64 4, v]) (op_is ho (by kernel_rfl)) (by simp only [List.map_toArray, List.map_cons, List.map_nil, e1]; rfl) (fun _ => enters_of Tryz.func156 (by kernel_rfl) rfl _ _) (kp.mono ?_)
    rintro e w' ⟨v', rfl, hp⟩
    exact ⟨v', rfl, plain _ _ (by decide) (below_grown (World.ownsRow_nil w w.heap.size 5 1) (Nat.le_refl _) hp.grown) fun _ => hp.row⟩
  · exact wp_load1 (op_is ho (by kernel_rfl)) (slot hF (by kernel_rfl) h10) (xc fun h => hnl (run_down hsh [14, 13, 12, 11, 9, 8, 5, 4] 15 (by kernel_rfl) h)) agg_sl (plain _ _ (by decide) (Below.refl _ _) rfl)
  · obtain ⟨v, e1, h1⟩ := has (a := a) hT (haf 4 (on_is ho (by kernel_rfl))) (d := 35) (by kernel_rfl)
    obtain rfl : v = .slice none 0 0 := h1
    exact wp_len (op_is ho (by kernel_rfl)) e1 Tryz.underlying199 (plain _ _ (by decide) (Below.refl _ _) rfl)
  · exact wp_move (op_is ho (by kernel_rfl)) (plain _ _ (by decide) (Below.refl _ _) (slot hF (by kernel_rfl) h11))
  · obtain ⟨v, e1, h1⟩ := has (a := a) hT (haf 6 (on_is ho (by kernel_rfl))) (d := 37) (by kernel_rfl)
    obtain rfl : v = .slice (some ⟨tg, 0, none⟩) 16 16 := h1
    exact wp_len (op_is ho (by kernel_rfl)) e1 Tryz.underlying22 (plain _ _ (by decide) (Below.refl _ _) rfl)
  · obtain ⟨v, e1, h1⟩ := has (a := a) hT (haf 5 (on_is ho (by kernel_rfl))) (d := 36) (by kernel_rfl)
    obtain rfl : v = .int .i64 0 := h1
    obtain ⟨u, e2, h2⟩ := has (a := a) hT (haf 7 (on_is ho (by kernel_rfl))) (d := 38) (by kernel_rfl)
    obtain rfl : u = .int .i64 16 := h2
    obtain ⟨i0, hi0, hz0, hs0, -⟩ := info_parts info_int
    refine wp_buildSlice 25 3 2 #[(0, .tmp 36), (1, .tmp 38)] (op_is ho (by kernel_rfl)) #[.int .i64 0, .int .i64 16] i0 _ Tryz.underlying25 hi0 hz0 (by rw [hs0]; decide) (by rw [hs0]; decide) ?_ (plain _ _ (by decide) ((Below.refl _ _).alloc (Nat.le_refl _) _) fun _ => ints_of_blk (blk_new _ _ _) rfl rfl)
    simp only [List.map_toArray, List.map_cons, List.map_nil, e1, e2, hs0]
    exact fill2 _ (by simp) _ _ rfl rfl
  · have l3 := haf 3 (on_is ho (by kernel_rfl))
    have l2 := run_down hsh [2] 3 (by kernel_rfl) l3
    obtain ⟨v, e1, h1⟩ := has (a := a) hT l3 (d := 34) (by kernel_rfl)
    obtain ⟨u, e2, h2⟩ := has (a := a) hT (haf 8 (on_is ho (by kernel_rfl))) (d := 39) (by kernel_rfl)
    have hr := h1 hnl
    have kp := leafput_c 0 W0.heap.size v (rowL 4 [1]) 1 u [0, 16] w (Nat.zero_le _) hS.size hr (by decide) (h2 hnl) (by decide) (by decide) (fits_of (by decide)) (by decide)
    rw [show ((1 : Nat) : Int) = 1 from rfl] at kp
    refine wp_call (args := #[.tmp 34, .const (.int .i64 1), .tmp 39]) (ts := #[22, 3, 25]) (vs := #[v, .int .i64 1, u]) (op_is ho (by kernel_rfl)) (by simp only [List.map_toArray, List.map_cons, List.map_nil, e1, e2]; rfl) (fun _ => enters_of Tryz.func156 (by kernel_rfl) rfl _ _) (kp.mono ?_)
    rintro e w' ⟨v', rfl, hp⟩
    refine ⟨v', rfl, hK _ _ (fun _ => hp.row) (hS.grown (fun h x => h (.inl x)) hp.grown (own_ge hr)) fun j y hj16 hj h => ?_⟩
    rw [hsz] at hj16
    match j, hj16, hj, h with
    | 0, _, _, h => exact h
    | 1, _, _, h => exact h
    | 2, _, _, _ => exact fun hL => absurd (.inl l3) hL
    | 3, _, _, _ => exact fun hL => absurd (.inr rfl) hL
    | 4, _, _, h => exact h
    | 5, _, _, h => exact h
    | 6, _, _, h => exact h
    | 7, _, _, h => exact h
    | 8, _, _, _ => exact fun hL => absurd (.inr rfl) hL
    | 9, _, hj, _ => exact absurd hj hnl
    | 10, _, _, h => exact h
    | 11, _, hj, _ => exact absurd (run_down hsh [9] 11 (by kernel_rfl) hj) hnl
    | 12, _, hj, _ => exact absurd (run_down hsh [11, 9] 12 (by kernel_rfl) hj) hnl
    | 13, _, hj, _ => exact absurd (run_down hsh [12, 11, 9] 13 (by kernel_rfl) hj) hnl
    | 14, _, hj, _ => exact absurd (run_down hsh [13, 12, 11, 9] 14 (by kernel_rfl) hj) hnl
    | 15, _, hj, _ => exact absurd (run_down hsh [14, 13, 12, 11, 9] 15 (by kernel_rfl) hj) hnl
    | j + 16, hlt, _, _ => exact absurd hlt (by omega)
  · exact wp_move (op_is ho (by kernel_rfl)) (plain _ _ (by decide) (Below.refl _ _) (slot hF (by kernel_rfl) h11))
  · have l9 := haf 9 (on_is ho (by kernel_rfl))
    have l3 := run_down hsh [3] 9 (by kernel_rfl) l9
    have l2 := run_down hsh [2] 3 (by kernel_rfl) l3
    obtain ⟨v, e1, h1⟩ := has (a := a) hT l9 (d := 40) (by kernel_rfl)
    obtain ⟨u, e2, h2⟩ := has (a := a) hT (haf 10 (on_is ho (by kernel_rfl))) (d := 41) (by kernel_rfl)
    obtain rfl : u = .slice (some ⟨tg, 0, none⟩) 16 16 := h2
    have hr := h1 hnl
    obtain ⟨i0, hi0, hz0, hs0, hb0⟩ := info_parts info_u8
    have hnews : ∀ j y, (byteVals (List.replicate 16 0))[j]? = some y → w.cell? ((⟨tg, 0, none⟩ : Addr).add j) = some y := fun j y hy => by
      have h := ht.news j y hy
      rw [add_plain] at h ⊢
      rw [World.cell?_of_block (hS.block tg htl (fun e => absurd e htX))]
      exact h
    refine wp_append_lies _ (.tmp 40) (.tmp 41) 22 (op_is ho (by kernel_rfl)) W0.heap.size 5 i0 (.int .u8 0) 1 1 Tryz.underlying22 hi0 hz0 hs0 hb0 rfl (by decide) v (rowL 4 [1] ++ rowL 1 [0, 16]).length _ e1 hr ⟨tg, 0, none⟩ 16 16 (byteVals (List.replicate 16 0)) e2 (by decide) hnews (byteVals_one _) (by decide) (by decide) (by decide) hS.size _ rfl ?_
    intro g cap w' hrow hgrow _ _
    refine hK _ _ (fun _ => ?_) (hS.grown (fun h x => h (.inl x)) hgrow (own_ge hr)) fun j y hj16 hj h => ?_
    · refine bytes_of_row (base := W0.heap.size) ?_
      have e : leafL.length = (rowL 4 [1] ++ rowL 1 [0, 16]).length + 16 := by decide
      rw [e]
      unfold leafL
      rw [byteVals_app]
      exact hrow
    · rw [hsz] at hj16
      match j, hj16, hj, h with
      | 0, _, _, h => exact h
      | 1, _, _, h => exact h
      | 2, _, _, _ => exact fun hL => absurd (.inl l3) hL
      | 3, _, _, _ => exact fun hL => absurd (.inl l9) hL
      | 4, _, _, h => exact h
      | 5, _, _, h => exact h
      | 6, _, _, h => exact h
      | 7, _, _, h => exact h
      | 8, _, _, _ => exact fun hL => absurd (.inl l9) hL
      | 9, _, _, _ => exact fun hL => absurd (.inr rfl) hL
      | 10, _, _, h => exact h
      | 11, _, hj, _ => exact absurd hj hnl
      | 12, _, hj, _ => exact absurd (run_down hsh [11] 12 (by kernel_rfl) hj) hnl
      | 13, _, hj, _ => exact absurd (run_down hsh [12, 11] 13 (by kernel_rfl) hj) hnl
      | 14, _, hj, _ => exact absurd (run_down hsh [13, 12, 11] 14 (by kernel_rfl) hj) hnl
      | 15, _, hj, _ => exact absurd (run_down hsh [14, 13, 12, 11] 15 (by kernel_rfl) hj) hnl
      | j + 16, hlt, _, _ => exact absurd hlt (by omega)
  · obtain ⟨v, e1, h1⟩ := has (a := a) hT (haf 11 (on_is ho (by kernel_rfl))) (d := 42) (by kernel_rfl)
    refine wp_call (args := #[.tmp 42]) (ts := #[22]) (vs := #[v]) (op_is ho (by kernel_rfl)) (by simp only [List.map_toArray, List.map_cons, List.map_nil, e1]) (fun _ => enters_of Tryz.func155 (by kernel_rfl) rfl _ _) ((sealed_c 0 v leafL w (h1 hnl) (by decide)).mono ?_)
    rintro e w' ⟨v', rfl, hp⟩
    exact ⟨v', rfl, plain _ _ (by decide) hp.below fun _ => SecB.of hp (closeL_len _ (by decide)) hS.size⟩
  · obtain ⟨v, e1, h1⟩ := has (a := a) hT (haf 12 (on_is ho (by kernel_rfl))) (d := 43) (by kernel_rfl)
    have hsec := h1 hnl
    obtain ⟨i0, hi0, hz0, hs0, -⟩ := info_parts info_bs
    have hvc : v.cells = #[v] := by obtain ⟨g, cs, ⟨_, rfl, _⟩, _⟩ := hsec; rfl
    refine wp_buildSlice 199 22 1 #[(0, .tmp 43)] (op_is ho (by kernel_rfl)) #[v] i0 _ Tryz.underlying199 hi0 hz0 (by rw [hs0]; decide) (by rw [hs0]; decide) ?_ (plain _ _ (by decide) ((Below.refl _ _).alloc (Nat.le_refl _) _) fun _ => ⟨_, v, rfl, blk_new _ _ _, hsec.below ((Below.refl _ _).alloc (Nat.le_refl _) _)⟩)
    simp only [List.map_toArray, List.map_cons, List.map_nil, e1, hs0]
    exact fill1 _ (by simp) _ hvc
  · obtain ⟨v, e1, h1⟩ := has (a := a) hT (haf 0 (on_is ho (by kernel_rfl))) (d := 31) (by kernel_rfl)
    obtain rfl : v = .slice none 0 0 := h1
    obtain ⟨u, e2, h2⟩ := has (a := a) hT (haf 13 (on_is ho (by kernel_rfl))) (d := 44) (by kernel_rfl)
    obtain ⟨g, x, rfl, hg, hsec⟩ := h2 hnl
    obtain ⟨i0, hi0, hz0, hs0, hb0⟩ := info_parts info_bs
    have hnil := World.ownsRow_nil w W0.heap.size 22 1
    refine wp_append_lies _ (.tmp 31) (.tmp 44) 199 (op_is ho (by kernel_rfl)) W0.heap.size 22 i0 (.slice none 0 0) 1 24 Tryz.underlying199 hi0 hz0 hs0 hb0 rfl (by decide) _ 0 _ e1 hnil ⟨g, 0, none⟩ 1 1 [x] e2 rfl (World.news_of_block hg) (by obtain ⟨_, _, ⟨_, rfl, _⟩, _⟩ := hsec; intro y hy; simp at hy; subst hy; rfl) (by decide) (by decide) (by decide) hS.size _ rfl ?_
    intro g' cap w' hrow hgrow _ _
    have hb : Below w.heap.size w w' := below_grown (World.ownsRow_nil w w.heap.size 22 1) (Nat.le_refl _) hgrow
    refine plain _ _ (by decide) hb fun _ => ?_
    rcases hrow.2 with ⟨e, _⟩ | ⟨g2, cap2, cur, e, hge, hh, hc1, _, _, ht2⟩
    · cases e
    · injection e with e1' _ e3'
      injection e1' with e1'
      injection e1' with e1' _
      subst e1' e3'
      refine ⟨g', cap, cur, x, rfl, hc1, hge, hh, ?_, hsec.below hb⟩
      rw [← Array.getElem?_toList]
      have := congrArg (fun l => l[0]?) ht2
      simpa using this
  · have l14 := haf 14 (on_is ho (by kernel_rfl))
    have l13 := run_down hsh [13] 14 (by kernel_rfl) l14
    have l12 := run_down hsh [12] 13 (by kernel_rfl) l13
    have l11 := run_down hsh [11] 12 (by kernel_rfl) l12
    have l9 := run_down hsh [9] 11 (by kernel_rfl) l11
    have l3 := run_down hsh [3] 9 (by kernel_rfl) l9
    obtain ⟨v, e1, h1⟩ := has (a := a) hT l14 (d := 45) (by kernel_rfl)
    obtain ⟨g, cap, cs, u, rfl, hc1, hge, hh, hu, hsec⟩ := h1 hnl
    have hXw : w.heap[X]? = some (.cells #[.slice none 0 0] 199 (0, 0)) := (hS.block X hXl (fun _ => hnl)).trans hX
    refine wp_store1 (ty := 199) (x := .tmp 10) (y := .tmp 45) (op_is ho (by kernel_rfl)) (slot hF (by kernel_rfl) h10) e1 hXw (by kernel_rfl) rfl (hK _ _ ?_ ?_ fun j y hj16 hj h => ?_)
    · refine ⟨g, cap, cs, u, setRow_heap w X _ _ _ _ hXw, hc1, hge, (setRow_other w X g _ (by omega)).trans hh, hu, hsec.kept fun g2 hg2 cs2 h2 => (setRow_other w X g2 _ (by omega)).trans h2⟩
    · exact ⟨hS.os, hS.tape, hS.output, by rw [setRow_size]; exact hS.size, fun b hb hbX => (setRow_other w X b _ (fun e => hbX e (.inr rfl))).trans (hS.block b hb (fun e => absurd (.inr rfl) (hbX e)))⟩
    · rw [hsz] at hj16
      match j, hj16, hj, h with
      | 0, _, _, h => exact h
      | 1, _, _, h => exact h
      | 2, _, _, _ => exact fun hL => absurd (.inl l3) hL
      | 3, _, _, _ => exact fun hL => absurd (.inl l9) hL
      | 4, _, _, h => exact h
      | 5, _, _, h => exact h
      | 6, _, _, h => exact h
      | 7, _, _, h => exact h
      | 8, _, _, _ => exact fun hL => absurd (.inl l9) hL
      | 9, _, _, _ => exact fun hL => absurd (.inl l11) hL
      | 10, _, _, h => exact h
      | 11, _, _, _ => exact fun hL => absurd (.inl l12) hL
      | 12, _, _, _ => exact fun hL => absurd (.inl l13) hL
      | 13, _, _, _ => exact fun hL => absurd (.inl l14) hL
      | 14, _, _, _ => exact fun hL => absurd (.inr rfl) hL
      | 15, _, hj, _ => exact absurd hj hnl
      | j + 16, hlt, _, _ => exact absurd hlt (by omega)
end Go.Proofs.YtjohhjdicbeojaaGreatDoor.Sf
