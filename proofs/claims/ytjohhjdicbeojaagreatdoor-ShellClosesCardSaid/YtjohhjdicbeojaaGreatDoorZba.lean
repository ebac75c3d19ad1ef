/- Texts joined: Sg. -/
import Derived.Test.YtjohhjdicbeojaaGreatDoorZaz
namespace Go.Proofs.YtjohhjdicbeojaaGreatDoor.Sg
open Go.RowKit Go.Proofs.YtjohhjdicbeojaaGreatDoor.Ra Go.Proofs.YtjohhjdicbeojaaGreatDoor.Rb Go.Proofs.YtjohhjdicbeojaaGreatDoor.Rc Go.Proofs.YtjohhjdicbeojaaGreatDoor.Rd Go.Proofs.YtjohhjdicbeojaaGreatDoor.Re Go.Proofs.YtjohhjdicbeojaaGreatDoor.Rj Go.Proofs.YtjohhjdicbeojaaGreatDoor.Rl Go.Proofs.YtjohhjdicbeojaaGreatDoor.Rt Go.Proofs.YtjohhjdicbeojaaGreatDoor.Ru Go.Proofs.YtjohhjdicbeojaaGreatDoor.Sb Go.Proofs.YtjohhjdicbeojaaGreatDoor.Sc Go.Proofs.YtjohhjdicbeojaaGreatDoor.Sd Go.Proofs.YtjohhjdicbeojaaGreatDoor.Se Go.Proofs.YtjohhjdicbeojaaGreatDoor.Sf
set_option maxRecDepth 8000
noncomputable def r11 : Array Oper := funcOps Tryz.f102 11
noncomputable def r12 : Array Oper := funcOps Tryz.f102 12
/-- Whole numbers in a block of their own. -/
def IntsB (w : World) (v : Value) (l : List Int) : Prop := ∃ g, v = .slice (some ⟨g, 0, none⟩) l.length l.length ∧ w.heap[g]? = some (.cells (intVals l).toArray 3 (0, 0))
theorem IntsB.ints {w : World} {v : Value} {l : List Int} (h : IntsB w v l) : IntsIn 0 w v l := by
  obtain ⟨g, rfl, hg⟩ := h
  exact ints_of_blk hg rfl (List.take_of_length_le (by simp [intVals]))
theorem IntsB.below {w w' : World} {v : Value} {l : List Int} (h : IntsB w v l) (hb : Below w.heap.size w w') : IntsB w' v l := by
  obtain ⟨g, h1, hg⟩ := h
  exact ⟨g, h1, blk_below hg hb (lt_of_block hg)⟩
theorem IntsB.grown {w w' : World} {v u : Value} {l : List Int} {B n : Nat} {xs : List Value} (h : IntsB w v l) (hr : w.ownsRow B 5 1 u n xs) (hb : w.grownBy w' u.ownBlock) : IntsB w' v l := by
  obtain ⟨g, h1, hg⟩ := h
  refine ⟨g, h1, (hb.block g (lt_of_block hg) (fun e => ?_)).trans hg⟩
  rcases hr.2 with ⟨rfl, _⟩ | ⟨g2, cap, cur, rfl, _, hh, _⟩
  · cases e
  · obtain rfl : g = g2 := Option.some.inj e
    rw [hg] at hh
    injection hh with hh
    injection hh with _ hh _
    exact absurd hh (by decide)
theorem IntsB.new {w : World} {l : List Int} {n : Nat} (hn : n = l.length) : IntsB (w.alloc (.cells (intVals l).toArray 3)) (.slice (some ⟨w.heap.size, 0, none⟩) n n) l := ⟨_, by rw [hn], blk_new _ _ _⟩
def slatL : List UInt8 := [83, 76, 65, 84]
structure PutHint (w w' : World) (v : Value) : Prop where
  grown : w.grownBy w' v.ownBlock
/-- The constant's row; frozen behind its end: the conversion has marked it. -/
def SlatB (B : Nat) (fz : Nat × Nat) (w : World) (v : Value) : Prop := ∃ g, v = .slice (some ⟨g, 0, none⟩) 4 4 ∧ B ≤ g ∧ w.heap[g]? = some (.cells (byteVals slatL).toArray 5 fz)
theorem SlatB.below {B : Nat} {fz : Nat × Nat} {w w' : World} {v : Value} (h : SlatB B fz w v) (hb : Below w.heap.size w w') : SlatB B fz w' v := by
  obtain ⟨g, h1, h2, hg⟩ := h
  exact ⟨g, h1, h2, blk_below hg hb (lt_of_block hg)⟩
theorem SlatB.row {B : Nat} {w : World} {v : Value} (h : SlatB B (0, 0) w v) : w.ownsRow B 5 1 v 4 (byteVals slatL) := by
  obtain ⟨g, rfl, h2, hg⟩ := h
  exact ⟨rfl, .inr ⟨_, _, _, rfl, h2, hg, Nat.le_refl _, by decide, rfl, rfl⟩⟩
theorem freeze_at (w : World) (g : Nat) (cs : Array Value) (k : Nat) (hg : w.heap[g]? = some (.cells cs 5 (0, 0))) : (w.freeze ⟨g, k, none⟩ 1).heap[g]? = some (.cells cs 5 (k, k + 1)) ∧ w.grownBy (w.freeze ⟨g, k, none⟩ 1) (some g) := by
  unfold World.freeze
  rw [if_neg (by decide)]
  have hlt := lt_of_block hg
  have h' : w.heap[g] = .cells cs 5 (0, 0) := by simpa [Array.getElem?_eq_getElem hlt] using hg
  refine ⟨?_, rfl, rfl, rfl, ?_, fun j hj hne => ?_⟩
  · show (w.heap.modify g _)[g]? = _
    rw [Array.getElem?_eq_getElem (by simpa using hlt), Array.getElem_modify_self, h']
    rfl
  · show w.heap.size ≤ (w.heap.modify g _).size
    rw [Array.size_modify]
    exact Nat.le_refl _
  · show (w.heap.modify g _)[j]? = _
    have : g ≠ j := fun e => hne (by rw [e])
    rw [Array.getElem?_modify]
    simp [this]
theorem conv_slat (w : World) (g : Nat) (hg : w.heap[g]? = some (.cells (byteVals slatL).toArray 5 (0, 0))) : (convert 22 22 (.slice (some ⟨g, 0, none⟩) 4 4)).run Tryz.prog w = .ok (.slice (some ⟨g, 0, none⟩) 4 4) (w.freeze ⟨g, 4, none⟩ 1) := by
  have ht := Tryz.underlying22
  have he := Tryz.underlying5
  have hsh : w.shape? g = some (5, 4) := by
    unfold World.shape?
    rw [hg]
    rfl
  simp [convert, run_underlying ht, run_underlying he, markStringish, hsh]
set_option maxHeartbeats 2000000 in
theorem leafput_full (g0 n : Nat) (xs : List UInt8) (k : Nat) (lv : Value) (l : List Int) (w : World) (hn : n = xs.length) (hx0 : 0 < xs.length) (hxs : BytesIn 0 w (.slice (some ⟨g0, 0, none⟩) n n) xs) (hk : 1 ≤ k ∧ k ≤ 4) (hv : IntsIn 0 w lv l) (hl : l.length ≤ 1000000) (hne : 0 < l.length) (hf : Fits k l) (hx : xs.length ≤ 1099511627776) :
    Calls Tryz.prog 156 #[.slice (some ⟨g0, 0, none⟩) n n, .int .i64 (k : Int), lv] w fun e w' => ∃ v', e = .returned v' ∧ NewBytes w (xs ++ rowL k l) v' w' := by
  have KR := Lib.hid (row_c 0 k lv l w (Nat.zero_le _) hk hv hl hf)
  obtain ⟨pl, cl, rfl, -⟩ := hv
  have hrl := rowL_len k l
  have hm0 : 0 < (rowL k l).length := by rw [hrl]; exact Nat.mul_pos (by omega) hne
  have hm1 : (rowL k l).length ≤ 4000000 := by
    rw [hrl]
    exact Nat.mul_le_mul hk.2 hl
  obtain ⟨M, hM⟩ : ∃ M, M = (rowL k l).length := ⟨_, rfl⟩
  rw [← hM] at hm0 hm1
  have HM := Lib.hid hM
  have HXS := Lib.hid hxs
  have HN := Lib.hid hn
  have hml : Hid (n + M ≤ maxLen) := Lib.hid (by rw [hn]; unfold maxLen; omega)
  have hbs : Hid ((n + M) * 1 ≤ 140737488355328) := Lib.hid (by rw [hn]; omega)
  obtain ⟨i0, hi, hz0, hz1, hz2⟩ := info_parts info_u8
  have HI := Lib.hid hi
  have HZ0 := Lib.hid hz0
  have HZ1 := Lib.hid hz1
  have HZ2 := Lib.hid hz2
  clear hi hz0 hz1 hz2 hrl hM hxs hf hx hk hn
  generalize l.length = N at *
  go_enter Tryz.func156, Tryz.ntmps156
  go_upto_region 2 with (go_at_call 209; (with_reducible refine KR.out.mono ?_); rintro e w1 ⟨r, rfl, hpr⟩)
  have hr := hpr.row
  rw [List.nil_append, ← HM.out] at hr
  obtain ⟨g, cr, rfl, hg1, hg2⟩ := hr.form hm0
  have B1 := Lib.hid hpr.below
  have hnews : Hid (∀ j u, (byteVals (rowL k l))[j]? = some u → w1.cell? ((⟨g, 0, none⟩ : Addr).add j) = some u) := Lib.hid (fun j u hu => hr.cells (g := g) rfl j u hu)
  have holds : Hid (∀ b, some (⟨g0, 0, none⟩ : Addr) = some b → ∀ j u, (byteVals xs)[j]? = some u → w1.cell? (b.add j) = some u) := Lib.hid (fun b e j u hu => by
    obtain rfl := Option.some.inj e
    exact (HXS.out.step (Step.of B1.out (Nat.zero_le _))).news j u hu)
  clear hr hpr
  go_wp2_with (first | (at_builtin; go_loud (refine wpList_append_grows _ rfl _ _ 22 rfl 5 i0 (.int .u8 0) 1 1 Tryz.underlying22 HI.out HZ0.out HZ1.out HZ2.out rfl (by decide) (some ⟨g0, 0, none⟩) n n (byteVals xs) rfl (fun e => by cases e) (by rw [byteVals_len, HN.out, Nat.mul_one]) holds.out ⟨g, 0, none⟩ M cr (byteVals (rowL k l)) rfl (by rw [byteVals_len, HM.out, Nat.mul_one]) hnews.out (byteVals_one _) (Nat.lt_add_of_pos_right hm0) hml.out hbs.out ?_)))
  intro v' w6 hown hgrow
  have PN : NewBytes w (xs ++ rowL k l) v' w6 := by
    refine ⟨row_mono ?_ B1.out.size, B1.out.trans (B1.out.size |> fun h => ⟨hgrow.os, hgrow.tape, hgrow.output, hgrow.size, fun q hq => hgrow.block q (Nat.lt_of_lt_of_le hq h) (fun e => by cases e)⟩)⟩
    rw [byteVals_app, List.length_append, ← HM.out, ← HN.out]
    exact hown
  obtain ⟨g3, c3, rfl, _, _⟩ := hown.form (Nat.lt_of_lt_of_le hm0 (Nat.le_add_left _ _))
  have HPN := Lib.hid PN
  clear hown hgrow PN
  go_wp2
  go_ret
  exact ⟨_, rfl, HPN.out⟩
def head4 : List UInt8 := slatL ++ rowL 4 [1]
def head7 (s b : Int) : List UInt8 := head4 ++ rowL 1 [s, b, 1]
def head9 (s b : Int) : List UInt8 := head7 s b ++ rowL 2 [16]
/-- A header's bytes ahead of the seal. -/
def headL (s b : Int) : List UInt8 := head9 s b ++ rowL 4 [sumL (List.replicate 16 0)]
theorem head4_len : head4.length = 8 := by decide
theorem head7_len (s b : Int) : (head7 s b).length = 11 := by unfold head7; rw [List.length_append, head4_len, rowL_len]; rfl
theorem head9_len (s b : Int) : (head9 s b).length = 13 := by unfold head9; rw [List.length_append, head7_len, rowL_len]; rfl
theorem headL_len (s b : Int) : (headL s b).length = 17 := by unfold headL; rw [List.length_append, head9_len, rowL_len]; rfl
def T11 (B pl : Nat) (s b : Int) (lv tv : Value) (L : Nat → Prop) : Nat → Value → World → Prop
  | 0, v, w => ¬ L 1 → SlatB B (0, 0) w v
  | 1, v, w => ¬ L 4 → SlatB B (4, 5) w v
  | 2, v, _ => v = .int .i64 1
  | 3, v, w => ¬ L 4 → IntsB w v [1]
  | 4, v, w => ¬ L 12 → w.ownsRow B 5 1 v (head4).length (byteVals (head4))
  | 5, v, _ => v = .pointer (some ⟨pl, 0, none⟩)
  | 6, v, _ => v = .int .i64 s
  | 7, v, _ => v = .pointer (some ⟨pl, 1, none⟩)
  | 8, v, _ => v = .int .i64 b
  | 9, v, _ => v = lv
  | 10, v, _ => v = .int .i64 1
  | 11, v, w => ¬ L 12 → IntsB w v [s, b, 1]
  | 12, v, w => ¬ L 16 → w.ownsRow B 5 1 v (head7 s b).length (byteVals (head7 s b))
  | 13, v, _ => v = tv
  | 14, v, _ => v = .int .i64 16
  | 15, v, w => ¬ L 16 → IntsB w v [16]
  | 16, v, w => w.ownsRow B 5 1 v (head9 s b).length (byteVals (head9 s b))
  | _, v, w => w.ownsRow B 5 1 v (head9 s b).length (byteVals (head9 s b))
theorem T11_keep {B pl i : Nat} {s b : Int} {lv tv : Value} {L : Nat → Prop} {w w' : World} (hb : Below w.heap.size w w') : ∀ j u, T11 B pl s b lv tv L j u w → T11 B pl s b lv tv (fun k => L k ∨ k = i) j u w' := by
  intro j u h
  match j, h with
  | 0, h => exact fun hL => (h fun x => hL (.inl x)).below hb
  | 1, h => exact fun hL => (h fun x => hL (.inl x)).below hb
  | 2, h => exact h
  | 3, h => exact fun hL => (h fun x => hL (.inl x)).below hb
  | 4, h => exact fun hL => row_below (h fun x => hL (.inl x)) hb
  | 5, h => exact h
  | 6, h => exact h
  | 7, h => exact h
  | 8, h => exact h
  | 9, h => exact h
  | 10, h => exact h
  | 11, h => exact fun hL => (h fun x => hL (.inl x)).below hb
  | 12, h => exact fun hL => row_below (h fun x => hL (.inl x)) hb
  | 13, h => exact h
  | 14, h => exact h
  | 15, h => exact fun hL => (h fun x => hL (.inl x)).below hb
  | 16, h => exact row_below h hb
  | j + 17, h => exact row_below h hb
theorem f1 {s b : Int} (hm : MayP s b) : Fits 1 [s, b, 1] := by
  obtain ⟨h1, h2, h3, h4⟩ := hm
  intro x hx
  simp only [List.mem_cons, List.not_mem_nil, or_false] at hx
  rcases hx with rfl | rfl | rfl <;> omega
theorem field_pl (pl f : Nat) (hf : f = 0 ∨ f = 1) (w : World) : (Instr.fieldAt 58 (.pointer (some ⟨pl, 0, none⟩)) f).run Tryz.prog w = .ok (.pointer (some ⟨pl, f, none⟩)) w := by
  rcases hf with rfl | rfl <;> kernel_rfl
set_option maxHeartbeats 4000000 in
theorem owes11 {Q : Exit → Act → World → Prop} (X q pl lg lc tg tc : Nat) (s b : Int) (hm : MayP s b) (W0 : World) (a0 : Act) (h4 : a0.tmps[4]? = some (.pointer (some ⟨pl, 0, none⟩))) (h5 : a0.tmps[5]? = some (.pointer (some ⟨q, 0, none⟩))) (h10 : a0.tmps[10]? = some (.pointer (some ⟨X, 0, none⟩))) (h9 : a0.tmps[9]? = some (.slice (some ⟨tg, 0, none⟩) 16 tc))
    (hX : W0.heap[X]? = some (.cells #[.slice (some ⟨lg, 0, none⟩) 1 lc] 199 (0, 0))) (hq : W0.heap[q]? = some (.cells #[.int .i64 1] 3 (0, 0))) (hpl : W0.heap[pl]? = some (.cells #[.int .i64 s, .int .i64 b] 58 (0, 0))) :
    ∀ (i : Nat) (o : Oper), r11[i]? = some o → Owes Tryz.prog r11 Q (T11 W0.heap.size pl s b (.slice (some ⟨lg, 0, none⟩) 1 lc) (.slice (some ⟨tg, 0, none⟩) 16 tc)) (fun _ w => Kr W0.heap.size W0 True w) a0 i o := by
  intro i o ho L a w K hsh hnl haf hF hS hT hK
  have hsz : r11.size = 18 := by kernel_rfl
  have hi : i < 18 := by
    have h1 := (Array.getElem?_eq_some_iff.1 ho).1
    rwa [hsz] at h1
  have plain : ∀ v w', Below w.heap.size w w' → T11 W0.heap.size pl s b (.slice (some ⟨lg, 0, none⟩) 1 lc) (.slice (some ⟨tg, 0, none⟩) 16 tc) (fun k => L k ∨ k = i) i v w' → K (a.put o.dst v) w' := fun v w' hb hv =>
    hK v w' hv (hS.below (fun h => h) (hb.mono hS.size)) (fun j u _ _ h => T11_keep hb j u h)
  have kept : ∀ k obj, W0.heap[k]? = some obj → w.heap[k]? = some obj := fun k obj hk => (hS.block k (lt_of_block hk) (fun _ => trivial)).trans hk
  have qc : w.cell? ⟨q, 0, none⟩ = some (.int .i64 1) := blk_cell (kept _ _ hq) 0
  have xc : w.cell? ⟨X, 0, none⟩ = some (.slice (some ⟨lg, 0, none⟩) 1 lc) := blk_cell (kept _ _ hX) 0
  have pc0 : w.cell? ⟨pl, 0, none⟩ = some (.int .i64 s) := blk_cell (kept _ _ hpl) 0
  have pc1 : w.cell? ⟨pl, 1, none⟩ = some (.int .i64 b) := blk_cell (kept _ _ hpl) 1
  have hAl := (Below.refl w.heap.size w).alloc (Nat.le_refl _)
  obtain rfl | rfl | rfl | rfl | rfl | rfl | rfl | rfl | rfl | rfl | rfl | rfl | rfl | rfl | rfl | rfl | rfl | rfl : i = 0 ∨ i = 1 ∨ i = 2 ∨ i = 3 ∨ i = 4 ∨ i = 5 ∨ i = 6 ∨ i = 7 ∨ i = 8 ∨ i = 9 ∨ i = 10 ∨ i = 11 ∨ i = 12 ∨ i = 13 ∨ i = 14 ∨ i = 15 ∨ i = 16 ∨ i = 17 := by omega
  · obtain ⟨i0, hi0, hz0, hs0, -⟩ := info_parts info_u8
    refine wp_buildSlice 22 5 4 #[(0, .const (.int .u8 83)), (1, .const (.int .u8 76)), (2, .const (.int .u8 65)), (3, .const (.int .u8 84))] (op_is ho (by kernel_rfl)) (byteVals slatL).toArray i0 _ Tryz.underlying22 hi0 hz0 (by rw [hs0]; decide) (by rw [hs0]; decide) ?_ (plain _ _ (hAl _) fun _ => ⟨_, rfl, hS.size, blk_new _ _ _⟩)
    simp only [List.map_toArray, List.map_cons, List.map_nil, hs0]
    exact fill4 _ (by simp) _ _ _ _ rfl rfl rfl rfl
  · obtain ⟨v, e1, h1⟩ := has (a := a) hT (haf 0 (on_is ho (by kernel_rfl))) (d := 46) (by kernel_rfl)
    have hsl := h1 hnl
    have hr := hsl.row
    obtain ⟨g, rfl, hge, hg⟩ := hsl
    obtain ⟨hf1, hf2⟩ := freeze_at w g _ 4 hg
    have hp : PutHint w (w.freeze ⟨g, 4, none⟩ 1) (.slice (some ⟨g, 0, none⟩) 4 4) := ⟨hf2⟩
    exact wp_conv (s := 22) (t := 22) (op_is ho (by kernel_rfl)) e1 (conv_slat w g hg) (hK _ _ (fun _ => ⟨g, rfl, hge, hf1⟩) (hS.grown (fun h => h) hf2 (fun k e => by cases e; exact hge)) fun j y hj16 hj h => by
      rw [hsz] at hj16
      match j, hj16, hj, h with
      | 0, _, _, _ => exact fun hL => absurd (.inr rfl) hL
      | 1, _, hj, _ => exact absurd hj hnl
      | 2, _, _, h => exact h
      | 3, _, _, h => exact fun hL => (h fun x => hL (.inl x)).grown hr hp.grown
      | 4, _, hj, _ => exact absurd (run_down hsh [1] 4 (by kernel_rfl) hj) hnl
      | 5, _, _, h => exact h
      | 6, _, _, h => exact h
      | 7, _, _, h => exact h
      | 8, _, _, h => exact h
      | 9, _, _, h => exact h
      | 10, _, _, h => exact h
      | 11, _, _, h => exact fun hL => (h fun x => hL (.inl x)).grown hr hp.grown
      | 12, _, hj, _ => exact absurd (run_down hsh [4, 1] 12 (by kernel_rfl) hj) hnl
      | 13, _, _, h => exact h
      | 14, _, _, h => exact h
      | 15, _, _, h => exact fun hL => (h fun x => hL (.inl x)).grown hr hp.grown
      | 16, _, hj, _ => exact absurd (run_down hsh [12, 4, 1] 16 (by kernel_rfl) hj) hnl
      | 17, _, hj, _ => exact absurd (run_down hsh [16, 12, 4, 1] 17 (by kernel_rfl) hj) hnl
      | j + 18, hlt, _, _ => exact absurd hlt (by omega))
  · exact wp_load1 (op_is ho (by kernel_rfl)) (slot hF (by kernel_rfl) h5) qc agg_int (plain _ _ (Below.refl _ _) rfl)
  · obtain ⟨v, e1, h1⟩ := has (a := a) hT (haf 2 (on_is ho (by kernel_rfl))) (d := 48) (by kernel_rfl)
    obtain rfl : v = .int .i64 1 := h1
    obtain ⟨i0, hi0, hz0, hs0, -⟩ := info_parts Sf.info_int
    refine wp_buildSlice 25 3 1 #[(0, .tmp 48)] (op_is ho (by kernel_rfl)) (intVals [1]).toArray i0 _ Tryz.underlying25 hi0 hz0 (by rw [hs0]; decide) (by rw [hs0]; decide) ?_ (plain _ _ (hAl _) fun _ => IntsB.new rfl)
    simp only [List.map_toArray, List.map_cons, List.map_nil, e1, hs0]
    exact fill1 _ (by simp) _ rfl
  · obtain ⟨v, e1, h1⟩ := has (a := a) hT (haf 1 (on_is ho (by kernel_rfl))) (d := 47) (by kernel_rfl)
    obtain ⟨u, e2, h2⟩ := has (a := a) hT (haf 3 (on_is ho (by kernel_rfl))) (d := 49) (by kernel_rfl)
    obtain ⟨g, rfl, hge, hg⟩ := h1 hnl
    have kp := leafput_full g 4 slatL 4 u [1] w rfl (by decide) (bytes_of_blk hg rfl (by decide) rfl) (by decide) (h2 hnl).ints (by simp) (by simp) (fits_of (by decide)) (by decide)
    rw [show ((4 : Nat) : Int) = 4 from rfl] at kp
    refine wp_call (args := #[.tmp 47, .const (.int .i64 4), .tmp 49]) (ts := #[22, 3, 25]) (vs := #[.slice (some ⟨g, 0, none⟩) 4 4, .int .i64 4, u]) (op_is ho (by kernel_rfl)) (by simp only [List.map_toArray, List.map_cons, List.map_nil, e1, e2]; rfl) (fun _ => enters_of Tryz.func156 (by kernel_rfl) rfl _ _) (kp.mono ?_)
    rintro e w' ⟨v', rfl, hp⟩
    exact ⟨v', rfl, plain _ _ hp.below fun _ => row_mono hp.row hS.size⟩
  · exact wp_field (f := 0) (op_is ho (by kernel_rfl)) (slot hF (by kernel_rfl) h4) (field_pl pl 0 (.inl rfl)) (plain _ _ (Below.refl _ _) rfl)
  · obtain ⟨v, e1, h1⟩ := has (a := a) hT (haf 5 (on_is ho (by kernel_rfl))) (d := 51) (by kernel_rfl)
    obtain rfl : v = .pointer (some ⟨pl, 0, none⟩) := h1
    exact wp_load1 (x := .tmp 51) (op_is ho (by kernel_rfl)) e1 pc0 agg_int (plain _ _ (Below.refl _ _) rfl)
  · exact wp_field (f := 1) (op_is ho (by kernel_rfl)) (slot hF (by kernel_rfl) h4) (field_pl pl 1 (.inr rfl)) (plain _ _ (Below.refl _ _) rfl)
  · obtain ⟨v, e1, h1⟩ := has (a := a) hT (haf 7 (on_is ho (by kernel_rfl))) (d := 53) (by kernel_rfl)
    obtain rfl : v = .pointer (some ⟨pl, 1, none⟩) := h1
    exact wp_load1 (x := .tmp 53) (op_is ho (by kernel_rfl)) e1 pc1 agg_int (plain _ _ (Below.refl _ _) rfl)
  · exact wp_load1 (op_is ho (by kernel_rfl)) (slot hF (by kernel_rfl) h10) xc agg_sl (plain _ _ (Below.refl _ _) rfl)
  · obtain ⟨v, e1, h1⟩ := has (a := a) hT (haf 9 (on_is ho (by kernel_rfl))) (d := 55) (by kernel_rfl)
    obtain rfl : v = .slice (some ⟨lg, 0, none⟩) 1 lc := h1
    exact wp_len (op_is ho (by kernel_rfl)) e1 Tryz.underlying199 (plain _ _ (Below.refl _ _) rfl)
  · obtain ⟨v, e1, h1⟩ := has (a := a) hT (haf 6 (on_is ho (by kernel_rfl))) (d := 52) (by kernel_rfl)
    obtain rfl : v = .int .i64 s := h1
    obtain ⟨u, e2, h2⟩ := has (a := a) hT (haf 8 (on_is ho (by kernel_rfl))) (d := 54) (by kernel_rfl)
    obtain rfl : u = .int .i64 b := h2
    obtain ⟨x, e3, h3⟩ := has (a := a) hT (haf 10 (on_is ho (by kernel_rfl))) (d := 56) (by kernel_rfl)
    obtain rfl : x = .int .i64 1 := h3
    obtain ⟨i0, hi0, hz0, hs0, -⟩ := info_parts Sf.info_int
    refine wp_buildSlice 25 3 3 #[(0, .tmp 52), (1, .tmp 54), (2, .tmp 56)] (op_is ho (by kernel_rfl)) (intVals [s, b, 1]).toArray i0 _ Tryz.underlying25 hi0 hz0 (by rw [hs0]; decide) (by rw [hs0]; decide) ?_ (plain _ _ (hAl _) fun _ => IntsB.new rfl)
    simp only [List.map_toArray, List.map_cons, List.map_nil, e1, e2, e3, hs0]
    exact fill3 _ (by simp) _ _ _ rfl rfl rfl
  · have l4 := haf 4 (on_is ho (by kernel_rfl))
    have l1 := run_down hsh [1] 4 (by kernel_rfl) l4
    obtain ⟨v, e1, h1⟩ := has (a := a) hT l4 (d := 50) (by kernel_rfl)
    obtain ⟨u, e2, h2⟩ := has (a := a) hT (haf 11 (on_is ho (by kernel_rfl))) (d := 57) (by kernel_rfl)
    have hr := h1 hnl
    have kp := leafput_c 0 W0.heap.size v (head4) 1 u [s, b, 1] w (Nat.zero_le _) hS.size hr (by decide) (h2 hnl).ints (by simp) (by simp) (f1 hm) (by decide)
    rw [show ((1 : Nat) : Int) = 1 from rfl] at kp
    refine wp_call (args := #[.tmp 50, .const (.int .i64 1), .tmp 57]) (ts := #[22, 3, 25]) (vs := #[v, .int .i64 1, u]) (op_is ho (by kernel_rfl)) (by simp only [List.map_toArray, List.map_cons, List.map_nil, e1, e2]; rfl) (fun _ => enters_of Tryz.func156 (by kernel_rfl) rfl _ _) (kp.mono ?_)
    rintro e w' ⟨v', rfl, hp⟩
    refine ⟨v', rfl, hK _ _ (fun _ => hp.row) (hS.grown (fun h => h) hp.grown (own_ge hr)) fun j y hj16 hj h => ?_⟩
    rw [hsz] at hj16
    match j, hj16, hj, h with
    | 0, _, _, _ => exact fun hL => absurd (.inl l1) hL
    | 1, _, _, _ => exact fun hL => absurd (.inl l4) hL
    | 2, _, _, h => exact h
    | 3, _, _, _ => exact fun hL => absurd (.inl l4) hL
    | 4, _, _, _ => exact fun hL => absurd (.inr rfl) hL
    | 5, _, _, h => exact h
    | 6, _, _, h => exact h
    | 7, _, _, h => exact h
    | 8, _, _, h => exact h
    | 9, _, _, h => exact h
    | 10, _, _, h => exact h
    | 11, _, _, _ => exact fun hL => absurd (.inr rfl) hL
    | 12, _, hj, _ => exact absurd hj hnl
    | 13, _, _, h => exact h
    | 14, _, _, h => exact h
    | 15, _, _, h => exact fun hL => (h fun x => hL (.inl x)).grown hr hp.grown
    | 16, _, hj, _ => exact absurd (run_down hsh [12] 16 (by kernel_rfl) hj) hnl
    | 17, _, hj, _ => exact absurd (run_down hsh [16, 12] 17 (by kernel_rfl) hj) hnl
    | j + 18, hlt, _, _ => exact absurd hlt (by omega)
  · exact wp_move (op_is ho (by kernel_rfl)) (plain _ _ (Below.refl _ _) (slot hF (by kernel_rfl) h9))
  · obtain ⟨v, e1, h1⟩ := has (a := a) hT (haf 13 (on_is ho (by kernel_rfl))) (d := 59) (by kernel_rfl)
    obtain rfl : v = .slice (some ⟨tg, 0, none⟩) 16 tc := h1
    exact wp_len (op_is ho (by kernel_rfl)) e1 Tryz.underlying22 (plain _ _ (Below.refl _ _) rfl)
  · obtain ⟨v, e1, h1⟩ := has (a := a) hT (haf 14 (on_is ho (by kernel_rfl))) (d := 60) (by kernel_rfl)
    obtain rfl : v = .int .i64 16 := h1
    obtain ⟨i0, hi0, hz0, hs0, -⟩ := info_parts Sf.info_int
    refine wp_buildSlice 25 3 1 #[(0, .tmp 60)] (op_is ho (by kernel_rfl)) (intVals [16]).toArray i0 _ Tryz.underlying25 hi0 hz0 (by rw [hs0]; decide) (by rw [hs0]; decide) ?_ (plain _ _ (hAl _) fun _ => IntsB.new rfl)
    simp only [List.map_toArray, List.map_cons, List.map_nil, e1, hs0]
    exact fill1 _ (by simp) _ rfl
  · have l12 := haf 12 (on_is ho (by kernel_rfl))
    have l4 := run_down hsh [4] 12 (by kernel_rfl) l12
    have l1 := run_down hsh [1] 4 (by kernel_rfl) l4
    obtain ⟨v, e1, h1⟩ := has (a := a) hT l12 (d := 58) (by kernel_rfl)
    obtain ⟨u, e2, h2⟩ := has (a := a) hT (haf 15 (on_is ho (by kernel_rfl))) (d := 61) (by kernel_rfl)
    have hr := h1 hnl
    have kp := leafput_c 0 W0.heap.size v (head7 s b) 2 u [16] w (Nat.zero_le _) hS.size hr (by decide) (h2 hnl).ints (by simp) (by simp) (fits_of (by decide)) (by rw [head7_len]; decide)
    rw [show ((2 : Nat) : Int) = 2 from rfl] at kp
    refine wp_call (args := #[.tmp 58, .const (.int .i64 2), .tmp 61]) (ts := #[22, 3, 25]) (vs := #[v, .int .i64 2, u]) (op_is ho (by kernel_rfl)) (by simp only [List.map_toArray, List.map_cons, List.map_nil, e1, e2]; rfl) (fun _ => enters_of Tryz.func156 (by kernel_rfl) rfl _ _) (kp.mono ?_)
    rintro e w' ⟨v', rfl, hp⟩
    refine ⟨v', rfl, hK _ _ (hp.row) (hS.grown (fun h => h) hp.grown (own_ge hr)) fun j y hj16 hj h => ?_⟩
    rw [hsz] at hj16
    match j, hj16, hj, h with
    | 0, _, _, _ => exact fun hL => absurd (.inl l1) hL
    | 1, _, _, _ => exact fun hL => absurd (.inl l4) hL
    | 2, _, _, h => exact h
    | 3, _, _, _ => exact fun hL => absurd (.inl l4) hL
    | 4, _, _, _ => exact fun hL => absurd (.inl l12) hL
    | 5, _, _, h => exact h
    | 6, _, _, h => exact h
    | 7, _, _, h => exact h
    | 8, _, _, h => exact h
    | 9, _, _, h => exact h
    | 10, _, _, h => exact h
    | 11, _, _, _ => exact fun hL => absurd (.inl l12) hL
    | 12, _, _, _ => exact fun hL => absurd (.inr rfl) hL
    | 13, _, _, h => exact h
    | 14, _, _, h => exact h
    | 15, _, _, _ => exact fun hL => absurd (.inr rfl) hL
    | 16, _, hj, _ => exact absurd hj hnl
    | 17, _, hj, _ => exact absurd (run_down hsh [16] 17 (by kernel_rfl) hj) hnl
    | j + 18, hlt, _, _ => exact absurd hlt (by omega)
  · obtain ⟨v, e1, h1⟩ := has (a := a) hT (haf 16 (on_is ho (by kernel_rfl))) (d := 62) (by kernel_rfl)
    exact wp_assign (x := .tmp 62) (op_is ho (by kernel_rfl)) (by rw [e1]; exact plain _ _ (Below.refl _ _) h1)
/-- Two pages. -/
def PagesP (l0 l1 : List UInt8) (v : Value) (w : World) : Prop := ∃ g cap cs u0 u1, v = .slice (some ⟨g, 0, none⟩) 2 cap ∧ 2 ≤ cap ∧ w.heap[g]? = some (.cells cs 22 (0, 0)) ∧ cs[0]? = some u0 ∧ cs[1]? = some u1 ∧ SecB 0 l0 u0 w ∧ SecB 0 l1 u1 w
theorem PagesP.below {l0 l1 : List UInt8} {v : Value} {w w' : World} (h : PagesP l0 l1 v w) (hb : Below w.heap.size w w') : PagesP l0 l1 v w' := by
  obtain ⟨g, cap, cs, u0, u1, h1, h2, h3, h4, h5, h6, h7⟩ := h
  exact ⟨g, cap, cs, u0, u1, h1, h2, blk_below h3 hb (lt_of_block h3), h4, h5, h6.below hb, h7.below hb⟩
theorem secB_zero {B : Nat} {l : List UInt8} {v : Value} {w : World} (h : SecB B l v w) : SecB 0 l v w := by
  obtain ⟨g, cs, h1, _, h3⟩ := h
  exact ⟨g, cs, h1, Nat.zero_le _, h3⟩
def T12 (B : Nat) (s b : Int) (lv tv : Value) (L : Nat → Prop) : Nat → Value → World → Prop
  | 0, v, w => ¬ L 5 → w.ownsRow B 5 1 v (head9 s b).length (byteVals (head9 s b))
  | 1, v, _ => v = tv
  | 2, v, _ => v = .int .u32 (sumL (List.replicate 16 0))
  | 3, v, _ => v = .int .i64 (sumL (List.replicate 16 0))
  | 4, v, w => ¬ L 5 → IntsB w v [sumL (List.replicate 16 0)]
  | 5, v, w => ¬ L 6 → w.ownsRow B 5 1 v (headL s b).length (byteVals (headL s b))
  | 6, v, w => ¬ L 7 → SecB B (closeL (headL s b)) v w
  | 7, v, w => ¬ L 9 → ∃ u, w.ownsRow B 22 1 v 1 [u] ∧ SecB B (closeL (headL s b)) u w
  | 8, v, _ => v = lv
  | 11, v, _ => v = .int .i64 0
  | _, v, w => PagesP (closeL (headL s b)) (closeL leafL) v w
theorem T12_keep {B i : Nat} {s b : Int} {lv tv : Value} {L : Nat → Prop} {w w' : World} (hb : Below w.heap.size w w') : ∀ j u, j < 12 → T12 B s b lv tv L j u w → T12 B s b lv tv (fun k => L k ∨ k = i) j u w' := by
  intro j u hj h
  match j, hj, h with
  | 0, _, h => exact fun hL => row_below (h fun x => hL (.inl x)) hb
  | 1, _, h => exact h
  | 2, _, h => exact h
  | 3, _, h => exact h
  | 4, _, h => exact fun hL => (h fun x => hL (.inl x)).below hb
  | 5, _, h => exact fun hL => row_below (h fun x => hL (.inl x)) hb
  | 6, _, h => exact fun hL => (h fun x => hL (.inl x)).below hb
  | 7, _, h =>
    intro hL
    obtain ⟨u, h1, h2⟩ := h fun x => hL (.inl x)
    exact ⟨u, row_below h1 hb, h2.below hb⟩
  | 8, _, h => exact h
  | 9, _, h => exact PagesP.below h hb
  | 10, _, h => exact PagesP.below h hb
  | 11, _, h => exact h
  | j + 12, hlt, _ => exact absurd hlt (by omega)
theorem conv_u32 {x : Int} (h : U32 x) (w : World) : (convert 254 3 (.int .u32 x)).run Tryz.prog w = .ok (.int .i64 x) w := by
  have h1 : (convert 254 3 (.int .u32 x)).run Tryz.prog w = .ok (.int .i64 (IntKind.i64.wrap x)) w := by kernel_rfl
  rw [h1]
  obtain ⟨h2, h3⟩ := h
  have : IntKind.i64.wrap x = x := by
    unfold IntKind.wrap
    simp [IntKind.bits, IntKind.signed]
    omega
  rw [this]
theorem f4 : Fits 4 [sumL (List.replicate 16 0)] := by
  intro x hx
  simp only [List.mem_cons, List.not_mem_nil, or_false] at hx
  subst hx
  have := sumL_u (List.replicate 16 0)
  exact ⟨this.1, by have := this.2; omega⟩
set_option maxHeartbeats 4000000 in
theorem owes12 {Q : Exit → Act → World → Prop} (X lg lc tg tc : Nat) (cs : Array Value) (u1 : Value) (s b : Int) (W0 : World) (v12 : Value) (a0 : Act) (h10 : a0.tmps[10]? = some (.pointer (some ⟨X, 0, none⟩))) (h9 : a0.tmps[9]? = some (.slice (some ⟨tg, 0, none⟩) 16 tc)) (h12 : a0.tmps[12]? = some v12)
    (hX : W0.heap[X]? = some (.cells #[.slice (some ⟨lg, 0, none⟩) 1 lc] 199 (0, 0))) (hlg : W0.heap[lg]? = some (.cells cs 22 (0, 0))) (hu : cs[0]? = some u1) (hsec : SecB 0 (closeL leafL) u1 W0) (htx : BytesIn 0 W0 (.slice (some ⟨tg, 0, none⟩) 16 tc) (List.replicate 16 0)) :
    ∀ (i : Nat) (o : Oper), r12[i]? = some o → Owes Tryz.prog r12 Q (T12 W0.heap.size s b (.slice (some ⟨lg, 0, none⟩) 1 lc) (.slice (some ⟨tg, 0, none⟩) 16 tc)) (fun L w => Kr W0.heap.size W0 True w ∧ (¬ L 5 → w.ownsRow W0.heap.size 5 1 v12 (head9 s b).length (byteVals (head9 s b)))) a0 i o := by
  intro i o ho L a w K hsh hnl haf hF ⟨hS, hRow⟩ hT hK
  have hsz : r12.size = 12 := by kernel_rfl
  have hi : i < 12 := by
    have h1 := (Array.getElem?_eq_some_iff.1 ho).1
    rwa [hsz] at h1
  have plain : ∀ v w', Below w.heap.size w w' → T12 W0.heap.size s b (.slice (some ⟨lg, 0, none⟩) 1 lc) (.slice (some ⟨tg, 0, none⟩) 16 tc) (fun k => L k ∨ k = i) i v w' → K (a.put o.dst v) w' := fun v w' hb hv =>
    hK v w' hv ⟨hS.below (fun h => h) (hb.mono hS.size), fun h => row_below (hRow fun x => h (.inl x)) hb⟩ (fun j u hj _ h => T12_keep hb j u (by rwa [hsz] at hj) h)
  have kept : ∀ k obj, W0.heap[k]? = some obj → w.heap[k]? = some obj := fun k obj hk => (hS.block k (lt_of_block hk) (fun _ => trivial)).trans hk
  have xc : w.cell? ⟨X, 0, none⟩ = some (.slice (some ⟨lg, 0, none⟩) 1 lc) := blk_cell (kept _ _ hX) 0
  have hsecw : SecB 0 (closeL leafL) u1 w := hsec.kept fun g _ cs h => kept g _ h
  have hb0 : Below W0.heap.size W0 w := ⟨hS.os, hS.tape, hS.output, hS.size, fun k hk => hS.block k hk (fun _ => trivial)⟩
  have htxw : BytesIn 0 w (.slice (some ⟨tg, 0, none⟩) 16 tc) (List.replicate 16 0) := htx.step (Step.of hb0 (Nat.zero_le _))
  have hAl := (Below.refl w.heap.size w).alloc (Nat.le_refl _)
  obtain rfl | rfl | rfl | rfl | rfl | rfl | rfl | rfl | rfl | rfl | rfl | rfl : i = 0 ∨ i = 1 ∨ i = 2 ∨ i = 3 ∨ i = 4 ∨ i = 5 ∨ i = 6 ∨ i = 7 ∨ i = 8 ∨ i = 9 ∨ i = 10 ∨ i = 11 := by omega
  · exact wp_move (op_is ho (by kernel_rfl)) (plain _ _ (Below.refl _ _) (by rw [slot hF (by kernel_rfl) h12]; exact fun h => hRow fun x => h (.inl x)))
  · exact wp_move (op_is ho (by kernel_rfl)) (plain _ _ (Below.refl _ _) (slot hF (by kernel_rfl) h9))
  · obtain ⟨v, e1, h1⟩ := has (a := a) hT (haf 1 (on_is ho (by kernel_rfl))) (d := 64) (by kernel_rfl)
    obtain rfl : v = .slice (some ⟨tg, 0, none⟩) 16 tc := h1
    refine wp_call (args := #[.tmp 64]) (ts := #[22]) (vs := #[.slice (some ⟨tg, 0, none⟩) 16 tc]) (op_is ho (by kernel_rfl)) (by simp only [List.map_toArray, List.map_cons, List.map_nil, e1]) (fun _ => enters_of Tryz.func157 (by kernel_rfl) rfl _ _) ((sum_c 0 _ _ w htxw (by decide)).mono ?_)
    rintro e w' ⟨rfl, rfl⟩
    exact ⟨_, rfl, plain _ _ (Below.refl _ _) rfl⟩
  · obtain ⟨v, e1, h1⟩ := has (a := a) hT (haf 2 (on_is ho (by kernel_rfl))) (d := 65) (by kernel_rfl)
    obtain rfl : v = .int .u32 (sumL (List.replicate 16 0)) := h1
    exact wp_conv (s := 254) (t := 3) (op_is ho (by kernel_rfl)) e1 (conv_u32 (sumL_u _) _) (plain _ _ (Below.refl _ _) rfl)
  · obtain ⟨v, e1, h1⟩ := has (a := a) hT (haf 3 (on_is ho (by kernel_rfl))) (d := 66) (by kernel_rfl)
    obtain rfl : v = .int .i64 (sumL (List.replicate 16 0)) := h1
    obtain ⟨i0, hi0, hz0, hs0, -⟩ := info_parts Sf.info_int
    refine wp_buildSlice 25 3 1 #[(0, .tmp 66)] (op_is ho (by kernel_rfl)) (intVals [sumL (List.replicate 16 0)]).toArray i0 _ Tryz.underlying25 hi0 hz0 (by rw [hs0]; decide) (by rw [hs0]; decide) ?_ (plain _ _ (hAl _) fun _ => IntsB.new rfl)
    simp only [List.map_toArray, List.map_cons, List.map_nil, e1, hs0]
    exact fill1 _ (by simp) _ rfl
  · have l0 := haf 0 (on_is ho (by kernel_rfl))
    obtain ⟨v, e1, h1⟩ := has (a := a) hT l0 (d := 63) (by kernel_rfl)
    obtain ⟨u, e2, h2⟩ := has (a := a) hT (haf 4 (on_is ho (by kernel_rfl))) (d := 67) (by kernel_rfl)
    have hr := h1 hnl
    have kp := leafput_c 0 W0.heap.size v (head9 s b) 4 u [sumL (List.replicate 16 0)] w (Nat.zero_le _) hS.size hr (by decide) (h2 hnl).ints (by simp) (by simp) f4 (by rw [head9_len]; decide)
    rw [show ((4 : Nat) : Int) = 4 from rfl] at kp
    refine wp_call (args := #[.tmp 63, .const (.int .i64 4), .tmp 67]) (ts := #[22, 3, 25]) (vs := #[v, .int .i64 4, u]) (op_is ho (by kernel_rfl)) (by simp only [List.map_toArray, List.map_cons, List.map_nil, e1, e2]; rfl) (fun _ => enters_of Tryz.func156 (by kernel_rfl) rfl _ _) (kp.mono ?_)
    rintro e w' ⟨v', rfl, hp⟩
    refine ⟨v', rfl, hK _ _ (fun _ => hp.row) ⟨hS.grown (fun h => h) hp.grown (own_ge hr), fun h => absurd (.inr rfl) h⟩ fun j y hj16 hj h => ?_⟩
    rw [hsz] at hj16
    match j, hj16, hj, h with
    | 0, _, _, _ => exact fun hL => absurd (.inr rfl) hL
    | 1, _, _, h => exact h
    | 2, _, _, h => exact h
    | 3, _, _, h => exact h
    | 4, _, _, _ => exact fun hL => absurd (.inr rfl) hL
    | 5, _, hj, _ => exact absurd hj hnl
    | 6, _, hj, _ => exact absurd (run_down hsh [5] 6 (by kernel_rfl) hj) hnl
    | 7, _, hj, _ => exact absurd (run_down hsh [6, 5] 7 (by kernel_rfl) hj) hnl
    | 8, _, _, h => exact h
    | 9, _, hj, _ => exact absurd (run_down hsh [7, 6, 5] 9 (by kernel_rfl) hj) hnl
    | 10, _, hj, _ => exact absurd (run_down hsh [9, 7, 6, 5] 10 (by kernel_rfl) hj) hnl
    | 11, _, _, h => exact h
    | j + 12, hlt, _, _ => exact absurd hlt (by omega)
  · obtain ⟨v, e1, h1⟩ := has (a := a) hT (haf 5 (on_is ho (by kernel_rfl))) (d := 68) (by kernel_rfl)
    refine wp_call (args := #[.tmp 68]) (ts := #[22]) (vs := #[v]) (op_is ho (by kernel_rfl)) (by simp only [List.map_toArray, List.map_cons, List.map_nil, e1]) (fun _ => enters_of Tryz.func155 (by kernel_rfl) rfl _ _) ((sealed_c 0 v (headL s b) w (bytes_of_row (h1 hnl)) (by rw [headL_len]; decide)).mono ?_)
    rintro e w' ⟨v', rfl, hp⟩
    exact ⟨v', rfl, plain _ _ hp.below fun _ => SecB.of hp (closeL_len _ (by rw [headL_len]; decide)) hS.size⟩
  · obtain ⟨v, e1, h1⟩ := has (a := a) hT (haf 6 (on_is ho (by kernel_rfl))) (d := 69) (by kernel_rfl)
    have hsx := h1 hnl
    have hvc : v.cells = #[v] := by obtain ⟨g, cs, ⟨_, rfl, _⟩, _⟩ := hsx; rfl
    obtain ⟨i0, hi0, hz0, hs0, -⟩ := info_parts info_bs
    refine wp_buildSlice 199 22 1 #[(0, .tmp 69)] (op_is ho (by kernel_rfl)) #[v] i0 _ Tryz.underlying199 hi0 hz0 (by rw [hs0]; decide) (by rw [hs0]; decide) ?_ (plain _ _ (hAl _) fun _ => ⟨v, ⟨rfl, .inr ⟨_, _, _, rfl, hS.size, blk_new _ _ _, Nat.le_refl _, by decide, rfl, rfl⟩⟩, hsx.below (hAl _)⟩)
    simp only [List.map_toArray, List.map_cons, List.map_nil, e1, hs0]
    exact fill1 _ (by simp) _ hvc
  · exact wp_load1 (op_is ho (by kernel_rfl)) (slot hF (by kernel_rfl) h10) xc agg_sl (plain _ _ (Below.refl _ _) rfl)
  · obtain ⟨v, e1, h1⟩ := has (a := a) hT (haf 7 (on_is ho (by kernel_rfl))) (d := 70) (by kernel_rfl)
    obtain ⟨u, e2, h2⟩ := has (a := a) hT (haf 8 (on_is ho (by kernel_rfl))) (d := 71) (by kernel_rfl)
    obtain rfl : u = .slice (some ⟨lg, 0, none⟩) 1 lc := h2
    obtain ⟨hv, hr, hsh2⟩ := h1 hnl
    obtain ⟨i0, hi0, hz0, hs0, hb0⟩ := info_parts info_bs
    have hnews : ∀ j y, [u1][j]? = some y → w.cell? ((⟨lg, 0, none⟩ : Addr).add j) = some y := fun j y hy => by
      rw [add_plain, Nat.zero_add, blk_cell (kept _ _ hlg)]
      match j, hy with
      | 0, hy => rw [← hy]; exact hu
      | j + 1, hy => simp at hy
    refine wp_append_lies _ (.tmp 70) (.tmp 71) 199 (op_is ho (by kernel_rfl)) W0.heap.size 22 i0 (.slice none 0 0) 1 24 Tryz.underlying199 hi0 hz0 hs0 hb0 rfl (by decide) _ 1 _ e1 hr ⟨lg, 0, none⟩ 1 lc [u1] e2 rfl hnews (by obtain ⟨_, _, ⟨_, rfl, _⟩, _⟩ := hsec; intro y hy; simp at hy; subst hy; rfl) (by decide) (by decide) (by decide) hS.size _ rfl ?_
    intro g' cap w' hrow2 hgrow _ _
    have hPP : PagesP (closeL (headL s b)) (closeL leafL) (.slice (some ⟨g', 0, none⟩) (1 + 1) cap) w' := by
      have hk : ∀ g, 0 ≤ g → ∀ cs2, w.heap[g]? = some (.cells cs2 5 (0, 0)) → w'.heap[g]? = some (.cells cs2 5 (0, 0)) := fun g _ cs2 hg => by
        refine (hgrow.block g (lt_of_block hg) (fun e => ?_)).trans hg
        rcases hr.2 with ⟨rfl, _⟩ | ⟨g2, cap2, cur, rfl, _, hh, _⟩
        · cases e
        · obtain rfl : g = g2 := Option.some.inj e
          rw [hg] at hh
          injection hh with hh
          injection hh with _ hh _
          exact absurd hh (by decide)
      rcases hrow2.2 with ⟨e, _⟩ | ⟨g2, cap2, cur, e, hge, hh, hc1, _, _, ht2⟩
      · cases e
      · injection e with e1' _ e3'
        injection e1' with e1'
        injection e1' with e1' _
        subst e1' e3'
        refine ⟨g', cap, cur, hv, u1, rfl, hc1, hh, ?_, ?_, (secB_zero hsh2).kept hk, hsecw.kept hk⟩
        · rw [← Array.getElem?_toList]
          have := congrArg (fun l => l[0]?) ht2
          simpa using this
        · rw [← Array.getElem?_toList]
          have := congrArg (fun l => l[1]?) ht2
          simpa using this
    refine hK _ _ hPP ⟨hS.grown (fun h => h) hgrow (own_ge hr), fun h => ?_⟩ fun j y hj16 hj h => ?_
    · exact absurd (.inl (run_down hsh [6, 5] 7 (by kernel_rfl) (haf 7 (on_is ho (by kernel_rfl))))) h
    · have l7 := haf 7 (on_is ho (by kernel_rfl))
      have l6 := run_down hsh [6] 7 (by kernel_rfl) l7
      have l5 := run_down hsh [5] 6 (by kernel_rfl) l6
      rw [hsz] at hj16
      match j, hj16, hj, h with
      | 0, _, _, _ => exact fun hL => absurd (.inl l5) hL
      | 1, _, _, h => exact h
      | 2, _, _, h => exact h
      | 3, _, _, h => exact h
      | 4, _, _, _ => exact fun hL => absurd (.inl l5) hL
      | 5, _, _, _ => exact fun hL => absurd (.inl l6) hL
      | 6, _, _, _ => exact fun hL => absurd (.inl l7) hL
      | 7, _, _, _ => exact fun hL => absurd (.inr rfl) hL
      | 8, _, _, h => exact h
      | 9, _, hj, _ => exact absurd hj hnl
      | 10, _, hj, _ => exact absurd (run_down hsh [9] 10 (by kernel_rfl) hj) hnl
      | 11, _, _, h => exact h
      | j + 12, hlt, _, _ => exact absurd hlt (by omega)
  · obtain ⟨v, e1, h1⟩ := has (a := a) hT (haf 9 (on_is ho (by kernel_rfl))) (d := 72) (by kernel_rfl)
    exact wp_assign (x := .tmp 72) (op_is ho (by kernel_rfl)) (by rw [e1]; exact plain _ _ (Below.refl _ _) h1)
  · exact wp_assign (x := .const (.int .i64 0)) (op_is ho (by kernel_rfl)) (plain _ _ (Below.refl _ _) rfl)
end Go.Proofs.YtjohhjdicbeojaaGreatDoor.Sg
