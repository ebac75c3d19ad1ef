/- leaf.Encode of the empty state: a header and one leaf. -/
import Derived.Test.YthhgageghkbjjaaGreatSg
import Derived.RangeFuncWrites
namespace Go.Proofs.YthhgageghkbjjaaGreat.Sh
open Go.RowKit Go.Shelf Go.Proofs.YthhgageghkbjjaaGreat.Ra Go.Proofs.YthhgageghkbjjaaGreat.Rb Go.Proofs.YthhgageghkbjjaaGreat.Rc Go.Proofs.YthhgageghkbjjaaGreat.Rd Go.Proofs.YthhgageghkbjjaaGreat.Re Go.Proofs.YthhgageghkbjjaaGreat.Rj Go.Proofs.YthhgageghkbjjaaGreat.Rl Go.Proofs.YthhgageghkbjjaaGreat.Rn Go.Proofs.YthhgageghkbjjaaGreat.Ro Go.Proofs.YthhgageghkbjjaaGreat.Rp Go.Proofs.YthhgageghkbjjaaGreat.Rq Go.Proofs.YthhgageghkbjjaaGreat.Ru Go.Proofs.YthhgageghkbjjaaGreat.Sb Go.Proofs.YthhgageghkbjjaaGreat.Sc Go.Proofs.YthhgageghkbjjaaGreat.Sd Go.Proofs.YthhgageghkbjjaaGreat.Se Go.Proofs.YthhgageghkbjjaaGreat.Sf Go.Proofs.YthhgageghkbjjaaGreat.Sg
set_option maxRecDepth 8000
attribute [local go_sem] Oper.semAt_some

/-- Encode's boxes: the state, the geometry, the number. -/
structure EB (A : Nat) (s b : Int) (w W : World) : Prop where
  st : W.heap[A]? = some (.cells emptyCells 30 (0, 0))
  pl : W.heap[A + 1]? = some (.cells #[.int .i64 s, .int .i64 b] 23 (0, 0))
  sq : W.heap[A + 1 + 1]? = some (.cells #[.int .i64 1] 3 (0, 0))
  below : Below w.heap.size w W
theorem EB.later {A : Nat} {s b : Int} {w W W' : World} (h : EB A s b w W) (hb : Below W.heap.size W W') : EB A s b w W' :=
  ⟨blk_below h.st hb (lt_of_block h.st), blk_below h.pl hb (lt_of_block h.pl), blk_below h.sq hb (lt_of_block h.sq), h.below.trans (hb.mono h.below.size)⟩
theorem EB.cells {A : Nat} {s b : Int} {w W : World} (h : EB A s b w W) : W.cell? ⟨A + 1, 0, none⟩ = some (.int .i64 s) ∧ W.cell? ⟨A + 1, 1, none⟩ = some (.int .i64 b) ∧ W.cell? ⟨A + 1 + 1, 0, none⟩ = some (.int .i64 1) := ⟨blk_cell h.pl 0, blk_cell h.pl 1, blk_cell h.sq 0⟩
theorem EB.start (s b : Int) (w : World) : EB w.heap.size s b w (((w.alloc (.cells emptyCells 30)).alloc (.cells #[.int .i64 s, .int .i64 b] 23)).alloc (.cells #[.int .i64 1] 3)) := by
  have h := Boxes.start s b w
  have h3 := blk_new ((w.alloc (.cells emptyCells 30)).alloc (.cells #[.int .i64 s, .int .i64 b] 23)) #[.int .i64 1] 3
  rw [sz_alloc, sz_alloc] at h3
  exact ⟨blk_old h.1 _, blk_old h.2.1 _, h3, h.2.2.alloc h.2.2.size _⟩

/-- The text that payload leaves. -/
theorem text_of {w w' : World} {v : Value} (h : NewBytes w (List.replicate 16 0) v w') : ∃ g c, v = .slice (some ⟨g, 0, none⟩) 16 c ∧ 16 ≤ c ∧ g < w'.heap.size ∧ BytesIn 0 w' (.slice (some ⟨g, 0, none⟩) 16 16) (List.replicate 16 0) ∧ BytesIn 0 w' (.slice (some ⟨g, 0, none⟩) 16 c) (List.replicate 16 0) := by
  have hr := h.row
  have hb : BytesIn 0 w' v (List.replicate 16 0) := h.bytes
  rw [show (List.replicate 16 (0 : UInt8)).length = 16 from rfl] at hr
  obtain ⟨g, c, rfl, _, _⟩ := hr.form (by decide)
  have hc : 16 ≤ c := by
    obtain ⟨_, _, e, h3, _⟩ := hb
    injection e with _ _ e3
    rw [e3]
    exact h3
  have h2 := hb.cut 0 16 (by decide) (by decide) (some ⟨g, 0, none⟩) 16 (by decide) (fun b o e _ => by rw [Nat.add_zero]; exact e)
  obtain ⟨b, o, e, hlt, _⟩ := bytes_at h2 (by decide)
  injection e with e
  injection e with e _
  subst e
  exact ⟨g, c, rfl, hc, hlt, h2, hb⟩

/-- Encode's loop, between two rounds. -/
def Rnd (L : Nat) (w3 : World) (pre : List Unit) (W : World) : Prop :=
  Kr L w3 (pre = []) W ∧ (pre = [] ∨ (pre = [()] ∧ ∃ g cap cs u, W.heap[L]? = some (.cells #[.slice (some ⟨g, 0, none⟩) 1 cap] 82 (0, 0)) ∧ 1 ≤ cap ∧ w3.heap.size ≤ g ∧ W.heap[g]? = some (.cells cs 44 (0, 0)) ∧ cs[0]? = some u ∧ SecB w3.heap.size (closeL leafL) u W))
theorem Rnd.own (L : Nat) (w3 : World) : OwnFrom w3.heap.size (Rnd L w3) := by
  intro s A B row hs hg hr
  obtain ⟨h1, h2⟩ := hs
  have hk : ∀ (k : Nat) cs t fz, A.heap[k]? = some (Obj.cells cs t fz) → B.heap[k]? = some (Obj.cells cs t fz) := fun k cs t fz h => by
    refine (hg.block k (lt_of_block h) (fun e => ?_)).trans h
    obtain ⟨_, o, ho, hc⟩ := hr k e.symm
    rw [h] at ho
    obtain rfl := Option.some.inj ho
    cases hc
  refine ⟨h1.grown (fun h => h) hg (fun k e => (hr k e).1), h2.imp (fun h => h) ?_⟩
  rintro ⟨e, g, cap, cs, u, q1, q2, q3, q4, q5, q6⟩
  exact ⟨e, g, cap, cs, u, hk _ _ _ _ q1, q2, q3, hk _ _ _ _ q4, q5, q6.kept fun g' _ cs' h => hk _ _ _ _ h⟩

theorem bytes_same {w w' : World} {b o n c : Nat} {l : List UInt8} (h : BytesIn 0 w (.slice (some ⟨b, o, none⟩) n c) l) (e : w'.heap[b]? = w.heap[b]?) : BytesIn 0 w' (.slice (some ⟨b, o, none⟩) n c) l := by
  obtain ⟨p, c', hv, hcap, hp⟩ := h
  refine ⟨p, c', hv, hcap, fun hl => ?_⟩
  obtain ⟨b', o', rfl, hlt, hsf, hc⟩ := hp hl
  injection hv with hv _ _
  injection hv with hv
  injection hv with hv _
  subst hv
  rcases hsf with h0 | ⟨ob, ho, hpl⟩
  · exact absurd h0 (Nat.not_lt_zero _)
  · rw [← e] at ho
    exact ⟨b, o', rfl, lt_of_block ho, Or.inr ⟨ob, ho, hpl⟩, fun j x hx => (World.cell?_of_block e).trans (hc j x hx)⟩

theorem pages_kept {l0 l1 : List UInt8} {v : Value} {w w' : World} (h : PagesP l0 l1 v w) (hk : ∀ (g : Nat) cs t, w.heap[g]? = some (Obj.cells cs t (0, 0)) → w'.heap[g]? = some (Obj.cells cs t (0, 0))) : PagesP l0 l1 v w' := by
  obtain ⟨g, cap, cs, u0, u1, h1, h2, h3, h4, h5, h6, h7⟩ := h
  exact ⟨g, cap, cs, u0, u1, h1, h2, hk _ _ _ h3, h4, h5, h6.kept fun g _ cs h => hk _ _ _ h, h7.kept fun g _ cs h => hk _ _ _ h⟩

theorem region_eq {F : Fence} {n id : Nat} {P : Program} {ops ops' : Array Oper} {d : Bool} {Q : Exit → Act → World → Prop} {a : Act} {w : World} (h : ops = ops') (k : (Code.region id ops d).wpIn F n P Q a w) : (Code.region id ops' d).wpIn F n P Q a w := h ▸ k
theorem region_eq' {id : Nat} {P : Program} {ops ops' : Array Oper} {d : Bool} {Q : Exit → Act → World → Prop} {a : Act} {w : World} (h : ops = ops') (k : (Code.region id ops d).wp P Q a w) : (Code.region id ops' d).wp P Q a w := h ▸ k

set_option maxHeartbeats 4000000 in
theorem encode_c (s b : Int) (hm : MayP s b) (w : World) : Calls Tryz.prog 50 #[.agg emptyCells, .agg #[.int .i64 s, .int .i64 b], .int .i64 1] w fun e w' => ∃ v, e = .returned (.tuple #[v, .int .i64 0]) ∧ PagesP (closeL (headL s b)) (closeL leafL) v w' ∧ Below w.heap.size w w' := by
  refine (callsIn_wide (n := 5)).1 ?_
  refine callsIn_of_wp_marks Tryz.func50 rfl trivial ?_ rfl
  simp only [Tryz.ntmps50, List.size_toArray, List.length_cons, List.length_nil, Nat.reduceAdd, Nat.reduceSub, Array.replicate_succ, Array.replicate_zero, List.push_toArray, List.append_toArray, List.nil_append, List.cons_append]
  refine wpIn_wide.2 ?_
  have H0 := Lib.hid (EB.start s b w)
  have KF := Lib.hid (fun (W : World) => fit_c s b hm W)
  have KP := Lib.hid (fun (W : World) => payload_c s b W)
  go_upto_region 1 with fail
  generalize (((w.alloc (.cells emptyCells 30)).alloc (.cells #[.int .i64 s, .int .i64 b] 23)).alloc (.cells #[.int .i64 1] 3)) = w0 at *
  obtain ⟨c1, c2, c3⟩ := H0.out.cells
  go_wp2_with (first
    | (refine wpList_load_row rfl 30 (.tmp 3) rfl w.heap.size rfl _ emptyCells _ _ H0.out.st Tryz.underlying30 rfl sizeE' ?_)
    | (refine wpList_load_row rfl 30 (.tmp 3) rfl w.heap.size rfl _ emptyCells _ _ H1.out.st Tryz.underlying30 rfl sizeE' ?_)
    | (go_at_call 22; (with_reducible refine (KF.out _).mono ?_); rintro e w1 ⟨rfl, hb1⟩; have H1 := Lib.hid (H0.out.later hb1); have hc1 := H1.out.cells; obtain ⟨d1, d2, d3⟩ := hc1; clear hb1 c1 c2 c3)
    | (go_at_call 78; (with_reducible refine (KP.out _).mono ?_); rintro e w2 ⟨tv, rfl, ht⟩; obtain ⟨tg, tc, rfl, htc, hlt, htb, htb2⟩ := text_of ht; have H2 := Lib.hid (H1.out.later ht.below); have hc2 := H2.out.cells; obtain ⟨e1, e2, e3⟩ := hc2; have HTB := Lib.hid htb; have HTB2 := Lib.hid htb2; clear htb htb2; clear ht d1 d2 d3)
    | (go_at_call 79; (with_reducible refine (chunk_c _ _ _ _).mono ?_); rintro e w3 ⟨rfl, hw3'⟩; have HW3 := Lib.hid hw3'; clear hw3'))
  have hw3 := HW3.out
  have LB : Hid (w3.heap[w2.heap.size]? = some (.cells #[.slice none 0 0] 82 (0, 0))) := Lib.hid (by rw [hw3]; exact blk_old (blk_old (blk_new _ _ _) _) _)
  have cB1 : w3.cell? ⟨w2.heap.size + 1, 0, none⟩ = some (.slice (some ⟨tg, 0, none⟩) 16 tc) := by
    have := blk_new (w2.alloc (.cells #[.slice none 0 0] 82)) #[.slice (some ⟨tg, 0, none⟩) 16 tc] 44
    rw [sz_alloc] at this
    rw [hw3]
    exact blk_cell (blk_old this _) 0
  have cB2 : w3.cell? ⟨w2.heap.size + 1 + 1, 0, none⟩ = some (.int .i64 52) := by
    have := blk_new ((w2.alloc (.cells #[.slice none 0 0] 82)).alloc (.cells #[.slice (some ⟨tg, 0, none⟩) 16 tc] 44)) #[.int .i64 52] 3
    rw [sz_alloc, sz_alloc] at this
    rw [hw3]
    exact blk_cell this 0
  have hb3 : Below w2.heap.size w2 w3 := by
    rw [hw3]
    exact (((Below.refl _ _).alloc (Nat.le_refl _) _).alloc (by rw [sz_alloc]; omega) _).alloc (by rw [sz_alloc, sz_alloc]; omega) _
  have hs3 : w3.heap.size = w2.heap.size + 3 := by rw [hw3, sz_alloc, sz_alloc, sz_alloc]
  have H3 := Lib.hid (H2.out.later hb3)
  have HT3 := Lib.hid (HTB.out.step (Step.of hb3 (Nat.zero_le _)))
  have HT4 := Lib.hid (HTB2.out.step (Step.of hb3 (Nat.zero_le _)))
  obtain ⟨L, hL⟩ : ∃ L, w2.heap.size = L := ⟨_, rfl⟩
  rw [hL] at hs3 cB1 cB2 LB ⊢
  have hLl : L < w3.heap.size := by omega
  clear hw3 HW3 e1 e2 e3 KF KP HTB HTB2 hb3
  go_wp2_with (fail)
  refine (wpIn_wide (n := 5)).1 ?_
  refine' wpIn_rangeFunc_ownG (n := 5) rfl (by decide) (gf := 100) (lb := #[.pointer (some ⟨L + 1, 0, none⟩), .pointer (some ⟨L + 1 + 1, 0, none⟩)]) rfl trivial (enters_of Tryz.func100 (by kernel_rfl) rfl)
    (chunk_stops 4 (by decide) (L + 1) (L + 1 + 1) tg tc htc w3 cB1 cB2) (fun h k => Kp2.trans h k) (fun W l o o' hl h _ _ => ⟨World.putObj_heap_other (by omega), World.putObj_heap_other (by omega)⟩) (Below.refl _ _) (fun _ => rfl)
    (Rnd L w3) (fun _ _ _ => False) (Rnd.own L w3) (fun _ _ _ _ _ hs _ _ => hs) ?h0 _ ?assign ?body ?done ?stop
  case h0 => exact ⟨⟨rfl, rfl, rfl, Nat.le_refl _, fun _ _ _ => rfl⟩, .inl rfl⟩
  case assign =>
    intro l x W K hK
    gi_wp2
    exact hK
  case body =>
    rintro l pre x W ⟨hKr, _⟩ hlen
    obtain rfl : pre = [] := List.eq_nil_of_length_eq_zero (by omega)
    have hk3 : ∀ (k : Nat) obj, w3.heap[k]? = some obj → W.heap[k]? = some obj := fun k obj h => (hKr.block k (lt_of_block h) (fun _ => rfl)).trans h
    have hb3 : Below w3.heap.size w3 W := ⟨hKr.os, hKr.tape, hKr.output, hKr.size, fun k hk => hKr.block k hk (fun _ => rfl)⟩
    gi_wp2
    refine region_eq (ops := r10) (by kernel_rfl) ?_
    refine wpIn_region_each (T10 L W.drew.heap.size (.slice (some ⟨tg, 0, none⟩) 16 16)) (fun P w => Kr L W.drew (¬ P 15) w) (by kernel_rfl) ?_ (by kernel_rfl) (by kernel_rfl) ⟨rfl, rfl, rfl, Nat.le_refl _, fun _ _ _ => rfl⟩
      (owes10 L (w.heap.size + 1 + 1) tg W.drew _ rfl rfl rfl (hk3 _ _ LB.out) (hk3 _ _ H3.out.sq) ?_ (HT3.out.step (Step.of hb3.drew (Nat.zero_le _))) ?_ ?_) ?_
    · rintro ⟨_, _, h⟩
      exact h
    · have := lt_of_block H2.out.sq
      omega
    · omega
    · show tg < W.heap.size
      have := hb3.size
      omega
    · intro P a' w' hall hF hS hT
      obtain ⟨v, _, g, cap, cs, u, q1, q2, q3, q4, q5, q6⟩ := hT 15 _ (Array.getElem?_eq_getElem (by rw [show r10.size = 16 from by kernel_rfl]; decide))
      have hke : ∀ k, k < w3.heap.size → k ≠ L → w'.heap[k]? = W.heap[k]? := fun k hk hne => hS.block k (Nat.lt_of_lt_of_le hk hKr.size) (fun e => absurd e hne)
      refine ⟨⟨hS.size, fun k o hkB ho hnc => (hS.block k (lt_of_block ho) (fun e => ?_)).trans ho⟩, ⟨hke _ (by omega) (by omega), hke _ (by omega) (by omega)⟩, ⟨hS.os.trans hKr.os, hS.tape.trans hKr.tape, hS.output.trans hKr.output, Nat.le_trans hKr.size hS.size, fun k hk hne => ?_⟩, .inr ⟨rfl, g, cap, cs, u, q1, q2, Nat.le_trans hKr.size q3, q4, q5, ?_⟩⟩
      · omega
      · exact (hke k hk (fun e => by have := hne e; cases this)).trans (hKr.block k hk (fun _ => by trivial))
      · obtain ⟨g2, cs2, r1, r2, r3⟩ := q6
        exact ⟨g2, cs2, r1, Nat.le_trans hKr.size r2, r3⟩
  case done =>
    rintro D ys W hD rfl ⟨hKr, hR⟩ hK
    obtain ⟨_, lg, lc, lcs, u1, hX, hlc, hlg, hlcs, hu1, hsec⟩ := hR.resolve_left (by simp)
    have hk3 : ∀ (k : Nat) obj, k ≠ L → w3.heap[k]? = some obj → W.heap[k]? = some obj := fun k obj hne h => (hKr.block k (lt_of_block h) (fun e => absurd e hne)).trans h
    have hDl := lt_of_block hK
    have e1 := H3.out.sq
    have e2 := H3.out.pl
    have e3 := lt_of_block H2.out.sq
    go_wp2_with (fail)
    refine region_eq' (ops := r11) (by kernel_rfl) ?_
    refine wp_region_each (T11 W.drew.heap.size (w.heap.size + 1) s b (.slice (some ⟨lg, 0, none⟩) 1 lc) (.slice (some ⟨tg, 0, none⟩) 16 tc)) (fun _ w' => Kr W.drew.heap.size W.drew True w') (by kernel_rfl) (by kernel_rfl) ⟨rfl, rfl, rfl, Nat.le_refl _, fun _ _ _ => rfl⟩
      (owes11 L (w.heap.size + 1 + 1) (w.heap.size + 1) lg lc tg tc s b hm W.drew _ rfl rfl rfl rfl hX (hk3 _ _ (by omega) e1) (hk3 _ _ (by omega) e2)) ?_
    intro P1 a1 w4 hall1 hF1 hS1 hT1
    obtain ⟨v12, e12, h12⟩ := hT1 17 _ (Array.getElem?_eq_getElem (by rw [show r11.size = 18 from by kernel_rfl]; decide))
    have h10 := slot' hF1 (k := 10) (by kernel_rfl) rfl
    have h9 := slot' hF1 (k := 9) (by kernel_rfl) rfl
    have hd1 := hF1.defers
    go_wp2_with (fail)
    refine region_eq' (ops := r12) (by kernel_rfl) ?_
    refine wp_region_each (T12 W.drew.heap.size s b (.slice (some ⟨lg, 0, none⟩) 1 lc) (.slice (some ⟨tg, 0, none⟩) 16 tc)) (fun P w' => Kr W.drew.heap.size W.drew True w' ∧ (¬ P 5 → w'.ownsRow W.drew.heap.size 5 1 v12 (head9 s b).length (byteVals (head9 s b)))) (by kernel_rfl) (by rw [hF1.size]; kernel_rfl) ⟨⟨hS1.os, hS1.tape, hS1.output, hS1.size, hS1.block⟩, fun _ => h12⟩
      (owes12 L lg lc tg tc lcs u1 s b W.drew v12 a1 h10 h9 e12 hX hlcs hu1 (secB_zero hsec) (bytes_same HT4.out (hKr.block tg (by omega) (fun e => absurd e (by omega))))) ?_
    intro P2 a2 w5 hall2 hF2 hS2 hT2
    obtain ⟨v6, e6, h6⟩ := hT2 10 _ (Array.getElem?_eq_getElem (by rw [show r12.size = 12 from by kernel_rfl]; decide))
    obtain ⟨v7, e7, h7⟩ := hT2 11 _ (Array.getElem?_eq_getElem (by rw [show r12.size = 12 from by kernel_rfl]; decide))
    have hd2 := hF2.defers
    have e6' : a2.tmps[6]? = some v6 := e6
    have e7' : a2.tmps[7]? = some v7 := e7
    go_wp2_with (fail)
    have hK5 : w5.heap[D]? = some (.deferred (some [])) := (hS2.1.block D (lt_of_block (w := W) hK) (fun _ => trivial)).trans hK
    have hdd : a2.defers = [{ target := .collected D, args := #[] }] := hd2.trans hd1
    show LeavesInM _ _ _ _ a2.tmps _ a2.defers _ w5
    rw [hdd]
    refine ⟨by simp, .inl ⟨_, _, rfl, run_takeDeferred hK5, ?_⟩⟩
    have hv7 : v7 = .int .i64 0 := h7
    subst hv7
    have hP : PagesP (closeL (headL s b)) (closeL leafL) v6 w5 := h6
    refine ⟨.tuple #[v6, .int .i64 0], ?_, v6, rfl, pages_kept hP fun g cs t hg => (World.putObj_heap_other (fun e => ?_)).trans hg, ?_⟩
    · simp [results, Tryz.results50, go_sem, e6', e7']
    · rw [e, hK5] at hg
      cases hg
    · have hw3 := H3.out.below
      have hle := hw3.size
      have hw := lt_of_block H2.out.sq
      refine ⟨hS2.1.os.trans (hKr.os.trans hw3.os), hS2.1.tape.trans (hKr.tape.trans hw3.tape), hS2.1.output.trans (hKr.output.trans hw3.output), ?_, fun k hk => ?_⟩
      · have h1 := hKr.size
        have h2 := hS2.1.size
        exact Nat.le_trans hle (Nat.le_trans h1 (Nat.le_trans h2 (grownBy_putObj' w5 D _).size))
      · rw [World.putObj_heap_other (by omega), hS2.1.block k (show k < W.heap.size by have := hKr.size; omega) (fun _ => trivial)]
        exact (hKr.block k (by omega) (fun e => by omega)).trans (hw3.block k hk)
  case stop =>
    rintro D c pre W _ _ h _
    exact h.elim
end Go.Proofs.YthhgageghkbjjaaGreat.Sh
