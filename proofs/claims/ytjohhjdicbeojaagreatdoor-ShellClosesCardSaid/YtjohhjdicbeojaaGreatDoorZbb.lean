/- Texts joined: Sh Si Sj Sk. -/
import Derived.RangeFuncWrites
import Derived.StillTailTactics
import Derived.Deep.RegionHeld3
import Derived.Test.YtjohhjdicbeojaaGreatDoorZba
namespace Go.Proofs.YtjohhjdicbeojaaGreatDoor.Sh
open Go.RowKit Go.Shelf Go.Proofs.YtjohhjdicbeojaaGreatDoor.Ra Go.Proofs.YtjohhjdicbeojaaGreatDoor.Rb Go.Proofs.YtjohhjdicbeojaaGreatDoor.Rc Go.Proofs.YtjohhjdicbeojaaGreatDoor.Rd Go.Proofs.YtjohhjdicbeojaaGreatDoor.Re Go.Proofs.YtjohhjdicbeojaaGreatDoor.Rj Go.Proofs.YtjohhjdicbeojaaGreatDoor.Rl Go.Proofs.YtjohhjdicbeojaaGreatDoor.Rn Go.Proofs.YtjohhjdicbeojaaGreatDoor.Ro Go.Proofs.YtjohhjdicbeojaaGreatDoor.Rp Go.Proofs.YtjohhjdicbeojaaGreatDoor.Rq Go.Proofs.YtjohhjdicbeojaaGreatDoor.Ru Go.Proofs.YtjohhjdicbeojaaGreatDoor.Sb Go.Proofs.YtjohhjdicbeojaaGreatDoor.Sc Go.Proofs.YtjohhjdicbeojaaGreatDoor.Sd Go.Proofs.YtjohhjdicbeojaaGreatDoor.Se Go.Proofs.YtjohhjdicbeojaaGreatDoor.Sf Go.Proofs.YtjohhjdicbeojaaGreatDoor.Sg
set_option maxRecDepth 8000
attribute [local go_sem] Oper.semAt_some
/-- Encode's boxes: the state, the geometry, the number. -/
structure EB (A : Nat) (s b : Int) (w W : World) : Prop where
  st : W.heap[A]? = some (.cells emptyCells 96 (0, 0))
  pl : W.heap[A + 1]? = some (.cells #[.int .i64 s, .int .i64 b] 58 (0, 0))
  sq : W.heap[A + 1 + 1]? = some (.cells #[.int .i64 1] 3 (0, 0))
  below : Below w.heap.size w W
theorem EB.later {A : Nat} {s b : Int} {w W W' : World} (h : EB A s b w W) (hb : Below W.heap.size W W') : EB A s b w W' :=
  ⟨blk_below h.st hb (lt_of_block h.st), blk_below h.pl hb (lt_of_block h.pl), blk_below h.sq hb (lt_of_block h.sq), h.below.trans (hb.mono h.below.size)⟩
theorem EB.cells {A : Nat} {s b : Int} {w W : World} (h : EB A s b w W) : W.cell? ⟨A + 1, 0, none⟩ = some (.int .i64 s) ∧ W.cell? ⟨A + 1, 1, none⟩ = some (.int .i64 b) ∧ W.cell? ⟨A + 1 + 1, 0, none⟩ = some (.int .i64 1) := ⟨blk_cell h.pl 0, blk_cell h.pl 1, blk_cell h.sq 0⟩
theorem EB.start (s b : Int) (w : World) : EB w.heap.size s b w (((w.alloc (.cells emptyCells 96)).alloc (.cells #[.int .i64 s, .int .i64 b] 58)).alloc (.cells #[.int .i64 1] 3)) := by
  have h := Boxes.start s b w
  have h3 := blk_new ((w.alloc (.cells emptyCells 96)).alloc (.cells #[.int .i64 s, .int .i64 b] 58)) #[.int .i64 1] 3
  rw [sz_alloc, sz_alloc] at h3
  exact ⟨blk_old h.1 _, blk_old h.2.1 _, h3, h.2.2.alloc h.2.2.size _⟩
/-- The text that payload leaves. -/
theorem text_of {w w' : World} {v : Value} (h : NewBytes w (List.replicate 16 0) v w') : ∃ g c, v = .slice (some ⟨g, 0, none⟩) 16 c ∧ 16 ≤ c ∧ g < w'.heap.size ∧ BytesIn 0 w' (.slice (some ⟨g, 0, none⟩) 16 16) (List.replicate 16 0) ∧ BytesIn 0 w' (.slice (some ⟨g, 0, none⟩) 16 c) (List.replicate 16 0) := by
  have hr := h.row
  have hb : BytesIn 0 w' v (List.replicate 16 0) := h.bytes
  rw [show (List.replicate 16 (0 : UInt8)).length = 16 from rfl] at hr
  obtain ⟨g, c, rfl, _, _⟩ := hr.form (by decide)
  have hc : 16 ≤ c := by
    obtain ⟨_, _, e, h3, _⟩ := hb
    injection e with _ _ e3
    rw [e3]
    exact h3
  have h2 := hb.cut 0 16 (by decide) (by decide) (some ⟨g, 0, none⟩) 16 (by decide) (fun b o e _ => by rw [Nat.add_zero]; exact e)
  obtain ⟨b, o, e, hlt, _⟩ := bytes_at h2 (by decide)
  injection e with e
  injection e with e _
  subst e
  exact ⟨g, c, rfl, hc, hlt, h2, hb⟩
/-- Encode's loop, between two rounds. -/
def Rnd (L : Nat) (w3 : World) (pre : List Unit) (W : World) : Prop :=
  Kr L w3 (pre = []) W ∧ (pre = [] ∨ (pre = [()] ∧ ∃ g cap cs u, W.heap[L]? = some (.cells #[.slice (some ⟨g, 0, none⟩) 1 cap] 199 (0, 0)) ∧ 1 ≤ cap ∧ w3.heap.size ≤ g ∧ W.heap[g]? = some (.cells cs 22 (0, 0)) ∧ cs[0]? = some u ∧ SecB w3.heap.size (closeL leafL) u W))
theorem Rnd.own (L : Nat) (w3 : World) : OwnFrom w3.heap.size (Rnd L w3) := by
  intro s A B row hs hg hr
  obtain ⟨h1, h2⟩ := hs
  have hk : ∀ (k : Nat) cs t fz, A.heap[k]? = some (Obj.cells cs t fz) → B.heap[k]? = some (Obj.cells cs t fz) := fun k cs t fz h => by
    refine (hg.block k (lt_of_block h) (fun e => ?_)).trans h
    obtain ⟨_, o, ho, hc⟩ := hr k e.symm
    rw [h] at ho
    obtain rfl := Option.some.inj ho
    cases hc
  refine ⟨h1.grown (fun h => h) hg (fun k e => (hr k e).1), h2.imp (fun h => h) ?_⟩
  rintro ⟨e, g, cap, cs, u, q1, q2, q3, q4, q5, q6⟩
  exact ⟨e, g, cap, cs, u, hk _ _ _ _ q1, q2, q3, hk _ _ _ _ q4, q5, q6.kept fun g' _ cs' h => hk _ _ _ _ h⟩
theorem bytes_same {w w' : World} {b o n c : Nat} {l : List UInt8} (h : BytesIn 0 w (.slice (some ⟨b, o, none⟩) n c) l) (e : w'.heap[b]? = w.heap[b]?) : BytesIn 0 w' (.slice (some ⟨b, o, none⟩) n c) l := by
  obtain ⟨p, c', hv, hcap, hp⟩ := h
  refine ⟨p, c', hv, hcap, fun hl => ?_⟩
  obtain ⟨b', o', rfl, hlt, hsf, hc⟩ := hp hl
  injection hv with hv _ _
  injection hv with hv
  injection hv with hv _
  subst hv
  rcases hsf with h0 | ⟨ob, ho, hpl⟩
  · exact absurd h0 (Nat.not_lt_zero _)
  · rw [← e] at ho
    exact ⟨b, o', rfl, lt_of_block ho, Or.inr ⟨ob, ho, hpl⟩, fun j x hx => (World.cell?_of_block e).trans (hc j x hx)⟩
theorem pages_kept {l0 l1 : List UInt8} {v : Value} {w w' : World} (h : PagesP l0 l1 v w) (hk : ∀ (g : Nat) cs t, w.heap[g]? = some (Obj.cells cs t (0, 0)) → w'.heap[g]? = some (Obj.cells cs t (0, 0))) : PagesP l0 l1 v w' := by
  obtain ⟨g, cap, cs, u0, u1, h1, h2, h3, h4, h5, h6, h7⟩ := h
  exact ⟨g, cap, cs, u0, u1, h1, h2, hk _ _ _ h3, h4, h5, h6.kept fun g _ cs h => hk _ _ _ h, h7.kept fun g _ cs h => hk _ _ _ h⟩
theorem region_eq {F : Fence} {n id : Nat} {P : Program} {ops ops' : Array Oper} {d : Bool} {Q : Exit → Act → World → Prop} {a : Act} {w : World} (h : ops = ops') (k : (Code.region id ops d).wpIn F n P Q a w) : (Code.region id ops' d).wpIn F n P Q a w := h ▸ k
theorem region_eq' {id : Nat} {P : Program} {ops ops' : Array Oper} {d : Bool} {Q : Exit → Act → World → Prop} {a : Act} {w : World} (h : ops = ops') (k : (Code.region id ops d).wp P Q a w) : (Code.region id ops' d).wp P Q a w := h ▸ k
set_option maxHeartbeats 4000000 in
theorem encode_c (s b : Int) (hm : MayP s b) (w : World) : Calls Tryz.prog 102 #[.agg emptyCells, .agg #[.int .i64 s, .int .i64 b], .int .i64 1] w fun e w' => ∃ v, e = .returned (.tuple #[v, .int .i64 0]) ∧ PagesP (closeL (headL s b)) (closeL leafL) v w' ∧ Below w.heap.size w w' := by
  refine (callsIn_wide (n := 5)).1 ?_
  refine callsIn_of_wp_marks Tryz.func102 rfl trivial ?_ rfl
  simp only [Tryz.ntmps102, List.size_toArray, List.length_cons, List.length_nil, Nat.reduceAdd, Nat.reduceSub, Array.replicate_succ, Array.replicate_zero, List.push_toArray, List.append_toArray, List.nil_append, List.cons_append]
  refine wpIn_wide.2 ?_
  have H0 := Lib.hid (EB.start s b w)
  have KF := Lib.hid (fun (W : World) => fit_c s b hm W)
  have KP := Lib.hid (fun (W : World) => payload_c s b W)
  go_upto_region 1 with fail
  generalize (((w.alloc (.cells emptyCells 96)).alloc (.cells #[.int .i64 s, .int .i64 b] 58)).alloc (.cells #[.int .i64 1] 3)) = w0 at *
  obtain ⟨c1, c2, c3⟩ := H0.out.cells
  go_wp2_with (first
    | (refine wpList_load_row rfl 96 (.tmp 3) rfl w.heap.size rfl _ emptyCells _ _ H0.out.st Tryz.underlying96 rfl sizeE' ?_)
    | (refine wpList_load_row rfl 96 (.tmp 3) rfl w.heap.size rfl _ emptyCells _ _ H1.out.st Tryz.underlying96 rfl sizeE' ?_)
    | (go_at_call 61; (with_reducible refine (KF.out _).mono ?_); rintro e w1 ⟨rfl, hb1⟩; have H1 := Lib.hid (H0.out.later hb1); have hc1 := H1.out.cells; obtain ⟨d1, d2, d3⟩ := hc1; clear hb1 c1 c2 c3)
    | (go_at_call 153; (with_reducible refine (KP.out _).mono ?_); rintro e w2 ⟨tv, rfl, ht⟩; obtain ⟨tg, tc, rfl, htc, hlt, htb, htb2⟩ := text_of ht; have H2 := Lib.hid (H1.out.later ht.below); have hc2 := H2.out.cells; obtain ⟨e1, e2, e3⟩ := hc2; have HTB := Lib.hid htb; have HTB2 := Lib.hid htb2; clear htb htb2; clear ht d1 d2 d3)
    | (go_at_call 154; (with_reducible refine (chunk_c _ _ _ _).mono ?_); rintro e w3 ⟨rfl, hw3'⟩; have HW3 := Lib.hid hw3'; clear hw3'))
  have hw3 := HW3.out
  have LB : Hid (w3.heap[w2.heap.size]? = some (.cells #[.slice none 0 0] 199 (0, 0))) := Lib.hid (by rw [hw3]; exact blk_old (blk_old (blk_new _ _ _) _) _)
  have cB1 : w3.cell? ⟨w2.heap.size + 1, 0, none⟩ = some (.slice (some ⟨tg, 0, none⟩) 16 tc) := by
    have := blk_new (w2.alloc (.cells #[.slice none 0 0] 199)) #[.slice (some ⟨tg, 0, none⟩) 16 tc] 22
    rw [sz_alloc] at this
    rw [hw3]
    exact blk_cell (blk_old this _) 0
  have cB2 : w3.cell? ⟨w2.heap.size + 1 + 1, 0, none⟩ = some (.int .i64 52) := by
    have := blk_new ((w2.alloc (.cells #[.slice none 0 0] 199)).alloc (.cells #[.slice (some ⟨tg, 0, none⟩) 16 tc] 22)) #[.int .i64 52] 3
    rw [sz_alloc, sz_alloc] at this
    rw [hw3]
    exact blk_cell this 0
  have hb3 : Below w2.heap.size w2 w3 := by
    rw [hw3]
    exact (((Below.refl _ _).alloc (Nat.le_refl _) _).alloc (by rw [sz_alloc]; omega) _).alloc (by rw [sz_alloc, sz_alloc]; omega) _
  have hs3 : w3.heap.size = w2.heap.size + 3 := by rw [hw3, sz_alloc, sz_alloc, sz_alloc]
  have H3 := Lib.hid (H2.out.later hb3)
  have HT3 := Lib.hid (HTB.out.step (Step.of hb3 (Nat.zero_le _)))
  have HT4 := Lib.hid (HTB2.out.step (Step.of hb3 (Nat.zero_le _)))
  obtain ⟨L, hL⟩ : ∃ L, w2.heap.size = L := ⟨_, rfl⟩
  rw [hL] at hs3 cB1 cB2 LB ⊢
  have hLl : L < w3.heap.size := by omega
  clear hw3 HW3 e1 e2 e3 KF KP HTB HTB2 hb3
  go_wp2_with (fail)
  refine (wpIn_wide (n := 5)).1 ?_
  refine' wpIn_rangeFunc_ownG (n := 5) rfl (by decide) (gf := 207) (lb := #[.pointer (some ⟨L + 1, 0, none⟩), .pointer (some ⟨L + 1 + 1, 0, none⟩)]) rfl trivial (enters_of Tryz.func207 (by kernel_rfl) rfl)
    (chunk_stops 4 (by decide) (L + 1) (L + 1 + 1) tg tc htc w3 cB1 cB2) (fun h k => Kp2.trans h k) (fun W l o o' hl h _ _ => ⟨World.putObj_heap_other (by omega), World.putObj_heap_other (by omega)⟩) (Below.refl _ _) (fun _ => rfl)
    (Rnd L w3) (fun _ _ _ => False) (Rnd.own L w3) (fun _ _ _ _ _ hs _ _ => hs) ?h0 _ ?assign ?body ?done ?stop
  case h0 => exact ⟨⟨rfl, rfl, rfl, Nat.le_refl _, fun _ _ _ => rfl⟩, .inl rfl⟩
  case assign =>
    intro l x W K hK
    gi_wp2
    exact hK
  case body =>
    rintro l pre x W ⟨hKr, _⟩ hlen
    obtain rfl : pre = [] := List.eq_nil_of_length_eq_zero (by omega)
    have hk3 : ∀ (k : Nat) obj, w3.heap[k]? = some obj → W.heap[k]? = some obj := fun k obj h => (hKr.block k (lt_of_block h) (fun _ => rfl)).trans h
    have hb3 : Below w3.heap.size w3 W := ⟨hKr.os, hKr.tape, hKr.output, hKr.size, fun k hk => hKr.block k hk (fun _ => rfl)⟩
    gi_wp2
    refine region_eq (ops := r10) (by kernel_rfl) ?_
    refine wpIn_region_each (T10 L W.drew.heap.size (.slice (some ⟨tg, 0, none⟩) 16 16)) (fun P w => Kr L W.drew (¬ P 15) w) (by kernel_rfl) ?_ (by kernel_rfl) (by kernel_rfl) ⟨rfl, rfl, rfl, Nat.le_refl _, fun _ _ _ => rfl⟩
      (owes10 L (w.heap.size + 1 + 1) tg W.drew _ rfl rfl rfl (hk3 _ _ LB.out) (hk3 _ _ H3.out.sq) ?_ (HT3.out.step (Step.of hb3.drew (Nat.zero_le _))) ?_ ?_) ?_
    · rintro ⟨_, _, h⟩
      exact h
    · have := lt_of_block H2.out.sq
      omega
    · omega
    · show tg < W.heap.size
      have := hb3.size
      omega
    · intro P a' w' hall hF hS hT
      obtain ⟨v, _, g, cap, cs, u, q1, q2, q3, q4, q5, q6⟩ := hT 15 _ (Array.getElem?_eq_getElem (by rw [show r10.size = 16 from by kernel_rfl]; decide))
      have hke : ∀ k, k < w3.heap.size → k ≠ L → w'.heap[k]? = W.heap[k]? := fun k hk hne => hS.block k (Nat.lt_of_lt_of_le hk hKr.size) (fun e => absurd e hne)
      refine ⟨⟨hS.size, fun k o hkB ho hnc => (hS.block k (lt_of_block ho) (fun e => ?_)).trans ho⟩, ⟨hke _ (by omega) (by omega), hke _ (by omega) (by omega)⟩, ⟨hS.os.trans hKr.os, hS.tape.trans hKr.tape, hS.output.trans hKr.output, Nat.le_trans hKr.size hS.size, fun k hk hne => ?_⟩, .inr ⟨rfl, g, cap, cs, u, q1, q2, Nat.le_trans hKr.size q3, q4, q5, ?_⟩⟩
      · omega
      · exact (hke k hk (fun e => by have := hne e; cases this)).trans (hKr.block k hk (fun _ => by trivial))
      · obtain ⟨g2, cs2, r1, r2, r3⟩ := q6
        exact ⟨g2, cs2, r1, Nat.le_trans hKr.size r2, r3⟩
  case done =>
    rintro D ys W hD rfl ⟨hKr, hR⟩ hK
    obtain ⟨_, lg, lc, lcs, u1, hX, hlc, hlg, hlcs, hu1, hsec⟩ := hR.resolve_left (by simp)
    have hk3 : ∀ (k : Nat) obj, k ≠ L → w3.heap[k]? = some obj → W.heap[k]? = some obj := fun k obj hne h => (hKr.block k (lt_of_block h) (fun e => absurd e hne)).trans h
    have hDl := lt_of_block hK
    have e1 := H3.out.sq
    have e2 := H3.out.pl
    have e3 := lt_of_block H2.out.sq
    go_wp2_with (fail)
    refine region_eq' (ops := r11) (by kernel_rfl) ?_
    refine wp_region_each (T11 W.drew.heap.size (w.heap.size + 1) s b (.slice (some ⟨lg, 0, none⟩) 1 lc) (.slice (some ⟨tg, 0, none⟩) 16 tc)) (fun _ w' => Kr W.drew.heap.size W.drew True w') (by kernel_rfl) (by kernel_rfl) ⟨rfl, rfl, rfl, Nat.le_refl _, fun _ _ _ => rfl⟩
      (owes11 L (w.heap.size + 1 + 1) (w.heap.size + 1) lg lc tg tc s b hm W.drew _ rfl rfl rfl rfl hX (hk3 _ _ (by omega) e1) (hk3 _ _ (by omega) e2)) ?_
    intro P1 a1 w4 hall1 hF1 hS1 hT1
    obtain ⟨v12, e12, h12⟩ := hT1 17 _ (Array.getElem?_eq_getElem (by rw [show r11.size = 18 from by kernel_rfl]; decide))
    have h10 := slot' hF1 (k := 10) (by kernel_rfl) rfl
    have h9 := slot' hF1 (k := 9) (by kernel_rfl) rfl
    have hd1 := hF1.defers
    go_wp2_with (fail)
    refine region_eq' (ops := r12) (by kernel_rfl) ?_
    refine wp_region_each (T12 W.drew.heap.size s b (.slice (some ⟨lg, 0, none⟩) 1 lc) (.slice (some ⟨tg, 0, none⟩) 16 tc)) (fun P w' => Kr W.drew.heap.size W.drew True w' ∧ (¬ P 5 → w'.ownsRow W.drew.heap.size 5 1 v12 (head9 s b).length (byteVals (head9 s b)))) (by kernel_rfl) (by rw [hF1.size]; kernel_rfl) ⟨⟨hS1.os, hS1.tape, hS1.output, hS1.size, hS1.block⟩, fun _ => h12⟩
      (owes12 L lg lc tg tc lcs u1 s b W.drew v12 a1 h10 h9 e12 hX hlcs hu1 (secB_zero hsec) (bytes_same HT4.out (hKr.block tg (by omega) (fun e => absurd e (by omega))))) ?_
    intro P2 a2 w5 hall2 hF2 hS2 hT2
    obtain ⟨v6, e6, h6⟩ := hT2 10 _ (Array.getElem?_eq_getElem (by rw [show r12.size = 12 from by kernel_rfl]; decide))
    obtain ⟨v7, e7, h7⟩ := hT2 11 _ (Array.getElem?_eq_getElem (by rw [show r12.size = 12 from by kernel_rfl]; decide))
    have hd2 := hF2.defers
    have e6' : a2.tmps[6]? = some v6 := e6
    have e7' : a2.tmps[7]? = some v7 := e7
    go_wp2_with (fail)
    have hK5 : w5.heap[D]? = some (.deferred (some [])) := (hS2.1.block D (lt_of_block (w := W) hK) (fun _ => trivial)).trans hK
    have hdd : a2.defers = [{ target := .collected D, args := #[] }] := hd2.trans hd1
    show LeavesInM _ _ _ _ a2.tmps _ a2.defers _ w5
    rw [hdd]
    refine ⟨by simp, .inl ⟨_, _, rfl, run_takeDeferred hK5, ?_⟩⟩
    have hv7 : v7 = .int .i64 0 := h7
    subst hv7
    have hP : PagesP (closeL (headL s b)) (closeL leafL) v6 w5 := h6
    refine ⟨.tuple #[v6, .int .i64 0], ?_, v6, rfl, pages_kept hP fun g cs t hg => (World.putObj_heap_other (fun e => ?_)).trans hg, ?_⟩
    · simp [results, Tryz.results102, go_sem, e6', e7']
    · rw [e, hK5] at hg
      cases hg
    · have hw3 := H3.out.below
      have hle := hw3.size
      have hw := lt_of_block H2.out.sq
      refine ⟨hS2.1.os.trans (hKr.os.trans hw3.os), hS2.1.tape.trans (hKr.tape.trans hw3.tape), hS2.1.output.trans (hKr.output.trans hw3.output), ?_, fun k hk => ?_⟩
      · have h1 := hKr.size
        have h2 := hS2.1.size
        exact Nat.le_trans hle (Nat.le_trans h1 (Nat.le_trans h2 (grownBy_putObj' w5 D _).size))
      · rw [World.putObj_heap_other (by omega), hS2.1.block k (show k < W.heap.size by have := hKr.size; omega) (fun _ => trivial)]
        exact (hKr.block k (by omega) (fun e => by omega)).trans (hw3.block k hk)
  case stop =>
    rintro D c pre W _ _ h _
    exact h.elim
end Go.Proofs.YtjohhjdicbeojaaGreatDoor.Sh
namespace Go.Proofs.YtjohhjdicbeojaaGreatDoor.Si
open Go.RowKit Go.Proofs.YtjohhjdicbeojaaGreatDoor.Ra Go.Proofs.YtjohhjdicbeojaaGreatDoor.Rb Go.Proofs.YtjohhjdicbeojaaGreatDoor.Rc Go.Proofs.YtjohhjdicbeojaaGreatDoor.Rd Go.Proofs.YtjohhjdicbeojaaGreatDoor.Re Go.Proofs.YtjohhjdicbeojaaGreatDoor.Rj Go.Proofs.YtjohhjdicbeojaaGreatDoor.Rl Go.Proofs.YtjohhjdicbeojaaGreatDoor.Rn Go.Proofs.YtjohhjdicbeojaaGreatDoor.Rp Go.Proofs.YtjohhjdicbeojaaGreatDoor.Rq Go.Proofs.YtjohhjdicbeojaaGreatDoor.Ru Go.Proofs.YtjohhjdicbeojaaGreatDoor.Rv Go.Proofs.YtjohhjdicbeojaaGreatDoor.Rw Go.Proofs.YtjohhjdicbeojaaGreatDoor.Rx Go.Proofs.YtjohhjdicbeojaaGreatDoor.Sf Go.Proofs.YtjohhjdicbeojaaGreatDoor.Sg Go.Proofs.YtjohhjdicbeojaaGreatDoor.Sh
set_option maxRecDepth 8000
/-- A good header of a geometry. -/
structure Head (s b : Int) (l : List UInt8) : Prop where
  len : l.length = 64
  shut : closeL (l.take 60) = l
  mag : (l.take 60).take 4 = slatL
  n0 : numOf 0 (((l.take 60).drop 4).take 4) = 1
  n1 : numOf 0 (((l.take 60).drop 8).take 1) = s
  n2 : numOf 0 (((l.take 60).drop 9).take 1) = b
  n3 : numOf 0 (((l.take 60).drop 10).take 1) = 1
  n4 : numOf 0 (((l.take 60).drop 11).take 2) = 16
set_option maxHeartbeats 4000000 in
theorem read_good (v : Value) (s b : Int) (l : List UInt8) (w : World) (hv : BytesIn 0 w v l) (hh : Head s b l) :
    Calls Tryz.prog 159 #[v] w fun e w' => e = .returned (.tuple #[.agg #[.int .i64 1, .int .i64 s, .int .i64 b, .int .i64 1, .int .i64 16], .bool true]) ∧ Below w.heap.size w w' := by
  have S1 : Step 0 w (w.alloc (.cells #[.int .i64 0, .int .i64 0, .int .i64 0, .int .i64 0, .int .i64 0] 267)) := (Step.refl 0 w).alloc (Nat.zero_le _) _
  have K := Lib.hid (open_ok 0 v l _ (Nat.zero_le _) (hv.step S1) hh.len hh.shut)
  have hb0 := blk_new w #[.int .i64 0, .int .i64 0, .int .i64 0, .int .i64 0, .int .i64 0] 267
  have H0 : Hid ((w.alloc (.cells #[.int .i64 0, .int .i64 0, .int .i64 0, .int .i64 0, .int .i64 0] 267)).heap[w.heap.size]? = some (.cells #[.int .i64 0, .int .i64 0, .int .i64 0, .int .i64 0, .int .i64 0] 267 (0, 0)) ∧ Below w.heap.size w (w.alloc (.cells #[.int .i64 0, .int .i64 0, .int .i64 0, .int .i64 0, .int .i64 0] 267))) := Lib.hid ⟨hb0, (Below.refl _ _).alloc (Nat.le_refl _) _⟩
  have HH := Lib.hid hh
  have HL : Hid ((l.take 60).length = 60) := Lib.hid (by rw [List.length_take, hh.len]; rfl)
  clear hb0 S1
  obtain ⟨p, c, rfl, _⟩ := hv.form
  clear hv
  rw [hh.len] at K ⊢
  clear hh
  go_enter Tryz.func159, Tryz.ntmps159
  go_upto_region 1 with fail
  generalize (w.alloc (.cells #[.int .i64 0, .int .i64 0, .int .i64 0, .int .i64 0, .int .i64 0] 267)) = w0 at *
  go_upto_region 2 with (go_at_call 160; (with_reducible refine K.out.mono ?_); rintro e w1 ⟨v1, rfl, hn1⟩; have hr1 := hn1.row; rw [HL.out] at hr1; obtain ⟨g, c1, rfl, hg1, hg2⟩ := hr1.form (by decide); have HN1 := Lib.hid hn1; clear hn1 hr1)
  have hw2 : ∃ W, W = w1.alloc (.cells #[.slice (some ⟨g, 0, none⟩) 60 c1] 22) := ⟨_, rfl⟩
  obtain ⟨w2, hw2⟩ := hw2
  have hbox : w2.heap[w1.heap.size]? = some (.cells #[.slice (some ⟨g, 0, none⟩) 60 c1] 22 (0, 0)) := by rw [hw2]; exact blk_new _ _ _
  have hbl : Below w1.heap.size w1 w2 := by rw [hw2]; exact (Below.refl _ _).alloc (Nat.le_refl _) _
  have hby : BytesIn 0 w2 (.slice (some ⟨g, 0, none⟩) 60 c1) (l.take 60) := by
    have : BytesIn 0 w1 (.slice (some ⟨g, 0, none⟩) 60 c1) (l.take 60) := HN1.out.bytes
    exact this.step (Step.of hbl (Nat.zero_le _))
  have cbox : w2.cell? ⟨w1.heap.size, 0, none⟩ = some (.slice (some ⟨g, 0, none⟩) 60 c1) := blk_cell hbox 0
  have hc60 : 60 ≤ c1 := by
    obtain ⟨_, _, e, hcap, _⟩ := hby
    injection e with _ _ e3
    rw [e3, ← HL.out]
    exact hcap
  have h4 : BytesIn 0 w2 (.slice (some ⟨g, 0, none⟩) 4 c1) slatL := by
    have := hby.cut 0 4 (by decide) (by rw [HL.out]; decide) (some ⟨g, 0, none⟩) c1 (by omega) (fun b o e _ => by rw [Nat.add_zero]; exact e)
    rw [List.drop_zero, HH.out.mag] at this
    exact this
  have hconv := conv_in h4
  have KR : ∀ a k : Nat, 1 ≤ k ∧ k ≤ 4 → a + k ≤ 60 → Calls Tryz.prog 211 #[.int .i64 (a : Int), .int .i64 (k : Int), .pointer (some ⟨w1.heap.size, 0, none⟩)] w2 fun e w' => e = .returned (.int .i64 (numOf 0 (((l.take 60).drop a).take k))) ∧ w2 = w' := fun a k hk hak => by
    refine read1_c 0 w1.heap.size (some ⟨g, 0, none⟩) c1 (l.take 60) a k w2 ?_ ?_ hk (by rw [HL.out]; exact hak) (by rw [HL.out]; decide)
    · rw [HL.out]; exact cbox
    · rw [HL.out]; exact hby
  have k0 := KR 4 4 (by decide) (by decide)
  have k1 := KR 8 1 (by decide) (by decide)
  have k2 := KR 9 1 (by decide) (by decide)
  have k3 := KR 10 1 (by decide) (by decide)
  have k4 := KR 11 2 (by decide) (by decide)
  rw [HH.out.n0, show ((4 : Nat) : Int) = 4 from rfl] at k0
  rw [HH.out.n1, show ((8 : Nat) : Int) = 8 from rfl, show ((1 : Nat) : Int) = 1 from rfl] at k1
  rw [HH.out.n2, show ((9 : Nat) : Int) = 9 from rfl, show ((1 : Nat) : Int) = 1 from rfl] at k2
  rw [HH.out.n3, show ((10 : Nat) : Int) = 10 from rfl, show ((1 : Nat) : Int) = 1 from rfl] at k3
  rw [HH.out.n4, show ((11 : Nat) : Int) = 11 from rfl, show ((2 : Nat) : Int) = 2 from rfl] at k4
  have K0 := Lib.hid k0
  have K1 := Lib.hid k1
  have K2 := Lib.hid k2
  have K3 := Lib.hid k3
  have K4 := Lib.hid k4
  have H2 : Hid (w2.heap[w.heap.size]? = some (.cells #[.int .i64 0, .int .i64 0, .int .i64 0, .int .i64 0, .int .i64 0] 267 (0, 0)) ∧ Below w.heap.size w w2) := Lib.hid ⟨blk_below (blk_below H0.out.1 HN1.out.below (lt_of_block H0.out.1)) hbl (lt_of_block (blk_below H0.out.1 HN1.out.below (lt_of_block H0.out.1))), H0.out.2.trans ((HN1.out.below.mono H0.out.2.size).trans (hbl.mono (Nat.le_trans H0.out.2.size HN1.out.below.size)))⟩
  rw [← hw2]
  clear hw2 KR k0 k1 k2 k3 k4 hby h4 hbl HN1 K
  go_upto_region 6 with (first
    | (go_at_call 211; (with_reducible refine K0.out.mono ?_); rintro e w3 ⟨rfl, rfl⟩)
    | (go_at_call 211; (with_reducible refine K1.out.mono ?_); rintro e w3 ⟨rfl, rfl⟩)
    | (go_at_call 211; (with_reducible refine K2.out.mono ?_); rintro e w3 ⟨rfl, rfl⟩)
    | (go_at_call 211; (with_reducible refine K3.out.mono ?_); rintro e w3 ⟨rfl, rfl⟩)
    | (go_at_call 211; (with_reducible refine K4.out.mono ?_); rintro e w3 ⟨rfl, rfl⟩))
  obtain ⟨w3, hw3⟩ : ∃ W, W = w2.alloc (.cells #[.int .i64 1, .int .i64 s, .int .i64 b, .int .i64 1, .int .i64 16] 267) := ⟨_, rfl⟩
  have hn7 : w3.heap[w2.heap.size]? = some (.cells #[.int .i64 1, .int .i64 s, .int .i64 b, .int .i64 1, .int .i64 16] 267 (0, 0)) := by rw [hw3]; exact blk_new _ _ _
  have hk2 : w3.heap[w.heap.size]? = some (.cells #[.int .i64 0, .int .i64 0, .int .i64 0, .int .i64 0, .int .i64 0] 267 (0, 0)) := by rw [hw3]; exact blk_old H2.out.1 _
  have hne : w.heap.size ≠ w2.heap.size := Nat.ne_of_lt (lt_of_block H2.out.1)
  have hne' : w2.heap.size ≠ w.heap.size := fun e => hne e.symm
  have H3 : Hid (Below w.heap.size w w3) := Lib.hid (by rw [hw3]; exact H2.out.2.alloc H2.out.2.size _)
  rw [← hw3]
  clear hw3
  have HK2 := Lib.hid hk2
  have HN7 := Lib.hid hn7
  have c0 : w3.cell? ⟨w.heap.size, 0, none⟩ = some (.int .i64 0) := blk_cell hk2 0
  have c1 : w3.cell? ⟨w.heap.size, 1, none⟩ = some (.int .i64 0) := blk_cell hk2 1
  have c2 : w3.cell? ⟨w.heap.size, 2, none⟩ = some (.int .i64 0) := blk_cell hk2 2
  have c3 : w3.cell? ⟨w.heap.size, 3, none⟩ = some (.int .i64 0) := blk_cell hk2 3
  have c4 : w3.cell? ⟨w.heap.size, 4, none⟩ = some (.int .i64 0) := blk_cell hk2 4
  have f0 : w3.frozen? ⟨w.heap.size, 0, none⟩ = false := blk_free hk2 0
  have f1 : w3.frozen? ⟨w.heap.size, 1, none⟩ = false := blk_free hk2 1
  have f2 : w3.frozen? ⟨w.heap.size, 2, none⟩ = false := blk_free hk2 2
  have f3 : w3.frozen? ⟨w.heap.size, 3, none⟩ = false := blk_free hk2 3
  have f4 : w3.frozen? ⟨w.heap.size, 4, none⟩ = false := blk_free hk2 4
  have g0 : w3.cell? ⟨w2.heap.size, 0, none⟩ = some (.int .i64 1) := blk_cell hn7 0
  have g1 : w3.cell? ⟨w2.heap.size, 1, none⟩ = some (.int .i64 s) := blk_cell hn7 1
  have g2 : w3.cell? ⟨w2.heap.size, 2, none⟩ = some (.int .i64 b) := blk_cell hn7 2
  have g3 : w3.cell? ⟨w2.heap.size, 3, none⟩ = some (.int .i64 1) := blk_cell hn7 3
  have g4 : w3.cell? ⟨w2.heap.size, 4, none⟩ = some (.int .i64 16) := blk_cell hn7 4
  have hX : w.heap.size < w3.heap.size := lt_of_block hk2
  clear hk2 hn7 HN7 H2 H0 hconv cbox hbox
  go_region_held3 (fun W => W.cell? ⟨w2.heap.size, 0, none⟩ = some (.int .i64 1) ∧ W.cell? ⟨w2.heap.size, 1, none⟩ = some (.int .i64 s) ∧ W.cell? ⟨w2.heap.size, 2, none⟩ = some (.int .i64 b) ∧ W.cell? ⟨w2.heap.size, 3, none⟩ = some (.int .i64 1) ∧ W.cell? ⟨w2.heap.size, 4, none⟩ = some (.int .i64 16)) (go_keep) (fail)
  go_wp2_with (fail)
  have hs0 := blk_set HK2.out 0 (.int .i64 1)
  have hs1 := blk_set hs0 1 (.int .i64 s)
  have hs2 := blk_set hs1 2 (.int .i64 b)
  have hs3 := blk_set hs2 3 (.int .i64 1)
  have hs4 := blk_set hs3 4 (.int .i64 16)
  have BF := (((((H3.out.setCell (p := ⟨w.heap.size, 0, none⟩) (Nat.le_refl _) (.int .i64 1)).setCell (p := ⟨w.heap.size, 1, none⟩) (Nat.le_refl _) (.int .i64 s)).setCell (p := ⟨w.heap.size, 2, none⟩) (Nat.le_refl _) (.int .i64 b)).setCell (p := ⟨w.heap.size, 3, none⟩) (Nat.le_refl _) (.int .i64 1)).setCell (p := ⟨w.heap.size, 4, none⟩) (Nat.le_refl _) (.int .i64 16)).drew
  refine bodyPost_ret (results_cell_one rfl _ _ w.heap.size _ _ _ _ rfl hs4 Tryz.underlying267 rfl (by kernel_rfl)) rfl ?_
  exact ⟨rfl, BF⟩
set_option maxHeartbeats 2000000 in
theorem count_good (v : Value) (s b : Int) (l : List UInt8) (w : World) (hv : BytesIn 0 w v l) (hh : Head s b l) :
    Calls Tryz.prog 158 #[v] w fun e w' => e = .returned (.tuple #[.int .i64 1, .int .i64 1, .int .i64 0]) ∧ Below w.heap.size w w' := by
  have K := Lib.hid (read_good v s b l w hv hh)
  obtain ⟨p, c, rfl, _⟩ := hv.form
  clear hv
  rw [hh.len] at K ⊢
  clear hh
  go_enter Tryz.func158, Tryz.ntmps158
  go_wp2_with (go_at_call 159; (with_reducible refine K.out.mono ?_); rintro e w1 ⟨rfl, hb1⟩; have HB1 := Lib.hid hb1; clear hb1)
  obtain ⟨w2, hw2⟩ : ∃ W, W = w1.alloc (.cells #[.int .i64 1, .int .i64 s, .int .i64 b, .int .i64 1, .int .i64 16] 267) := ⟨_, rfl⟩
  have hb := blk_new w1 #[.int .i64 1, .int .i64 s, .int .i64 b, .int .i64 1, .int .i64 16] 267
  rw [← hw2] at hb ⊢
  have g0 : w2.cell? ⟨w1.heap.size, 0, none⟩ = some (.int .i64 1) := blk_cell hb 0
  have g3 : w2.cell? ⟨w1.heap.size, 3, none⟩ = some (.int .i64 1) := blk_cell hb 3
  have H2 : Hid (Below w.heap.size w w2) := Lib.hid (by rw [hw2]; exact HB1.out.alloc HB1.out.size _)
  clear hw2 hb
  go_quiet (fail)
  go_wp2_with (fail)
  refine bodyPost_ret (v := .tuple #[.int .i64 1, .int .i64 1, .int .i64 0]) (by simp [results, Tryz.results158, go_sem]) rfl ⟨rfl, ?_⟩
  exact below_drewN H2.out _
end Go.Proofs.YtjohhjdicbeojaaGreatDoor.Si
namespace Go.Proofs.YtjohhjdicbeojaaGreatDoor.Sj
open Go.RowKit Go.Proofs.YtjohhjdicbeojaaGreatDoor.Ra Go.Proofs.YtjohhjdicbeojaaGreatDoor.Rb Go.Proofs.YtjohhjdicbeojaaGreatDoor.Rc Go.Proofs.YtjohhjdicbeojaaGreatDoor.Rd Go.Proofs.YtjohhjdicbeojaaGreatDoor.Re Go.Proofs.YtjohhjdicbeojaaGreatDoor.Rl Go.Proofs.YtjohhjdicbeojaaGreatDoor.Sf Go.Proofs.YtjohhjdicbeojaaGreatDoor.Sg Go.Proofs.YtjohhjdicbeojaaGreatDoor.Si
set_option maxRecDepth 8000
theorem take60 (x : List UInt8) (h : x.length ≤ 60) : (closeL x).take 60 = padL x := by
  unfold closeL
  exact List.take_left' (padL_len x h)
theorem pad_pad (x : List UInt8) (h : x.length ≤ 60) : padL (padL x) = padL x := by
  have := padL_len x h
  show padL x ++ List.replicate (60 - (padL x).length) 0 = padL x
  rw [this]
  simp
theorem close_shut (x : List UInt8) (h : x.length ≤ 60) : closeL ((closeL x).take 60) = closeL x := by
  rw [take60 x h]
  show padL (padL x) ++ sum4 (sumL (padL (padL x))) = _
  rw [pad_pad x h]
  rfl
/-- One byte. -/
def by1 (x : Int) : UInt8 := UInt8.ofNat x.toNat
theorem by1_nat (x : Int) (h : 0 ≤ x ∧ x < 256) : ((by1 x).toNat : Int) = x := by
  unfold by1
  rw [UInt8.toNat_ofNat']
  omega
theorem headL_is (s b : Int) : ∃ t, headL s b = 83 :: 76 :: 65 :: 84 :: 0 :: 0 :: 0 :: 1 :: by1 s :: by1 b :: 1 :: 0 :: 16 :: t := by
  refine ⟨rowL 4 [sumL (List.replicate 16 0)], ?_⟩
  have e1 : rowL 4 [1] = [0, 0, 0, 1] := by decide
  have e2 : rowL 2 [16] = [0, 16] := by decide
  have e3 : rowL 1 [s, b, 1] = [by1 s, by1 b, 1] := by
    unfold rowL
    simp only [List.flatMap_cons, List.flatMap_nil, beL, Int.pow_zero, Int.ediv_one, List.cons_append, List.nil_append]
    rfl
  unfold headL head9 head7 head4 slatL
  rw [e1, e2, e3]
  rfl
theorem head_good (s b : Int) (hm : MayP s b) : Head s b (closeL (headL s b)) := by
  have hl : (headL s b).length ≤ 60 := by rw [headL_len]; decide
  obtain ⟨h1, h2, h3, h4⟩ := hm
  have hs := by1_nat s ⟨by omega, by omega⟩
  have hb := by1_nat b ⟨by omega, by omega⟩
  obtain ⟨t, ht⟩ := headL_is s b
  have hp : padL (headL s b) = 83 :: 76 :: 65 :: 84 :: 0 :: 0 :: 0 :: 1 :: by1 s :: by1 b :: 1 :: 0 :: 16 :: (t ++ List.replicate (60 - (headL s b).length) 0) := by
    unfold padL
    conv => lhs; arg 1; rw [ht]
    rfl
  refine ⟨closeL_len _ hl, close_shut _ hl, ?_, ?_, ?_, ?_, ?_, ?_⟩ <;> rw [take60 _ hl, hp]
  · rfl
  · rfl
  · show 0 * 256 + ((by1 s).toNat : Int) = s
    omega
  · show 0 * 256 + ((by1 b).toNat : Int) = b
    omega
  · rfl
  · rfl
theorem leaf_shut : closeL ((closeL leafL).take 60) = closeL leafL := close_shut _ (by decide)
theorem leaf_60 : (closeL leafL).take 60 = padL leafL := take60 _ (by decide)
theorem leaf_len : (closeL leafL).length = 64 := closeL_len _ (by decide)
theorem headc_len (s b : Int) : (closeL (headL s b)).length = 64 := closeL_len _ (by rw [headL_len]; decide)
end Go.Proofs.YtjohhjdicbeojaaGreatDoor.Sj
namespace Go.Proofs.YtjohhjdicbeojaaGreatDoor.Sk
open Go.RowKit Go.Proofs.YtjohhjdicbeojaaGreatDoor.Ra Go.Proofs.YtjohhjdicbeojaaGreatDoor.Rc Go.Proofs.YtjohhjdicbeojaaGreatDoor.Rd Go.Proofs.YtjohhjdicbeojaaGreatDoor.Re Go.Proofs.YtjohhjdicbeojaaGreatDoor.Rj Go.Proofs.YtjohhjdicbeojaaGreatDoor.Rl Go.Proofs.YtjohhjdicbeojaaGreatDoor.Sf Go.Proofs.YtjohhjdicbeojaaGreatDoor.Sg
set_option maxRecDepth 8000
set_option maxHeartbeats 4000000 in
theorem eq_c (v u : Value) (l : List UInt8) (w : World) (hv : BytesIn 0 w v l) (hu : BytesIn 0 w u l) (hl : l.length ≤ 1000000) :
    Calls Tryz.prog 163 #[v, u] w fun e w' => e = .returned (.bool true) ∧ Below w.heap.size w w' := by
  obtain ⟨p, c, rfl, hcap, hp⟩ := hv
  obtain ⟨q, d, rfl, hcaq, hq⟩ := hu
  have HP := Lib.hid hp
  have HQ := Lib.hid hq
  clear hp hcap hq hcaq
  obtain ⟨N, hN⟩ : ∃ N, N = l.length := ⟨_, rfl⟩
  rw [← hN] at hl ⊢
  have HN := Lib.hid hN
  clear hN
  go_enter Tryz.func163, Tryz.ntmps163
  go_wp2
  go_loopg [5, 13] (N + 1) (fun gg _ s13 wr => ∃ k : Nat, k ≤ N ∧ N - k < gg ∧ s13 = .int .i64 (k : Int) ∧ Hid (Below w.heap.size w wr))
  case atStart => exact ⟨0, by omega, by omega, rfl, Lib.hid (Below.refl _ _)⟩
  case round =>
    obtain ⟨k, hk, hgg, rfl, HB⟩ := hrel
    by_cases h : k < N
    · have hil : (k : Int) < (N : Int) := by omega
      obtain ⟨y, hy⟩ : ∃ y, l[k]? = some y := ⟨_, List.getElem?_eq_getElem (by rw [← HN.out]; exact h)⟩
      have hne : l ≠ [] := fun e => by rw [e] at hy; cases hy
      obtain ⟨b, o, rfl, hlt, _, hc⟩ := HP.out hne
      obtain ⟨b2, o2, rfl, hlt2, _, hc2⟩ := HQ.out hne
      have cy : wr.cell? ⟨b, o + k, none⟩ = some (.int .u8 (y.toNat : Int)) := (HB.out.cell (p := ⟨b, o + k, none⟩) hlt).trans (hc k y hy)
      have cz : wr.cell? ⟨b2, o2 + k, none⟩ = some (.int .u8 (y.toNat : Int)) := (HB.out.cell (p := ⟨b2, o2 + k, none⟩) hlt2).trans (hc2 k y hy)
      clear hc hc2 hy
      generalize (y.toNat : Int) = yy at *
      go_wp2
      go_quiet (fail)
      have HB2 := Lib.hid (below_drewN HB.out nq)
      go_wp2
      go_roundg (N - (k + 1) + 1)
      case measure => omega
      case rel => exact ⟨k + 1, by omega, by omega, by go_num, HB2⟩
    · have hil : ¬ (k : Int) < (N : Int) := by omega
      obtain rfl : k = N := by omega
      go_wp2
      go_ret
      exact ⟨rfl, HB.out⟩
theorem pages_at {l0 l1 : List UInt8} {v : Value} {w : World} (h : PagesP l0 l1 v w) : ∃ g cap u0 u1, v = .slice (some ⟨g, 0, none⟩) 2 cap ∧ w.cell? ⟨g, 0, none⟩ = some u0 ∧ w.cell? ⟨g, 1, none⟩ = some u1 ∧ BytesIn 0 w u0 l0 ∧ BytesIn 0 w u1 l1 ∧ g < w.heap.size := by
  obtain ⟨g, cap, cs, u0, u1, h1, h2, h3, h4, h5, h6, h7⟩ := h
  exact ⟨g, cap, u0, u1, h1, (blk_cell h3 0).trans h4, (blk_cell h3 1).trans h5, h6.bytes, h7.bytes, lt_of_block h3⟩
set_option maxHeartbeats 4000000 in
theorem equals_c (v u : Value) (l0 l1 : List UInt8) (w : World) (hv : PagesP l0 l1 v w) (hu : PagesP l0 l1 u w) (hl0 : l0.length ≤ 1000000) (hl1 : l1.length ≤ 1000000) :
    Calls Tryz.prog 162 #[v, u, .func (.func 163) #[] #[]] w fun e w' => e = .returned (.bool true) ∧ Below w.heap.size w w' := by
  obtain ⟨g, cap, v0, v1, rfl, gv0, gv1, bv0, bv1, hg⟩ := pages_at hv
  obtain ⟨k, kap, u0, u1, rfl, gu0, gu1, bu0, bu1, hk⟩ := pages_at hu
  have KE := Lib.hid (fun (W : World) (hb : Below w.heap.size w W) => eq_c v0 u0 l0 W (bv0.step (Step.of hb (Nat.zero_le _))) (bu0.step (Step.of hb (Nat.zero_le _))) hl0)
  have KF := Lib.hid (fun (W : World) (hb : Below w.heap.size w W) => eq_c v1 u1 l1 W (bv1.step (Step.of hb (Nat.zero_le _))) (bu1.step (Step.of hb (Nat.zero_le _))) hl1)
  have CL := Lib.hid (fun (W : World) (hb : Below w.heap.size w W) => (⟨(hb.cell (p := ⟨g, 0, none⟩) hg).trans gv0, (hb.cell (p := ⟨g, 1, none⟩) hg).trans gv1, (hb.cell (p := ⟨k, 0, none⟩) hk).trans gu0, (hb.cell (p := ⟨k, 1, none⟩) hk).trans gu1⟩ : W.cell? ⟨g, 0, none⟩ = some v0 ∧ W.cell? ⟨g, 1, none⟩ = some v1 ∧ W.cell? ⟨k, 0, none⟩ = some u0 ∧ W.cell? ⟨k, 1, none⟩ = some u1))
  clear hv hu bv0 bv1 bu0 bu1 gv0 gv1 gu0 gu1
  go_enter Tryz.func162, Tryz.ntmps162
  go_wp2
  go_loopg [7, 8, 9, 17] (3) (fun gg _ _ _ s17 wr => ∃ j : Nat, j ≤ 2 ∧ 2 - j < gg ∧ s17 = .int .i64 (j : Int) ∧ Hid (Below w.heap.size w wr))
  case atStart => exact ⟨0, by omega, by omega, rfl, Lib.hid (Below.refl _ _)⟩
  case round =>
    obtain ⟨j, hj, hgg, rfl, HB⟩ := hrel
    obtain ⟨q0, q1, r0, r1⟩ := CL.out wr HB.out
    have hX := Nat.lt_of_lt_of_le hg HB.out.size
    obtain rfl | rfl | rfl : j = 0 ∨ j = 1 ∨ j = 2 := by omega
    · rw [show ((0 : Nat) : Int) = 0 from rfl]
      go_wp2_with (go_at_call 163; (with_reducible refine (KE.out _ HB.out).mono ?_); rintro e w5 ⟨rfl, hb5⟩; have HB2 := Lib.hid (HB.out.trans (hb5.mono HB.out.size)); clear hb5)
      go_roundg (2)
      case measure => omega
      case rel => exact ⟨1, by omega, by omega, by go_num, HB2⟩
    · rw [show ((1 : Nat) : Int) = 1 from rfl]
      go_wp2_with (go_at_call 163; (with_reducible refine (KF.out _ HB.out).mono ?_); rintro e w5 ⟨rfl, hb5⟩; have HB2 := Lib.hid (HB.out.trans (hb5.mono HB.out.size)); clear hb5)
      go_roundg (1)
      case measure => omega
      case rel => exact ⟨2, by omega, by omega, by go_num, HB2⟩
    · rw [show ((2 : Nat) : Int) = 2 from rfl]
      go_wp2
      go_ret
      exact ⟨rfl, HB.out⟩
end Go.Proofs.YtjohhjdicbeojaaGreatDoor.Sk
