/- slate.Load: no device; a device with one checkpoint. -/
import Derived.Test.YthhgageghkbjjaaGreatSp
namespace Go.Proofs.YthhgageghkbjjaaGreat.Sq
open Go.RowKit Go.Proofs.YthhgageghkbjjaaGreat.Ra Go.Proofs.YthhgageghkbjjaaGreat.Rc Go.Proofs.YthhgageghkbjjaaGreat.Re Go.Proofs.YthhgageghkbjjaaGreat.Rf Go.Proofs.YthhgageghkbjjaaGreat.Rg Go.Proofs.YthhgageghkbjjaaGreat.Ri Go.Proofs.YthhgageghkbjjaaGreat.Rj Go.Proofs.YthhgageghkbjjaaGreat.Rl Go.Proofs.YthhgageghkbjjaaGreat.Rn Go.Proofs.YthhgageghkbjjaaGreat.Ro Go.Proofs.YthhgageghkbjjaaGreat.Rp Go.Proofs.YthhgageghkbjjaaGreat.Rq Go.Proofs.YthhgageghkbjjaaGreat.Rz Go.Proofs.YthhgageghkbjjaaGreat.Sa Go.Proofs.YthhgageghkbjjaaGreat.Sd Go.Proofs.YthhgageghkbjjaaGreat.Se Go.Proofs.YthhgageghkbjjaaGreat.Sf Go.Proofs.YthhgageghkbjjaaGreat.Sg Go.Proofs.YthhgageghkbjjaaGreat.Si Go.Proofs.YthhgageghkbjjaaGreat.Sj Go.Proofs.YthhgageghkbjjaaGreat.Sm Go.Proofs.YthhgageghkbjjaaGreat.Sn Go.Proofs.YthhgageghkbjjaaGreat.So Go.Proofs.YthhgageghkbjjaaGreat.Sp
set_option maxRecDepth 8000

theorem AB.start (w : World) : AB w.heap.size (.int .i64 0) (.int .i64 0) w ((w.alloc (.cells emptyCells 30)).alloc (.cells #[.int .i64 0, .int .i64 0] 23)) := AB.of (Boxes.start 0 0 w)

set_option maxHeartbeats 4000000 in
theorem load_nil (w : World) : Calls Tryz.prog 18 #[.pointer none] w fun e w' => e = .returned (.tuple #[.agg emptyCells, .agg #[.int .i64 0, .int .i64 0], .int .i64 0, .int .i64 1]) ∧ Below w.heap.size w w' := by
  have H0 := Lib.hid (AB.start w)
  go_enter Tryz.func18, Tryz.ntmps18
  go_upto_region 1 with fail
  rw [show ((w.alloc (.cells #[.int .i64 0, .int .i64 0, .int .i64 0, .int .i64 0, .int .i64 0, .int .i64 0, .int .i64 0, .int .i64 0, .int .i64 0, .int .i64 0, .int .i64 0, .int .i64 0, .int .i64 0, .int .i64 0, .int .i64 0, .int .i64 0, .slice none 0 0, .slice none 0 0, .slice none 0 0, .slice none 0 0, .slice none 0 0, .slice none 0 0, .slice none 0 0, .slice none 0 0] 30)).alloc (.cells #[.int .i64 0, .int .i64 0] 23)) = ((w.alloc (.cells emptyCells 30)).alloc (.cells #[.int .i64 0, .int .i64 0] 23)) from rfl]
  generalize ((w.alloc (.cells emptyCells 30)).alloc (.cells #[.int .i64 0, .int .i64 0] 23)) = w0 at *
  go_wp2_with (fail)
  refine Sh.region_eq' (ops := rL2) (by kernel_rfl) ?_
  refine wp_region_each (TL2 (.int .i64 0) (.int .i64 0)) (fun _ W => AB w.heap.size (.int .i64 0) (.int .i64 0) w W) (by kernel_rfl) (by kernel_rfl) (H0.out.later (Below.refl _ _).drew)
    (owesL2 w.heap.size (.int .i64 0) (.int .i64 0) rfl rfl w (Nat.le_refl _) _ rfl rfl) ?_
  intro P a1 w1 hall hF hS hT
  obtain ⟨v4, q4, t4⟩ := hT 4 _ (Array.getElem?_eq_getElem (by rw [show rL2.size = 6 from by kernel_rfl]; decide))
  obtain ⟨v5, q5, t5⟩ := hT 5 _ (Array.getElem?_eq_getElem (by rw [show rL2.size = 6 from by kernel_rfl]; decide))
  have t4' : v4 = .int .i64 0 := t4
  have t5' : v5 = .int .i64 1 := t5
  subst t4' t5'
  have q4' : a1.tmps.getD 4 undef = .int .i64 0 := eval_at q4
  have q5' : a1.tmps.getD 5 undef = .int .i64 1 := eval_at q5
  have s2 := slot (k := 2) hF (by kernel_rfl) rfl
  have s3 := slot (k := 3) hF (by kernel_rfl) rfl
  have hd := hF.defers
  go_wp2_with (fail)
  refine bodyPost_ret (results_cells_four rfl _ w1 w.heap.size (w.heap.size + 1) _ _ _ _ _ _ _ _ s2 s3 hS.st hS.pl Tryz.underlying30 rfl sizeE' Tryz.underlying23 rfl (by kernel_rfl)) hd ?_
  rw [q4', q5']
  exact ⟨rfl, hS.below⟩

theorem store_new2 (W : World) (o : Obj) : (storeCells ⟨W.heap.size, 0, none⟩ emptyCells.toList 0).run Tryz.prog ((W.alloc (.cells #[.int .i64 0, .int .i64 0, .int .i64 0, .int .i64 0, .int .i64 0, .int .i64 0, .int .i64 0, .int .i64 0, .int .i64 0, .int .i64 0, .int .i64 0, .int .i64 0, .int .i64 0, .int .i64 0, .int .i64 0, .int .i64 0, .slice none 0 0, .slice none 0 0, .slice none 0 0, .slice none 0 0, .slice none 0 0, .slice none 0 0, .slice none 0 0, .slice none 0 0] 30)).alloc o) = .ok () ((W.alloc (.cells emptyCells 30)).alloc o) := by
  have hb := blk_old (blk_new W #[.int .i64 0, .int .i64 0, .int .i64 0, .int .i64 0, .int .i64 0, .int .i64 0, .int .i64 0, .int .i64 0, .int .i64 0, .int .i64 0, .int .i64 0, .int .i64 0, .int .i64 0, .int .i64 0, .int .i64 0, .int .i64 0, .slice none 0 0, .slice none 0 0, .slice none 0 0, .slice none 0 0, .slice none 0 0, .slice none 0 0, .slice none 0 0, .slice none 0 0] 30) o
  have h := run_storeCells_from (P := Tryz.prog) W.heap.size 30 emptyCells.toList 0 #[.int .i64 0, .int .i64 0, .int .i64 0, .int .i64 0, .int .i64 0, .int .i64 0, .int .i64 0, .int .i64 0, .int .i64 0, .int .i64 0, .int .i64 0, .int .i64 0, .int .i64 0, .int .i64 0, .int .i64 0, .int .i64 0, .slice none 0 0, .slice none 0 0, .slice none 0 0, .slice none 0 0, .slice none 0 0, .slice none 0 0, .slice none 0 0, .slice none 0 0] _ hb (by decide) (fun x hx => oneE' x hx)
  rw [h]
  have e : (w1 : Array Value) → w1 = #[.int .i64 0, .int .i64 0, .int .i64 0, .int .i64 0, .int .i64 0, .int .i64 0, .int .i64 0, .int .i64 0, .int .i64 0, .int .i64 0, .int .i64 0, .int .i64 0, .int .i64 0, .int .i64 0, .int .i64 0, .int .i64 0, .slice none 0 0, .slice none 0 0, .slice none 0 0, .slice none 0 0, .slice none 0 0, .slice none 0 0, .slice none 0 0, .slice none 0 0] → ((W.alloc (.cells #[.int .i64 0, .int .i64 0, .int .i64 0, .int .i64 0, .int .i64 0, .int .i64 0, .int .i64 0, .int .i64 0, .int .i64 0, .int .i64 0, .int .i64 0, .int .i64 0, .int .i64 0, .int .i64 0, .int .i64 0, .int .i64 0, .slice none 0 0, .slice none 0 0, .slice none 0 0, .slice none 0 0, .slice none 0 0, .slice none 0 0, .slice none 0 0, .slice none 0 0] 30)).alloc o).setRow W.heap.size w1 = (W.alloc (.cells #[.int .i64 0, .int .i64 0, .int .i64 0, .int .i64 0, .int .i64 0, .int .i64 0, .int .i64 0, .int .i64 0, .int .i64 0, .int .i64 0, .int .i64 0, .int .i64 0, .int .i64 0, .int .i64 0, .int .i64 0, .int .i64 0, .slice none 0 0, .slice none 0 0, .slice none 0 0, .slice none 0 0, .slice none 0 0, .slice none 0 0, .slice none 0 0, .slice none 0 0] 30)).alloc o := fun w1 h1 => by rw [h1]; exact setRow_self _ _ _ _ _ hb
  rw [e _ (by rfl)]
  rfl

/-- A device that was formatted. -/
structure Formed (s b : Int) (d : Dev) : Prop where
  off : d.off = false
  big : 40 ≤ d.n
  z0 : secL d.now 0 = List.replicate 64 0
  h12 : secL d.now 12 = closeL (headL s b)
  l13 : secL d.now 13 = closeL leafL
  z24 : secL d.now 24 = List.replicate 64 0

set_option maxHeartbeats 4000000 in
theorem load_c {B : Nat} {w : World} {D S N : Nat} {lv : Value} {d : Dev} {s b : Int} (hm : MayP s b) (h : DevAt B w D S N lv d) (hf : Formed s b d) :
    Calls Tryz.prog 18 #[.pointer (some ⟨D, 0, none⟩)] w fun e w' => e = .returned (.tuple #[.agg emptyCells, .agg #[.int .i64 s, .int .i64 b], .int .i64 1, .int .i64 0]) ∧ Below w.heap.size w w' := by
  have H0 := Lib.hid (AB.start w)
  have hn : 13 < d.n := by have := hf.big; omega
  have KP0 := Lib.hid (fun (W : World) (hb : Below w.heap.size w W) => pages_bad (h.later hb) hf.off hf.z0)
  have KP1 := Lib.hid (fun (W : World) (hb : Below w.heap.size w W) => by
    have k := pages_good (s := s) (b := b) (h.later hb) hf.off hn (by rw [hf.h12]; exact head_good s b hm)
    rw [hf.h12, hf.l13] at k
    exact k)
  have KD0 := Lib.hid (fun (W : World) => decode_nil W)
  have KD1 := Lib.hid (fun (W : World) (v : Value) (hv : PagesP (closeL (headL s b)) (closeL leafL) v W) => decode_c v s b hm W hv)
  clear h hf hm
  go_enter Tryz.func18, Tryz.ntmps18
  go_upto_region 1 with fail
  rw [show ((w.alloc (.cells #[.int .i64 0, .int .i64 0, .int .i64 0, .int .i64 0, .int .i64 0, .int .i64 0, .int .i64 0, .int .i64 0, .int .i64 0, .int .i64 0, .int .i64 0, .int .i64 0, .int .i64 0, .int .i64 0, .int .i64 0, .int .i64 0, .slice none 0 0, .slice none 0 0, .slice none 0 0, .slice none 0 0, .slice none 0 0, .slice none 0 0, .slice none 0 0, .slice none 0 0] 30)).alloc (.cells #[.int .i64 0, .int .i64 0] 23)) = ((w.alloc (.cells emptyCells 30)).alloc (.cells #[.int .i64 0, .int .i64 0] 23)) from rfl]
  generalize ((w.alloc (.cells emptyCells 30)).alloc (.cells #[.int .i64 0, .int .i64 0] 23)) = w0 at *
  go_wp2_with (fail)
  go_loopg [4, 17] (3) (fun gg s4 s17 wr => (gg = 3 ∧ s17 = .int .i64 0 ∧ s4 = .int .i64 0 ∧ Hid (AB w.heap.size (.int .i64 0) (.int .i64 0) w wr)) ∨ (gg = 2 ∧ s17 = .int .i64 1 ∧ s4 = .int .i64 0 ∧ Hid (AB w.heap.size (.int .i64 0) (.int .i64 0) w wr)) ∨ (gg = 1 ∧ s17 = .int .i64 2 ∧ s4 = .int .i64 1 ∧ Hid (AB w.heap.size (.int .i64 s) (.int .i64 b) w wr)))
  case atStart => exact .inl ⟨rfl, rfl, rfl, H0⟩
  case round =>
    have hst := store_new2
    rcases hrel with ⟨rfl, rfl, rfl, HR⟩ | ⟨rfl, rfl, rfl, HR⟩ | ⟨rfl, rfl, rfl, HR⟩
    · go_wp2_with (first
        | (go_at_call 38; (with_reducible refine (area_0 _).mono ?_); rintro e w3 ⟨rfl, rfl⟩)
        | (go_at_call 37; (with_reducible refine (KP0.out _ HR.out.below).mono ?_); rintro e w4 ⟨rfl, hb4⟩; have HR4 := Lib.hid (HR.out.later hb4); clear hb4)
        | (go_at_call 39; (with_reducible refine (KD0.out _).mono ?_); rintro e w5 ⟨rfl, hb5⟩; have HR5 := Lib.hid (HR4.out.later hb5); clear hb5))
      have HR6 : Hid (AB w.heap.size (.int .i64 0) (.int .i64 0) w ((w5.alloc (.cells emptyCells 30)).alloc (.cells #[.int .i64 0, .int .i64 0] 23))) := Lib.hid (HR5.out.later (((Below.refl _ _).alloc (Nat.le_refl _) _).alloc (by rw [sz_alloc]; omega) _))
      go_roundg (2)
      case measure => omega
      case rel => exact .inr (.inl ⟨rfl, by go_num, rfl, HR6⟩)
    · go_wp2_with (first
        | (go_at_call 38; (with_reducible refine (area_1 _).mono ?_); rintro e w3 ⟨rfl, rfl⟩)
        | (go_at_call 37; (with_reducible refine (KP1.out _ HR.out.below).mono ?_); rintro e w4 ⟨pv, rfl, hpv, hb4⟩; have HR4 := Lib.hid (HR.out.later hb4); have HPV := Lib.hid hpv; clear hb4 hpv)
        | (go_at_call 39; (with_reducible refine (KD1.out _ _ HPV.out).mono ?_); rintro e w5 ⟨rfl, hb5⟩; have HR5 := Lib.hid (HR4.out.later hb5); clear hb5))
      have hb6 : Below w5.heap.size w5 ((w5.alloc (.cells emptyCells 30)).alloc (.cells #[.int .i64 s, .int .i64 b] 23)) := ((Below.refl _ _).alloc (Nat.le_refl _) _).alloc (by rw [sz_alloc]; omega) _
      have hg6 := blk_old (blk_new w5 emptyCells 30) (.cells #[.int .i64 s, .int .i64 b] 23)
      have hh6 := blk_new (w5.alloc (.cells emptyCells 30)) #[.int .i64 s, .int .i64 b] 23
      rw [sz_alloc] at hh6
      have hA6 := lt_of_block HR5.out.pl
      generalize ((w5.alloc (.cells emptyCells 30)).alloc (.cells #[.int .i64 s, .int .i64 b] 23)) = w6 at *
      refine Sh.region_eq' (ops := rL11) (by kernel_rfl) ?_
      refine wp_region_each (TL11 (.int .i64 s) (.int .i64 b) (.int .i64 1)) (fun L W => (∃ x y, AB w.heap.size x y w W) ∧ (L 4 → AB w.heap.size (.int .i64 s) (.int .i64 b) w W) ∧ W.heap[w5.heap.size]? = some (.cells emptyCells 30 (0, 0)) ∧ W.heap[w5.heap.size + 1]? = some (.cells #[.int .i64 s, .int .i64 b] 23 (0, 0))) (by kernel_rfl) (by kernel_rfl)
        ⟨⟨_, _, HR5.out.later hb6.drew⟩, fun h => h.elim, hg6, hh6⟩
        (owesL11 w.heap.size w5.heap.size (w5.heap.size + 1) (.int .i64 s) (.int .i64 b) (.int .i64 1) rfl rfl w (Nat.le_refl _) (by omega) (by omega) (by omega) (by omega) _ rfl rfl rfl rfl rfl) ?_
      intro P a1 w7 hall hF ⟨_, hS5, _, _⟩ hT
      have HR7 := Lib.hid (hS5 (hall 4 (by rw [show rL11.size = 6 from by kernel_rfl]; decide)))
      obtain ⟨v0, q0, t0⟩ := hT 0 _ (Array.getElem?_eq_getElem (by rw [show rL11.size = 6 from by kernel_rfl]; decide))
      obtain ⟨v1, q1, t1⟩ := hT 1 _ (Array.getElem?_eq_getElem (by rw [show rL11.size = 6 from by kernel_rfl]; decide))
      obtain ⟨v2, q2, t2⟩ := hT 2 _ (Array.getElem?_eq_getElem (by rw [show rL11.size = 6 from by kernel_rfl]; decide))
      obtain ⟨v5, q5, t5⟩ := hT 5 _ (Array.getElem?_eq_getElem (by rw [show rL11.size = 6 from by kernel_rfl]; decide))
      have t5' : v5 = .int .i64 1 := t5
      subst t5'
      have hact := act_of hF [(46, v0), (47, v1), (48, v2), (4, .int .i64 1)] (by
        intro p hp
        simp only [List.mem_cons, List.not_mem_nil, or_false] at hp
        rcases hp with rfl | rfl | rfl | rfl
        · exact q0
        · exact q1
        · exact q2
        · exact q5) (by kernel_rfl)
      simp only [List.foldl_cons, List.foldl_nil, List.setIfInBounds_toArray, List.set_cons_zero, List.set_cons_succ] at hact
      rw [hact]
      clear hact hF hT hS5 q0 q1 q2 q5 t0 t1 t2 t5
      go_wp2_with (fail)
      go_roundg (1)
      case measure => omega
      case rel => exact .inr (.inr ⟨rfl, by go_num, rfl, HR7⟩)
    · go_wp2_with (fail)
      refine Sh.region_eq' (ops := rL15) (by kernel_rfl) ?_
      refine wp_region_each (TL15 (.int .i64 s) (.int .i64 b) (.int .i64 1)) (fun _ W => AB w.heap.size (.int .i64 s) (.int .i64 b) w W) (by kernel_rfl) (by kernel_rfl) (HR.out.later (Below.refl _ _).drew)
        (owesL15 w.heap.size (.int .i64 s) (.int .i64 b) (.int .i64 1) rfl rfl w (Nat.le_refl _) _ rfl rfl rfl) ?_
      intro P a1 w1 hall hF hS hT
      obtain ⟨v4, q4, t4⟩ := hT 5 _ (Array.getElem?_eq_getElem (by rw [show rL15.size = 7 from by kernel_rfl]; decide))
      obtain ⟨v5, q5, t5⟩ := hT 6 _ (Array.getElem?_eq_getElem (by rw [show rL15.size = 7 from by kernel_rfl]; decide))
      have t4' : v4 = .int .i64 1 := t4
      have t5' : v5 = .int .i64 0 := t5
      subst t4' t5'
      have q4' : a1.tmps.getD 4 undef = .int .i64 1 := eval_at q4
      have q5' : a1.tmps.getD 5 undef = .int .i64 0 := eval_at q5
      have s2 := slot (k := 2) hF (by kernel_rfl) rfl
      have s3 := slot (k := 3) hF (by kernel_rfl) rfl
      have hd := hF.defers
      go_wp2_with (fail)
      refine bodyPost_ret (results_cells_four rfl _ w1 w.heap.size (w.heap.size + 1) _ _ _ _ _ _ _ _ s2 s3 hS.st hS.pl Tryz.underlying30 rfl sizeE' Tryz.underlying23 rfl (by kernel_rfl)) hd ?_
      rw [q4', q5']
      exact ⟨rfl, hS.below⟩
end Go.Proofs.YthhgageghkbjjaaGreat.Sq
