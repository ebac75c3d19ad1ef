/- Texts joined: Sq Ss St. -/
import Derived.Test.YtjohhjdicbeojaaGreatDoorZbd
namespace Go.Proofs.YtjohhjdicbeojaaGreatDoor.Sq
open Go.RowKit Go.Proofs.YtjohhjdicbeojaaGreatDoor.Ra Go.Proofs.YtjohhjdicbeojaaGreatDoor.Rc Go.Proofs.YtjohhjdicbeojaaGreatDoor.Re Go.Proofs.YtjohhjdicbeojaaGreatDoor.Rf Go.Proofs.YtjohhjdicbeojaaGreatDoor.Rg Go.Proofs.YtjohhjdicbeojaaGreatDoor.Ri Go.Proofs.YtjohhjdicbeojaaGreatDoor.Rj Go.Proofs.YtjohhjdicbeojaaGreatDoor.Rl Go.Proofs.YtjohhjdicbeojaaGreatDoor.Rn Go.Proofs.YtjohhjdicbeojaaGreatDoor.Ro Go.Proofs.YtjohhjdicbeojaaGreatDoor.Rp Go.Proofs.YtjohhjdicbeojaaGreatDoor.Rq Go.Proofs.YtjohhjdicbeojaaGreatDoor.Rz Go.Proofs.YtjohhjdicbeojaaGreatDoor.Sa Go.Proofs.YtjohhjdicbeojaaGreatDoor.Sd Go.Proofs.YtjohhjdicbeojaaGreatDoor.Se Go.Proofs.YtjohhjdicbeojaaGreatDoor.Sf Go.Proofs.YtjohhjdicbeojaaGreatDoor.Sg Go.Proofs.YtjohhjdicbeojaaGreatDoor.Si Go.Proofs.YtjohhjdicbeojaaGreatDoor.Sj Go.Proofs.YtjohhjdicbeojaaGreatDoor.Sm Go.Proofs.YtjohhjdicbeojaaGreatDoor.Sn Go.Proofs.YtjohhjdicbeojaaGreatDoor.So Go.Proofs.YtjohhjdicbeojaaGreatDoor.Sp
set_option maxRecDepth 8000
theorem AB.start (w : World) : AB w.heap.size (.int .i64 0) (.int .i64 0) w ((w.alloc (.cells emptyCells 96)).alloc (.cells #[.int .i64 0, .int .i64 0] 58)) := AB.of (Boxes.start 0 0 w)
set_option maxHeartbeats 4000000 in
theorem load_nil (w : World) : Calls Tryz.prog 58 #[.pointer none] w fun e w' => e = .returned (.tuple #[.agg emptyCells, .agg #[.int .i64 0, .int .i64 0], .int .i64 0, .int .i64 1]) ∧ Below w.heap.size w w' := by
  have H0 := Lib.hid (AB.start w)
  go_enter Tryz.func58, Tryz.ntmps58
  go_upto_region 1 with fail
  rw [show ((w.alloc (.cells #[.int .i64 0, .int .i64 0, .int .i64 0, .int .i64 0, .int .i64 0, .int .i64 0, .int .i64 0, .int .i64 0, .int .i64 0, .int .i64 0, .int .i64 0, .int .i64 0, .int .i64 0, .int .i64 0, .int .i64 0, .int .i64 0, .slice none 0 0, .slice none 0 0, .slice none 0 0, .slice none 0 0, .slice none 0 0, .slice none 0 0, .slice none 0 0, .slice none 0 0] 96)).alloc (.cells #[.int .i64 0, .int .i64 0] 58)) = ((w.alloc (.cells emptyCells 96)).alloc (.cells #[.int .i64 0, .int .i64 0] 58)) from rfl]
  generalize ((w.alloc (.cells emptyCells 96)).alloc (.cells #[.int .i64 0, .int .i64 0] 58)) = w0 at *
  go_wp2_with (fail)
  refine Sh.region_eq' (ops := rL2) (by kernel_rfl) ?_
  refine wp_region_each (TL2 (.int .i64 0) (.int .i64 0)) (fun _ W => AB w.heap.size (.int .i64 0) (.int .i64 0) w W) (by kernel_rfl) (by kernel_rfl) (H0.out.later (Below.refl _ _).drew)
    (owesL2 w.heap.size (.int .i64 0) (.int .i64 0) rfl rfl w (Nat.le_refl _) _ rfl rfl) ?_
  intro P a1 w1 hall hF hS hT
  obtain ⟨v4, q4, t4⟩ := hT 4 _ (Array.getElem?_eq_getElem (by rw [show rL2.size = 6 from by kernel_rfl]; decide))
  obtain ⟨v5, q5, t5⟩ := hT 5 _ (Array.getElem?_eq_getElem (by rw [show rL2.size = 6 from by kernel_rfl]; decide))
  have t4' : v4 = .int .i64 0 := t4
  have t5' : v5 = .int .i64 1 := t5
  subst t4' t5'
  have q4' : a1.tmps.getD 4 undef = .int .i64 0 := eval_at q4
  have q5' : a1.tmps.getD 5 undef = .int .i64 1 := eval_at q5
  have s2 := slot (k := 2) hF (by kernel_rfl) rfl
  have s3 := slot (k := 3) hF (by kernel_rfl) rfl
  have hd := hF.defers
  go_wp2_with (fail)
  refine bodyPost_ret (results_cells_four rfl _ w1 w.heap.size (w.heap.size + 1) _ _ _ _ _ _ _ _ s2 s3 hS.st hS.pl Tryz.underlying96 rfl sizeE' Tryz.underlying58 rfl (by kernel_rfl)) hd ?_
  rw [q4', q5']
  exact ⟨rfl, hS.below⟩
theorem store_new2 (W : World) (o : Obj) : (storeCells ⟨W.heap.size, 0, none⟩ emptyCells.toList 0).run Tryz.prog ((W.alloc (.cells #[.int .i64 0, .int .i64 0, .int .i64 0, .int .i64 0, .int .i64 0, .int .i64 0, .int .i64 0, .int .i64 0, .int .i64 0, .int .i64 0, .int .i64 0, .int .i64 0, .int .i64 0, .int .i64 0, .int .i64 0, .int .i64 0, .slice none 0 0, .slice none 0 0, .slice none 0 0, .slice none 0 0, .slice none 0 0, .slice none 0 0, .slice none 0 0, .slice none 0 0] 96)).alloc o) = .ok () ((W.alloc (.cells emptyCells 96)).alloc o) := by
  have hb := blk_old (blk_new W #[.int .i64 0, .int .i64 0, .int .i64 0, .int .i64 0, .int .i64 0, .int .i64 0, .int .i64 0, .int .i64 0, .int .i64 0, .int .i64 0, .int .i64 0, .int .i64 0, .int .i64 0, .int .i64 0, .int .i64 0, .int .i64 0, .slice none 0 0, .slice none 0 0, .slice none 0 0, .slice none 0 0, .slice none 0 0, .slice none 0 0, .slice none 0 0, .slice none 0 0] 96) o
  have h := run_storeCells_from (P := Tryz.prog) W.heap.size 96 emptyCells.toList 0 #[.int .i64 0, .int .i64 0, .int .i64 0, .int .i64 0, .int .i64 0, .int .i64 0, .int .i64 0, .int .i64 0, .int .i64 0, .int .i64 0, .int .i64 0, .int .i64 0, .int .i64 0, .int .i64 0, .int .i64 0, .int .i64 0, .slice none 0 0, .slice none 0 0, .slice none 0 0, .slice none 0 0, .slice none 0 0, .slice none 0 0, .slice none 0 0, .slice none 0 0] _ hb (by decide) (fun x hx => oneE' x hx)
  rw [h]
  have e : (w1 : Array Value) → w1 = #[.int .i64 0, .int .i64 0, .int .i64 0, .int .i64 0, .int .i64 0, .int .i64 0, .int .i64 0, .int .i64 0, .int .i64 0, .int .i64 0, .int .i64 0, .int .i64 0, .int .i64 0, .int .i64 0, .int .i64 0, .int .i64 0, .slice none 0 0, .slice none 0 0, .slice none 0 0, .slice none 0 0, .slice none 0 0, .slice none 0 0, .slice none 0 0, .slice none 0 0] → ((W.alloc (.cells #[.int .i64 0, .int .i64 0, .int .i64 0, .int .i64 0, .int .i64 0, .int .i64 0, .int .i64 0, .int .i64 0, .int .i64 0, .int .i64 0, .int .i64 0, .int .i64 0, .int .i64 0, .int .i64 0, .int .i64 0, .int .i64 0, .slice none 0 0, .slice none 0 0, .slice none 0 0, .slice none 0 0, .slice none 0 0, .slice none 0 0, .slice none 0 0, .slice none 0 0] 96)).alloc o).setRow W.heap.size w1 = (W.alloc (.cells #[.int .i64 0, .int .i64 0, .int .i64 0, .int .i64 0, .int .i64 0, .int .i64 0, .int .i64 0, .int .i64 0, .int .i64 0, .int .i64 0, .int .i64 0, .int .i64 0, .int .i64 0, .int .i64 0, .int .i64 0, .int .i64 0, .slice none 0 0, .slice none 0 0, .slice none 0 0, .slice none 0 0, .slice none 0 0, .slice none 0 0, .slice none 0 0, .slice none 0 0] 96)).alloc o := fun w1 h1 => by rw [h1]; exact setRow_self _ _ _ _ _ hb
  rw [e _ (by rfl)]
  rfl
/-- A device that was formatted. -/
structure Formed (s b : Int) (d : Dev) : Prop where
  off : d.off = false
  big : 40 ≤ d.n
  z0 : secL d.now 0 = List.replicate 64 0
  h12 : secL d.now 12 = closeL (headL s b)
  l13 : secL d.now 13 = closeL leafL
  z24 : secL d.now 24 = List.replicate 64 0
set_option maxHeartbeats 4000000 in
theorem load_c {B : Nat} {w : World} {D S N : Nat} {lv : Value} {d : Dev} {s b : Int} (hm : MayP s b) (h : DevAt B w D S N lv d) (hf : Formed s b d) :
    Calls Tryz.prog 58 #[.pointer (some ⟨D, 0, none⟩)] w fun e w' => e = .returned (.tuple #[.agg emptyCells, .agg #[.int .i64 s, .int .i64 b], .int .i64 1, .int .i64 0]) ∧ Below w.heap.size w w' := by
  have H0 := Lib.hid (AB.start w)
  have hn : 13 < d.n := by have := hf.big; omega
  have KP0 := Lib.hid (fun (W : World) (hb : Below w.heap.size w W) => pages_bad (h.later hb) hf.off hf.z0)
  have KP1 := Lib.hid (fun (W : World) (hb : Below w.heap.size w W) => by
    have k := pages_good (s := s) (b := b) (h.later hb) hf.off hn (by rw [hf.h12]; exact head_good s b hm)
    rw [hf.h12, hf.l13] at k
    exact k)
  have KD0 := Lib.hid (fun (W : World) => decode_nil W)
  have KD1 := Lib.hid (fun (W : World) (v : Value) (hv : PagesP (closeL (headL s b)) (closeL leafL) v W) => decode_c v s b hm W hv)
  clear h hf hm
  go_enter Tryz.func58, Tryz.ntmps58
  go_upto_region 1 with fail
  rw [show ((w.alloc (.cells #[.int .i64 0, .int .i64 0, .int .i64 0, .int .i64 0, .int .i64 0, .int .i64 0, .int .i64 0, .int .i64 0, .int .i64 0, .int .i64 0, .int .i64 0, .int .i64 0, .int .i64 0, .int .i64 0, .int .i64 0, .int .i64 0, .slice none 0 0, .slice none 0 0, .slice none 0 0, .slice none 0 0, .slice none 0 0, .slice none 0 0, .slice none 0 0, .slice none 0 0] 96)).alloc (.cells #[.int .i64 0, .int .i64 0] 58)) = ((w.alloc (.cells emptyCells 96)).alloc (.cells #[.int .i64 0, .int .i64 0] 58)) from rfl]
  generalize ((w.alloc (.cells emptyCells 96)).alloc (.cells #[.int .i64 0, .int .i64 0] 58)) = w0 at *
  go_wp2_with (fail)
  go_loopg [4, 17] (3) (fun gg s4 s17 wr => (gg = 3 ∧ s17 = .int .i64 0 ∧ s4 = .int .i64 0 ∧ Hid (AB w.heap.size (.int .i64 0) (.int .i64 0) w wr)) ∨ (gg = 2 ∧ s17 = .int .i64 1 ∧ s4 = .int .i64 0 ∧ Hid (AB w.heap.size (.int .i64 0) (.int .i64 0) w wr)) ∨ (gg = 1 ∧ s17 = .int .i64 2 ∧ s4 = .int .i64 1 ∧ Hid (AB w.heap.size (.int .i64 s) (.int .i64 b) w wr)))
  case atStart => exact .inl ⟨rfl, rfl, rfl, H0⟩
  case round =>
    have hst := store_new2
    rcases hrel with ⟨rfl, rfl, rfl, HR⟩ | ⟨rfl, rfl, rfl, HR⟩ | ⟨rfl, rfl, rfl, HR⟩
    · go_wp2_with (first
        | (go_at_call 103; (with_reducible refine (area_0 _).mono ?_); rintro e w3 ⟨rfl, rfl⟩)
        | (go_at_call 104; (with_reducible refine (KP0.out _ HR.out.below).mono ?_); rintro e w4 ⟨rfl, hb4⟩; have HR4 := Lib.hid (HR.out.later hb4); clear hb4)
        | (go_at_call 105; (with_reducible refine (KD0.out _).mono ?_); rintro e w5 ⟨rfl, hb5⟩; have HR5 := Lib.hid (HR4.out.later hb5); clear hb5))
      have HR6 : Hid (AB w.heap.size (.int .i64 0) (.int .i64 0) w ((w5.alloc (.cells emptyCells 96)).alloc (.cells #[.int .i64 0, .int .i64 0] 58))) := Lib.hid (HR5.out.later (((Below.refl _ _).alloc (Nat.le_refl _) _).alloc (by rw [sz_alloc]; omega) _))
      go_roundg (2)
      case measure => omega
      case rel => exact .inr (.inl ⟨rfl, by go_num, rfl, HR6⟩)
    · go_wp2_with (first
        | (go_at_call 103; (with_reducible refine (area_1 _).mono ?_); rintro e w3 ⟨rfl, rfl⟩)
        | (go_at_call 104; (with_reducible refine (KP1.out _ HR.out.below).mono ?_); rintro e w4 ⟨pv, rfl, hpv, hb4⟩; have HR4 := Lib.hid (HR.out.later hb4); have HPV := Lib.hid hpv; clear hb4 hpv)
        | (go_at_call 105; (with_reducible refine (KD1.out _ _ HPV.out).mono ?_); rintro e w5 ⟨rfl, hb5⟩; have HR5 := Lib.hid (HR4.out.later hb5); clear hb5))
      have hb6 : Below w5.heap.size w5 ((w5.alloc (.cells emptyCells 96)).alloc (.cells #[.int .i64 s, .int .i64 b] 58)) := ((Below.refl _ _).alloc (Nat.le_refl _) _).alloc (by rw [sz_alloc]; omega) _
      have hg6 := blk_old (blk_new w5 emptyCells 96) (.cells #[.int .i64 s, .int .i64 b] 58)
      have hh6 := blk_new (w5.alloc (.cells emptyCells 96)) #[.int .i64 s, .int .i64 b] 58
      rw [sz_alloc] at hh6
      have hA6 := lt_of_block HR5.out.pl
      generalize ((w5.alloc (.cells emptyCells 96)).alloc (.cells #[.int .i64 s, .int .i64 b] 58)) = w6 at *
      refine Sh.region_eq' (ops := rL11) (by kernel_rfl) ?_
      refine wp_region_each (TL11 (.int .i64 s) (.int .i64 b) (.int .i64 1)) (fun L W => (∃ x y, AB w.heap.size x y w W) ∧ (L 4 → AB w.heap.size (.int .i64 s) (.int .i64 b) w W) ∧ W.heap[w5.heap.size]? = some (.cells emptyCells 96 (0, 0)) ∧ W.heap[w5.heap.size + 1]? = some (.cells #[.int .i64 s, .int .i64 b] 58 (0, 0))) (by kernel_rfl) (by kernel_rfl)
        ⟨⟨_, _, HR5.out.later hb6.drew⟩, fun h => h.elim, hg6, hh6⟩
        (owesL11 w.heap.size w5.heap.size (w5.heap.size + 1) (.int .i64 s) (.int .i64 b) (.int .i64 1) rfl rfl w (Nat.le_refl _) (by omega) (by omega) (by omega) (by omega) _ rfl rfl rfl rfl rfl) ?_
      intro P a1 w7 hall hF ⟨_, hS5, _, _⟩ hT
      have HR7 := Lib.hid (hS5 (hall 4 (by rw [show rL11.size = 6 from by kernel_rfl]; decide)))
      obtain ⟨v0, q0, t0⟩ := hT 0 _ (Array.getElem?_eq_getElem (by rw [show rL11.size = 6 from by kernel_rfl]; decide))
      obtain ⟨v1, q1, t1⟩ := hT 1 _ (Array.getElem?_eq_getElem (by rw [show rL11.size = 6 from by kernel_rfl]; decide))
      obtain ⟨v2, q2, t2⟩ := hT 2 _ (Array.getElem?_eq_getElem (by rw [show rL11.size = 6 from by kernel_rfl]; decide))
      obtain ⟨v5, q5, t5⟩ := hT 5 _ (Array.getElem?_eq_getElem (by rw [show rL11.size = 6 from by kernel_rfl]; decide))
      have t5' : v5 = .int .i64 1 := t5
      subst t5'
      have hact := act_of hF [(46, v0), (47, v1), (48, v2), (4, .int .i64 1)] (by
        intro p hp
        simp only [List.mem_cons, List.not_mem_nil, or_false] at hp
        rcases hp with rfl | rfl | rfl | rfl
        · exact q0
        · exact q1
        · exact q2
        · exact q5) (by kernel_rfl)
      simp only [List.foldl_cons, List.foldl_nil, List.setIfInBounds_toArray, List.set_cons_zero, List.set_cons_succ] at hact
      rw [hact]
      clear hact hF hT hS5 q0 q1 q2 q5 t0 t1 t2 t5
      go_wp2_with (fail)
      go_roundg (1)
      case measure => omega
      case rel => exact .inr (.inr ⟨rfl, by go_num, rfl, HR7⟩)
    · go_wp2_with (fail)
      refine Sh.region_eq' (ops := rL15) (by kernel_rfl) ?_
      refine wp_region_each (TL15 (.int .i64 s) (.int .i64 b) (.int .i64 1)) (fun _ W => AB w.heap.size (.int .i64 s) (.int .i64 b) w W) (by kernel_rfl) (by kernel_rfl) (HR.out.later (Below.refl _ _).drew)
        (owesL15 w.heap.size (.int .i64 s) (.int .i64 b) (.int .i64 1) rfl rfl w (Nat.le_refl _) _ rfl rfl rfl) ?_
      intro P a1 w1 hall hF hS hT
      obtain ⟨v4, q4, t4⟩ := hT 5 _ (Array.getElem?_eq_getElem (by rw [show rL15.size = 7 from by kernel_rfl]; decide))
      obtain ⟨v5, q5, t5⟩ := hT 6 _ (Array.getElem?_eq_getElem (by rw [show rL15.size = 7 from by kernel_rfl]; decide))
      have t4' : v4 = .int .i64 1 := t4
      have t5' : v5 = .int .i64 0 := t5
      subst t4' t5'
      have q4' : a1.tmps.getD 4 undef = .int .i64 1 := eval_at q4
      have q5' : a1.tmps.getD 5 undef = .int .i64 0 := eval_at q5
      have s2 := slot (k := 2) hF (by kernel_rfl) rfl
      have s3 := slot (k := 3) hF (by kernel_rfl) rfl
      have hd := hF.defers
      go_wp2_with (fail)
      refine bodyPost_ret (results_cells_four rfl _ w1 w.heap.size (w.heap.size + 1) _ _ _ _ _ _ _ _ s2 s3 hS.st hS.pl Tryz.underlying96 rfl sizeE' Tryz.underlying58 rfl (by kernel_rfl)) hd ?_
      rw [q4', q5']
      exact ⟨rfl, hS.below⟩
end Go.Proofs.YtjohhjdicbeojaaGreatDoor.Sq
namespace Go.Proofs.YtjohhjdicbeojaaGreatDoor.Ss
open Go.RowKit Go.Proofs.YtjohhjdicbeojaaGreatDoor.Ra Go.Proofs.YtjohhjdicbeojaaGreatDoor.Rc Go.Proofs.YtjohhjdicbeojaaGreatDoor.Re Go.Proofs.YtjohhjdicbeojaaGreatDoor.Rf Go.Proofs.YtjohhjdicbeojaaGreatDoor.Rg Go.Proofs.YtjohhjdicbeojaaGreatDoor.Rh Go.Proofs.YtjohhjdicbeojaaGreatDoor.Ri Go.Proofs.YtjohhjdicbeojaaGreatDoor.Rj Go.Proofs.YtjohhjdicbeojaaGreatDoor.Rl Go.Proofs.YtjohhjdicbeojaaGreatDoor.Rn Go.Proofs.YtjohhjdicbeojaaGreatDoor.Ro Go.Proofs.YtjohhjdicbeojaaGreatDoor.Rp Go.Proofs.YtjohhjdicbeojaaGreatDoor.Rq Go.Proofs.YtjohhjdicbeojaaGreatDoor.Rz Go.Proofs.YtjohhjdicbeojaaGreatDoor.Sf Go.Proofs.YtjohhjdicbeojaaGreatDoor.Sg Go.Proofs.YtjohhjdicbeojaaGreatDoor.Sh Go.Proofs.YtjohhjdicbeojaaGreatDoor.Sj
set_option maxRecDepth 8000
theorem bytes_base {B : Nat} {w : World} {v : Value} {l : List UInt8} (h : BytesIn 0 w v l) : BytesIn B w v l := by
  obtain ⟨p, c, hv, hcap, hp⟩ := h
  refine ⟨p, c, hv, hcap, fun hl => ?_⟩
  obtain ⟨b, o, hp, hlt, hsf, hc⟩ := hp hl
  exact ⟨b, o, hp, hlt, hsf.elim (fun h => absurd h (Nat.not_lt_zero _)) .inr, hc⟩
theorem wr_one {B : Nat} {w : World} {at_ : Int} {v : Value} {l : List UInt8} (hB : B ≤ w.heap.size) (h : BytesIn B w v l) : WritesIn B (w.alloc (.cells #[.int .i64 at_, v] 131)) (.slice (some ⟨w.heap.size, 0, none⟩) 1 1) [⟨at_, v, l⟩] := by
  have hb := blk_new w #[.int .i64 at_, v] 131
  refine ⟨⟨_, _, rfl, fun _ => ⟨_, 0, rfl, lt_of_block hb, .inr ⟨_, hb, rfl⟩, fun j x hj => ?_⟩⟩, fun x hx => ?_⟩
  · match j, hj with
    | 0, hj =>
      obtain rfl := Option.some.inj hj
      exact ⟨blk_cell hb 0, blk_cell hb 1⟩
  · obtain rfl : x = ⟨at_, v, l⟩ := by simpa using hx
    exact h.step ((Step.refl B w).alloc hB _)
/-- The device behind Save. -/
def savedDev (s b : Int) (d : Dev) : Dev := flushed (putAll (flushed (putAll d [⟨13, .slice none 0 0, closeL leafL⟩])) [⟨12, .slice none 0 0, closeL (headL s b)⟩])
theorem flushed_on {d : Dev} (h : OnDev d) : OnDev (flushed d) := ⟨h.off, h.after⟩
theorem putAll_on {d : Dev} (h : OnDev d) (x : Wr) : OnDev (putAll d [x]) := ⟨h.off, h.after⟩
set_option maxHeartbeats 4000000 in
theorem save_c {B : Nat} {w : World} {D S N : Nat} {lv : Value} {d : Dev} {s b : Int} (hm : MayP s b) (h : DevAt B w D S N lv d) (hd : OnDev d) (hn : 14 ≤ d.n) (hfew : d.loose.length + 1 ≤ 100000) :
    Calls Tryz.prog 57 #[.pointer (some ⟨D, 0, none⟩), .agg emptyCells, .agg #[.int .i64 s, .int .i64 b], .int .i64 1] w fun e w' => e = .returned (.int .i64 0) ∧ (∃ lv', DevAt B w' D S N lv' (savedDev s b d)) ∧ Step B w w' := by
  have H0 := Lib.hid (Boxes.start s b w)
  have HD0 := Lib.hid (h.later H0.out.2.2)
  have HBW : Hid (B ≤ w.heap.size) := Lib.hid h.size
  have KE := Lib.hid (fun (W : World) => encode_c s b hm W)
  have KP1 := Lib.hid (fun (W : World) (v u : Value) (lv : Value) (hW : DevAt B W D S N lv d) (hw : WritesIn B W v [⟨13, u, closeL leafL⟩]) => put_c hW hd v _ hw (fun x hx => by
    obtain rfl : x = ⟨13, u, closeL leafL⟩ := by simpa using hx
    exact ⟨leaf_len, by show (0 : Int) ≤ 13; decide, by show (13 : Int) < (d.n : Int); omega⟩) hfew)
  have KF1 := Lib.hid (fun (W : World) (lv u : Value) (hW : DevAt B W D S N lv (putAll d [⟨13, u, closeL leafL⟩])) => flush_c hW (putAll_on hd _))
  have KP2 := Lib.hid (fun (W : World) (v u u' : Value) (lv : Value) (hW : DevAt B W D S N lv (flushed (putAll d [⟨13, u', closeL leafL⟩]))) (hw : WritesIn B W v [⟨12, u, closeL (headL s b)⟩]) => put_c hW (flushed_on (putAll_on hd _)) v _ hw (fun x hx => by
    obtain rfl : x = ⟨12, u, closeL (headL s b)⟩ := by simpa using hx
    exact ⟨headc_len s b, by show (0 : Int) ≤ 12; decide, by show (12 : Int) < (d.n : Int); omega⟩) (by show 0 + 1 ≤ 100000; decide))
  have KF2 := Lib.hid (fun (W : World) (lv u u' : Value) (hW : DevAt B W D S N lv (putAll (flushed (putAll d [⟨13, u', closeL leafL⟩])) [⟨12, u, closeL (headL s b)⟩])) => flush_c hW (putAll_on (flushed_on (putAll_on hd _)) _))
  have hDl := h.lt
  clear h hd hm hfew hn
  go_enter Tryz.func57, Tryz.ntmps57
  go_upto_region 1 with fail
  generalize ((w.alloc (.cells emptyCells 96)).alloc (.cells #[.int .i64 s, .int .i64 b] 58)) = w0 at *
  obtain ⟨p0, p1⟩ := H0.out.plat
  have HS0 : Hid (Step B w w0) := Lib.hid (Step.of H0.out.2.2 HBW.out)
  go_upto_region 7 with (first
    | (refine wpList_load_row rfl 96 (.tmp 5) rfl w.heap.size rfl _ emptyCells _ _ H0.out.1 Tryz.underlying96 rfl sizeE' ?_)
    | (go_at_call 102; (with_reducible refine (KE.out _).mono ?_); rintro e w1 ⟨pv, rfl, hpv, hb1⟩; obtain ⟨g, cap, cs, u0, u1, rfl, hcap, hgb, hc0, hc1, hs0, hs1⟩ := hpv; have HB1 := Lib.hid hb1; clear hb1)
    | (go_at_call 103; (with_reducible refine (area_1 _).mono ?_); rintro e w3 ⟨rfl, rfl⟩))
  have q0 : w1.cell? ⟨g, 0, none⟩ = some u0 := (blk_cell hgb 0).trans hc0
  have q1 : w1.cell? ⟨g, 1, none⟩ = some u1 := (blk_cell hgb 1).trans hc1
  have HU0 : Hid (BytesIn B w1 u0 (closeL (headL s b))) := Lib.hid (bytes_base hs0.bytes)
  have HU1 : Hid (BytesIn B w1 u1 (closeL leafL)) := Lib.hid (bytes_base hs1.bytes)
  obtain ⟨c0, _, ⟨c0', rfl, _⟩, _⟩ := hs0
  obtain ⟨c1, _, ⟨c1', rfl, _⟩, _⟩ := hs1
  have HGB := Lib.hid hgb
  have HD1 := Lib.hid (HD0.out.later HB1.out)
  have HS1 : Hid (Step B w w1) := Lib.hid (HS0.out.trans (Step.of HB1.out (Nat.le_trans HBW.out HS0.out.size)))
  have HC0 := Lib.hid hc0
  have nc2 : (2 : Int) ≤ (cap : Int) := by omega
  have ncz : ¬ cap - 1 = 0 := by omega
  have nc3 : (1 : Int) ≤ ((cap - 1 : Nat) : Int) := by omega
  have nc1 : (1 : Int) ≤ (cap : Int) := by omega
  clear hgb hc0 hc1 hcap
  go_wp2_with (fail)
  go_loopg [34] (2) (fun gg s34 wr => (gg = 2 ∧ s34 = .int .i64 0 ∧ wr = w1) ∨ (gg = 1 ∧ s34 = .int .i64 1 ∧ Hid ((∃ lv', DevAt B wr D S N lv' (putAll d [⟨13, .slice (some ⟨c1, 0, none⟩) 64 c1', closeL leafL⟩])) ∧ Step B w1 wr)))
  case atStart => exact .inl ⟨rfl, rfl, rfl⟩
  case round =>
    rcases hrel with ⟨rfl, rfl, rfl⟩ | ⟨rfl, rfl, HR⟩
    · have HDa : Hid (DevAt B (wr.alloc (.cells #[.int .i64 13, .slice (some ⟨c1, 0, none⟩) 64 c1'] 131)) D S N lv d) := Lib.hid (HD1.out.later ((Below.refl _ _).alloc (Nat.le_refl _) _))
      have HWa := Lib.hid (wr_one (at_ := 13) HD1.out.size HU1.out)
      have HSa : Hid (Step B wr (wr.alloc (.cells #[.int .i64 13, .slice (some ⟨c1, 0, none⟩) 64 c1'] 131))) := Lib.hid ((Step.refl B wr).alloc HD1.out.size _)
      go_wp2_with (go_at_call 55; (with_reducible refine (KP1.out _ _ _ _ HDa.out HWa.out).mono ?_); rintro e w5 ⟨rfl, hd5, hs5⟩; have HR5 := Lib.hid (And.intro hd5 (HSa.out.trans hs5)); clear hd5 hs5)
      go_roundg (1)
      case measure => omega
      case rel => exact .inr ⟨rfl, by go_num, HR5⟩
    · obtain ⟨lv5, hd5⟩ := HR.out.1
      have HD5 := Lib.hid hd5
      have HK6 := Lib.hid (fun (W : World) (hs : Step B wr W) => (⟨(HR.out.2.trans hs).kept _ _ HGB.out rfl, HU0.out.step (HR.out.2.trans hs), HS1.out.trans (HR.out.2.trans hs)⟩ : W.heap[g]? = some (.cells cs 22 (0, 0)) ∧ BytesIn B W (.slice (some ⟨c0, 0, none⟩) 64 c0') (closeL (headL s b)) ∧ Step B w W))
      clear hd5
      go_upto_region 17 with (go_at_call 56; (with_reducible refine (KF1.out _ _ _ HD5.out).mono ?_); rintro e w6 ⟨rfl, hd6, hs6⟩; have HD6 := Lib.hid hd6; have HS6 := Lib.hid (HK6.out _ hs6); clear hd6 hs6)
      have q6 : w6.cell? ⟨g, 0, none⟩ = some (.slice (some ⟨c0, 0, none⟩) 64 c0') := (blk_cell HS6.out.1 0).trans HC0.out
      have HDb : Hid (DevAt B (w6.alloc (.cells #[.int .i64 12, .slice (some ⟨c0, 0, none⟩) 64 c0'] 131)) D S N (.slice none 0 0) (flushed (putAll d [⟨13, .slice (some ⟨c1, 0, none⟩) 64 c1', closeL leafL⟩]))) := Lib.hid (HD6.out.later ((Below.refl _ _).alloc (Nat.le_refl _) _))
      have HWb := Lib.hid (wr_one (at_ := 12) HD6.out.size HS6.out.2.1)
      have HSb : Hid (Step B w (w6.alloc (.cells #[.int .i64 12, .slice (some ⟨c0, 0, none⟩) 64 c0'] 131))) := Lib.hid (HS6.out.2.2.trans ((Step.refl B w6).alloc HD6.out.size _))
      clear HD5 HD6
      go_wp2_with (first
        | (go_at_call 55; (with_reducible refine (KP2.out _ _ _ _ _ HDb.out HWb.out).mono ?_); rintro e w7 ⟨rfl, ⟨lv7, hd7⟩, hs7⟩; have HD7 := Lib.hid hd7; have HS7 := Lib.hid (HSb.out.trans hs7); clear hd7 hs7)
        | (go_at_call 56; (with_reducible refine (KF2.out _ _ _ _ HD7.out).mono ?_); rintro e w8 ⟨rfl, hd8, hs8⟩; have HD8 := Lib.hid hd8; have HS8 := Lib.hid (HS7.out.trans hs8); clear hd8 hs8))
      go_ret
      exact ⟨rfl, ⟨_, HD8.out⟩, HS8.out⟩
end Go.Proofs.YtjohhjdicbeojaaGreatDoor.Ss
namespace Go.Proofs.YtjohhjdicbeojaaGreatDoor.St
open Go.RowKit Go.Proofs.YtjohhjdicbeojaaGreatDoor.Ra Go.Proofs.YtjohhjdicbeojaaGreatDoor.Rc Go.Proofs.YtjohhjdicbeojaaGreatDoor.Re Go.Proofs.YtjohhjdicbeojaaGreatDoor.Rf Go.Proofs.YtjohhjdicbeojaaGreatDoor.Rg Go.Proofs.YtjohhjdicbeojaaGreatDoor.Rh Go.Proofs.YtjohhjdicbeojaaGreatDoor.Ri Go.Proofs.YtjohhjdicbeojaaGreatDoor.Rj Go.Proofs.YtjohhjdicbeojaaGreatDoor.Rl Go.Proofs.YtjohhjdicbeojaaGreatDoor.Rn Go.Proofs.YtjohhjdicbeojaaGreatDoor.Ro Go.Proofs.YtjohhjdicbeojaaGreatDoor.Rp Go.Proofs.YtjohhjdicbeojaaGreatDoor.Rq Go.Proofs.YtjohhjdicbeojaaGreatDoor.Sf Go.Proofs.YtjohhjdicbeojaaGreatDoor.Sg Go.Proofs.YtjohhjdicbeojaaGreatDoor.Sj Go.Proofs.YtjohhjdicbeojaaGreatDoor.Ss
set_option maxRecDepth 8000
theorem make64 (W : World) : (Instr.makeSlice 22 (.int .i64 64) (.int .i64 64)).run Tryz.prog W = .ok (.slice (some ⟨W.heap.size, 0, none⟩) 64 64) (W.alloc (.cells (zeroVals 64).toArray 5)) := by kernel_rfl
def z64 : List UInt8 := List.replicate 64 0
/-- A write of zeros. -/
def wz (a : Nat) : Wr := ⟨(a : Int), .slice none 0 0, z64⟩
def fmt0 (d : Dev) : Dev := flushed (putAll d [wz 0, wz 12])
def fmtK (d : Dev) : Nat → Dev
  | 0 => fmt0 d
  | k + 1 => putAll (fmtK d k) [wz (24 + k)]
theorem fmtK_on {d : Dev} (h : OnDev d) : ∀ k, OnDev (fmtK d k)
  | 0 => ⟨h.off, h.after⟩
  | k + 1 => putAll_on (fmtK_on h k) _
theorem fmtK_n (d : Dev) : ∀ k, (fmtK d k).n = d.n
  | 0 => rfl
  | k + 1 => fmtK_n d k
theorem fmtK_loose (d : Dev) : ∀ k, (fmtK d k).loose.length = k
  | 0 => rfl
  | k + 1 => by
    show ((fmtK d k).loose ++ _).length = k + 1
    rw [List.length_append, fmtK_loose d k]
    rfl
theorem wr_two {B : Nat} {w : World} {a c : Int} {v : Value} {l : List UInt8} (hB : B ≤ w.heap.size) (h : BytesIn B w v l) : WritesIn B (w.alloc (.cells #[.int .i64 a, v, .int .i64 c, v] 131)) (.slice (some ⟨w.heap.size, 0, none⟩) 2 2) [⟨a, v, l⟩, ⟨c, v, l⟩] := by
  have hb := blk_new w #[.int .i64 a, v, .int .i64 c, v] 131
  refine ⟨⟨_, _, rfl, fun _ => ⟨_, 0, rfl, lt_of_block hb, .inr ⟨_, hb, rfl⟩, fun j x hj => ?_⟩⟩, fun x hx => ?_⟩
  · match j, hj with
    | 0, hj =>
      obtain rfl := Option.some.inj hj
      exact ⟨blk_cell hb 0, blk_cell hb 1⟩
    | 1, hj =>
      obtain rfl := Option.some.inj hj
      exact ⟨blk_cell hb 2, blk_cell hb 3⟩
  · have hx' : x.v = v ∧ x.l = l := by
      simp only [List.mem_cons, List.not_mem_nil, or_false] at hx
      rcases hx with rfl | rfl <;> exact ⟨rfl, rfl⟩
    rw [hx'.1, hx'.2]
    exact h.step ((Step.refl B w).alloc hB _)
/-- Zeros, in a block. -/
def ZB (z : Nat) (W : World) : Prop := W.heap[z]? = some (.cells (zeroVals 64).toArray 5 (0, 0))
theorem ZB.bytes {B z : Nat} {W : World} (h : ZB z W) : BytesIn B W (.slice (some ⟨z, 0, none⟩) 64 64) z64 := bytes_of_blk h rfl (Nat.le_refl _) (by unfold z64; rw [byteVals_rep, List.length_replicate]; simp [zeroVals])
set_option maxHeartbeats 4000000 in
theorem format_c {B : Nat} {w : World} {D S N : Nat} {lv : Value} {d : Dev} {s b : Int} (hm : MayP s b) (h : DevAt B w D S N lv d) (hd : OnDev d) (hn : 40 + s * b ≤ (d.n : Int)) (hfew : d.loose.length + 2 ≤ 100000) :
    Calls Tryz.prog 33 #[.pointer (some ⟨D, 0, none⟩), .agg #[.int .i64 s, .int .i64 b]] w fun e w' => e = .returned (.int .i64 0) ∧ (∃ lv', DevAt B w' D S N lv' (savedDev s b (fmtK d 16))) ∧ Step B w w' := by
  have hB := h.size
  have hbx := blk_new w #[.int .i64 s, .int .i64 b] 58
  have hb0 : Below w.heap.size w (w.alloc (.cells #[.int .i64 s, .int .i64 b] 58)) := (Below.refl _ _).alloc (Nat.le_refl _) _
  obtain ⟨w0, hw0⟩ : ∃ W, W = w.alloc (.cells #[.int .i64 s, .int .i64 b] 58) := ⟨_, rfl⟩
  rw [← hw0] at hbx hb0
  have p0 : w0.cell? ⟨w.heap.size, 0, none⟩ = some (.int .i64 s) := blk_cell hbx 0
  have p1 : w0.cell? ⟨w.heap.size, 1, none⟩ = some (.int .i64 b) := blk_cell hbx 1
  have HB0 := Lib.hid hb0
  have HBX := Lib.hid hbx
  have hsb : 12 ≤ s * b := by
    obtain ⟨h1, _, h3, _⟩ := hm
    have := Int.mul_le_mul h1 h3 (by decide) (by omega)
    omega
  have hn52 : 52 ≤ d.n := by omega
  have KS := Lib.hid (sectors_c s b hm w0)
  have KZ := Lib.hid (fun (W : World) (hb : Below w.heap.size w W) => size_c (h.later hb))
  have KP0 := Lib.hid (fun (W : World) (v : Value) (z : Nat) (hW : DevAt B W D S N lv d) (hw : WritesIn B W v [⟨0, .slice (some ⟨z, 0, none⟩) 64 64, z64⟩, ⟨12, .slice (some ⟨z, 0, none⟩) 64 64, z64⟩]) => (by
    have k := Rj.put_c hW hd v _ hw (fun x hx => by
     simp only [List.mem_cons, List.not_mem_nil, or_false] at hx
     rcases hx with rfl | rfl
     · exact ⟨rfl, by show (0 : Int) ≤ 0; decide, by show (0 : Int) < (d.n : Int); omega⟩
     · exact ⟨rfl, by show (0 : Int) ≤ 12; decide, by show (12 : Int) < (d.n : Int); omega⟩) hfew
    exact k : Calls Tryz.prog 55 #[.pointer (some ⟨D, 0, none⟩), v] W fun e w' => e = .returned (.int .i64 0) ∧ (∃ lv', DevAt B w' D S N lv' (putAll d [wz 0, wz 12])) ∧ Step B W w'))
  have KF0 := Lib.hid (fun (W : World) (lv : Value) (hW : DevAt B W D S N lv (putAll d [wz 0, wz 12])) => (flush_c hW ⟨hd.off, hd.after⟩ : Calls Tryz.prog 56 #[.pointer (some ⟨D, 0, none⟩)] W fun e w' => e = .returned (.int .i64 0) ∧ DevAt B w' D S N (.slice none 0 0) (fmtK d 0) ∧ Step B W w'))
  have KPK := Lib.hid (fun (W : World) (v : Value) (z k : Nat) (lv : Value) (hk : k < 16) (hW : DevAt B W D S N lv (fmtK d k)) (hw : WritesIn B W v [⟨24 + (k : Int), .slice (some ⟨z, 0, none⟩) 64 64, z64⟩]) => (by
    rw [show (24 : Int) + (k : Int) = ((24 + k : Nat) : Int) from by omega] at hw
    have k := Rj.put_c hW (fmtK_on hd k) v _ hw (fun x hx => by
     obtain rfl : x = ⟨((24 + k : Nat) : Int), .slice (some ⟨z, 0, none⟩) 64 64, z64⟩ := by simpa using hx
     exact ⟨rfl, by show (0 : Int) ≤ ((24 + k : Nat) : Int); omega, by show ((24 + k : Nat) : Int) < ((fmtK d k).n : Int); rw [fmtK_n]; omega⟩) (by rw [fmtK_loose]; show k + 1 ≤ 100000; omega)
    exact k : Calls Tryz.prog 55 #[.pointer (some ⟨D, 0, none⟩), v] W fun e w' => e = .returned (.int .i64 0) ∧ (∃ lv', DevAt B w' D S N lv' (fmtK d (k + 1))) ∧ Step B W w'))
  have KV := Lib.hid (fun (W : World) (lv : Value) (hW : DevAt B W D S N lv (fmtK d 16)) => save_c hm hW (fmtK_on hd 16) (by rw [fmtK_n]; omega) (by rw [fmtK_loose]; decide))
  have HDL := Lib.hid (fun (W : World) (hb : Below w.heap.size w W) => h.later hb)
  have HBW := Lib.hid hB
  have hmk := make64
  have hge : ¬ (d.n : Int) < 40 + s * b := by omega
  clear hbx hb0 h hsb hn hd hm hfew hn52 hB
  generalize s * b = m at *
  generalize (d.n : Int) = n at *
  go_enter Tryz.func33, Tryz.ntmps33
  go_upto_region 1 with fail
  rw [← hw0]
  clear hw0
  go_upto_region 6 with (first
    | (go_at_call 53; (with_reducible refine KS.out.mono ?_); rintro e w1 ⟨rfl, hb1⟩; have HB1 := Lib.hid (HB0.out.trans (hb1.mono HB0.out.size)); have HBX1 := Lib.hid (blk_below HBX.out hb1 (lt_of_block HBX.out)); clear hb1)
    | (go_at_call 54; (with_reducible refine (KZ.out _ HB1.out).mono ?_); rintro e w2 ⟨rfl, rfl⟩))
  go_upto_region 7 with (fail)
  obtain ⟨w2, hw2⟩ : ∃ W, W = w1.alloc (.cells (zeroVals 64).toArray 5) := ⟨_, rfl⟩
  have hz2 : ZB w1.heap.size w2 := by rw [hw2]; exact blk_new _ _ _
  have hb2 : Below w1.heap.size w1 w2 := by rw [hw2]; exact (Below.refl _ _).alloc (Nat.le_refl _) _
  have HB2 := Lib.hid (HB1.out.trans (hb2.mono HB1.out.size))
  have HBX2 := Lib.hid (blk_below HBX1.out hb2 (lt_of_block HBX1.out))
  have HZ2 := Lib.hid hz2
  rw [← hw2]
  clear hw2 hb2 hz2 p0 p1
  generalize w1.heap.size = Z at *
  have HD2 := Lib.hid (HDL.out _ HB2.out)
  have HDa : Hid (DevAt B (w2.alloc (.cells #[.int .i64 0, .slice (some ⟨Z, 0, none⟩) 64 64, .int .i64 12, .slice (some ⟨Z, 0, none⟩) 64 64] 131)) D S N lv d) := Lib.hid (HD2.out.later ((Below.refl _ _).alloc (Nat.le_refl _) _))
  have HWa := Lib.hid (wr_two (a := 0) (c := 12) HD2.out.size (ZB.bytes (B := B) HZ2.out))
  have HSa : Hid (Step B w (w2.alloc (.cells #[.int .i64 0, .slice (some ⟨Z, 0, none⟩) 64 64, .int .i64 12, .slice (some ⟨Z, 0, none⟩) 64 64] 131))) := Lib.hid ((Step.of HB2.out HBW.out).trans ((Step.refl B w2).alloc HD2.out.size _))
  have HKa : Hid (ZB Z (w2.alloc (.cells #[.int .i64 0, .slice (some ⟨Z, 0, none⟩) 64 64, .int .i64 12, .slice (some ⟨Z, 0, none⟩) 64 64] 131)) ∧ (w2.alloc (.cells #[.int .i64 0, .slice (some ⟨Z, 0, none⟩) 64 64, .int .i64 12, .slice (some ⟨Z, 0, none⟩) 64 64] 131)).heap[w.heap.size]? = some (.cells #[.int .i64 s, .int .i64 b] 58 (0, 0))) := Lib.hid ⟨blk_old HZ2.out _, blk_old HBX2.out _⟩
  go_upto_region 13 with (first
    | (go_at_call 55; (with_reducible refine (KP0.out _ _ _ HDa.out HWa.out).mono ?_); rintro e w3 ⟨rfl, ⟨lv3, hd3⟩, hs3⟩; have HD3 := Lib.hid hd3; have HS3 := Lib.hid (And.intro (HSa.out.trans hs3) (And.intro (hs3.kept _ _ HKa.out.1 rfl) (hs3.kept _ _ HKa.out.2 rfl))); clear hd3 hs3)
    | (go_at_call 56; (with_reducible refine (KF0.out _ _ HD3.out).mono ?_); rintro e w4 ⟨rfl, hd4, hs4⟩; have HD4 := Lib.hid hd4; have HS4 := Lib.hid (And.intro (HS3.out.1.trans hs4) (And.intro (hs4.kept _ _ HS3.out.2.1 rfl) (hs4.kept _ _ HS3.out.2.2 rfl))); clear hd4 hs4))
  go_wp2_with (fail)
  go_loopg [45] (17) (fun gg s45 wr => ∃ k : Nat, k ≤ 16 ∧ 16 - k < gg ∧ s45 = .int .i64 (k : Int) ∧ Hid ((∃ lv', DevAt B wr D S N lv' (fmtK d k)) ∧ Step B w wr ∧ ZB Z wr ∧ wr.heap[w.heap.size]? = some (.cells #[.int .i64 s, .int .i64 b] 58 (0, 0))))
  case atStart => exact ⟨0, by omega, by omega, rfl, Lib.hid ⟨⟨_, HD4.out⟩, HS4.out⟩⟩
  case round =>
    obtain ⟨k, hk, hgg, rfl, HR⟩ := hrel
    obtain ⟨lvk, hdk⟩ := HR.out.1
    have HDk := Lib.hid hdk
    by_cases hlt : k < 16
    · have hil : (k : Int) < 16 := by omega
      have HDa : Hid (DevAt B (wr.alloc (.cells #[.int .i64 (24 + (k : Int)), .slice (some ⟨Z, 0, none⟩) 64 64] 131)) D S N lvk (fmtK d k)) := Lib.hid (HDk.out.later ((Below.refl _ _).alloc (Nat.le_refl _) _))
      have HWa := Lib.hid (wr_one (at_ := 24 + (k : Int)) HDk.out.size (ZB.bytes (B := B) HR.out.2.2.1))
      have HSa : Hid (Step B wr (wr.alloc (.cells #[.int .i64 (24 + (k : Int)), .slice (some ⟨Z, 0, none⟩) 64 64] 131))) := Lib.hid ((Step.refl B wr).alloc HDk.out.size _)
      go_wp2_with (go_at_call 55; (with_reducible refine (KPK.out _ _ _ k _ hlt HDa.out HWa.out).mono ?_); rintro e w5 ⟨rfl, hd5, hs5⟩; have hs6 := HSa.out.trans hs5; have HR5 := Lib.hid (And.intro hd5 (And.intro (HR.out.2.1.trans hs6) (And.intro (hs6.kept _ _ HR.out.2.2.1 rfl) (hs6.kept _ _ HR.out.2.2.2 rfl)))); clear hd5 hs5 hs6)
      go_roundg (16 - (k + 1) + 1)
      case measure => omega
      case rel => exact ⟨k + 1, by omega, by omega, by go_num, HR5⟩
    · have hil : ¬ (k : Int) < 16 := by omega
      obtain rfl : k = 16 := by omega
      have r0 : wr.cell? ⟨w.heap.size, 0, none⟩ = some (.int .i64 s) := blk_cell HR.out.2.2.2 0
      have r1 : wr.cell? ⟨w.heap.size, 1, none⟩ = some (.int .i64 b) := blk_cell HR.out.2.2.2 1
      go_wp2_with (go_at_call 57; (refine (KV.out _ _ HDk.out).mono ?_); rintro e w5 ⟨rfl, hd5, hs5⟩; have HR5 := Lib.hid (And.intro hd5 (HR.out.2.1.trans hs5)); clear hd5 hs5)
      go_ret
      exact ⟨rfl, HR5.out.1, HR5.out.2⟩
end Go.Proofs.YtjohhjdicbeojaaGreatDoor.St
