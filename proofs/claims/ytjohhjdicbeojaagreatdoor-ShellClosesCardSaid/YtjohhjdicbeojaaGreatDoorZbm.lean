/- Texts joined: Sw. -/
import Derived.Test.YtjohhjdicbeojaaGreatDoorZbl
namespace Go.Proofs.YtjohhjdicbeojaaGreatDoor.Sw
open Go.RowKit Go.Proofs.YtjohhjdicbeojaaGreatDoor.Ra Go.Proofs.YtjohhjdicbeojaaGreatDoor.Rc Go.Proofs.YtjohhjdicbeojaaGreatDoor.Re Go.Proofs.YtjohhjdicbeojaaGreatDoor.Rf Go.Proofs.YtjohhjdicbeojaaGreatDoor.Rg Go.Proofs.YtjohhjdicbeojaaGreatDoor.Ri Go.Proofs.YtjohhjdicbeojaaGreatDoor.Rj Go.Proofs.YtjohhjdicbeojaaGreatDoor.Rl Go.Proofs.YtjohhjdicbeojaaGreatDoor.Rn Go.Proofs.YtjohhjdicbeojaaGreatDoor.Ro Go.Proofs.YtjohhjdicbeojaaGreatDoor.Rp Go.Proofs.YtjohhjdicbeojaaGreatDoor.Rq Go.Proofs.YtjohhjdicbeojaaGreatDoor.Rt Go.Proofs.YtjohhjdicbeojaaGreatDoor.Ry Go.Proofs.YtjohhjdicbeojaaGreatDoor.Sa Go.Proofs.YtjohhjdicbeojaaGreatDoor.Sd Go.Proofs.YtjohhjdicbeojaaGreatDoor.Se Go.Proofs.YtjohhjdicbeojaaGreatDoor.Sf Go.Proofs.YtjohhjdicbeojaaGreatDoor.Sg Go.Proofs.YtjohhjdicbeojaaGreatDoor.Sm Go.Proofs.YtjohhjdicbeojaaGreatDoor.Sn Go.Proofs.YtjohhjdicbeojaaGreatDoor.Sp Go.Proofs.YtjohhjdicbeojaaGreatDoor.Sq Go.Proofs.YtjohhjdicbeojaaGreatDoor.Sv
set_option maxRecDepth 8000
theorem results_cells_five {P : Program} {fn : Func} {p q u v x : Tmp} {ty uy : TypeId} (h : fn.results = #[.cell p ty, .cell q uy, .tmp u, .tmp v, .tmp x]) (tmps : Array Value) (w : World) (g k : Nat) (t t2 : TypeId) (cs ds : Array Value) (fr fr2 : Nat × Nat) (d d2 : TypeDesc)
    (hp : tmps.getD p undef = .pointer (some ⟨g, 0, none⟩)) (hq : tmps.getD q undef = .pointer (some ⟨k, 0, none⟩)) (hg : w.heap[g]? = some (.cells cs t fr)) (hk : w.heap[k]? = some (.cells ds t2 fr2))
    (hu : P.underlying ty = some d) (hd : (match d with | .struct _ | .array _ _ => true | _ => false) = true) (hi : (P.info? ty).map (·.size) = some cs.size)
    (hu2 : P.underlying uy = some d2) (hd2 : (match d2 with | .struct _ | .array _ _ => true | _ => false) = true) (hi2 : (P.info? uy).map (·.size) = some ds.size) :
    (results fn tmps).run P w = .ok (.tuple #[.agg cs, .agg ds, tmps.getD u undef, tmps.getD v undef, tmps.getD x undef]) w := by
  have hp' : tmps[p]?.getD undef = .pointer (some ⟨g, 0, none⟩) := by simpa using hp
  have hq' : tmps[q]?.getD undef = .pointer (some ⟨k, 0, none⟩) := by simpa using hq
  simp [results, h, hp', hq', asAddr, run_loadVar_row w g t ty cs fr d hg hu hd hi, run_loadVar_row w k t2 uy ds fr2 d2 hk hu2 hd2 hi2]
theorem wpList_load_guard {P : Program} {ops : Array Oper} {rest : List Oper} {op : Oper} {a : Act} {w : World} {Q : Exit → Act → World → Prop} (hw : Region.wanted op (yielded ops a.tmps) = true) (ty : TypeId) (x : Operand) (ho : op.op = .load ty x)
    (g : Nat) (hx : a.eval x = .pointer (some ⟨g, 0, none⟩)) (t : TypeId) (cs : Array Value) (fr : Nat × Nat) (d : TypeDesc) (hg : w.heap[g]? = some (.cells cs t fr))
    (hu : P.underlying ty = some d) (hd : (match d with | .struct _ | .array _ _ => true | _ => false) = true) (hi : (P.info? ty).map (·.size) = some cs.size)
    (h : wpList P ops Q rest (a.put op.dst (.agg cs)) w) : wpList P ops Q (op :: rest) a w :=
  wpList_step fun K hK => by
    rw [if_pos hw]
    exact wp_load_row ty x ho g hx _ _ _ _ hg hu hd hi (hK _ _ h)
theorem AB.there {A : Nat} {x y : Value} {w W : World} (h : AB A x y w W) : W.there (A + 1) 0 2 := (put_plat h.pl x y).2
set_option maxHeartbeats 4000000 in
theorem open_nil (w : World) : Calls Tryz.prog 34 #[.pointer none] w fun e w' => e = .returned (.tuple #[.agg emptyCells, .agg #[.int .i64 0, .int .i64 0], .int .i64 0, .int .i64 0, .int .i64 1]) ∧ Below w.heap.size w w' := by
  have H0 := Lib.hid (AB.start w)
  have KL := Lib.hid (fun (W : World) => load_nil W)
  go_enter Tryz.func34, Tryz.ntmps34
  go_upto_region 1 with fail
  rw [show ((w.alloc (.cells #[.int .i64 0, .int .i64 0, .int .i64 0, .int .i64 0, .int .i64 0, .int .i64 0, .int .i64 0, .int .i64 0, .int .i64 0, .int .i64 0, .int .i64 0, .int .i64 0, .int .i64 0, .int .i64 0, .int .i64 0, .int .i64 0, .slice none 0 0, .slice none 0 0, .slice none 0 0, .slice none 0 0, .slice none 0 0, .slice none 0 0, .slice none 0 0, .slice none 0 0] 96)).alloc (.cells #[.int .i64 0, .int .i64 0] 58)) = ((w.alloc (.cells emptyCells 96)).alloc (.cells #[.int .i64 0, .int .i64 0] 58)) from rfl]
  generalize ((w.alloc (.cells emptyCells 96)).alloc (.cells #[.int .i64 0, .int .i64 0] 58)) = w0 at *
  go_wp2_with (first
    | (go_at_call 58; (with_reducible refine (KL.out _).mono ?_); rintro e w1 ⟨rfl, hb1⟩; have H1 := Lib.hid (H0.out.later hb1); clear hb1)
    | (refine wpList_store_named rfl 96 (.tmp 2) (.tmp 16) rfl w.heap.size 0 emptyCells.toList rfl rfl (thereE' H1.out.st) sizeEl oneE' ?_; intro w2 hw2; have H2 : Hid (AB w.heap.size (.int .i64 0) (.int .i64 0) w w2) := Lib.hid (by rw [hw2]; exact H1.out.setSt (Nat.le_refl _)); clear hw2)
    | (refine wpList_store_named rfl 58 (.tmp 3) (.tmp 17) rfl (w.heap.size + 1) 0 [.int .i64 0, .int .i64 0] rfl rfl (AB.there H2.out) (by kernel_rfl) (by intro y hy; simp at hy; subst hy; rfl) ?_; intro w3 hw3; have H3 : Hid (AB w.heap.size (.int .i64 0) (.int .i64 0) w w3) := Lib.hid (by rw [hw3]; exact H2.out.setPl (Nat.le_refl _) _ _); clear hw3)
    | (refine wpList_store_named rfl 96 (.tmp 2) (.tmp 22) rfl w.heap.size 0 emptyCells.toList rfl rfl (thereE' H3.out.st) sizeEl oneE' ?_; intro w4 hw4; have H4 : Hid (AB w.heap.size (.int .i64 0) (.int .i64 0) w w4) := Lib.hid (by rw [hw4]; exact H3.out.setSt (Nat.le_refl _)); clear hw4)
    | (refine wpList_store_named rfl 58 (.tmp 3) (.tmp 23) rfl (w.heap.size + 1) 0 [.int .i64 0, .int .i64 0] rfl rfl (AB.there H4.out) (by kernel_rfl) (by intro y hy; simp at hy; subst hy; rfl) ?_; intro w5 hw5; have H5 : Hid (AB w.heap.size (.int .i64 0) (.int .i64 0) w w5) := Lib.hid (by rw [hw5]; exact H4.out.setPl (Nat.le_refl _) _ _); clear hw5))
  exact bodyPost_ret (results_cells_five rfl _ w5 w.heap.size (w.heap.size + 1) _ _ _ _ _ _ _ _ rfl rfl H5.out.st H5.out.pl Tryz.underlying96 rfl sizeE' Tryz.underlying58 rfl (by kernel_rfl)) rfl ⟨rfl, H5.out.below⟩
set_option maxHeartbeats 4000000 in
theorem open_c {B : Nat} {w : World} {D S N : Nat} {lv : Value} {d : Dev} {s b : Int} (hm : MayP s b) (h : DevAt B w D S N lv d) (hf : Formed s b d) (hn : 40 + s * b ≤ (d.n : Int)) :
    Calls Tryz.prog 34 #[.pointer (some ⟨D, 0, none⟩)] w fun e w' => e = .returned (.tuple #[.agg emptyCells, .agg #[.int .i64 s, .int .i64 b], .int .i64 1, .int .i64 0, .int .i64 0]) ∧ Below w.heap.size w w' := by
  have H0 := Lib.hid (AB.start w)
  have KL := Lib.hid (fun (W : World) (hb : Below w.heap.size w W) => load_c hm (h.later hb) hf)
  have KS := Lib.hid (fun (W : World) => sectors_c s b hm W)
  have KZ := Lib.hid (fun (W : World) (hb : Below w.heap.size w W) => Rf.size_c (h.later hb))
  have hbig := hf.big
  have KO := Lib.hid (fun (W : World) (hb : Below w.heap.size w W) => sload_c (h.later hb) hf.off (by omega) hf.z24)
  have KA := Lib.hid (fun (W : World) => apply_c W)
  have KF := Lib.hid (fun (W : World) => fit_c s b hm W)
  obtain ⟨sn, rfl⟩ : ∃ n : Nat, s = (n : Int) := ⟨s.toNat, by have := hm.1; omega⟩
  have KR := Lib.hid (fun (W : World) => free_c sn b hm W)
  have hs6 : 6 ≤ sn := by have := hm.1; omega
  have hs2 : ¬ (sn : Int) < 2 := by omega
  have hge : ¬ (d.n : Int) < 40 + (sn : Int) * b := by omega
  clear h hf hm hn hbig
  generalize (sn : Int) * b = m at *
  generalize (d.n : Int) = n at *
  go_enter Tryz.func34, Tryz.ntmps34
  go_upto_region 1 with fail
  rw [show ((w.alloc (.cells #[.int .i64 0, .int .i64 0, .int .i64 0, .int .i64 0, .int .i64 0, .int .i64 0, .int .i64 0, .int .i64 0, .int .i64 0, .int .i64 0, .int .i64 0, .int .i64 0, .int .i64 0, .int .i64 0, .int .i64 0, .int .i64 0, .slice none 0 0, .slice none 0 0, .slice none 0 0, .slice none 0 0, .slice none 0 0, .slice none 0 0, .slice none 0 0, .slice none 0 0] 96)).alloc (.cells #[.int .i64 0, .int .i64 0] 58)) = ((w.alloc (.cells emptyCells 96)).alloc (.cells #[.int .i64 0, .int .i64 0] 58)) from rfl]
  generalize ((w.alloc (.cells emptyCells 96)).alloc (.cells #[.int .i64 0, .int .i64 0] 58)) = w0 at *
  go_upto_region 4 with (first
    | (go_at_call 58; (with_reducible refine (KL.out _ H0.out.below).mono ?_); rintro e w1 ⟨rfl, hb1⟩; have H1 := Lib.hid (H0.out.later hb1); clear hb1)
    | (refine wpList_store_named rfl 96 (.tmp 2) (.tmp 16) rfl w.heap.size 0 emptyCells.toList rfl rfl (thereE' H1.out.st) sizeEl oneE' ?_; intro w2 hw2; have H2 : Hid (AB w.heap.size (.int .i64 0) (.int .i64 0) w w2) := Lib.hid (by rw [hw2]; exact H1.out.setSt (Nat.le_refl _)); clear hw2)
    | (refine wpList_store_named rfl 58 (.tmp 3) (.tmp 17) rfl (w.heap.size + 1) 0 [.int .i64 (sn : Int), .int .i64 b] rfl rfl (AB.there H2.out) (by kernel_rfl) (by intro y hy; simp at hy; rcases hy with rfl | rfl <;> rfl) ?_; intro w3 hw3; have H3 : Hid (AB w.heap.size (.int .i64 (sn : Int)) (.int .i64 b) w w3) := Lib.hid (by rw [hw3]; exact H2.out.setPl (Nat.le_refl _) _ _); clear hw3))
  have c0 : w3.cell? ⟨w.heap.size + 1, 0, none⟩ = some (.int .i64 (sn : Int)) := blk_cell H3.out.pl 0
  have c1 : w3.cell? ⟨w.heap.size + 1, 1, none⟩ = some (.int .i64 b) := blk_cell H3.out.pl 1
  go_upto_region 7 with (first
    | (go_at_call 53; (with_reducible refine (KS.out _).mono ?_); rintro e w4 ⟨rfl, hb4⟩; have H4 := Lib.hid (H3.out.later hb4); clear hb4)
    | (go_at_call 54; (with_reducible refine (KZ.out _ H4.out.below).mono ?_); rintro e w5 ⟨rfl, rfl⟩))
  go_upto_region 11 with (first
    | (go_at_call 59; (with_reducible refine (KO.out _ H4.out.below).mono ?_); rintro e w6 ⟨rfl, hb6⟩; have H6 := Lib.hid (H4.out.later hb6); clear hb6)
    | (refine wpList_load_row rfl 96 (.tmp 2) rfl w.heap.size rfl _ emptyCells _ _ H6.out.st Tryz.underlying96 rfl sizeE' ?_)
    | (go_at_call 60; (with_reducible refine (KA.out _).mono ?_); rintro e w7 ⟨rfl, hb7⟩; have H7 := Lib.hid (H6.out.later hb7); clear hb7)
    | (refine wpList_store_named rfl 96 (.tmp 2) (.tmp 52) rfl w.heap.size 0 emptyCells.toList rfl rfl (thereE' H7.out.st) sizeEl oneE' ?_; intro w8 hw8; have H8 : Hid (AB w.heap.size (.int .i64 (sn : Int)) (.int .i64 b) w w8) := Lib.hid (by rw [hw8]; exact H7.out.setSt (Nat.le_refl _)); clear hw8))
  have d0 : w8.cell? ⟨w.heap.size + 1, 0, none⟩ = some (.int .i64 (sn : Int)) := blk_cell H8.out.pl 0
  have d1 : w8.cell? ⟨w.heap.size + 1, 1, none⟩ = some (.int .i64 b) := blk_cell H8.out.pl 1
  go_upto_region 13 with (first
    | (refine wpList_load_guard (by rfl) 96 (.tmp 2) rfl w.heap.size rfl _ emptyCells _ _ H8.out.st Tryz.underlying96 rfl sizeE' ?_)
    | (go_at_call 61; (with_reducible refine (KF.out _).mono ?_); rintro e w9 ⟨rfl, hb9⟩; have H9 := Lib.hid (H8.out.later hb9); clear hb9))
  have e0 : w9.cell? ⟨w.heap.size + 1, 0, none⟩ = some (.int .i64 (sn : Int)) := blk_cell H9.out.pl 0
  have e1 : w9.cell? ⟨w.heap.size + 1, 1, none⟩ = some (.int .i64 b) := blk_cell H9.out.pl 1
  go_upto_region 16 with (first
    | (refine wpList_load_row rfl 96 (.tmp 2) rfl w.heap.size rfl _ emptyCells _ _ H9.out.st Tryz.underlying96 rfl sizeE' ?_)
    | (go_at_call 35; (with_reducible refine (KR.out _).mono ?_); rintro e w10 ⟨q, cq, rfl, hb10⟩; have H10 := Lib.hid (H9.out.later hb10); clear hb10))
  refine Sh.region_eq' (ops := rO16) (by kernel_rfl) ?_
  refine wp_region_each (TO16 (.int .i64 (sn : Int)) (.int .i64 b) (.int .i64 1)) (fun _ W => AB w.heap.size (.int .i64 (sn : Int)) (.int .i64 b) w W) (by kernel_rfl) (by kernel_rfl) (H10.out.later (Below.refl _ _).drew)
    (owesO16 w.heap.size (.int .i64 (sn : Int)) (.int .i64 b) (.int .i64 1) rfl rfl w (Nat.le_refl _) _ rfl rfl rfl rfl) ?_
  intro P a1 w11 hall hF hS hT
  obtain ⟨v4, q4, t4⟩ := hT 7 _ (Array.getElem?_eq_getElem (by rw [show rO16.size = 10 from by kernel_rfl]; decide))
  obtain ⟨v5, q5, t5⟩ := hT 8 _ (Array.getElem?_eq_getElem (by rw [show rO16.size = 10 from by kernel_rfl]; decide))
  obtain ⟨v6, q6, t6⟩ := hT 9 _ (Array.getElem?_eq_getElem (by rw [show rO16.size = 10 from by kernel_rfl]; decide))
  have t4' : v4 = .int .i64 1 := t4
  have t5' : v5 = .int .i64 0 := t5
  have t6' : v6 = .int .i64 0 := t6
  subst t4' t5' t6'
  have q4' : a1.tmps.getD 4 undef = .int .i64 1 := eval_at q4
  have q5' : a1.tmps.getD 5 undef = .int .i64 0 := eval_at q5
  have q6' : a1.tmps.getD 6 undef = .int .i64 0 := eval_at q6
  have s2 := slot (k := 2) hF (by kernel_rfl) rfl
  have s3 := slot (k := 3) hF (by kernel_rfl) rfl
  have hd := hF.defers
  go_wp2_with (fail)
  refine bodyPost_ret (results_cells_five rfl _ w11 w.heap.size (w.heap.size + 1) _ _ _ _ _ _ _ _ s2 s3 hS.st hS.pl Tryz.underlying96 rfl sizeE' Tryz.underlying58 rfl (by kernel_rfl)) hd ?_
  rw [q4', q5', q6']
  exact ⟨rfl, hS.below⟩
end Go.Proofs.YtjohhjdicbeojaaGreatDoor.Sw
