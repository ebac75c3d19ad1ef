/- Texts joined: Vn. -/
import Derived.Test.YtjohhjdicbeojaaGreatDoorZbk
import Derived.Test.YtjohhjdicbeojaaGreatDoorZbl
import Derived.Test.YtjohhjdicbeojaaGreatDoorZbm
namespace Go.Proofs.YtjohhjdicbeojaaGreatDoor.Vn
open Go.RowKit Go.Proofs.YtjohhjdicbeojaaGreatDoor.Ra Go.Proofs.YtjohhjdicbeojaaGreatDoor.Rc Go.Proofs.YtjohhjdicbeojaaGreatDoor.Re Go.Proofs.YtjohhjdicbeojaaGreatDoor.Rf Go.Proofs.YtjohhjdicbeojaaGreatDoor.Rj Go.Proofs.YtjohhjdicbeojaaGreatDoor.Rl Go.Proofs.YtjohhjdicbeojaaGreatDoor.Rn Go.Proofs.YtjohhjdicbeojaaGreatDoor.Ro Go.Proofs.YtjohhjdicbeojaaGreatDoor.Rp Go.Proofs.YtjohhjdicbeojaaGreatDoor.Rq Go.Proofs.YtjohhjdicbeojaaGreatDoor.Rt Go.Proofs.YtjohhjdicbeojaaGreatDoor.Sn Go.Proofs.YtjohhjdicbeojaaGreatDoor.Sq Go.Proofs.YtjohhjdicbeojaaGreatDoor.Ss Go.Proofs.YtjohhjdicbeojaaGreatDoor.Su Go.Proofs.YtjohhjdicbeojaaGreatDoor.Sw Go.Proofs.YtjohhjdicbeojaaGreatDoor.Ud Go.Proofs.YtjohhjdicbeojaaGreatDoor.Va Go.Proofs.YtjohhjdicbeojaaGreatDoor.Vb Go.Proofs.YtjohhjdicbeojaaGreatDoor.Vd Go.Proofs.YtjohhjdicbeojaaGreatDoor.Vf Go.Proofs.YtjohhjdicbeojaaGreatDoor.Vg Go.Proofs.YtjohhjdicbeojaaGreatDoor.Vi
set_option maxRecDepth 8000
/-- Open's boxes, and the free segments. -/
structure OpAt (w W : World) (M B0 : Nat) (v : Value) : Prop where
  st : W.heap[M]? = some (.cells emptyCells 96 (0, 0))
  pl : W.heap[M + 1]? = some (.cells #[.int .i64 6, .int .i64 2] 58 (0, 0))
  row : W.ownsRow B0 3 1 v 6 (upTo 6)
  below : Below w.heap.size w W
  ge : w.heap.size ≤ M
theorem OpAt.later {w W W' : World} {M B0 : Nat} {v : Value} (h : OpAt w W M B0 v) (hb : Below W.heap.size W W') : OpAt w W' M B0 v :=
  ⟨blk_below h.st hb (lt_of_block h.st), blk_below h.pl hb (lt_of_block h.pl), row_below h.row hb, h.below.trans (hb.mono h.below.size), h.ge⟩
theorem OpAt.cells {w W : World} {M B0 : Nat} {v : Value} (h : OpAt w W M B0 v) : W.cell? ⟨M + 1, 0, none⟩ = some (.int .i64 6) ∧ W.cell? ⟨M + 1, 1, none⟩ = some (.int .i64 2) := ⟨blk_cell h.pl 0, blk_cell h.pl 1⟩
theorem make6 (u : World) : (Instr.makeSlice 25 (.int .i64 6) (.int .i64 6)).run Tryz.prog u = .ok (.slice (some ⟨u.heap.size, 0, none⟩) 6 6) (u.alloc (.cells (intVals (List.replicate 6 0)).toArray 3)) := make_ints 6 (by decide) u
/-- Open, with the pool made. -/
structure Opn (w W : World) (M B0 : Nat) (v : Value) (P G D : Nat) (r q st : Value) : Prop where
  op : OpAt w W M B0 v
  blk : W.heap[P]? = some (.cells #[.pointer (some ⟨G, 0, none⟩), .pointer (some ⟨D, 0, none⟩), .int .i64 6, .int .i64 2, r, q, .int .i64 1, .int .i64 16, .slice none 0 0, .bool false, .int .i64 0, st, .bool false] 107 (0, 0))
  gate : GateAt w.heap.size W G 0 [] none 0
  ge : w.heap.size ≤ P
theorem GateAt.mono {B C : Nat} {w : World} {G : Nat} {t : Int} (h : GateAt C w G t [] none 0) (hB : B ≤ C) : GateAt B w G t [] none 0 := ⟨Nat.le_trans hB h.base, h.blk, QRow.empty _ _⟩
theorem opn_of {w U : World} {M B0 : Nat} {v : Value} {C G : Nat} (D : Nat) (st : Value) (hop : OpAt w U M B0 v) (hg : GateAt C U G 0 [] none 0) (hC : w.heap.size ≤ C) :
    Opn w (U.alloc (.cells #[.pointer (some ⟨G, 0, none⟩), .pointer (some ⟨D, 0, none⟩), .int .i64 6, .int .i64 2, .pointer none, .pointer none, .int .i64 1, .int .i64 16, .slice none 0 0, .bool false, .int .i64 0, st, .bool false] 107)) M B0 v U.heap.size G D (.pointer none) (.pointer none) st :=
  ⟨hop.later ((Below.refl _ _).alloc (Nat.le_refl _) _), blk_new _ _ _, (GateAt.mono hg hC).below ((Below.refl _ _).alloc (Nat.le_refl _) _), hop.below.size⟩
theorem Opn.later {w W W' : World} {M B0 : Nat} {v : Value} {P G D : Nat} {r q st : Value} (h : Opn w W M B0 v P G D r q st) (hb : Below W.heap.size W W') : Opn w W' M B0 v P G D r q st :=
  ⟨h.op.later hb, blk_below h.blk hb (lt_of_block h.blk), h.gate.below hb, h.ge⟩
theorem Opn.other {w W : World} {M B0 : Nat} {v : Value} {P G D : Nat} {r q st : Value} (h : Opn w W M B0 v P G D r q st) (j : Nat) (u : Value) : OpAt w (W.setCell ⟨P, j, none⟩ u) M B0 v ∧ GateAt w.heap.size (W.setCell ⟨P, j, none⟩ u) G 0 [] none 0 := by
  have hk := (Kept.refl [107] w.heap.size W).set h.blk h.ge (by rfl) j u
  refine ⟨⟨hk.at h.op.st (by rfl), hk.at h.op.pl (by rfl), ⟨h.op.row.1, ?_⟩, h.op.below.setCell h.ge u, h.op.ge⟩, h.gate.kept hk (by rfl) (by rfl)⟩
  rcases h.op.row.2 with hn | ⟨g, cap, cur, hv, hg, hh, r⟩
  · exact .inl hn
  · exact .inr ⟨g, cap, cur, hv, hg, hk.at hh (by rfl), r⟩
theorem Opn.set4 {w W : World} {M B0 : Nat} {v : Value} {P G D : Nat} {r q st : Value} (h : Opn w W M B0 v P G D r q st) (u : Value) : Opn w (W.setCell ⟨P, 4, none⟩ u) M B0 v P G D u q st := ⟨(h.other 4 u).1, blk_set h.blk 4 u, (h.other 4 u).2, h.ge⟩
theorem Opn.set5 {w W : World} {M B0 : Nat} {v : Value} {P G D : Nat} {r q st : Value} (h : Opn w W M B0 v P G D r q st) (u : Value) : Opn w (W.setCell ⟨P, 5, none⟩ u) M B0 v P G D r u st := ⟨(h.other 5 u).1, blk_set h.blk 5 u, (h.other 5 u).2, h.ge⟩
theorem Opn.cells {w W : World} {M B0 : Nat} {v : Value} {P G D : Nat} {r q st : Value} (h : Opn w W M B0 v P G D r q st) : W.cell? ⟨P, 4, none⟩ = some r ∧ W.cell? ⟨P, 5, none⟩ = some q ∧ W.frozen? ⟨P, 4, none⟩ = false ∧ W.frozen? ⟨P, 5, none⟩ = false := ⟨blk_cell h.blk 4, blk_cell h.blk 5, blk_free h.blk 4, blk_free h.blk 5⟩
set_option maxHeartbeats 8000000 in
theorem popen_c {B : Nat} {w : World} {D S N : Nat} {lv : Value} {d : Dev} (h : DevAt B w D S N lv d) (hf : Formed 6 2 d) (hn : 52 ≤ d.n) :
    Calls Tryz.prog 20 #[.pointer (some ⟨D, 0, none⟩)] w fun e w' => ∃ P G R x, (e = .returned (.tuple #[.pointer (some ⟨P, 0, none⟩), .int .i64 0])) ∧ PoolAt w.heap.size w' P G R x ∧ (x.dl = .slice none 0 0 ∧ x.ck = 0) ∧ RollAt w' R 0 0 (.pointer none) ∧ w.heap.size ≤ R ∧ GateAt w.heap.size w' G 0 [] none 0 ∧ Below w.heap.size w w' := by
  have KO := Lib.hid (open_c may62 h hf (by omega))
  have kf := fun (W : World) => Ud.free_c 6 2 may62 W
  have ks := fun (v : Value) (B0 : Nat) (W : World) (hv : W.ownsRow B0 3 1 v 6 (upTo 6)) => snew_c 6 2 may62 v W hv
  simp only [show ((6 : Nat) : Int) = 6 from rfl] at kf ks
  have KF := Lib.hid kf
  have KS := Lib.hid ks
  clear kf ks
  have KG := Lib.hid (fun (W : World) => gnew_c W)
  have KR := Lib.hid (fun (W : World) => rfrom_c W)
  have hmk := make6
  have hst := store_new2
  clear h hf hn
  go_enter Tryz.func20, Tryz.ntmps20
  go_upto_region 4 with (go_at_call 34; (with_reducible refine KO.out.mono ?_); rintro e w1 ⟨rfl, hb1⟩; have HL1 := Lib.hid hb1; clear hb1)
  have hst0 := blk_old (blk_new w1 emptyCells 96) (.cells #[.int .i64 6, .int .i64 2] 58)
  have hp0 := blk_new (w1.alloc (.cells emptyCells 96)) #[.int .i64 6, .int .i64 2] 58
  rw [sz_alloc] at hp0
  have hL2 : Below w.heap.size w ((w1.alloc (.cells emptyCells 96)).alloc (.cells #[.int .i64 6, .int .i64 2] 58)) := (HL1.out.alloc HL1.out.size _).alloc (by rw [sz_alloc]; exact Nat.le_succ_of_le HL1.out.size) _
  have HST0 := Lib.hid hst0
  have HPL0 := Lib.hid hp0
  have HL2 := Lib.hid hL2
  have hM := HL1.out.size
  have HM := Lib.hid hM
  clear hst0 hp0 hL2 hM hst
  generalize ((w1.alloc (.cells emptyCells 96)).alloc (.cells #[.int .i64 6, .int .i64 2] 58)) = w2 at *
  generalize w1.heap.size = M at *
  have c0 : w2.cell? ⟨M + 1, 0, none⟩ = some (.int .i64 6) := blk_cell HPL0.out 0
  have c1 : w2.cell? ⟨M + 1, 1, none⟩ = some (.int .i64 2) := blk_cell HPL0.out 1
  go_upto_region 5 with (first
    | (refine wpList_load_row rfl 96 (.tmp 4) rfl M rfl _ emptyCells _ _ HST0.out Tryz.underlying96 rfl sizeE' ?_)
    | (go_at_call 35; (with_reducible refine (KF.out _).mono ?_); rintro e w3 ⟨v, rfl, hv, hb3⟩; have HO3 : Hid (OpAt w w3 M w2.heap.size v) := Lib.hid ⟨blk_below HST0.out hb3 (lt_of_block HST0.out), blk_below HPL0.out hb3 (lt_of_block HPL0.out), hv, HL2.out.trans (hb3.mono HL2.out.size), HM.out⟩; clear hv hb3))
  have HO3' : Hid (OpAt w w3.drew M w2.heap.size v) := Lib.hid ⟨HO3.out.st, HO3.out.pl, HO3.out.row, HO3.out.below.drew, HO3.out.ge⟩
  clear c0 c1
  obtain ⟨c0, c1⟩ := HO3.out.cells
  have hL3 := lt_of_block HO3.out.pl
  go_region_with (go_at_call 36; (with_reducible refine (KG.out _).mono ?_); rintro e w4 ⟨rfl, hg, hb⟩; have HB4 := Lib.hid hb; have HG4 := Lib.hid hg; have HO4 : Hid (OpAt w w4 M w2.heap.size v) := Lib.hid (by first | exact HO3'.out.later hb | exact (HO3'.out.later ((Below.refl _ _).alloc (Nat.le_refl _) _)).later hb); obtain ⟨c0', c1'⟩ := HO4.out.cells; have hL4 := lt_of_block HO4.out.pl; clear hg hb)
  all_goals (
    have hC : w.heap.size ≤ w3.drew.heap.size := HO3.out.below.size
    first
      | (have HN : Hid (Opn w ((w4.alloc (.cells (intVals [0, 0, 0, 0, 0, 0]).toArray 3)).alloc (.cells #[.pointer (some ⟨w3.heap.size, 0, none⟩), .pointer (some ⟨D, 0, none⟩), .int .i64 6, .int .i64 2, .pointer none, .pointer none, .int .i64 1, .int .i64 16, .slice none 0 0, .bool false, .int .i64 0, .slice (some ⟨w4.heap.size, 0, none⟩) 6 6, .bool false] 107)) M w2.heap.size v (w4.heap.size + 1) w3.heap.size D (.pointer none) (.pointer none) (.slice (some ⟨w4.heap.size, 0, none⟩) 6 6)) := Lib.hid (by
          have hh := opn_of D (.slice (some ⟨w4.heap.size, 0, none⟩) 6 6) (HO4.out.later ((Below.refl _ _).alloc (Nat.le_refl _) (.cells (intVals [0, 0, 0, 0, 0, 0]).toArray 3))) (HG4.out.below ((Below.refl _ _).alloc (Nat.le_refl _) (.cells (intVals [0, 0, 0, 0, 0, 0]).toArray 3))) hC
          rw [sz_alloc] at hh
          exact hh)
         generalize ((w4.alloc (.cells (intVals [0, 0, 0, 0, 0, 0]).toArray 3)).alloc (.cells #[.pointer (some ⟨w3.heap.size, 0, none⟩), .pointer (some ⟨D, 0, none⟩), .int .i64 6, .int .i64 2, .pointer none, .pointer none, .int .i64 1, .int .i64 16, .slice none 0 0, .bool false, .int .i64 0, .slice (some ⟨w4.heap.size, 0, none⟩) 6 6, .bool false] 107)) = w5 at *
         obtain ⟨p4, p5, f4, f5⟩ := HN.out.cells
         obtain ⟨q0, q1⟩ := HN.out.op.cells
         clear c0 c1 c0' c1' hL3 hL4
         go_upto_region 7 with (first
           | (refine wpList_load_row rfl 96 (.tmp 4) rfl M rfl _ emptyCells _ _ HN.out.op.st Tryz.underlying96 rfl sizeE' ?_)
           | (go_at_call 37; (with_reducible refine (KR.out _).mono ?_); rintro e w6 ⟨R, rfl, hRge, hr, hb⟩; have HN6 := Lib.hid (HN.out.later hb); have HR6 := Lib.hid hr; have hR := Lib.hid (Nat.le_trans HN.out.op.below.size hRge); clear hRge hr hb p4 p5 f4 f5; obtain ⟨p4, p5, f4, f5⟩ := HN6.out.cells))
         have HN7 := Lib.hid (HN6.out.set4 (.pointer (some ⟨R, 0, none⟩)))
         have HR7 : Hid (RollAt (w6.setCell ⟨w4.heap.size + 1, 4, none⟩ (.pointer (some ⟨R, 0, none⟩))) R 0 0 (.pointer none)) := Lib.hid (Vg.RollAt.kept HR6.out ((Kept.refl [107] w.heap.size w6).set HN6.out.blk HN6.out.ge (by rfl) 4 _) (by rfl))
         clear p4 p5 f4 f5 q0 q1
         generalize (w6.setCell ⟨w4.heap.size + 1, 4, none⟩ (.pointer (some ⟨R, 0, none⟩))) = w7 at *
         obtain ⟨q0, q1⟩ := HN7.out.op.cells
         go_wp2_with (go_at_call 38; (refine (KS.out _ _ _ HN7.out.op.row).mono ?_); rintro e w8 ⟨S, rfl, hb8⟩; have HN8 := Lib.hid (HN7.out.later hb8); have HR8 := Lib.hid (HR7.out.below hb8); clear hb8; obtain ⟨p4, p5, f4, f5⟩ := HN8.out.cells)
         have HN9 := Lib.hid (HN8.out.set5 (.pointer (some ⟨S, 0, none⟩)))
         have HR9 : Hid (RollAt (w8.setCell ⟨w4.heap.size + 1, 5, none⟩ (.pointer (some ⟨S, 0, none⟩))) R 0 0 (.pointer none)) := Lib.hid (Vg.RollAt.kept HR8.out ((Kept.refl [107] w.heap.size w8).set HN8.out.blk HN8.out.ge (by rfl) 5 _) (by rfl))
         go_ret2
         exact ⟨w4.heap.size + 1, w3.heap.size, R, ⟨.pointer (some ⟨D, 0, none⟩), .pointer (some ⟨S, 0, none⟩), .slice none 0 0, false, 0, .slice (some ⟨w4.heap.size, 0, none⟩) 6 6⟩, rfl, ⟨HN9.out.ge, HN9.out.blk⟩, ⟨rfl, rfl⟩, HR9.out, hR.out, HN9.out.gate, HN9.out.op.below⟩)
      | (have HN : Hid (Opn w (w4.alloc (.cells #[.pointer (some ⟨w3.heap.size + 1, 0, none⟩), .pointer (some ⟨D, 0, none⟩), .int .i64 6, .int .i64 2, .pointer none, .pointer none, .int .i64 1, .int .i64 16, .slice none 0 0, .bool false, .int .i64 0, .slice (some ⟨w3.heap.size, 0, none⟩) 6 6, .bool false] 107)) M w2.heap.size v w4.heap.size (w3.heap.size + 1) D (.pointer none) (.pointer none) (.slice (some ⟨w3.heap.size, 0, none⟩) 6 6)) := Lib.hid (by
          have hh := HG4.out
          rw [show (w3.alloc (.cells (intVals [0, 0, 0, 0, 0, 0]).toArray 3)).drew.heap.size = w3.heap.size + 1 from sz_alloc w3 _] at hh
          exact opn_of D (.slice (some ⟨w3.heap.size, 0, none⟩) 6 6) HO4.out hh (Nat.le_succ_of_le hC))
         generalize (w4.alloc (.cells #[.pointer (some ⟨w3.heap.size + 1, 0, none⟩), .pointer (some ⟨D, 0, none⟩), .int .i64 6, .int .i64 2, .pointer none, .pointer none, .int .i64 1, .int .i64 16, .slice none 0 0, .bool false, .int .i64 0, .slice (some ⟨w3.heap.size, 0, none⟩) 6 6, .bool false] 107)) = w5 at *
         obtain ⟨p4, p5, f4, f5⟩ := HN.out.cells
         obtain ⟨q0, q1⟩ := HN.out.op.cells
         clear c0 c1 c0' c1' hL3 hL4
         go_upto_region 7 with (first
           | (refine wpList_load_row rfl 96 (.tmp 4) rfl M rfl _ emptyCells _ _ HN.out.op.st Tryz.underlying96 rfl sizeE' ?_)
           | (go_at_call 37; (with_reducible refine (KR.out _).mono ?_); rintro e w6 ⟨R, rfl, hRge, hr, hb⟩; have HN6 := Lib.hid (HN.out.later hb); have HR6 := Lib.hid hr; have hR := Lib.hid (Nat.le_trans HN.out.op.below.size hRge); clear hRge hr hb p4 p5 f4 f5; obtain ⟨p4, p5, f4, f5⟩ := HN6.out.cells))
         have HN7 := Lib.hid (HN6.out.set4 (.pointer (some ⟨R, 0, none⟩)))
         have HR7 : Hid (RollAt (w6.setCell ⟨w4.heap.size, 4, none⟩ (.pointer (some ⟨R, 0, none⟩))) R 0 0 (.pointer none)) := Lib.hid (Vg.RollAt.kept HR6.out ((Kept.refl [107] w.heap.size w6).set HN6.out.blk HN6.out.ge (by rfl) 4 _) (by rfl))
         clear p4 p5 f4 f5 q0 q1
         generalize (w6.setCell ⟨w4.heap.size, 4, none⟩ (.pointer (some ⟨R, 0, none⟩))) = w7 at *
         obtain ⟨q0, q1⟩ := HN7.out.op.cells
         go_wp2_with (go_at_call 38; (refine (KS.out _ _ _ HN7.out.op.row).mono ?_); rintro e w8 ⟨S, rfl, hb8⟩; have HN8 := Lib.hid (HN7.out.later hb8); have HR8 := Lib.hid (HR7.out.below hb8); clear hb8; obtain ⟨p4, p5, f4, f5⟩ := HN8.out.cells)
         have HN9 := Lib.hid (HN8.out.set5 (.pointer (some ⟨S, 0, none⟩)))
         have HR9 : Hid (RollAt (w8.setCell ⟨w4.heap.size, 5, none⟩ (.pointer (some ⟨S, 0, none⟩))) R 0 0 (.pointer none)) := Lib.hid (Vg.RollAt.kept HR8.out ((Kept.refl [107] w.heap.size w8).set HN8.out.blk HN8.out.ge (by rfl) 5 _) (by rfl))
         go_ret2
         exact ⟨w4.heap.size, w3.heap.size + 1, R, ⟨.pointer (some ⟨D, 0, none⟩), .pointer (some ⟨S, 0, none⟩), .slice none 0 0, false, 0, .slice (some ⟨w3.heap.size, 0, none⟩) 6 6⟩, rfl, ⟨HN9.out.ge, HN9.out.blk⟩, ⟨rfl, rfl⟩, HR9.out, hR.out, HN9.out.gate, HN9.out.op.below⟩))
end Go.Proofs.YtjohhjdicbeojaaGreatDoor.Vn
