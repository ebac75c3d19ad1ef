/- Texts joined: Vp Vq Vr Vt. -/
import Derived.Test.YtjohhjdicbeojaaGreatDoorZbh
import Derived.Test.YtjohhjdicbeojaaGreatDoorZbn
namespace Go.Proofs.YtjohhjdicbeojaaGreatDoor.Vp
open Go.RowKit Go.Proofs.YtjohhjdicbeojaaGreatDoor.Ra Go.Proofs.YtjohhjdicbeojaaGreatDoor.Rf Go.Proofs.YtjohhjdicbeojaaGreatDoor.Rj Go.Proofs.YtjohhjdicbeojaaGreatDoor.Rl Go.Proofs.YtjohhjdicbeojaaGreatDoor.Ss Go.Proofs.YtjohhjdicbeojaaGreatDoor.St Go.Proofs.YtjohhjdicbeojaaGreatDoor.Su Go.Proofs.YtjohhjdicbeojaaGreatDoor.Va Go.Proofs.YtjohhjdicbeojaaGreatDoor.Vb Go.Proofs.YtjohhjdicbeojaaGreatDoor.Vg Go.Proofs.YtjohhjdicbeojaaGreatDoor.Vh Go.Proofs.YtjohhjdicbeojaaGreatDoor.Vi Go.Proofs.YtjohhjdicbeojaaGreatDoor.Vk Go.Proofs.YtjohhjdicbeojaaGreatDoor.Vm Go.Proofs.YtjohhjdicbeojaaGreatDoor.Vo
open Go.Proofs.YtjohhjdicbeojaaGreatDoor.KSb (Env itoa_c)
open Go.Proofs.YtjohhjdicbeojaaGreatDoor.KSg (ActM)
open Go.Proofs.YtjohhjdicbeojaaGreatDoor.KSr (lineL)
open Go.Proofs.YtjohhjdicbeojaaGreatDoor.KSu (mkB)
set_option maxRecDepth 8000
theorem told_none (w : World) : TellAt w (.slice none 0 0) [] := ⟨none, 0, rfl, fun h => absurd rfl h⟩
def errL (n : Int) : ByteArray := mkB ([101, 114, 114, 111, 114, 32] ++ Lib.itoa n)
theorem reply_create (t id : Int) (h0 : 0 ≤ id) (h1 : id ≤ 100) (w : World) (hE : Env w) : Calls Tryz.prog 24 #[.int .i64 1, .agg #[.int .i64 t, .int .i64 0, .int .i64 id, .slice none 0 0, .slice none 0 0]] w fun e w' => e = .returned (.string (okL [.num id])) ∧ Below w.heap.size w w' := by
  have hbb : Below w.heap.size w ((w.alloc (.cells #[.int .i64 t, .int .i64 0, .int .i64 id, .slice none 0 0, .slice none 0 0] 67)).alloc (.cells #[.iface 3 (.int .i64 id)] 20)) := ((Below.refl _ _).alloc (Nat.le_refl _) _).alloc (by rw [sz_alloc]; exact Nat.le_succ _) _
  have htl : TellAt ((w.alloc (.cells #[.int .i64 t, .int .i64 0, .int .i64 id, .slice none 0 0, .slice none 0 0] 67)).alloc (.cells #[.iface 3 (.int .i64 id)] 20)) (.slice (some ⟨w.heap.size + 1, 0, none⟩) 1 1) [.num id] := by
    have hn := blk_new (w.alloc (.cells #[.int .i64 t, .int .i64 0, .int .i64 id, .slice none 0 0, .slice none 0 0] 67)) #[.iface 3 (.int .i64 id)] 20
    rw [sz_alloc] at hn
    refine ⟨_, _, rfl, fun _ => ⟨_, 0, rfl, lt_of_block hn, fun j it hj => ?_⟩⟩
    cases j with
    | zero =>
      obtain rfl := Option.some.inj hj
      exact ⟨⟨by omega, by omega⟩, blk_cell hn 0⟩
    | succ j => cases hj
  have KA := Lib.hid (answer_ok _ _ _ (hE.below hbb) htl (by show 1 ≤ 100; decide))
  have HL := Lib.hid hbb
  clear hbb htl hE h0 h1
  go_enter Tryz.func24, Tryz.ntmps24
  go_wp2
  go_loopg [5, 7, 25] 1 (fun gg s5 _ s25 wr => gg = 1 ∧ s5 = .slice (some ⟨w.heap.size + 1, 0, none⟩) 1 1 ∧ s25 = .int .i64 0 ∧ wr = ((w.alloc (.cells #[.int .i64 t, .int .i64 0, .int .i64 id, .slice none 0 0, .slice none 0 0] 67)).alloc (.cells #[.iface 3 (.int .i64 id)] 20)))
  case atStart => exact ⟨rfl, rfl, rfl, rfl⟩
  case round =>
    obtain ⟨_, rfl, rfl, rfl⟩ := hrel
    go_wp2_with (go_at_call 18; (with_reducible refine KA.out.mono ?_); rintro e w1 ⟨rfl, hb1⟩)
    go_ret
    exact ⟨rfl, HL.out.trans (hb1.mono HL.out.size)⟩
theorem reply_bad (t er : Int) (h0 : er ≠ 0) (h1 : 0 ≤ er) (h2 : er ≤ 100) (w : World) (hE : Env w) : Calls Tryz.prog 24 #[.int .i64 4, .agg #[.int .i64 t, .int .i64 er, .int .i64 0, .slice none 0 0, .slice none 0 0]] w fun e w' => e = .returned (.string (errL er)) ∧ Below w.heap.size w w' := by
  have hbb : Below w.heap.size w ((w.alloc (.cells #[.int .i64 t, .int .i64 er, .int .i64 0, .slice none 0 0, .slice none 0 0] 67)).alloc (.cells #[.iface 22 (.slice none 0 0)] 20)) := ((Below.refl _ _).alloc (Nat.le_refl _) _).alloc (by rw [sz_alloc]; exact Nat.le_succ _) _
  have KA := Lib.hid (answer_err er (.slice (some ⟨w.heap.size + 1, 0, none⟩) 1 1) h0 h1 h2 _ (hE.below hbb))
  have HL := Lib.hid hbb
  clear hbb hE h0 h1 h2
  go_enter Tryz.func24, Tryz.ntmps24
  go_wp2
  go_loopg [5, 7, 25] 1 (fun gg s5 _ s25 wr => gg = 1 ∧ s5 = .slice (some ⟨w.heap.size + 1, 0, none⟩) 1 1 ∧ s25 = .int .i64 0 ∧ wr = ((w.alloc (.cells #[.int .i64 t, .int .i64 er, .int .i64 0, .slice none 0 0, .slice none 0 0] 67)).alloc (.cells #[.iface 22 (.slice none 0 0)] 20)))
  case atStart => exact ⟨rfl, rfl, rfl, rfl⟩
  case round =>
    obtain ⟨_, rfl, rfl, rfl⟩ := hrel
    go_wp2_with (go_at_call 18; (with_reducible refine KA.out.mono ?_); rintro e w1 ⟨rfl, hb1⟩)
    go_ret
    exact ⟨rfl, HL.out.trans (hb1.mono HL.out.size)⟩
/-- The numbers that are told, grown. -/
structure Row2 (w W : World) (v : Value) (its : List Itm) : Prop where
  row : W.ownsRow w.heap.size 20 1 v its.length (its.map fun it => match it with | .num n => .iface 3 (.int .i64 n) | .bytes _ => .nilIface)
  nums : ∀ it ∈ its, ∃ n : Int, it = .num n ∧ 0 ≤ n ∧ n ≤ 100
  below : Below w.heap.size w W
theorem Row2.told {w W : World} {v : Value} {its : List Itm} (h : Row2 w W v its) : TellAt W v its := by
  rcases h.row.2 with ⟨rfl, h0⟩ | ⟨g, cap, cur, rfl, hg, hh, r⟩
  · obtain rfl := List.eq_nil_of_length_eq_zero h0
    exact told_none W
  · refine ⟨_, _, rfl, fun _ => ⟨g, 0, rfl, lt_of_block hh, fun j it hj => ?_⟩⟩
    obtain ⟨n, rfl, h1, h2⟩ := h.nums it (List.mem_of_getElem? hj)
    refine ⟨⟨by omega, by omega⟩, ?_⟩
    have := h.row.cells (g := g) rfl j (.iface 3 (.int .i64 n)) (by rw [List.getElem?_map, hj]; rfl)
    rw [Addr.add_lit] at this
    exact this
set_option maxHeartbeats 4000000 in
theorem reply_stat (t : Int) (n : Value) (w : World) (hE : Env w) (h2 : Two w n) : Calls Tryz.prog 24 #[.int .i64 8, .agg #[.int .i64 t, .int .i64 0, .int .i64 0, .slice none 0 0, n]] w fun e w' => e = .returned (.string (okL [.num 0, .num 4])) ∧ Below w.heap.size w w' := by
  obtain ⟨g, rfl, hg⟩ := h2
  have hb0 : Below w.heap.size w (w.alloc (.cells #[.int .i64 t, .int .i64 0, .int .i64 0, .slice none 0 0, .slice (some ⟨g, 0, none⟩) 2 2] 67)) := (Below.refl _ _).alloc (Nat.le_refl _) _
  have HG0 := Lib.hid (blk_below hg hb0 (lt_of_block hg))
  have HBX := Lib.hid (blk_new w #[.int .i64 t, .int .i64 0, .int .i64 0, .slice none 0 0, .slice (some ⟨g, 0, none⟩) 2 2] 67)
  have KA := Lib.hid (fun (W : World) (v : Value) (hb : Below w.heap.size w W) (ht : TellAt W v [.num 0, .num 4]) => answer_ok v _ W (hE.below hb) ht (by decide))
  have HL0 := Lib.hid hb0
  obtain ⟨i0, hi, hz0, hz1, hz2⟩ := info_parts info_any
  have HI := Lib.hid hi
  have HZ0 := Lib.hid hz0
  have HZ1 := Lib.hid hz1
  have HZ2 := Lib.hid hz2
  clear hg hb0 hE hi hz0 hz1 hz2
  go_enter Tryz.func24, Tryz.ntmps24
  go_upto_region 1 with fail
  generalize (w.alloc (.cells #[.int .i64 t, .int .i64 0, .int .i64 0, .slice none 0 0, .slice (some ⟨g, 0, none⟩) 2 2] 67)) = w0 at *
  have b4 : w0.cell? ⟨w.heap.size, 4, none⟩ = some (.slice (some ⟨g, 0, none⟩) 2 2) := blk_cell HBX.out 4
  go_wp2
  go_loopg [5, 7, 25] 3 (fun gg s5 _ s25 wr => ∃ j : Nat, j ≤ 2 ∧ 2 - j < gg ∧ s25 = .int .i64 (j : Int) ∧ Hid (Row2 w wr s5 (([.num 0, .num 4] : List Itm).take j)) ∧ Hid (wr.heap[g]? = some (.cells #[.int .i64 0, .int .i64 4] 3 (0, 0))) ∧ Hid (wr.heap[w.heap.size]? = some (.cells #[.int .i64 t, .int .i64 0, .int .i64 0, .slice none 0 0, .slice (some ⟨g, 0, none⟩) 2 2] 67 (0, 0))))
  case atStart => exact ⟨0, by omega, by omega, rfl, Lib.hid ⟨World.ownsRow_nil _ _ _ _, (fun it h => by cases h), HL0.out⟩, HG0, HBX⟩
  case round =>
    obtain ⟨j, hj, hgg, rfl, HR, HG, HB⟩ := hrel
    have c0 : wr.cell? ⟨g, 0, none⟩ = some (.int .i64 0) := blk_cell HG.out 0
    have c1 : wr.cell? ⟨g, 1, none⟩ = some (.int .i64 4) := blk_cell HG.out 1
    clear b4
    have hbr := HR.out.below.size
    rcases (by omega : j = 0 ∨ j = 1 ∨ j = 2) with rfl | rfl | rfl
    · go_wp2_with (at_builtin; go_loud (refine wpList_append_lies _ rfl _ _ 71 rfl w.heap.size 20 i0 .nilIface 1 16 Tryz.underlying71 HI.out HZ0.out HZ1.out HZ2.out rfl (by decide) _ 0 _ rfl (HR.out.row.alloc _) ⟨wr.heap.size, 0, none⟩ 1 1 [.iface 3 (.int .i64 0)] rfl rfl (cell_one_new _ _ _) (by simp [Value.oneCell']) (by decide) (by decide) (by decide) (by rw [sz_alloc]; exact Nat.le_succ_of_le hbr) _ rfl ?_))
      intro g3 cap3 w6 hown hgrow _ _
      have HN : Hid (Row2 w w6 (.slice (some ⟨g3, 0, none⟩) 1 cap3) (([.num 0, .num 4] : List Itm).take 1)) := Lib.hid ⟨hown, fun it hit => by
        simp at hit
        first
          | (obtain rfl := hit; exact ⟨_, rfl, by decide, by decide⟩)
          | (rcases hit with rfl | rfl <;> exact ⟨_, rfl, by decide, by decide⟩), (HR.out.below.trans (((Below.refl _ _).alloc (Nat.le_refl _) _).mono hbr)).trans (Rt.below_grown (HR.out.row.alloc _) (by rw [sz_alloc]; exact Nat.le_succ_of_le hbr) hgrow)⟩
      have hf : ∀ (X : Nat) (vs : Array Value) (tt : TypeId), wr.heap[X]? = some (.cells vs tt (0, 0)) → tt ≠ 20 → w6.heap[X]? = some (.cells vs tt (0, 0)) := fun X vs tt hX hne => by
        refine (hgrow.block X (by rw [sz_alloc]; exact Nat.lt_succ_of_lt (lt_of_block hX)) (fun e => ?_)).trans (blk_old hX _)
        rcases HR.out.row.2 with ⟨hv, _⟩ | ⟨g', cap', cur, hv, _, hh, _⟩
        · rw [hv] at e; cases e
        · rw [hv] at e
          obtain rfl : X = g' := Option.some.inj e
          rw [hX] at hh
          injection hh with hh
          injection hh with _ hh _
          exact hne hh
      have HG6 := Lib.hid (hf _ _ _ HG.out (by decide))
      have HB6 := Lib.hid (hf _ _ _ HB.out (by decide))
      clear hown hgrow hf
      go_wp2
      go_roundg (2)
      case measure => omega
      case rel => exact ⟨1, by omega, by omega, by go_num, HN, HG6, HB6⟩
    · go_wp2_with (at_builtin; go_loud (refine wpList_append_lies _ rfl _ _ 71 rfl w.heap.size 20 i0 .nilIface 1 16 Tryz.underlying71 HI.out HZ0.out HZ1.out HZ2.out rfl (by decide) _ 1 _ rfl (HR.out.row.alloc _) ⟨wr.heap.size, 0, none⟩ 1 1 [.iface 3 (.int .i64 4)] rfl rfl (cell_one_new _ _ _) (by simp [Value.oneCell']) (by decide) (by decide) (by decide) (by rw [sz_alloc]; exact Nat.le_succ_of_le hbr) _ rfl ?_))
      intro g3 cap3 w6 hown hgrow _ _
      have HN : Hid (Row2 w w6 (.slice (some ⟨g3, 0, none⟩) 2 cap3) (([.num 0, .num 4] : List Itm).take 2)) := Lib.hid ⟨hown, fun it hit => by
        simp at hit
        first
          | (obtain rfl := hit; exact ⟨_, rfl, by decide, by decide⟩)
          | (rcases hit with rfl | rfl <;> exact ⟨_, rfl, by decide, by decide⟩), (HR.out.below.trans (((Below.refl _ _).alloc (Nat.le_refl _) _).mono hbr)).trans (Rt.below_grown (HR.out.row.alloc _) (by rw [sz_alloc]; exact Nat.le_succ_of_le hbr) hgrow)⟩
      have hf : ∀ (X : Nat) (vs : Array Value) (tt : TypeId), wr.heap[X]? = some (.cells vs tt (0, 0)) → tt ≠ 20 → w6.heap[X]? = some (.cells vs tt (0, 0)) := fun X vs tt hX hne => by
        refine (hgrow.block X (by rw [sz_alloc]; exact Nat.lt_succ_of_lt (lt_of_block hX)) (fun e => ?_)).trans (blk_old hX _)
        rcases HR.out.row.2 with ⟨hv, _⟩ | ⟨g', cap', cur, hv, _, hh, _⟩
        · rw [hv] at e; cases e
        · rw [hv] at e
          obtain rfl : X = g' := Option.some.inj e
          rw [hX] at hh
          injection hh with hh
          injection hh with _ hh _
          exact hne hh
      have HG6 := Lib.hid (hf _ _ _ HG.out (by decide))
      have HB6 := Lib.hid (hf _ _ _ HB.out (by decide))
      clear hown hgrow hf
      go_wp2
      go_roundg (1)
      case measure => omega
      case rel => exact ⟨2, by omega, by omega, by go_num, HN, HG6, HB6⟩
    · have b1 : wr.cell? ⟨w.heap.size, 1, none⟩ = some (.int .i64 0) := blk_cell HB.out 1
      have KA' := Lib.hid (KA.out wr _ HR.out.below HR.out.told)
      go_wp2_with (go_at_call 18; (with_reducible refine KA'.out.mono ?_); rintro e w1 ⟨rfl, hb1⟩)
      go_ret
      exact ⟨rfl, HR.out.below.trans (hb1.mono HR.out.below.size)⟩
/-- pool.Format. -/
theorem pformat_c {B : Nat} {w : World} {D S N : Nat} {lv : Value} {d : Dev} {s b : Int} (hm : MayP s b) (h : DevAt B w D S N lv d) (hd : OnDev d) (hn : 40 + s * b ≤ (d.n : Int)) (hfew : d.loose.length + 2 ≤ 100000) :
    Calls Tryz.prog 19 #[.pointer (some ⟨D, 0, none⟩), .agg #[.int .i64 s, .int .i64 b]] w fun e w' => e = .returned (.int .i64 0) ∧ (∃ lv', DevAt B w' D S N lv' (savedDev s b (fmtK d 16))) ∧ Step B w w' := by
  have hbb : Below w.heap.size w (w.alloc (.cells #[.int .i64 s, .int .i64 b] 58)) := (Below.refl _ _).alloc (Nat.le_refl _) _
  have KF := Lib.hid (format_c hm (h.later hbb) hd hn hfew)
  have HB := Lib.hid (Step.of (B := B) hbb h.size)
  clear h hd hn hfew hm hbb
  go_enter Tryz.func19, Tryz.ntmps19
  go_wp2_with (go_at_call 33; (with_reducible refine KF.out.mono ?_); rintro e w1 ⟨rfl, hd1, hs1⟩)
  go_ret
  exact ⟨rfl, hd1, HB.out.trans hs1⟩
def tsDev : List TypeId := [85, 113, 115]
theorem kept_of_step {B : Nat} {w w' : World} (h : Step B w w') : Kept tsDev B w w' := ⟨h.below, fun k o hk hn => h.kept k o hk (by
  cases o with
  | cells vs t fz =>
    have h1 : tsDev.contains t = false := hn
    unfold tsDev at h1
    show (!(t == 85 || t == 113 || t == 115)) = true
    simp at h1 ⊢
    exact ⟨⟨h1.1, h1.2.1⟩, h1.2.2⟩
  | _ => rfl)⟩
end Go.Proofs.YtjohhjdicbeojaaGreatDoor.Vp
namespace Go.Proofs.YtjohhjdicbeojaaGreatDoor.Vq
open Go.RowKit Go.Proofs.YtjohhjdicbeojaaGreatDoor.Ra Go.Proofs.YtjohhjdicbeojaaGreatDoor.Rf Go.Proofs.YtjohhjdicbeojaaGreatDoor.Rj Go.Proofs.YtjohhjdicbeojaaGreatDoor.Rl Go.Proofs.YtjohhjdicbeojaaGreatDoor.Sq Go.Proofs.YtjohhjdicbeojaaGreatDoor.Ss Go.Proofs.YtjohhjdicbeojaaGreatDoor.St Go.Proofs.YtjohhjdicbeojaaGreatDoor.Su Go.Proofs.YtjohhjdicbeojaaGreatDoor.Va Go.Proofs.YtjohhjdicbeojaaGreatDoor.Vb Go.Proofs.YtjohhjdicbeojaaGreatDoor.Vd Go.Proofs.YtjohhjdicbeojaaGreatDoor.Vg Go.Proofs.YtjohhjdicbeojaaGreatDoor.Vh Go.Proofs.YtjohhjdicbeojaaGreatDoor.Vi Go.Proofs.YtjohhjdicbeojaaGreatDoor.Vk Go.Proofs.YtjohhjdicbeojaaGreatDoor.Vl Go.Proofs.YtjohhjdicbeojaaGreatDoor.Vm Go.Proofs.YtjohhjdicbeojaaGreatDoor.Vn Go.Proofs.YtjohhjdicbeojaaGreatDoor.Vo Go.Proofs.YtjohhjdicbeojaaGreatDoor.Vp
open Go.Proofs.YtjohhjdicbeojaaGreatDoor.KSb (Env itoa_c)
open Go.Proofs.YtjohhjdicbeojaaGreatDoor.KSg (ActM)
open Go.Proofs.YtjohhjdicbeojaaGreatDoor.KSr (lineL)
open Go.Proofs.YtjohhjdicbeojaaGreatDoor.KSu (mkB I64)
set_option maxRecDepth 8000
/-- The statement's tables, in all worlds that a size is kept to. -/
def EnvOn (B : Nat) (W : World) : Prop := ∀ W', Below B W W' → Env W'
theorem EnvOn.later {B : Nat} {W W' : World} (h : EnvOn B W) (hb : Below B W W') : EnvOn B W' := fun W'' hb' => h W'' (hb.trans hb')
structure ShAt (w : World) (SH D : Nat) (pv : Value) : Prop where
  blk : w.heap[SH]? = some (.cells #[.pointer (some ⟨D, 0, none⟩), pv] 46 (0, 0))
theorem ShAt.below {w w' : World} {SH D : Nat} {pv : Value} (h : ShAt w SH D pv) (hb : Below w.heap.size w w') : ShAt w' SH D pv := ⟨blk_below h.blk hb (lt_of_block h.blk)⟩
theorem ShAt.kept {ts : List TypeId} {C : Nat} {w w' : World} {SH D : Nat} {pv : Value} (h : ShAt w SH D pv) (hk : Kept ts C w w') (ht : ts.contains 46 = false) : ShAt w' SH D pv := ⟨hk.at h.blk ht⟩
theorem ShAt.cells {w : World} {SH D : Nat} {pv : Value} (h : ShAt w SH D pv) : w.cell? ⟨SH, 0, none⟩ = some (.pointer (some ⟨D, 0, none⟩)) ∧ w.cell? ⟨SH, 1, none⟩ = some pv ∧ w.frozen? ⟨SH, 1, none⟩ = false := ⟨blk_cell h.blk 0, blk_cell h.blk 1, blk_free h.blk 1⟩
/-- An act in a box. -/
structure ActAt (w : World) (M : Nat) (k n rk v b s : Int) : Prop where
  blk : w.heap[M]? = some (.cells #[.int .i64 k, .int .i64 n, .int .i64 rk, .int .i64 v, .int .i64 b, .int .i64 s, .slice none 0 0, .slice none 0 0] 34 (0, 0))
theorem ActAt.below {w w' : World} {M : Nat} {k n rk v b s : Int} (h : ActAt w M k n rk v b s) (hb : Below w.heap.size w w') : ActAt w' M k n rk v b s := ⟨blk_below h.blk hb (lt_of_block h.blk)⟩
theorem ActAt.kept {ts : List TypeId} {C : Nat} {w w' : World} {M : Nat} {k n rk v b s : Int} (h : ActAt w M k n rk v b s) (hk : Kept ts C w w') (ht : ts.contains 34 = false) : ActAt w' M k n rk v b s := ⟨hk.at h.blk ht⟩
theorem ActAt.cells {w : World} {M : Nat} {k n rk v b s : Int} (h : ActAt w M k n rk v b s) : w.cell? ⟨M, 0, none⟩ = some (.int .i64 k) ∧ w.cell? ⟨M, 1, none⟩ = some (.int .i64 n) ∧ w.cell? ⟨M, 2, none⟩ = some (.int .i64 rk) ∧ w.cell? ⟨M, 3, none⟩ = some (.int .i64 v) ∧ w.cell? ⟨M, 4, none⟩ = some (.int .i64 b) ∧ w.cell? ⟨M, 5, none⟩ = some (.int .i64 s) ∧ w.cell? ⟨M, 6, none⟩ = some (.slice none 0 0) ∧ w.cell? ⟨M, 7, none⟩ = some (.slice none 0 0) :=
  ⟨blk_cell h.blk 0, blk_cell h.blk 1, blk_cell h.blk 2, blk_cell h.blk 3, blk_cell h.blk 4, blk_cell h.blk 5, blk_cell h.blk 6, blk_cell h.blk 7⟩
theorem line_act (k n rk v b s : Int) (hn : I64 n) (hv : I64 v) (hb : I64 b) (hs : I64 s) (hl : (lineL ⟨k, n, rk, v, b, s, [], []⟩).2 = true) (W : World) (hE : Env W) :
    Calls Tryz.prog 7 #[.agg #[.int .i64 k, .int .i64 n, .int .i64 rk, .int .i64 v, .int .i64 b, .int .i64 s, .slice none 0 0, .slice none 0 0]] W fun e w' => ∃ x, (e = .returned (.tuple #[.string x, .int .i64 0])) ∧ Below W.heap.size W w' :=
  (KTh.line_good ⟨k, n, rk, v, b, s, [], []⟩ (.slice none 0 0) (.slice none 0 0) W hE ⟨hn, hv, hb, hs, (fun x hx => by cases hx), ⟨none, 0, rfl, fun h => absurd rfl h⟩, ⟨none, 0, rfl, fun h => absurd rfl h⟩⟩ (Nat.zero_le _) (Nat.zero_le _) hl).mono fun e w' h => ⟨_, h.1, h.2⟩
theorem i64_small (n : Int) (h0 : 0 ≤ n) (h1 : n ≤ 1000) : I64 n := by unfold I64; omega
end Go.Proofs.YtjohhjdicbeojaaGreatDoor.Vq
namespace Go.Proofs.YtjohhjdicbeojaaGreatDoor.Vr
open Go.RowKit Go.Proofs.YtjohhjdicbeojaaGreatDoor.Ra Go.Proofs.YtjohhjdicbeojaaGreatDoor.Rf Go.Proofs.YtjohhjdicbeojaaGreatDoor.Rj Go.Proofs.YtjohhjdicbeojaaGreatDoor.Rl Go.Proofs.YtjohhjdicbeojaaGreatDoor.Sq Go.Proofs.YtjohhjdicbeojaaGreatDoor.Ss Go.Proofs.YtjohhjdicbeojaaGreatDoor.St Go.Proofs.YtjohhjdicbeojaaGreatDoor.Su Go.Proofs.YtjohhjdicbeojaaGreatDoor.Va Go.Proofs.YtjohhjdicbeojaaGreatDoor.Vb Go.Proofs.YtjohhjdicbeojaaGreatDoor.Vd Go.Proofs.YtjohhjdicbeojaaGreatDoor.Vg Go.Proofs.YtjohhjdicbeojaaGreatDoor.Vh Go.Proofs.YtjohhjdicbeojaaGreatDoor.Vi Go.Proofs.YtjohhjdicbeojaaGreatDoor.Vk Go.Proofs.YtjohhjdicbeojaaGreatDoor.Vl Go.Proofs.YtjohhjdicbeojaaGreatDoor.Vm Go.Proofs.YtjohhjdicbeojaaGreatDoor.Vn Go.Proofs.YtjohhjdicbeojaaGreatDoor.Vo Go.Proofs.YtjohhjdicbeojaaGreatDoor.Vp Go.Proofs.YtjohhjdicbeojaaGreatDoor.Vq
open Go.Proofs.YtjohhjdicbeojaaGreatDoor.KSb (Env itoa_c)
open Go.Proofs.YtjohhjdicbeojaaGreatDoor.KSg (ActM)
open Go.Proofs.YtjohhjdicbeojaaGreatDoor.KSr (lineL)
open Go.Proofs.YtjohhjdicbeojaaGreatDoor.KSu (mkB I64)
set_option maxRecDepth 8000
set_option maxHeartbeats 8000000 in
theorem sdo_format {B SH D S N : Nat} {w : World} {pv : Value} (hs : ShAt w SH D pv) (hd : DevAt B w D S N (.slice none 0 0) (newDev 60))
    (hE : EnvOn B w) (hBw : B ≤ w.heap.size) :
    Calls Tryz.prog 8 #[.pointer (some ⟨SH, 0, none⟩), .agg #[.int .i64 1, .int .i64 0, .int .i64 0, .int .i64 0, .int .i64 2, .int .i64 6, .slice none 0 0, .slice none 0 0]] w fun e w' => (e = .returned (.string (okL []))) ∧ ShAt w' SH D pv ∧ (∃ lv, DevAt B w' D S N lv (savedDev 6 2 (fmtK (newDev 60) 16))) ∧ Kept tsDev B w w' := by
  have hbb : Below w.heap.size w (w.alloc (.cells #[.int .i64 1, .int .i64 0, .int .i64 0, .int .i64 0, .int .i64 2, .int .i64 6, .slice none 0 0, .slice none 0 0] 34)) := (Below.refl _ _).alloc (Nat.le_refl _) _
  have HA0 := Lib.hid (ActAt.mk (blk_new w #[.int .i64 1, .int .i64 0, .int .i64 0, .int .i64 0, .int .i64 2, .int .i64 6, .slice none 0 0, .slice none 0 0] 34))
  have HS0 := Lib.hid (hs.below hbb)
  have HL0 : Hid (Kept tsDev B w (w.alloc (.cells #[.int .i64 1, .int .i64 0, .int .i64 0, .int .i64 0, .int .i64 2, .int .i64 6, .slice none 0 0, .slice none 0 0] 34))) := Lib.hid (Kept.of hbb hBw)
  have HE := Lib.hid hE
  have HBw := Lib.hid hBw
  have KL := Lib.hid (fun (W : World) (hb : Below B w W) => line_act 1 0 0 0 2 6 (i64_small _ (by decide) (by decide)) (i64_small _ (by decide) (by decide)) (i64_small _ (by decide) (by decide)) (i64_small _ (by decide) (by decide)) rfl W (hE W hb))
  have HD0 := Lib.hid (hd.later hbb)
  have KF := Lib.hid (fun (W : World) (hh : DevAt B W D S N (.slice none 0 0) (newDev 60)) => pformat_c may62 hh (⟨rfl, rfl⟩) (by show (40 : Int) + 6 * 2 ≤ 60; decide) (by decide))
  have KA := Lib.hid (fun (W : World) (hb : Below B w W) => answer_ok (.slice none 0 0) [] W (hE W hb) (told_none W) (by decide))
  clear hs hbb hE hBw hd
  go_enter Tryz.func8, Tryz.ntmps8
  go_upto_region 1 with fail
  generalize (w.alloc (.cells #[.int .i64 1, .int .i64 0, .int .i64 0, .int .i64 0, .int .i64 2, .int .i64 6, .slice none 0 0, .slice none 0 0] 34)) = w0 at *
  obtain ⟨b0, b1, b2, b3, b4, b5, b6, b7⟩ := HA0.out.cells
  go_upto_region 8 with (go_at_call 7; (with_reducible refine (KL.out _ HL0.out.below).mono ?_); rintro e w1 ⟨sx, rfl, hb1⟩; have HA1 := Lib.hid (HA0.out.below hb1); have HS1 := Lib.hid (HS0.out.below hb1); have HL1 := Lib.hid (HL0.out.step hb1 (Nat.le_trans HBw.out HL0.out.size)); have HD1 := Lib.hid (HD0.out.later hb1); clear hb1; clear b0 b1 b2 b3 b4 b5 b6 b7; obtain ⟨b0, b1, b2, b3, b4, b5, b6, b7⟩ := HA1.out.cells; obtain ⟨c0, c1, f1⟩ := HS1.out.cells)
  have HDD := Lib.hid (HD1.out.later ((Below.refl _ _).drew))
  have HLD := Lib.hid HL1.out.drew
  have HSD : Hid (ShAt w1.drew SH D pv) := Lib.hid ⟨HS1.out.blk⟩
  go_region_with (first
    | (go_at_call 19; (refine (KF.out _ HDD.out).mono ?_); rintro e w2 ⟨rfl, hd2, hs2⟩; have HK2 := Lib.hid (kept_of_step hs2); have HL2 := Lib.hid (HLD.out.trans HK2.out); have HD2 := Lib.hid hd2; have HS2 := Lib.hid (HSD.out.kept HK2.out (by rfl)); clear hd2 hs2)
    | (go_at_call 18; (with_reducible refine (KA.out _ HL2.out.below).mono ?_); rintro e w3 ⟨rfl, hb3⟩; have HL3 := Lib.hid (HL2.out.step hb3 (Nat.le_trans HBw.out HL2.out.size)); have HS3 := Lib.hid (HS2.out.below hb3); have HD3 : Hid (∃ lv, DevAt B w3 D S N lv (savedDev 6 2 (fmtK (newDev 60) 16))) := Lib.hid (by obtain ⟨lv, h⟩ := HD2.out; exact ⟨lv, h.later hb3⟩); clear hb3))
  all_goals (
    go_wp2
    go_ret
    exact ⟨rfl, HS3.out, HD3.out, HL3.out⟩)
set_option maxHeartbeats 8000000 in
theorem sdo_open {B SH D S N : Nat} {w : World} {pv lv : Value} {d : Dev} (hs : ShAt w SH D pv) (hBS : B ≤ SH) (hd : DevAt B w D S N lv d) (hf : Formed 6 2 d) (hn : 52 ≤ d.n)
    (hE : EnvOn B w) (hBw : B ≤ w.heap.size) :
    Calls Tryz.prog 8 #[.pointer (some ⟨SH, 0, none⟩), .agg #[.int .i64 2, .int .i64 0, .int .i64 0, .int .i64 0, .int .i64 0, .int .i64 0, .slice none 0 0, .slice none 0 0]] w fun e w' => (e = .returned (.string (okL []))) ∧ (∃ P G R x, ShAt w' SH D (.pointer (some ⟨P, 0, none⟩)) ∧ PoolAt B w' P G R x ∧ (x.dl = .slice none 0 0 ∧ x.ck = 0) ∧ RollAt w' R 0 0 (.pointer none) ∧ B ≤ R ∧ GateAt B w' G 0 [] none 0) ∧ Kept [46] B w w' := by
  have hbb : Below w.heap.size w (w.alloc (.cells #[.int .i64 2, .int .i64 0, .int .i64 0, .int .i64 0, .int .i64 0, .int .i64 0, .slice none 0 0, .slice none 0 0] 34)) := (Below.refl _ _).alloc (Nat.le_refl _) _
  have HA0 := Lib.hid (ActAt.mk (blk_new w #[.int .i64 2, .int .i64 0, .int .i64 0, .int .i64 0, .int .i64 0, .int .i64 0, .slice none 0 0, .slice none 0 0] 34))
  have HS0 := Lib.hid (hs.below hbb)
  have HL0 : Hid (Kept [46] B w (w.alloc (.cells #[.int .i64 2, .int .i64 0, .int .i64 0, .int .i64 0, .int .i64 0, .int .i64 0, .slice none 0 0, .slice none 0 0] 34))) := Lib.hid (Kept.of hbb hBw)
  have HE := Lib.hid hE
  have HBw := Lib.hid hBw
  have KL := Lib.hid (fun (W : World) (hb : Below B w W) => line_act 2 0 0 0 0 0 (i64_small _ (by decide) (by decide)) (i64_small _ (by decide) (by decide)) (i64_small _ (by decide) (by decide)) (i64_small _ (by decide) (by decide)) rfl W (hE W hb))
  have HD0 := Lib.hid (hd.later hbb)
  have HBS := Lib.hid hBS
  have KO := Lib.hid (fun (W : World) (hh : DevAt B W D S N lv d) => popen_c hh hf hn)
  have KA := Lib.hid (fun (W : World) (hb : Below B w W) => answer_ok (.slice none 0 0) [] W (hE W hb) (told_none W) (by decide))
  clear hs hbb hE hBw hd hf hn hBS
  go_enter Tryz.func8, Tryz.ntmps8
  go_upto_region 1 with fail
  generalize (w.alloc (.cells #[.int .i64 2, .int .i64 0, .int .i64 0, .int .i64 0, .int .i64 0, .int .i64 0, .slice none 0 0, .slice none 0 0] 34)) = w0 at *
  obtain ⟨b0, b1, b2, b3, b4, b5, b6, b7⟩ := HA0.out.cells
  go_upto_region 10 with (go_at_call 7; (with_reducible refine (KL.out _ HL0.out.below).mono ?_); rintro e w1 ⟨sx, rfl, hb1⟩; have HA1 := Lib.hid (HA0.out.below hb1); have HS1 := Lib.hid (HS0.out.below hb1); have HL1 := Lib.hid (HL0.out.step hb1 (Nat.le_trans HBw.out HL0.out.size)); have HD1 := Lib.hid (HD0.out.later hb1); clear hb1; clear b0 b1 b2 b3 b4 b5 b6 b7; obtain ⟨b0, b1, b2, b3, b4, b5, b6, b7⟩ := HA1.out.cells; obtain ⟨c0, c1, f1⟩ := HS1.out.cells)
  go_upto_region 11 with (go_at_call 20; (with_reducible refine (KO.out _ HD1.out).mono ?_); rintro e w2 ⟨P, G, R, x, rfl, hp, hx, hr, hR, hg, hb2⟩; have HB1 := Lib.hid (Nat.le_trans HBw.out HL1.out.size); have HP2 : Hid (PoolAt B w2 P G R x) := Lib.hid ⟨Nat.le_trans HB1.out hp.base, hp.blk⟩; have HX := Lib.hid hx; have HR2 := Lib.hid hr; have HBR := Lib.hid (Nat.le_trans HB1.out hR); have HG2 := Lib.hid (Vn.GateAt.mono hg HB1.out); have HS2 := Lib.hid (HS1.out.below hb2); have HL2 := Lib.hid (HL1.out.step hb2 HB1.out); clear hp hx hr hR hg hb2; clear c0 c1 f1; obtain ⟨c0, c1, f1⟩ := HS2.out.cells)
  go_upto_region 12 with fail
  have hk := (Kept.refl [46] B w2).set HS2.out.blk HBS.out (by rfl) 1 (.pointer (some ⟨P, 0, none⟩))
  have HP3 := Lib.hid (HP2.out.kept hk (by rfl))
  have HR3 := Lib.hid (Vg.RollAt.kept HR2.out hk (by rfl))
  have HG3 := Lib.hid (HG2.out.kept hk (by rfl) (by rfl))
  have HS3 : Hid (ShAt (w2.setCell ⟨SH, 1, none⟩ (.pointer (some ⟨P, 0, none⟩))) SH D (.pointer (some ⟨P, 0, none⟩))) := Lib.hid ⟨blk_set HS2.out.blk 1 _⟩
  have HL3 := Lib.hid (HL2.out.trans hk)
  clear hk
  generalize (w2.setCell ⟨SH, 1, none⟩ (.pointer (some ⟨P, 0, none⟩))) = w3 at *
  go_wp2_with (go_at_call 18; (with_reducible refine (KA.out _ HL3.out.below).mono ?_); rintro e w4 ⟨rfl, hb4⟩)
  go_ret
  exact ⟨rfl, ⟨P, G, R, x, HS3.out.below hb4, HP3.out.below hb4, HX.out, HR3.out.below hb4, HBR.out, HG3.out.below hb4⟩, HL3.out.step hb4 (Nat.le_trans HBw.out HL3.out.size)⟩
end Go.Proofs.YtjohhjdicbeojaaGreatDoor.Vr
namespace Go.Proofs.YtjohhjdicbeojaaGreatDoor.Vt
open Go.RowKit Go.Proofs.YtjohhjdicbeojaaGreatDoor.Ra Go.Proofs.YtjohhjdicbeojaaGreatDoor.Rf Go.Proofs.YtjohhjdicbeojaaGreatDoor.Rj Go.Proofs.YtjohhjdicbeojaaGreatDoor.Rl Go.Proofs.YtjohhjdicbeojaaGreatDoor.Sq Go.Proofs.YtjohhjdicbeojaaGreatDoor.Ss Go.Proofs.YtjohhjdicbeojaaGreatDoor.St Go.Proofs.YtjohhjdicbeojaaGreatDoor.Su Go.Proofs.YtjohhjdicbeojaaGreatDoor.Va Go.Proofs.YtjohhjdicbeojaaGreatDoor.Vb Go.Proofs.YtjohhjdicbeojaaGreatDoor.Vd Go.Proofs.YtjohhjdicbeojaaGreatDoor.Vg Go.Proofs.YtjohhjdicbeojaaGreatDoor.Vh Go.Proofs.YtjohhjdicbeojaaGreatDoor.Vi Go.Proofs.YtjohhjdicbeojaaGreatDoor.Vk Go.Proofs.YtjohhjdicbeojaaGreatDoor.Vl Go.Proofs.YtjohhjdicbeojaaGreatDoor.Vm Go.Proofs.YtjohhjdicbeojaaGreatDoor.Vn Go.Proofs.YtjohhjdicbeojaaGreatDoor.Vo Go.Proofs.YtjohhjdicbeojaaGreatDoor.Vp Go.Proofs.YtjohhjdicbeojaaGreatDoor.Vq
open Go.Proofs.YtjohhjdicbeojaaGreatDoor.KSb (Env itoa_c)
open Go.Proofs.YtjohhjdicbeojaaGreatDoor.KSg (ActM)
open Go.Proofs.YtjohhjdicbeojaaGreatDoor.KSr (lineL)
open Go.Proofs.YtjohhjdicbeojaaGreatDoor.KSu (mkB I64)
set_option maxRecDepth 8000
set_option maxHeartbeats 8000000 in
theorem sdo_create {B SH D P G R : Nat} {w : World} {x : PoolV} {t : Int} {p : Option Addr} {c : Nat} {tv : Value} (hs : ShAt w SH D (.pointer (some ⟨P, 0, none⟩))) (ht : 0 ≤ t) (ht2 : t ≤ 1000) (hc0 : 0 ≤ x.ck) (hc1 : x.ck ≤ 1000) (hp : PoolAt B w P G R x) (hdl : x.dl = .slice none 0 0) (hr : RollAt w R 0 0 tv) (hBR : B ≤ R) (hg : GateAt B w G t [] p c)
    (hE : EnvOn B w) (hBw : B ≤ w.heap.size) :
    Calls Tryz.prog 8 #[.pointer (some ⟨SH, 0, none⟩), .agg #[.int .i64 5, .int .i64 0, .int .i64 1, .int .i64 0, .int .i64 0, .int .i64 3, .slice none 0 0, .slice none 0 0]] w fun e w' => (e = .returned (.string (okL [.num 0]))) ∧ ShAt w' SH D (.pointer (some ⟨P, 0, none⟩)) ∧ Idle B P G R (t + 1) (x.ck + 1) w' ∧ Kept tsAll B w w' := by
  have hbb : Below w.heap.size w (w.alloc (.cells #[.int .i64 5, .int .i64 0, .int .i64 1, .int .i64 0, .int .i64 0, .int .i64 3, .slice none 0 0, .slice none 0 0] 34)) := (Below.refl _ _).alloc (Nat.le_refl _) _
  have HA0 := Lib.hid (ActAt.mk (blk_new w #[.int .i64 5, .int .i64 0, .int .i64 1, .int .i64 0, .int .i64 0, .int .i64 3, .slice none 0 0, .slice none 0 0] 34))
  have HS0 := Lib.hid (hs.below hbb)
  have HL0 : Hid (Kept tsAll B w (w.alloc (.cells #[.int .i64 5, .int .i64 0, .int .i64 1, .int .i64 0, .int .i64 0, .int .i64 3, .slice none 0 0, .slice none 0 0] 34))) := Lib.hid (Kept.of hbb hBw)
  have HE := Lib.hid hE
  have HBw := Lib.hid hBw
  have KL := Lib.hid (fun (W : World) (hb : Below B w W) => line_act 5 0 1 0 0 3 (i64_small _ (by decide) (by decide)) (i64_small _ (by decide) (by decide)) (i64_small _ (by decide) (by decide)) (i64_small _ (by decide) (by decide)) rfl W (hE W hb))
  have HP0 := Lib.hid (hp.below hbb)
  have HR0 := Lib.hid (hr.below hbb)
  have HG0 := Lib.hid (hg.below hbb)
  have KD := Lib.hid (fun (W : World) (h1 : PoolAt B W P G R x) (h2 : RollAt W R 0 0 tv) (h3 : GateAt B W G t [] p c) => pdo_create ht ht2 hc0 hc1 h1 hdl h2 hBR h3)
  have KR := Lib.hid (fun (W : World) (hb : Below B w W) => reply_create (t + 1) 0 (by decide) (by decide) W (hE W hb))
  clear hs hbb hE hBw hp hr hg ht ht2 hc0 hc1 hdl hBR
  go_enter Tryz.func8, Tryz.ntmps8
  go_upto_region 1 with fail
  generalize (w.alloc (.cells #[.int .i64 5, .int .i64 0, .int .i64 1, .int .i64 0, .int .i64 0, .int .i64 3, .slice none 0 0, .slice none 0 0] 34)) = w0 at *
  obtain ⟨b0, b1, b2, b3, b4, b5, b6, b7⟩ := HA0.out.cells
  go_upto_region 24 with (go_at_call 7; (with_reducible refine (KL.out _ HL0.out.below).mono ?_); rintro e w1 ⟨sx, rfl, hb1⟩; have HA1 := Lib.hid (HA0.out.below hb1); have HS1 := Lib.hid (HS0.out.below hb1); have HL1 := Lib.hid (HL0.out.step hb1 (Nat.le_trans HBw.out HL0.out.size)); have HP1 := Lib.hid (HP0.out.below hb1); have HR1 := Lib.hid (HR0.out.below hb1); have HG1 := Lib.hid (HG0.out.below hb1); clear hb1; clear b0 b1 b2 b3 b4 b5 b6 b7; obtain ⟨b0, b1, b2, b3, b4, b5, b6, b7⟩ := HA1.out.cells; obtain ⟨c0, c1, f1⟩ := HS1.out.cells)
  have HPD := Lib.hid HP1.out.drew
  have HRD := Lib.hid (Vg.RollAt.drew HR1.out)
  have HGD := Lib.hid HG1.out.drew
  have HLD := Lib.hid HL1.out.drew
  have HSD : Hid (ShAt w1.drew SH D (.pointer (some ⟨P, 0, none⟩))) := Lib.hid ⟨HS1.out.blk⟩
  have HAD : Hid (ActAt w1.drew w.heap.size 5 0 1 0 0 3) := Lib.hid ⟨HA1.out.blk⟩
  go_region_with (first
    | (go_at_call 25; (with_reducible refine (KD.out _ HPD.out HRD.out HGD.out).mono ?_); rintro e w2 ⟨rfl, hi, hk2⟩; have HI2 := Lib.hid hi; clear hi; have HL2 := Lib.hid (HLD.out.trans hk2); have HA2 := Lib.hid (HAD.out.kept hk2 (by rfl)); have HS2 := Lib.hid (HSD.out.kept hk2 (by rfl)); clear hk2; have g0 : w2.cell? ⟨w.heap.size, 2, none⟩ = some (.int .i64 1) := HA2.out.cells.2.2.1)
    | (go_at_call 24; (with_reducible refine (KR.out _ HL2.out.below).mono ?_); rintro e w3 ⟨rfl, hb3⟩; have HI3 := Lib.hid (HI2.out.below hb3); have HL3 := Lib.hid (HL2.out.step hb3 (Nat.le_trans HBw.out HL2.out.size)); have HS3 := Lib.hid (HS2.out.below hb3); clear hb3))
  all_goals (
    go_wp2
    go_ret
    exact ⟨rfl, HS3.out, HI3.out, HL3.out⟩)
end Go.Proofs.YtjohhjdicbeojaaGreatDoor.Vt
