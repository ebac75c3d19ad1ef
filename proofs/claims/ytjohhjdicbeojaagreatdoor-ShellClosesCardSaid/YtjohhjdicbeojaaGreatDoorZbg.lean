/- Texts joined: Vi. -/
import Derived.Test.YtjohhjdicbeojaaGreatDoorZbf
namespace Go.Proofs.YtjohhjdicbeojaaGreatDoor.Vi
open Go.RowKit Go.Proofs.YtjohhjdicbeojaaGreatDoor.Ra Go.Proofs.YtjohhjdicbeojaaGreatDoor.Rj Go.Proofs.YtjohhjdicbeojaaGreatDoor.Rl Go.Proofs.YtjohhjdicbeojaaGreatDoor.Rn Go.Proofs.YtjohhjdicbeojaaGreatDoor.Ro Go.Proofs.YtjohhjdicbeojaaGreatDoor.Rq Go.Proofs.YtjohhjdicbeojaaGreatDoor.Ua Go.Proofs.YtjohhjdicbeojaaGreatDoor.Ub Go.Proofs.YtjohhjdicbeojaaGreatDoor.Va Go.Proofs.YtjohhjdicbeojaaGreatDoor.Vb Go.Proofs.YtjohhjdicbeojaaGreatDoor.Vc Go.Proofs.YtjohhjdicbeojaaGreatDoor.Vd Go.Proofs.YtjohhjdicbeojaaGreatDoor.Ve Go.Proofs.YtjohhjdicbeojaaGreatDoor.Vg Go.Proofs.YtjohhjdicbeojaaGreatDoor.Vh
set_option maxRecDepth 8000
def tsDo : List TypeId := [107, 148, 67]
/-- What do changes: blocks of some types; of the replies its own alone. -/
structure KD (A B : Nat) (a b : World) : Prop where
  k : Kept tsDo B a b
  rest : ∀ (x : Nat) (vs : Array Value) (fz : Nat × Nat), x ≠ A → a.heap[x]? = some (.cells vs 67 fz) → b.heap[x]? = some (.cells vs 67 fz)
theorem KD.of {A B : Nat} {a b : World} (h : Below a.heap.size a b) (hB : B ≤ a.heap.size) : KD A B a b := ⟨Kept.of h hB, fun _ _ _ _ hx => blk_below hx h (lt_of_block hx)⟩
theorem KD.trans {A B : Nat} {a b c : World} (h : KD A B a b) (k : KD A B b c) : KD A B a c := ⟨h.k.trans k.k, fun x vs fz hn hx => k.rest x vs fz hn (h.rest x vs fz hn hx)⟩
theorem KD.size {A B : Nat} {a b : World} (h : KD A B a b) : a.heap.size ≤ b.heap.size := h.k.size
theorem KD.step {A B : Nat} {a b c : World} (h : KD A B a b) (k : Below b.heap.size b c) (hB : B ≤ b.heap.size) : KD A B a c := h.trans (KD.of k hB)
theorem KD.alloc {A B : Nat} {a b : World} (h : KD A B a b) (hB : B ≤ b.heap.size) (o : Obj) : KD A B a (b.alloc o) := h.step ((Below.refl _ _).alloc (Nat.le_refl _) o) hB
theorem KD.drew {A B : Nat} {a b : World} (h : KD A B a b) : KD A B a b.drew := ⟨h.k.drew, h.rest⟩
theorem KD.more {A B : Nat} {a b c : World} {ts : List TypeId} (h : KD A B a b) (k : Kept ts B b c) (h1 : (ts.all fun t => tsDo.contains t) = true) (h2 : ts.contains 67 = false) : KD A B a c :=
  h.trans ⟨k.mono h1, fun _ _ _ _ hx => k.at hx h2⟩
theorem KD.set {A B : Nat} {a b : World} (h : KD A B a b) {vs : Array Value} {fz : Nat × Nat} (hx : b.heap[A]? = some (.cells vs 67 fz)) (hB : B ≤ A) (j : Nat) (v : Value) : KD A B a (b.setCell ⟨A, j, none⟩ v) :=
  ⟨h.k.set hx hB (by rfl) j v, fun x us f hn ho => blk_set_other (h.rest x us f hn ho) hn v⟩
theorem KD.setNew {A B : Nat} {a b : World} (h : KD A B a b) {x : Nat} (hx : a.heap.size ≤ x) (hB : B ≤ x) (j : Nat) (v : Value) : KD A B a (b.setCell ⟨x, j, none⟩ v) :=
  ⟨⟨h.k.below.setCell hB _, fun k o hk hn => blk_set_other (h.k.kept k o hk hn) (fun e => by have e' : k = x := e; have := lt_of_block hk; omega) v⟩, fun k us f hn ho => blk_set_other (h.rest k us f hn ho) (fun e => by have e' : k = x := e; have := lt_of_block ho; omega) v⟩
structure RepAt (w : World) (A : Nat) (t e i : Int) (d n : Value) : Prop where
  blk : w.heap[A]? = some (.cells #[.int .i64 t, .int .i64 e, .int .i64 i, d, n] 67 (0, 0))
theorem RepAt.below {w w' : World} {A : Nat} {t e i : Int} {d n : Value} (h : RepAt w A t e i d n) (hb : Below w.heap.size w w') : RepAt w' A t e i d n := ⟨blk_below h.blk hb (lt_of_block h.blk)⟩
theorem RepAt.kept {ts : List TypeId} {C : Nat} {w w' : World} {A : Nat} {t e i : Int} {d n : Value} (h : RepAt w A t e i d n) (hk : Kept ts C w w') (ht : ts.contains 67 = false) : RepAt w' A t e i d n := ⟨hk.at h.blk ht⟩
theorem RepAt.drew {w : World} {A : Nat} {t e i : Int} {d n : Value} (h : RepAt w A t e i d n) : RepAt w.drew A t e i d n := ⟨h.blk⟩
theorem vol_set {B : Nat} {w : World} {P G R T : Nat} {x : PoolV} (h : VolAt B w P G R T x) {A : Nat} {vs : Array Value} (hA : w.heap[A]? = some (.cells vs 67 (0, 0))) (j : Nat) (v : Value) : VolAt B (w.setCell ⟨A, j, none⟩ v) P G R T x :=
  h.kept (ts := [67]) ((Kept.refl _ A _).set hA (Nat.le_refl _) (by rfl) j v) (by rfl) (by rfl) (by rfl) (by rfl)
theorem pool_set {B : Nat} {w : World} {P G R : Nat} {x : PoolV} (h : PoolAt B w P G R x) {A : Nat} {vs : Array Value} (hA : w.heap[A]? = some (.cells vs 67 (0, 0))) (j : Nat) (v : Value) : PoolAt B (w.setCell ⟨A, j, none⟩ v) P G R x :=
  h.kept (ts := [67]) ((Kept.refl _ A _).set hA (Nat.le_refl _) (by rfl) j v) (by rfl)
theorem box_set {w : World} {M : Nat} {k v b s : Int} (h : BoxAt w M k v b s) {A : Nat} {vs : Array Value} (hA : w.heap[A]? = some (.cells vs 67 (0, 0))) (j : Nat) (u : Value) : BoxAt (w.setCell ⟨A, j, none⟩ u) M k v b s :=
  Vg.BoxAt.kept h (ts := [67]) ((Kept.refl _ A _).set hA (Nat.le_refl _) (by rfl) j u) (by rfl)
/-- In do, Create made: all that the rest needs. -/
structure Cr (B : Nat) (w0 w : World) (P G R A M T : Nat) (x : PoolV) : Prop where
  vol : VolAt B w P G R T x
  rep : RepAt w A 0 0 0 (.slice none 0 0) (.slice none 0 0)
  box : BoxAt w M 1 0 0 3
  kept : KD A B w0 w
set_option maxHeartbeats 4000000 in
theorem do_create {B : Nat} {w : World} {P G R A : Nat} {x : PoolV} {tv : Value} (h : PoolAt B w P G R x) (hx : x.dl = .slice none 0 0) (hr : RollAt w R 0 0 tv) (hBR : B ≤ R) (ha : RepAt w A 0 0 0 (.slice none 0 0) (.slice none 0 0)) (hBA : B ≤ A) :
    Calls Tryz.prog 74 #[.pointer (some ⟨P, 0, none⟩), .agg #[.int .i64 1, .int .i64 0, .int .i64 0, .int .i64 3, .slice none 0 0], .pointer (some ⟨A, 0, none⟩)] w fun e w' =>
      (e = .returned (.tuple #[])) ∧ (∃ T dl, VolAt B w' P G R T { x with dl := dl, tu := true }) ∧ RepAt w' A 0 0 0 (.slice none 0 0) (.slice none 0 0) ∧ KD A B w w' := by
  have KC := Lib.hid (fun (W : World) (hh : RollAt W R 0 0 tv) => create_c (B := B) hBR hh)
  have KM := Lib.hid (fun (W : World) => must_ok W)
  have KN := Lib.hid (fun (W : World) (hh : PoolAt B W P G R x) => note_c hh hx 1 0 0 3)
  have hbb : Below w.heap.size w (w.alloc (.cells #[.int .i64 1, .int .i64 0, .int .i64 0, .int .i64 3, .slice none 0 0] 24)) := (Below.refl _ _).alloc (Nat.le_refl _) _
  have HB0 := Lib.hid (BoxAt.mk (blk_new w #[.int .i64 1, .int .i64 0, .int .i64 0, .int .i64 3, .slice none 0 0] 24))
  have HP0 := Lib.hid (h.below hbb)
  have HR0 := Lib.hid (hr.below hbb)
  have HA0 := Lib.hid (ha.below hbb)
  have HK0 : Hid (KD A B w (w.alloc (.cells #[.int .i64 1, .int .i64 0, .int .i64 0, .int .i64 3, .slice none 0 0] 24))) := Lib.hid (KD.of hbb h.size)
  have HBA := Lib.hid hBA
  clear h hr ha hbb hx hBA
  go_enter Tryz.func74, Tryz.ntmps74
  go_upto_region 1 with fail
  generalize (w.alloc (.cells #[.int .i64 1, .int .i64 0, .int .i64 0, .int .i64 3, .slice none 0 0] 24)) = w0 at *
  have c4 : w0.cell? ⟨P, 4, none⟩ = some (.pointer (some ⟨R, 0, none⟩)) := blk_cell HP0.out.blk 4
  obtain ⟨b0, b1, b2, b3, b4⟩ := HB0.out.cells
  go_upto_region 4 with fail
  have HPD := Lib.hid HP0.out.drew
  have HRD := Lib.hid (Vg.RollAt.drew HR0.out)
  have HAD := Lib.hid HA0.out.drew
  have HBD := Lib.hid HB0.out.drew
  have HKD := Lib.hid HK0.out.drew
  go_region_with (go_at_call 122; (with_reducible refine (KC.out _ HRD.out).mono ?_); rintro e w1 ⟨rfl, ⟨T, hr1, ht1⟩, hk1⟩; have HCR : Hid (Cr B w w1 P G R A w.heap.size T x) := Lib.hid ⟨⟨HPD.out.kept hk1 (by rfl), hr1, ht1⟩, HAD.out.kept hk1 (by rfl), Vg.BoxAt.kept HBD.out hk1 (by rfl), HKD.out.more hk1 (by rfl) (by rfl)⟩; clear hr1 ht1 hk1; have a2 : w1.cell? ⟨A, 2, none⟩ = some (.int .i64 0) := blk_cell HCR.out.rep.blk 2; have g2 := blk_free HCR.out.rep.blk 2)
  all_goals (
    have HC2 : Hid (Cr B w (w1.setCell ⟨A, 2, none⟩ (.int .i64 0)) P G R A w.heap.size T x) := Lib.hid ⟨vol_set HCR.out.vol HCR.out.rep.blk 2 _, ⟨blk_set HCR.out.rep.blk 2 _⟩, box_set HCR.out.box HCR.out.rep.blk 2 _, HCR.out.kept.set HCR.out.rep.blk HBA.out 2 _⟩
    clear a2 g2 c4 b0 b1 b2 b3 b4
    generalize (w1.setCell ⟨A, 2, none⟩ (.int .i64 0)) = w2 at *
    go_upto_region 6 with (go_at_call 79; (with_reducible refine (KM.out _).mono ?_); rintro e w3 ⟨rfl, rfl⟩)
    have d2 : w2.cell? ⟨A, 2, none⟩ = some (.int .i64 0) := blk_cell HC2.out.rep.blk 2
    have d3 : w2.cell? ⟨w.heap.size, 3, none⟩ = some (.int .i64 3) := HC2.out.box.cells.2.2.2.1
    have HP2 := Lib.hid HC2.out.vol.pool.drew
    go_region_with (go_at_call 123; (with_reducible refine (KN.out _ HP2.out).mono ?_); rintro e w4 ⟨rfl, ⟨dl, hp4⟩, hk4⟩; have HE : Hid ((∃ T dl, VolAt B w4 P G R T { x with dl := dl, tu := true }) ∧ RepAt w4 A 0 0 0 (.slice none 0 0) (.slice none 0 0) ∧ KD A B w w4) := Lib.hid ⟨⟨T, dl, hp4, Vg.RollAt.kept (Vg.RollAt.drew HC2.out.vol.roll) hk4 (by rfl), Ve.TabAt.kept (Vg.TabAt.drew HC2.out.vol.tab) hk4 (by rfl) (by rfl)⟩, HC2.out.rep.drew.kept hk4 (by rfl), HC2.out.kept.drew.more hk4 (by rfl) (by rfl)⟩; clear hp4 hk4)
    all_goals (
      clear d2 d3
      go_wp2
      refine bodyPost_end (v := .tuple #[]) (by simp [results, Tryz.results74, go_sem]) rfl ?_
      exact ⟨rfl, HE.out⟩))
set_option maxHeartbeats 4000000 in
theorem do_read {B : Nat} {w : World} {P G R T A : Nat} {x : PoolV} (j : Int) (h0 : 0 ≤ j) (h3 : j < 3) (h : VolAt B w P G R T x) (ha : RepAt w A 0 0 0 (.slice none 0 0) (.slice none 0 0)) (hBA : B ≤ A) :
    Calls Tryz.prog 74 #[.pointer (some ⟨P, 0, none⟩), .agg #[.int .i64 4, .int .i64 0, .int .i64 j, .int .i64 0, .slice none 0 0], .pointer (some ⟨A, 0, none⟩)] w fun e w' =>
      (e = .returned (.tuple #[])) ∧ (∃ v, RepAt w' A 0 0 0 v (.slice none 0 0) ∧ ZeroSec w' v) ∧ VolAt B w' P G R T x ∧ KD A B w w' := by
  have KR := Lib.hid (fun (W : World) (hh : VolAt B W P G R T x) => read_c hh j h0 h3)
  have hbb : Below w.heap.size w (w.alloc (.cells #[.int .i64 4, .int .i64 0, .int .i64 j, .int .i64 0, .slice none 0 0] 24)) := (Below.refl _ _).alloc (Nat.le_refl _) _
  have HB0 := Lib.hid (BoxAt.mk (blk_new w #[.int .i64 4, .int .i64 0, .int .i64 j, .int .i64 0, .slice none 0 0] 24))
  have HV0 := Lib.hid (h.below hbb)
  have HA0 := Lib.hid (ha.below hbb)
  have HL0 := Lib.hid hbb
  have HK0 : Hid (KD A B w (w.alloc (.cells #[.int .i64 4, .int .i64 0, .int .i64 j, .int .i64 0, .slice none 0 0] 24))) := Lib.hid (KD.of hbb h.pool.size)
  have HBA := Lib.hid hBA
  clear h ha hbb hBA
  go_enter Tryz.func74, Tryz.ntmps74
  go_upto_region 1 with fail
  generalize (w.alloc (.cells #[.int .i64 4, .int .i64 0, .int .i64 j, .int .i64 0, .slice none 0 0] 24)) = w0 at *
  obtain ⟨b0, b1, b2, b3, b4⟩ := HB0.out.cells
  clear h0 h3
  go_wp2_with (go_at_call 126; (with_reducible refine (KR.out _ HV0.out).mono ?_); rintro e w1 ⟨v, rfl, hz, hb1⟩; obtain ⟨g, rfl, hg⟩ := hz.sec; have HV1 := Lib.hid (HV0.out.below hb1); have HA1 := Lib.hid (HA0.out.below hb1); have HK1 := Lib.hid (HK0.out.step hb1 HV0.out.pool.size); have HG := Lib.hid hg; clear hb1 hz hg; have a3 : w1.cell? ⟨A, 3, none⟩ = some (.slice none 0 0) := blk_cell HA1.out.blk 3; have f3 := blk_free HA1.out.blk 3)
  have HZ : Hid (ZeroSec (w1.setCell ⟨A, 3, none⟩ (.slice (some ⟨g, 0, none⟩) 64 64)) (.slice (some ⟨g, 0, none⟩) 64 64)) := Lib.hid (ZeroSec.kept (w := w1) ⟨g, rfl, HG.out⟩ (ts := [67]) ((Kept.refl _ A _).set HA1.out.blk (Nat.le_refl _) (by rfl) 3 _) (by rfl))
  refine bodyPost_end (v := .tuple #[]) (by simp [results, Tryz.results74, go_sem]) rfl ?_
  exact ⟨rfl, ⟨_, ⟨blk_set HA1.out.blk 3 _⟩, HZ.out⟩, vol_set HV1.out HA1.out.blk 3 _, HK1.out.set HA1.out.blk HBA.out 3 _⟩
set_option maxHeartbeats 4000000 in
theorem do_bad {B : Nat} {w : World} {P G R T A : Nat} {x : PoolV} (j : Int) (h3 : 3 ≤ j) (h : VolAt B w P G R T x) (ha : RepAt w A 0 0 0 (.slice none 0 0) (.slice none 0 0)) (hBA : B ≤ A) :
    Calls Tryz.prog 74 #[.pointer (some ⟨P, 0, none⟩), .agg #[.int .i64 4, .int .i64 0, .int .i64 j, .int .i64 0, .slice none 0 0], .pointer (some ⟨A, 0, none⟩)] w fun e w' =>
      (e = .panicked [{ v := .iface 167 (.agg #[.int .i64 5]), recovered := false }]) ∧ Below w.heap.size w w' := by
  have KR := Lib.hid (fun (W : World) (hh : VolAt B W P G R T x) => read_bad hh j h3)
  have hbb : Below w.heap.size w (w.alloc (.cells #[.int .i64 4, .int .i64 0, .int .i64 j, .int .i64 0, .slice none 0 0] 24)) := (Below.refl _ _).alloc (Nat.le_refl _) _
  have HB0 := Lib.hid (BoxAt.mk (blk_new w #[.int .i64 4, .int .i64 0, .int .i64 j, .int .i64 0, .slice none 0 0] 24))
  have HV0 := Lib.hid (h.below hbb)
  have HA0 := Lib.hid (ha.below hbb)
  have HL0 := Lib.hid hbb
  have HK0 : Hid (KD A B w (w.alloc (.cells #[.int .i64 4, .int .i64 0, .int .i64 j, .int .i64 0, .slice none 0 0] 24))) := Lib.hid (KD.of hbb h.pool.size)
  have HBA := Lib.hid hBA
  clear h ha hbb hBA
  go_enter Tryz.func74, Tryz.ntmps74
  go_upto_region 1 with fail
  generalize (w.alloc (.cells #[.int .i64 4, .int .i64 0, .int .i64 j, .int .i64 0, .slice none 0 0] 24)) = w0 at *
  obtain ⟨b0, b1, b2, b3, b4⟩ := HB0.out.cells
  clear h3
  go_wp2_with (go_at_call 126; (with_reducible refine (KR.out _ HV0.out).mono ?_); rintro e w1 ⟨rfl, hb1⟩; have HL1 := Lib.hid (HL0.out.trans (hb1.mono HL0.out.size)); clear hb1)
  exact ⟨rfl, rfl, HL1.out⟩
theorem may62 : MayP 6 2 := by unfold MayP; decide
set_option maxHeartbeats 4000000 in
theorem do_stat {B : Nat} {w : World} {P G R T A : Nat} {x : PoolV} (h : VolAt B w P G R T x) (ha : RepAt w A 0 0 0 (.slice none 0 0) (.slice none 0 0)) (hBA : B ≤ A) :
    Calls Tryz.prog 74 #[.pointer (some ⟨P, 0, none⟩), .agg #[.int .i64 8, .int .i64 0, .int .i64 0, .int .i64 0, .slice none 0 0], .pointer (some ⟨A, 0, none⟩)] w fun e w' =>
      (e = .returned (.tuple #[])) ∧ (∃ g, RepAt w' A 0 0 0 (.slice none 0 0) (.slice (some ⟨g, 0, none⟩) 2 2) ∧ w'.heap[g]? = some (.cells #[.int .i64 0, .int .i64 4] 3 (0, 0))) ∧ VolAt B w' P G R T x ∧ KD A B w w' := by
  have KS := Lib.hid (fun (W : World) (hh : VolAt B W P G R T x) => pstate_c hh)
  have KL := Lib.hid (fun (g c : Nat) (W : World) (hh : Three W g) => Vg.live_c g c W hh)
  have KC := Lib.hid (fun (W : World) => capacity_c 6 2 may62 W)
  have hbb : Below w.heap.size w (w.alloc (.cells #[.int .i64 8, .int .i64 0, .int .i64 0, .int .i64 0, .slice none 0 0] 24)) := (Below.refl _ _).alloc (Nat.le_refl _) _
  have HB0 := Lib.hid (BoxAt.mk (blk_new w #[.int .i64 8, .int .i64 0, .int .i64 0, .int .i64 0, .slice none 0 0] 24))
  have HV0 := Lib.hid (h.below hbb)
  have HA0 := Lib.hid (ha.below hbb)
  have HL0 := Lib.hid hbb
  have HK0 : Hid (KD A B w (w.alloc (.cells #[.int .i64 8, .int .i64 0, .int .i64 0, .int .i64 0, .slice none 0 0] 24))) := Lib.hid (KD.of hbb h.pool.size)
  have HBA := Lib.hid hBA
  clear h ha hbb hBA
  go_enter Tryz.func74, Tryz.ntmps74
  go_upto_region 1 with fail
  generalize (w.alloc (.cells #[.int .i64 8, .int .i64 0, .int .i64 0, .int .i64 0, .slice none 0 0] 24)) = w0 at *
  obtain ⟨b0, b1, b2, b3, b4⟩ := HB0.out.cells
  go_wp2_with (first
    | (go_at_call 76; (with_reducible refine (KS.out _ HV0.out).mono ?_); rintro e w1 ⟨g, c, rfl, h3, hb1⟩; have HV1 := Lib.hid (HV0.out.below hb1); have HA1 := Lib.hid (HA0.out.below hb1); have HK1 := Lib.hid (HK0.out.step hb1 HV0.out.pool.size); have H31 := Lib.hid h3; clear hb1 h3)
    | (go_at_call 130; (with_reducible refine (KL.out _ _ _ H31.out).mono ?_); rintro e w2 ⟨rfl, hb2⟩; have HV2 := Lib.hid (HV1.out.below hb2); have HA2 := Lib.hid (HA1.out.below hb2); have HK2 := Lib.hid (HK1.out.step hb2 HV1.out.pool.size); clear hb2; have p2 : w2.cell? ⟨P, 2, none⟩ = some (.int .i64 6) := blk_cell HV2.out.pool.blk 2; have p3 : w2.cell? ⟨P, 3, none⟩ = some (.int .i64 2) := blk_cell HV2.out.pool.blk 3)
    | (go_at_call 110; (with_reducible refine (KC.out _).mono ?_); rintro e w3 ⟨rfl, hb3⟩; have HV3 := Lib.hid (HV2.out.below hb3); have HA3 := Lib.hid (HA2.out.below hb3); have HK3 := Lib.hid (HK2.out.step hb3 HV2.out.pool.size); clear hb3; have a4 : w3.cell? ⟨A, 4, none⟩ = some (.slice none 0 0) := blk_cell HA3.out.blk 4; have f4 := blk_free HA3.out.blk 4; have hL3 := lt_of_block HA3.out.blk))
  have hn := blk_new (w3.setCell ⟨A, 4, none⟩ (.slice (some ⟨w3.heap.size, 0, none⟩) 2 2)) #[.int .i64 0, .int .i64 4] 3
  rw [sz_set] at hn
  refine bodyPost_end (v := .tuple #[]) (by simp [results, Tryz.results74, go_sem]) rfl ?_
  exact ⟨rfl, ⟨_, ⟨blk_old (blk_set HA3.out.blk 4 _) _⟩, hn⟩, (vol_set HV3.out HA3.out.blk 4 _).below ((Below.refl _ _).alloc (Nat.le_refl _) _), (HK3.out.set HA3.out.blk HBA.out 4 _).alloc (by rw [sz_set]; exact HV3.out.pool.size) _⟩
end Go.Proofs.YtjohhjdicbeojaaGreatDoor.Vi
