/- Texts joined: Vl Vm Ud. -/
import Derived.Deep.Onto
import Derived.Test.YtjohhjdicbeojaaGreatDoorZav
import Derived.Test.YtjohhjdicbeojaaGreatDoorZbj
namespace Go.Proofs.YtjohhjdicbeojaaGreatDoor.Vl
open Go.RowKit Go.Proofs.YtjohhjdicbeojaaGreatDoor.Ra Go.Proofs.YtjohhjdicbeojaaGreatDoor.Rj Go.Proofs.YtjohhjdicbeojaaGreatDoor.Rl Go.Proofs.YtjohhjdicbeojaaGreatDoor.Rn Go.Proofs.YtjohhjdicbeojaaGreatDoor.Ro Go.Proofs.YtjohhjdicbeojaaGreatDoor.Rq Go.Proofs.YtjohhjdicbeojaaGreatDoor.Ua Go.Proofs.YtjohhjdicbeojaaGreatDoor.Ub Go.Proofs.YtjohhjdicbeojaaGreatDoor.Va Go.Proofs.YtjohhjdicbeojaaGreatDoor.Vb Go.Proofs.YtjohhjdicbeojaaGreatDoor.Vc Go.Proofs.YtjohhjdicbeojaaGreatDoor.Vd Go.Proofs.YtjohhjdicbeojaaGreatDoor.Ve Go.Proofs.YtjohhjdicbeojaaGreatDoor.Vg Go.Proofs.YtjohhjdicbeojaaGreatDoor.Vh Go.Proofs.YtjohhjdicbeojaaGreatDoor.Vi Go.Proofs.YtjohhjdicbeojaaGreatDoor.Vj Go.Proofs.YtjohhjdicbeojaaGreatDoor.Vk
set_option maxRecDepth 8000
theorem psubmit_nil (k v b s : Int) (d : Value) (w : World) : Calls Tryz.prog 23 #[.pointer none, .agg #[.int .i64 k, .int .i64 v, .int .i64 b, .int .i64 s, d]] w fun e w' => e = .returned (.tuple #[.int .i64 0, .int .i64 1]) ∧ Below w.heap.size w w' := by
  go_enter Tryz.func23, Tryz.ntmps23
  go_wp2
  go_ret2
  exact ⟨rfl, (Below.refl _ _).alloc (Nat.le_refl _) _⟩
set_option maxHeartbeats 4000000 in
theorem psubmit_c {B : Nat} {w : World} {P G R : Nat} {x : PoolV} {t : Int} {p : Option Addr} {c : Nat} (k v b s : Int) (h1 : 1 ≤ k) (h2 : k ≤ 9) (ht : 0 ≤ t) (ht2 : t ≤ 1000) (h : PoolAt B w P G R x) (hg : GateAt B w G t [] p c) :
    Calls Tryz.prog 23 #[.pointer (some ⟨P, 0, none⟩), .agg #[.int .i64 k, .int .i64 v, .int .i64 b, .int .i64 s, .slice none 0 0]] w fun e w' =>
      (e = .returned (.tuple #[.int .i64 (t + 1), .int .i64 0])) ∧ PoolAt B w' P G R x ∧ (∃ p' c', GateAt B w' G (t + 1) [waitV k v b s (t + 1)] p' c') ∧ Kept [142, 20] B w w' := by
  have KS := Lib.hid (fun (W : World) (hh : GateAt B W G t [] p c) => submit_c k v b s h1 h2 ht ht2 hh)
  have hbb : Below w.heap.size w (w.alloc (.cells #[.int .i64 k, .int .i64 v, .int .i64 b, .int .i64 s, .slice none 0 0] 24)) := (Below.refl _ _).alloc (Nat.le_refl _) _
  have HB0 := Lib.hid (BoxAt.mk (blk_new w #[.int .i64 k, .int .i64 v, .int .i64 b, .int .i64 s, .slice none 0 0] 24))
  have HP0 := Lib.hid (h.below hbb)
  have HG0 := Lib.hid (hg.below hbb)
  have HK0 : Hid (Kept [142, 20] B w (w.alloc (.cells #[.int .i64 k, .int .i64 v, .int .i64 b, .int .i64 s, .slice none 0 0] 24))) := Lib.hid (Kept.of hbb h.size)
  clear h hg hbb h1 h2 ht ht2
  go_enter Tryz.func23, Tryz.ntmps23
  go_upto_region 1 with fail
  generalize (w.alloc (.cells #[.int .i64 k, .int .i64 v, .int .i64 b, .int .i64 s, .slice none 0 0] 24)) = w0 at *
  have p0 : w0.cell? ⟨P, 0, none⟩ = some (.pointer (some ⟨G, 0, none⟩)) := blk_cell HP0.out.blk 0
  obtain ⟨b0, b1, b2, b3, b4⟩ := HB0.out.cells
  have HGD := Lib.hid HG0.out.drew
  have HPD := Lib.hid HP0.out.drew
  have HKD := Lib.hid HK0.out.drew
  go_upto_region 3 with fail
  go_region_with (go_at_call 40; (with_reducible refine (KS.out _ HGD.out).mono ?_); rintro e w1 ⟨rfl, hg1, hk1⟩; have HE : Hid (PoolAt B w1 P G R x ∧ (∃ p' c', GateAt B w1 G (t + 1) [waitV k v b s (t + 1)] p' c') ∧ Kept [142, 20] B w w1) := Lib.hid ⟨HPD.out.kept hk1 (by rfl), hg1, HKD.out.trans hk1⟩; clear hg1 hk1)
  all_goals (
    clear p0 b0 b1 b2 b3 b4
    go_wp2
    go_ret2
    exact ⟨rfl, HE.out⟩)
/-- What a store into a new reply leaves. -/
def Soft (B : Nat) (Q : World → Prop) : Prop := ∀ (W W' : World), Kept [67] B W W' → Q W → Q W'
theorem soft5 {B : Nat} {Q : World → Prop} (h : Soft B Q) {W : World} {X : Nat} {vs : Array Value} (hX : W.heap[X]? = some (.cells vs 67 (0, 0))) (hB : B ≤ X) (x0 x1 x2 x3 x4 : Value) (hq : Q W) :
    Q (((((W.setCell ⟨X, 0, none⟩ x0).setCell ⟨X, 1, none⟩ x1).setCell ⟨X, 2, none⟩ x2).setCell ⟨X, 3, none⟩ x3).setCell ⟨X, 4, none⟩ x4) := by
  have k0 := (Kept.refl [67] B W).set hX hB (by rfl) 0 x0
  have k1 := k0.set (blk_set hX 0 x0) hB (by rfl) 1 x1
  have k2 := k1.set (blk_set (blk_set hX 0 x0) 1 x1) hB (by rfl) 2 x2
  have k3 := k2.set (blk_set (blk_set (blk_set hX 0 x0) 1 x1) 2 x2) hB (by rfl) 3 x3
  have k4 := k3.set (blk_set (blk_set (blk_set (blk_set hX 0 x0) 1 x1) 2 x2) 3 x3) hB (by rfl) 4 x4
  exact h _ _ k4 hq
theorem ticked_cells (x : PoolV) (G R : Nat) (n : Int) : ((x.cells G R).setIfInBounds 10 (.int .i64 n)) = ({ x with ck := n } : PoolV).cells G R := by kernel_rfl
theorem ticked {B : Nat} {w0 w : World} {P G R : Nat} {x : PoolV} (h : PoolAt B w P G R x) (hk : Kept [107] B w0 w) (n : Int) : PoolAt B (w.setCell ⟨P, 10, none⟩ (.int .i64 n)) P G R { x with ck := n } ∧ Kept [107] B w0 (w.setCell ⟨P, 10, none⟩ (.int .i64 n)) := by
  have b1 := blk_set h.blk 10 (.int .i64 n)
  rw [ticked_cells] at b1
  exact ⟨⟨h.base, b1⟩, hk.set h.blk h.base (by rfl) 10 _⟩
theorem step_nil (n : Int) (w : World) : Calls Tryz.prog 26 #[.pointer none, .int .i64 n] w fun e w' => e = .returned (.tuple #[.agg #[.int .i64 0, .int .i64 1, .int .i64 0, .slice none 0 0, .slice none 0 0], .bool true]) ∧ Below w.heap.size w w' := by
  go_enter Tryz.func26, Tryz.ntmps26
  go_wp2
  refine bodyPost_ret (results_ct rfl _ _ w.heap.size _ #[.int .i64 0, .int .i64 1, .int .i64 0, .slice none 0 0, .slice none 0 0] _ _ rfl (blk_new _ _ _) Tryz.underlying67 rfl sizeRep) rfl ?_
  exact ⟨rfl, (Below.refl _ _).alloc (Nat.le_refl _) _⟩
set_option maxHeartbeats 8000000 in
theorem step_ok {B : Nat} {w : World} {P G R : Nat} {x : PoolV} (h : PoolAt B w P G R x) (h0 : 0 ≤ x.ck) (h1 : x.ck ≤ 1000) (tk er id : Int) (S : Value → Value → World → Prop) (hS : ∀ d n, Soft B (S d n)) (hSl : ∀ d n W, S d n W → (∃ p m c, d = .slice p m c) ∧ ∃ p m c, n = .slice p m c)
    (hK : ∀ W, Kept [107] B w W → PoolAt B W P G R { x with ck := x.ck + 1 } → Calls Tryz.prog 43 #[.pointer (some ⟨P, 0, none⟩)] W fun e w' => ∃ d n, (e = .returned (.tuple #[.agg #[.int .i64 tk, .int .i64 er, .int .i64 id, d, n], .bool true])) ∧ S d n w' ∧ Kept tsAll B W w') :
    Calls Tryz.prog 26 #[.pointer (some ⟨P, 0, none⟩), .int .i64 1] w fun e w' => ∃ d n, (e = .returned (.tuple #[.agg #[.int .i64 tk, .int .i64 er, .int .i64 id, d, n], .bool true])) ∧ S d n w' ∧ Kept tsAll B w w' := by
  have hbb : Below w.heap.size w (w.alloc (.cells #[.int .i64 0, .int .i64 0, .int .i64 0, .slice none 0 0, .slice none 0 0] 67)) := (Below.refl _ _).alloc (Nat.le_refl _) _
  have HR0 := Lib.hid (blk_new w #[.int .i64 0, .int .i64 0, .int .i64 0, .slice none 0 0, .slice none 0 0] 67)
  have HP0 := Lib.hid (h.below hbb)
  have HK0 : Hid (Kept [107] B w (w.alloc (.cells #[.int .i64 0, .int .i64 0, .int .i64 0, .slice none 0 0, .slice none 0 0] 67))) := Lib.hid (Kept.of hbb h.size)
  have HBw := Lib.hid h.size
  have KS := Lib.hid hK
  have HS := Lib.hid hS
  have HSL := Lib.hid hSl
  have hw : wrap64 (x.ck + 1) = x.ck + 1 := by unfold wrap64; omega
  clear h hbb hK hS hSl h0 h1
  go_enter Tryz.func26, Tryz.ntmps26
  go_upto_region 1 with fail
  generalize (w.alloc (.cells #[.int .i64 0, .int .i64 0, .int .i64 0, .slice none 0 0, .slice none 0 0] 67)) = w0 at *
  have c10 : w0.cell? ⟨P, 10, none⟩ = some (.int .i64 x.ck) := blk_cell HP0.out.blk 10
  have f10 := blk_free HP0.out.blk 10
  go_upto_region 4 with fail
  have HT := Lib.hid (ticked HP0.out HK0.out (x.ck + 1))
  have HR1 := Lib.hid (blk_set_other (a := ⟨P, 10, none⟩) HR0.out (fun e => by
    have e' : w.heap.size = P := e
    have hb := HP0.out.blk
    rw [← e', HR0.out] at hb
    injection hb with hh
    injection hh with _ hh _
    exact absurd hh (by decide)) (.int .i64 (x.ck + 1)))
  clear c10 f10 HP0 HK0 HR0
  generalize (w0.setCell ⟨P, 10, none⟩ (.int .i64 (x.ck + 1))) = w1 at *
  go_upto_region 14 with (go_at_call 43; (with_reducible refine (KS.out _ HT.out.2 HT.out.1).mono ?_); rintro e w2 ⟨d, n, rfl, hs2, hk2⟩; obtain ⟨⟨d1, d2, d3, rfl⟩, n1, n2, n3, rfl⟩ := HSL.out d n w2 hs2; have HS2 := Lib.hid hs2; have HR2 := Lib.hid (hk2.at HR1.out (by rfl)); have HK2 : Hid (Kept tsAll B w w2) := Lib.hid ((HT.out.2.mono (by rfl)).trans hk2); clear hs2 hk2; have s0 := blk_cell HR2.out 0; have s1 := blk_cell HR2.out 1; have s2 := blk_cell HR2.out 2; have s3 := blk_cell HR2.out 3; have s4 := blk_cell HR2.out 4; have t0 := blk_free HR2.out 0; have t1 := blk_free HR2.out 1; have t2 := blk_free HR2.out 2; have t3 := blk_free HR2.out 3; have t4 := blk_free HR2.out 4)
  refine bodyPost_ret (results_ct rfl _ _ w.heap.size _ #[.int .i64 tk, .int .i64 er, .int .i64 id, .slice d1 d2 d3, .slice n1 n2 n3] _ _ rfl (five HR2.out _ _ _ _ _) Tryz.underlying67 rfl sizeRep) rfl ?_
  exact ⟨_, _, rfl, soft5 (HS.out _ _) HR2.out HBw.out _ _ _ _ _ HS2.out, kept5 HK2.out (Nat.le_refl _) HBw.out _ _ _ _ _⟩
theorem do_nil (k v b s : Int) (d : Value) (w : World) : Calls Tryz.prog 25 #[.pointer none, .agg #[.int .i64 k, .int .i64 v, .int .i64 b, .int .i64 s, d]] w fun e w' => e = .returned (.agg #[.int .i64 0, .int .i64 1, .int .i64 0, .slice none 0 0, .slice none 0 0]) ∧ Below w.heap.size w w' := by
  have h2 := blk_new (w.alloc (.cells #[.int .i64 k, .int .i64 v, .int .i64 b, .int .i64 s, d] 24)) #[.int .i64 0, .int .i64 1, .int .i64 0, .slice none 0 0, .slice none 0 0] 67
  rw [sz_alloc] at h2
  have H2 := Lib.hid h2
  clear h2
  go_enter Tryz.func25, Tryz.ntmps25
  go_wp2
  refine bodyPost_ret (v := .agg #[.int .i64 0, .int .i64 1, .int .i64 0, .slice none 0 0, .slice none 0 0]) (results_cell_row rfl _ _ (w.heap.size + 1) _ _ _ _ rfl H2.out Tryz.underlying67 rfl sizeRep) rfl ?_
  exact ⟨rfl, ((Below.refl _ _).alloc (Nat.le_refl _) _).alloc (by rw [sz_alloc]; exact Nat.le_succ _) _⟩
set_option maxHeartbeats 8000000 in
theorem do_ok {B : Nat} {w : World} {P G R : Nat} {x : PoolV} {t : Int} {p : Option Addr} {c : Nat} (k v b s er id : Int) (h1 : 1 ≤ k) (h2 : k ≤ 9) (ht : 0 ≤ t) (ht2 : t ≤ 1000) (h12 : er ≠ 12) (h : PoolAt B w P G R x) (hg : GateAt B w G t [] p c)
    (S : Value → Value → World → Prop) (hS : ∀ d n, Soft B (S d n)) (hSl : ∀ d n W, S d n W → (∃ p m c, d = .slice p m c) ∧ ∃ p m c, n = .slice p m c)
    (hK : ∀ W p c, Kept [142, 20] B w W → PoolAt B W P G R x → GateAt B W G (t + 1) [waitV k v b s (t + 1)] p c → Calls Tryz.prog 26 #[.pointer (some ⟨P, 0, none⟩), .int .i64 1] W fun e w' => ∃ d n, (e = .returned (.tuple #[.agg #[.int .i64 (t + 1), .int .i64 er, .int .i64 id, d, n], .bool true])) ∧ S d n w' ∧ Kept tsAll B W w') :
    Calls Tryz.prog 25 #[.pointer (some ⟨P, 0, none⟩), .agg #[.int .i64 k, .int .i64 v, .int .i64 b, .int .i64 s, .slice none 0 0]] w fun e w' => ∃ d n, (e = .returned (.agg #[.int .i64 (t + 1), .int .i64 er, .int .i64 id, d, n])) ∧ S d n w' ∧ Kept tsAll B w w' := by
  have hbb : Below w.heap.size w ((w.alloc (.cells #[.int .i64 k, .int .i64 v, .int .i64 b, .int .i64 s, .slice none 0 0] 24)).alloc (.cells #[.int .i64 0, .int .i64 0, .int .i64 0, .slice none 0 0, .slice none 0 0] 67)) := ((Below.refl _ _).alloc (Nat.le_refl _) _).alloc (by rw [sz_alloc]; exact Nat.le_succ _) _
  have hbx := blk_old (blk_new w #[.int .i64 k, .int .i64 v, .int .i64 b, .int .i64 s, .slice none 0 0] 24) (.cells #[.int .i64 0, .int .i64 0, .int .i64 0, .slice none 0 0, .slice none 0 0] 67)
  have hrs := blk_new (w.alloc (.cells #[.int .i64 k, .int .i64 v, .int .i64 b, .int .i64 s, .slice none 0 0] 24)) #[.int .i64 0, .int .i64 0, .int .i64 0, .slice none 0 0, .slice none 0 0] 67
  rw [sz_alloc] at hrs
  have KL := Lib.hid (fun (W : World) (hh : GateAt B W G t [] p c) => glen_c hh)
  have KU := Lib.hid (fun (W : World) (hp : PoolAt B W P G R x) (hh : GateAt B W G t [] p c) => psubmit_c k v b s h1 h2 ht ht2 hp hh)
  have KS := Lib.hid hK
  have HS := Lib.hid hS
  have HSL := Lib.hid hSl
  have HB0 := Lib.hid (BoxAt.mk hbx)
  have HR0 := Lib.hid hrs
  have HP0 := Lib.hid (h.below hbb)
  have HG0 := Lib.hid (hg.below hbb)
  have HBw := Lib.hid h.size
  have HL0 := Lib.hid hbb
  have hb12 : (er == 12) = false := by simpa using h12
  clear h hg hbb hbx hrs hK hS hSl h1 h2 ht ht2
  go_enter Tryz.func25, Tryz.ntmps25
  go_upto_region 1 with fail
  generalize ((w.alloc (.cells #[.int .i64 k, .int .i64 v, .int .i64 b, .int .i64 s, .slice none 0 0] 24)).alloc (.cells #[.int .i64 0, .int .i64 0, .int .i64 0, .slice none 0 0, .slice none 0 0] 67)) = w0 at *
  have p0 : w0.cell? ⟨P, 0, none⟩ = some (.pointer (some ⟨G, 0, none⟩)) := blk_cell HP0.out.blk 0
  obtain ⟨b0, b1, b2, b3, b4⟩ := HB0.out.cells
  go_upto_region 8 with (first
    | (go_at_call 41; (refine (KL.out _ HG0.out).mono ?_); rintro e w1 ⟨rfl, rfl⟩)
    | (go_at_call 23; (with_reducible refine (KU.out _ HP0.out HG0.out).mono ?_); rintro e w2 ⟨rfl, hp2, ⟨p', c', hg2⟩, hk2⟩; have HP2 := Lib.hid hp2; have HG2 := Lib.hid hg2; have HK2 := Lib.hid ((Kept.of HL0.out HBw.out).trans hk2); have HR2 := Lib.hid (hk2.at HR0.out (by rfl)); clear hp2 hg2 hk2))
  clear p0 b0 b1 b2 b3 b4
  go_loopg [7, 8, 9, 10] 1 (fun gg _ _ _ _ wr => gg = 1 ∧ wr = w2)
  case atStart => exact ⟨rfl, rfl⟩
  case round =>
    obtain ⟨_, rfl⟩ := hrel
    go_upto_region 9 with (go_at_call 26; (with_reducible refine (KS.out wr p' c' HK2.out HP2.out HG2.out).mono ?_); rintro e w3 ⟨d, n, rfl, hs3, hk3⟩; obtain ⟨⟨d1, d2, d3, rfl⟩, n1, n2, n3, rfl⟩ := HSL.out d n w3 hs3; have HS3 := Lib.hid hs3; have HR3 := Lib.hid (hk3.at HR2.out (by rfl)); have HK3 : Hid (Kept tsAll B w w3) := Lib.hid ((HK2.out.mono (by rfl)).trans hk3); clear hs3 hk3)
    have HR4 := Lib.hid (blk_old HR3.out (.cells #[.int .i64 (t + 1), .int .i64 er, .int .i64 id, .slice d1 d2 d3, .slice n1 n2 n3] 67))
    have HK4 := Lib.hid (HK3.out.alloc (Nat.le_trans HBw.out HK3.out.size) (.cells #[.int .i64 (t + 1), .int .i64 er, .int .i64 id, .slice d1 d2 d3, .slice n1 n2 n3] 67))
    have HS4 : Hid (S (.slice d1 d2 d3) (.slice n1 n2 n3) (w3.alloc (.cells #[.int .i64 (t + 1), .int .i64 er, .int .i64 id, .slice d1 d2 d3, .slice n1 n2 n3] 67))) := Lib.hid (HS.out _ _ w3 _ ((Kept.refl _ B w3).alloc (Nat.le_trans HBw.out HK3.out.size) _) HS3.out)
    have HN4 := Lib.hid (blk_new w3 #[.int .i64 (t + 1), .int .i64 er, .int .i64 id, .slice d1 d2 d3, .slice n1 n2 n3] 67)
    generalize (w3.alloc (.cells #[.int .i64 (t + 1), .int .i64 er, .int .i64 id, .slice d1 d2 d3, .slice n1 n2 n3] 67)) = w4 at *
    have a0 := blk_cell HN4.out 0
    have a1 := blk_cell HN4.out 1
    have a2 := blk_cell HN4.out 2
    have a3 := blk_cell HN4.out 3
    have a4 := blk_cell HN4.out 4
    have a1' : w4.cell? ⟨w3.heap.size, 1, none⟩ = some (.int .i64 er) := a1
    have s0 := blk_cell HR4.out 0
    have s1 := blk_cell HR4.out 1
    have s2 := blk_cell HR4.out 2
    have s3 := blk_cell HR4.out 3
    have s4 := blk_cell HR4.out 4
    have t0 := blk_free HR4.out 0
    have t1 := blk_free HR4.out 1
    have t2 := blk_free HR4.out 2
    have t3 := blk_free HR4.out 3
    have t4 := blk_free HR4.out 4
    go_wp2
    refine bodyPost_ret (results_cell_row rfl _ _ (w.heap.size + 1) _ #[.int .i64 (t + 1), .int .i64 er, .int .i64 id, .slice d1 d2 d3, .slice n1 n2 n3] _ _ rfl (five HR4.out _ _ _ _ _) Tryz.underlying67 rfl sizeRep) rfl ?_
    exact ⟨_, _, rfl, soft5 (HS.out _ _) HR4.out (Nat.le_succ_of_le HBw.out) _ _ _ _ _ HS4.out, kept5 HK4.out (Nat.le_succ _) (Nat.le_succ_of_le HBw.out) _ _ _ _ _⟩
end Go.Proofs.YtjohhjdicbeojaaGreatDoor.Vl
namespace Go.Proofs.YtjohhjdicbeojaaGreatDoor.Vm
open Go.RowKit Go.Proofs.YtjohhjdicbeojaaGreatDoor.Ra Go.Proofs.YtjohhjdicbeojaaGreatDoor.Rj Go.Proofs.YtjohhjdicbeojaaGreatDoor.Rl Go.Proofs.YtjohhjdicbeojaaGreatDoor.Rn Go.Proofs.YtjohhjdicbeojaaGreatDoor.Ro Go.Proofs.YtjohhjdicbeojaaGreatDoor.Rq Go.Proofs.YtjohhjdicbeojaaGreatDoor.Ua Go.Proofs.YtjohhjdicbeojaaGreatDoor.Ub Go.Proofs.YtjohhjdicbeojaaGreatDoor.Va Go.Proofs.YtjohhjdicbeojaaGreatDoor.Vb Go.Proofs.YtjohhjdicbeojaaGreatDoor.Vc Go.Proofs.YtjohhjdicbeojaaGreatDoor.Vd Go.Proofs.YtjohhjdicbeojaaGreatDoor.Ve Go.Proofs.YtjohhjdicbeojaaGreatDoor.Vg Go.Proofs.YtjohhjdicbeojaaGreatDoor.Vh Go.Proofs.YtjohhjdicbeojaaGreatDoor.Vi Go.Proofs.YtjohhjdicbeojaaGreatDoor.Vj Go.Proofs.YtjohhjdicbeojaaGreatDoor.Vk Go.Proofs.YtjohhjdicbeojaaGreatDoor.Vl
set_option maxRecDepth 8000
/-- A pool with one volume, and its gate, empty. -/
def Idle (B P G R : Nat) (t m : Int) (W : World) : Prop := (∃ T x, VolAt B W P G R T x ∧ 0 ≤ x.ck ∧ x.ck ≤ m) ∧ ∃ p c, GateAt B W G t [] p c
theorem Idle.kept {ts : List TypeId} {B P G R : Nat} {t m : Int} {W W' : World} (h : Idle B P G R t m W) (hk : Kept ts B W W') (h1 : ts.contains 107 = false) (h2 : ts.contains 148 = false) (h3 : ts.contains 223 = false) (h4 : ts.contains 289 = false) (h5 : ts.contains 142 = false) (h6 : ts.contains 20 = false) : Idle B P G R t m W' := by
  obtain ⟨⟨T, x, hv, hx⟩, p, c, hg⟩ := h
  exact ⟨⟨T, x, hv.kept hk h1 h2 h3 h4, hx⟩, p, c, hg.kept hk h5 h6⟩
theorem Idle.below {B P G R : Nat} {t m : Int} {W W' : World} (h : Idle B P G R t m W) (hb : Below W.heap.size W W') : Idle B P G R t m W' := by
  obtain ⟨⟨T, x, hv, hx⟩, p, c, hg⟩ := h
  exact ⟨⟨T, x, hv.below hb, hx⟩, p, c, hg.below hb⟩
theorem Idle.size {B P G R : Nat} {t m : Int} {W : World} (h : Idle B P G R t m W) : B ≤ W.heap.size := by
  obtain ⟨⟨T, x, hv, hx⟩, _⟩ := h
  exact hv.pool.size
def nilS : Value := .slice none 0 0
/-- The volume, as do leaves it. -/
def HasVol (B P G R : Nat) (m : Int) (W : World) : Prop := ∃ T x, VolAt B W P G R T x ∧ 0 ≤ x.ck ∧ x.ck ≤ m
theorem HasVol.firm (B P G R : Nat) (m : Int) : Firm (HasVol B P G R m) := fun C W W' hk h => by
  obtain ⟨T, x, hv, hx⟩ := h
  exact ⟨T, x, hv.kept hk (by rfl) (by rfl) (by rfl) (by rfl), hx⟩
/-- Create. -/
theorem pdo_create {B : Nat} {w : World} {P G R : Nat} {x : PoolV} {t : Int} {p : Option Addr} {c : Nat} {tv : Value} (ht : 0 ≤ t) (ht2 : t ≤ 1000) (hc0 : 0 ≤ x.ck) (hc1 : x.ck ≤ 1000) (h : PoolAt B w P G R x) (hdl : x.dl = .slice none 0 0) (hr : RollAt w R 0 0 tv) (hBR : B ≤ R) (hg : GateAt B w G t [] p c) :
    Calls Tryz.prog 25 #[.pointer (some ⟨P, 0, none⟩), .agg #[.int .i64 1, .int .i64 0, .int .i64 0, .int .i64 3, .slice none 0 0]] w fun e w' => (e = .returned (.agg #[.int .i64 (t + 1), .int .i64 0, .int .i64 0, .slice none 0 0, .slice none 0 0])) ∧ Idle B P G R (t + 1) (x.ck + 1) w' ∧ Kept tsAll B w w' := by
  refine (do_ok 1 0 0 3 0 0 (by decide) (by decide) ht ht2 (by decide) h hg (fun d n W => d = nilS ∧ n = nilS ∧ Idle B P G R (t + 1) (x.ck + 1) W)
    (fun d n W W' hk hq => ⟨hq.1, hq.2.1, hq.2.2.kept hk (by rfl) (by rfl) (by rfl) (by rfl) (by rfl) (by rfl)⟩)
    (fun d n W hq => ⟨⟨_, _, _, hq.1⟩, _, _, _, hq.2.1⟩) (fun W p' c' hk hp hg' => ?_)).mono ?_
  · refine step_ok hp hc0 hc1 (t + 1) 0 0 (fun d n W => d = nilS ∧ n = nilS ∧ Idle B P G R (t + 1) (x.ck + 1) W)
      (fun d n W W' hk hq => ⟨hq.1, hq.2.1, hq.2.2.kept hk (by rfl) (by rfl) (by rfl) (by rfl) (by rfl) (by rfl)⟩)
      (fun d n W hq => ⟨⟨_, _, _, hq.1⟩, _, _, _, hq.2.1⟩) (fun W2 hk2 hp2 => ?_)
    have hr2 := Vg.RollAt.kept (Vg.RollAt.kept hr hk (by rfl)) hk2 (by rfl)
    refine (serve_ok 1 0 0 3 (t + 1) 0 hp2 (hg'.kept hk2 (by rfl) (by rfl)) (fun d n W => d = nilS ∧ n = nilS ∧ HasVol B P G R (x.ck + 1) W)
      (fun d n C W W' hk hq => ⟨hq.1, hq.2.1, HasVol.firm B P G R _ C W W' hk hq.2.2⟩)
      (fun d n W hq => ⟨by obtain ⟨T, y, hv, _⟩ := hq.2.2; exact ⟨y, hv.pool⟩, ⟨_, _, _, hq.1⟩, _, _, _, hq.2.1⟩)
      (fun W3 A hb ha hA => ?_)).mono ?_
    · refine (do_create (hp2.below hb) hdl (hr2.below hb) hBR ha hA).mono ?_
      rintro e w' ⟨he, ⟨T, dl, hv⟩, hrep, hkd⟩
      exact ⟨he, ⟨_, _, hrep, rfl, rfl, T, _, hv, by show 0 ≤ x.ck + 1; omega, Int.le_refl _⟩, hkd⟩
    · rintro e w' ⟨d, n, he, ⟨hd, hn, hv⟩, hg3, hk3⟩
      exact ⟨d, n, he, ⟨hd, hn, hv, hg3⟩, hk3⟩
  · rintro e w' ⟨d, n, rfl, ⟨rfl, rfl, hi⟩, hk⟩
    exact ⟨rfl, hi, hk⟩
/-- A step that reads. -/
theorem pstep_read {B : Nat} {w : World} {P G R : Nat} {t m tk : Int} {p : Option Addr} {c : Nat} (j : Int) (hj0 : 0 ≤ j) (hj3 : j < 3) (hm : m ≤ 1000) (h : HasVol B P G R m w) (hg : GateAt B w G t [waitV 4 0 j 0 tk] p c) :
    Calls Tryz.prog 26 #[.pointer (some ⟨P, 0, none⟩), .int .i64 1] w fun e w' => ∃ d, (e = .returned (.tuple #[.agg #[.int .i64 tk, .int .i64 0, .int .i64 0, d, .slice none 0 0], .bool true])) ∧ ZeroSec w' d ∧ Idle B P G R t (m + 1) w' ∧ Kept tsAll B w w' := by
  obtain ⟨T, x, hv, hx0, hx1⟩ := h
  refine (step_ok hv.pool hx0 (by omega) tk 0 0 (fun d n W => ZeroSec W d ∧ n = nilS ∧ Idle B P G R t (m + 1) W)
    (fun d n W W' hk hq => ⟨hq.1.kept hk (by rfl), hq.2.1, hq.2.2.kept hk (by rfl) (by rfl) (by rfl) (by rfl) (by rfl) (by rfl)⟩)
    (fun d n W hq => ⟨by obtain ⟨g, h1, _⟩ := hq.1.sec; exact ⟨_, _, _, h1⟩, _, _, _, hq.2.1⟩) (fun W2 hk2 hp2 => ?_)).mono ?_
  · have hv2 : VolAt B W2 P G R T { x with ck := x.ck + 1 } := ⟨hp2, Vg.RollAt.kept hv.roll hk2 (by rfl), Ve.TabAt.kept hv.tab hk2 (by rfl) (by rfl)⟩
    refine (serve_ok 4 0 j 0 tk 0 hp2 (hg.kept hk2 (by rfl) (by rfl)) (fun d n W => ZeroSec W d ∧ n = nilS ∧ HasVol B P G R (m + 1) W)
      (fun d n C W W' hk hq => ⟨hq.1.kept hk (by rfl), hq.2.1, HasVol.firm B P G R _ C W W' hk hq.2.2⟩)
      (fun d n W hq => ⟨by obtain ⟨T, y, hv, _⟩ := hq.2.2; exact ⟨y, hv.pool⟩, by obtain ⟨g, h1, _⟩ := hq.1.sec; exact ⟨_, _, _, h1⟩, _, _, _, hq.2.1⟩)
      (fun W3 A hb ha hA => ?_)).mono ?_
    · refine (do_read j hj0 hj3 (hv2.below hb) ha hA).mono ?_
      rintro e w' ⟨he, ⟨v, hrep, hz⟩, hv3, hkd⟩
      exact ⟨he, ⟨_, _, hrep, hz, rfl, T, _, hv3, by show 0 ≤ x.ck + 1; omega, by show x.ck + 1 ≤ m + 1; omega⟩, hkd⟩
    · rintro e w' ⟨d, n, he, ⟨hd, hn, hv⟩, hg3, hk3⟩
      exact ⟨d, n, he, ⟨hd, hn, hv, hg3⟩, hk3⟩
  · rintro e w' ⟨d, n, rfl, ⟨hz, rfl, hi⟩, hk⟩
    exact ⟨d, rfl, hz, hi, hk⟩
/-- Two numbers. -/
def Two (W : World) (n : Value) : Prop := ∃ g, n = .slice (some ⟨g, 0, none⟩) 2 2 ∧ W.heap[g]? = some (.cells #[.int .i64 0, .int .i64 4] 3 (0, 0))
theorem Two.kept {ts : List TypeId} {C : Nat} {W W' : World} {n : Value} (h : Two W n) (hk : Kept ts C W W') (ht : ts.contains 3 = false) : Two W' n := by
  obtain ⟨g, h1, h2⟩ := h
  exact ⟨g, h1, hk.at h2 ht⟩
/-- Stat. -/
theorem pdo_stat {B : Nat} {w : World} {P G R : Nat} {t m : Int} (ht : 0 ≤ t) (ht2 : t ≤ 1000) (hm : m ≤ 1000) (h : Idle B P G R t m w) :
    Calls Tryz.prog 25 #[.pointer (some ⟨P, 0, none⟩), .agg #[.int .i64 8, .int .i64 0, .int .i64 0, .int .i64 0, .slice none 0 0]] w fun e w' => ∃ n, (e = .returned (.agg #[.int .i64 (t + 1), .int .i64 0, .int .i64 0, .slice none 0 0, n])) ∧ Two w' n ∧ Idle B P G R (t + 1) (m + 1) w' ∧ Kept tsAll B w w' := by
  obtain ⟨⟨T, x, hv, hx0, hx1⟩, p, c, hg⟩ := h
  refine (do_ok 8 0 0 0 0 0 (by decide) (by decide) ht ht2 (by decide) hv.pool hg (fun d n W => d = nilS ∧ Two W n ∧ Idle B P G R (t + 1) (m + 1) W)
    (fun d n W W' hk hq => ⟨hq.1, hq.2.1.kept hk (by rfl), hq.2.2.kept hk (by rfl) (by rfl) (by rfl) (by rfl) (by rfl) (by rfl)⟩)
    (fun d n W hq => ⟨⟨_, _, _, hq.1⟩, by obtain ⟨g, h1, _⟩ := hq.2.1; exact ⟨_, _, _, h1⟩⟩) (fun W p' c' hk hp hg' => ?_)).mono ?_
  · refine step_ok hp hx0 (by omega) (t + 1) 0 0 (fun d n W => d = nilS ∧ Two W n ∧ Idle B P G R (t + 1) (m + 1) W)
      (fun d n W W' hk hq => ⟨hq.1, hq.2.1.kept hk (by rfl), hq.2.2.kept hk (by rfl) (by rfl) (by rfl) (by rfl) (by rfl) (by rfl)⟩)
      (fun d n W hq => ⟨⟨_, _, _, hq.1⟩, by obtain ⟨g, h1, _⟩ := hq.2.1; exact ⟨_, _, _, h1⟩⟩) (fun W2 hk2 hp2 => ?_)
    have hv2 : VolAt B W2 P G R T { x with ck := x.ck + 1 } := ⟨hp2, Vg.RollAt.kept (Vg.RollAt.kept hv.roll hk (by rfl)) hk2 (by rfl), Ve.TabAt.kept (Ve.TabAt.kept hv.tab hk (by rfl) (by rfl)) hk2 (by rfl) (by rfl)⟩
    refine (serve_ok 8 0 0 0 (t + 1) 0 hp2 (hg'.kept hk2 (by rfl) (by rfl)) (fun d n W => d = nilS ∧ Two W n ∧ HasVol B P G R (m + 1) W)
      (fun d n C W W' hk hq => ⟨hq.1, hq.2.1.kept hk (by rfl), HasVol.firm B P G R _ C W W' hk hq.2.2⟩)
      (fun d n W hq => ⟨by obtain ⟨T, y, hv, _⟩ := hq.2.2; exact ⟨y, hv.pool⟩, ⟨_, _, _, hq.1⟩, by obtain ⟨g, h1, _⟩ := hq.2.1; exact ⟨_, _, _, h1⟩⟩)
      (fun W3 A hb ha hA => ?_)).mono ?_
    · refine (do_stat (hv2.below hb) ha hA).mono ?_
      rintro e w' ⟨he, ⟨g, hrep, hg⟩, hv3, hkd⟩
      exact ⟨he, ⟨_, _, hrep, rfl, ⟨g, rfl, hg⟩, T, _, hv3, by show 0 ≤ x.ck + 1; omega, by show x.ck + 1 ≤ m + 1; omega⟩, hkd⟩
    · rintro e w' ⟨d, n, he, ⟨hd, hn, hv⟩, hg3, hk3⟩
      exact ⟨d, n, he, ⟨hd, hn, hv, hg3⟩, hk3⟩
  · rintro e w' ⟨d, n, rfl, ⟨rfl, hn, hi⟩, hk⟩
    exact ⟨n, rfl, hn, hi, hk⟩
/-- A read that is refused. -/
theorem pdo_bad {B : Nat} {w : World} {P G R : Nat} {t m : Int} (j : Int) (hj : 3 ≤ j) (ht : 0 ≤ t) (ht2 : t ≤ 1000) (hm : m ≤ 1000) (h : Idle B P G R t m w) :
    Calls Tryz.prog 25 #[.pointer (some ⟨P, 0, none⟩), .agg #[.int .i64 4, .int .i64 0, .int .i64 j, .int .i64 0, .slice none 0 0]] w fun e w' => (e = .returned (.agg #[.int .i64 (t + 1), .int .i64 5, .int .i64 0, .slice none 0 0, .slice none 0 0])) ∧ Idle B P G R (t + 1) (m + 1) w' ∧ Kept tsAll B w w' := by
  obtain ⟨⟨T, x, hv, hx0, hx1⟩, p, c, hg⟩ := h
  refine (do_ok 4 0 j 0 5 0 (by decide) (by decide) ht ht2 (by decide) hv.pool hg (fun d n W => d = nilS ∧ n = nilS ∧ Idle B P G R (t + 1) (m + 1) W)
    (fun d n W W' hk hq => ⟨hq.1, hq.2.1, hq.2.2.kept hk (by rfl) (by rfl) (by rfl) (by rfl) (by rfl) (by rfl)⟩)
    (fun d n W hq => ⟨⟨_, _, _, hq.1⟩, _, _, _, hq.2.1⟩) (fun W p' c' hk hp hg' => ?_)).mono ?_
  · refine step_ok hp hx0 (by omega) (t + 1) 5 0 (fun d n W => d = nilS ∧ n = nilS ∧ Idle B P G R (t + 1) (m + 1) W)
      (fun d n W W' hk hq => ⟨hq.1, hq.2.1, hq.2.2.kept hk (by rfl) (by rfl) (by rfl) (by rfl) (by rfl) (by rfl)⟩)
      (fun d n W hq => ⟨⟨_, _, _, hq.1⟩, _, _, _, hq.2.1⟩) (fun W2 hk2 hp2 => ?_)
    have hv2 : VolAt B W2 P G R T { x with ck := x.ck + 1 } := ⟨hp2, Vg.RollAt.kept (Vg.RollAt.kept hv.roll hk (by rfl)) hk2 (by rfl), Ve.TabAt.kept (Ve.TabAt.kept hv.tab hk (by rfl) (by rfl)) hk2 (by rfl) (by rfl)⟩
    refine (serve_bad 4 0 j 0 (t + 1) 5 (by decide) (by decide) (by decide) hp2 (hg'.kept hk2 (by rfl) (by rfl)) (fun W3 A hb ha hA => do_bad j hj (hv2.below hb) ha hA)).mono ?_
    rintro e w' ⟨he, hp3, hg3, hk3⟩
    exact ⟨_, _, he, ⟨rfl, rfl, ⟨T, _, ⟨hp3, Vg.RollAt.kept hv2.roll hk3 (by rfl), Ve.TabAt.kept hv2.tab hk3 (by rfl) (by rfl)⟩, by show 0 ≤ x.ck + 1; omega, by show x.ck + 1 ≤ m + 1; omega⟩, hg3⟩, hk3.mono (by rfl)⟩
  · rintro e w' ⟨d, n, rfl, ⟨rfl, rfl, hi⟩, hk⟩
    exact ⟨rfl, hi, hk⟩
end Go.Proofs.YtjohhjdicbeojaaGreatDoor.Vm
namespace Go.Proofs.YtjohhjdicbeojaaGreatDoor.Ud
open Go.RowKit Go.Proofs.YtjohhjdicbeojaaGreatDoor.Ra Go.Proofs.YtjohhjdicbeojaaGreatDoor.Rj Go.Proofs.YtjohhjdicbeojaaGreatDoor.Rl Go.Proofs.YtjohhjdicbeojaaGreatDoor.Rn Go.Proofs.YtjohhjdicbeojaaGreatDoor.Ro Go.Proofs.YtjohhjdicbeojaaGreatDoor.Rp Go.Proofs.YtjohhjdicbeojaaGreatDoor.Rq Go.Proofs.YtjohhjdicbeojaaGreatDoor.Rr Go.Proofs.YtjohhjdicbeojaaGreatDoor.Rs Go.Proofs.YtjohhjdicbeojaaGreatDoor.Rt
set_option maxRecDepth 8000
/-- 0, 1, .. -/
def upTo (n : Nat) : List Value := (List.range n).map fun i : Nat => .int .i64 (i : Int)
theorem upTo_succ (n : Nat) : upTo (n + 1) = upTo n ++ [.int .i64 (n : Int)] := by
  unfold upTo
  rw [List.range_succ, List.map_append]
  rfl
set_option maxHeartbeats 4000000 in
theorem free_c (s : Nat) (b : Int) (hm : MayP s b) (w : World) : Calls Tryz.prog 35 #[.agg emptyCells, .agg #[.int .i64 (s : Int), .int .i64 b], .slice none 0 0] w fun e w' => ∃ v, e = .returned (.tuple #[v, .int .i64 0]) ∧ w'.ownsRow w.heap.size 3 1 v s (upTo s) ∧ Below w.heap.size w w' := by
  have H0 := Lib.hid (Boxes.start (s : Int) b w)
  have KC := Lib.hid (fun (W : World) => counts_c s b hm W)
  have KN := Lib.hid (fun (x : Int) (W : World) => contains_none x W)
  have hs24 : s ≤ 24 := by have := hm.2.1; omega
  obtain ⟨i0, hi, hz0, hz1, hz2⟩ := info_parts info_int
  have HI := Lib.hid hi
  have HZ0 := Lib.hid hz0
  have HZ1 := Lib.hid hz1
  have HZ2 := Lib.hid hz2
  clear hm hi hz0 hz1 hz2
  go_enter Tryz.func35, Tryz.ntmps35
  go_upto_region 1 with fail
  generalize ((w.alloc (.cells emptyCells 96)).alloc (.cells #[.int .i64 (s : Int), .int .i64 b] 58)) = w0 at *
  obtain ⟨p0, p1⟩ := H0.out.plat
  go_wp2_with (first
    | (refine wpList_load_row rfl 96 (.tmp 3) rfl w.heap.size rfl _ emptyCells _ _ H0.out.1 Tryz.underlying96 rfl sizeE' ?_)
    | (go_at_call 62; (with_reducible refine (KC.out _).mono ?_); rintro e w1 ⟨g, rfl, hg1, hb1⟩; have HX1 := Lib.hid (H0.out.later hb1); have HG1 := Lib.hid hg1; clear hb1 hg1))
  go_loopg [10, 11, 12, 24] (s + 1) (fun gg s10 _ _ s24 wr => ∃ j : Nat, j ≤ s ∧ s - j < gg ∧ s24 = .int .i64 (j : Int) ∧ Hid (wr.ownsRow w1.heap.size 3 1 s10 j (upTo j) ∧ Below w1.heap.size w1 wr))
  case atStart => exact ⟨0, by omega, by omega, rfl, Lib.hid ⟨World.ownsRow_nil _ _ _ _, Below.refl _ _⟩⟩
  case round =>
    obtain ⟨j, hj, hgg, rfl, HR⟩ := hrel
    by_cases hlt : j < s
    · have hil : (j : Int) < (s : Int) := by omega
      have cj : wr.cell? ⟨g, j, none⟩ = some (.int .i64 0) := by
        rw [blk_cell (blk_below HG1.out HR.out.2 (lt_of_block HG1.out)), ← Array.getElem?_toList, List.toList_toArray]
        unfold intVals
        rw [List.getElem?_map, List.getElem?_replicate, if_pos hlt]
        rfl
      have OWR := Lib.hid HR.out.1
      have hbr := HR.out.2.size
      have h63 : Hid (j + 1 ≤ maxLen) := Lib.hid (by unfold maxLen; omega)
      have hbs : Hid ((j + 1) * 8 ≤ 140737488355328) := Lib.hid (by omega)
      go_wp2_with (first
        | (go_at_call 39; (with_reducible refine (KN.out _ _).mono ?_); rintro e w2 ⟨rfl, rfl⟩)
        | (at_builtin; go_loud (refine wpList_append_lies _ rfl _ _ 25 rfl w1.heap.size 3 i0 (.int .i64 0) 1 8 Tryz.underlying25 HI.out HZ0.out HZ1.out HZ2.out rfl (by decide) _ j (upTo j) rfl (OWR.out.alloc _) ⟨wr.heap.size, 0, none⟩ 1 1 [.int .i64 (j : Int)] rfl rfl (cell_one_new _ _ _) (by simp [Value.oneCell']) (by decide) h63.out hbs.out (by rw [sz_alloc]; exact Nat.le_trans hbr (Nat.le_succ _)) _ rfl ?_)))
      intro g3 cap3 w6 hown hgrow hat _
      have HN : Hid (w6.ownsRow w1.heap.size 3 1 (.slice (some ⟨g3, 0, none⟩) (j + 1) cap3) (j + 1) (upTo (j + 1)) ∧ Below w1.heap.size w1 w6) := Lib.hid ⟨by rw [upTo_succ]; exact hown, (HR.out.2.trans (((Below.refl _ _).alloc (Nat.le_refl _) _).mono hbr)).trans (below_grown (OWR.out.alloc _) (by rw [sz_alloc]; omega) hgrow)⟩
      clear hown hgrow hat cj
      go_wp2
      go_roundg (s - (j + 1) + 1)
      case measure => omega
      case rel => exact ⟨j + 1, by omega, by omega, by go_num, HN⟩
    · have hil : ¬ (j : Int) < (s : Int) := by omega
      obtain rfl : j = s := by omega
      obtain ⟨p, c, hv⟩ : ∃ p c, u10 = .slice p j c := by
        rcases HR.out.1.2 with ⟨hv, h0⟩ | ⟨g, cap, cur, hv, _⟩
        · exact ⟨none, 0, by rw [hv, h0]⟩
        · exact ⟨_, _, hv⟩
      subst hv
      go_wp2
      refine bodyPost_ret (v := .tuple #[.slice p j c, .int .i64 0]) (by simp [results, Tryz.results35, go_sem]) rfl ?_
      exact ⟨_, rfl, (HR.out.1.mono HX1.out.2.2.size), HX1.out.2.2.trans (HR.out.2.mono HX1.out.2.2.size)⟩
end Go.Proofs.YtjohhjdicbeojaaGreatDoor.Ud
