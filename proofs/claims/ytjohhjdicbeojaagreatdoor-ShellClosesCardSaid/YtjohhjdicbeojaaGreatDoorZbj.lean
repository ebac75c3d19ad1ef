/- Texts joined: Vk. -/
import Derived.Test.YtjohhjdicbeojaaGreatDoorZbi
namespace Go.Proofs.YtjohhjdicbeojaaGreatDoor.Vk
open Go.RowKit Go.Proofs.YtjohhjdicbeojaaGreatDoor.Ra Go.Proofs.YtjohhjdicbeojaaGreatDoor.Rj Go.Proofs.YtjohhjdicbeojaaGreatDoor.Rl Go.Proofs.YtjohhjdicbeojaaGreatDoor.Rn Go.Proofs.YtjohhjdicbeojaaGreatDoor.Ro Go.Proofs.YtjohhjdicbeojaaGreatDoor.Rq Go.Proofs.YtjohhjdicbeojaaGreatDoor.Ua Go.Proofs.YtjohhjdicbeojaaGreatDoor.Ub Go.Proofs.YtjohhjdicbeojaaGreatDoor.Va Go.Proofs.YtjohhjdicbeojaaGreatDoor.Vb Go.Proofs.YtjohhjdicbeojaaGreatDoor.Vc Go.Proofs.YtjohhjdicbeojaaGreatDoor.Vd Go.Proofs.YtjohhjdicbeojaaGreatDoor.Ve Go.Proofs.YtjohhjdicbeojaaGreatDoor.Vg Go.Proofs.YtjohhjdicbeojaaGreatDoor.Vh Go.Proofs.YtjohhjdicbeojaaGreatDoor.Vi Go.Proofs.YtjohhjdicbeojaaGreatDoor.Vj
set_option maxRecDepth 8000
theorem serve1_ok {W : World} {P PB RB A : Nat} {k v b s : Int} (hpb : W.heap[PB]? = some (.cells #[.pointer (some ⟨P, 0, none⟩)] 37 (0, 0))) (hrb : BoxAt W RB k v b s) (S : World → Prop)
    (hK : Calls Tryz.prog 74 #[.pointer (some ⟨P, 0, none⟩), .agg #[.int .i64 k, .int .i64 v, .int .i64 b, .int .i64 s, .slice none 0 0], .pointer (some ⟨A, 0, none⟩)] W fun e w' => e = .returned (.tuple #[]) ∧ S w') :
    Calls Tryz.prog 73 #[.pointer (some ⟨PB, 0, none⟩), .pointer (some ⟨RB, 0, none⟩), .pointer (some ⟨A, 0, none⟩)] W fun e w' => e = .returned (.tuple #[]) ∧ S w' := by
  have KD := Lib.hid hK
  have c0 : W.cell? ⟨PB, 0, none⟩ = some (.pointer (some ⟨P, 0, none⟩)) := blk_cell hpb 0
  obtain ⟨b0, b1, b2, b3, b4⟩ := hrb.cells
  clear hK hpb hrb
  go_enter Tryz.func73, Tryz.ntmps73
  go_wp2_with (go_at_call 74; (with_reducible refine KD.out.mono ?_); rintro e w1 ⟨rfl, hs⟩)
  refine bodyPost_end (v := .tuple #[]) (by simp [results, Tryz.results73, go_sem]) rfl ?_
  exact ⟨rfl, hs⟩
theorem serve1_bad {W : World} {P PB RB A : Nat} {k v b s : Int} (hpb : W.heap[PB]? = some (.cells #[.pointer (some ⟨P, 0, none⟩)] 37 (0, 0))) (hrb : BoxAt W RB k v b s) (S : World → Prop) (ch : List PanicEntry)
    (hK : Calls Tryz.prog 74 #[.pointer (some ⟨P, 0, none⟩), .agg #[.int .i64 k, .int .i64 v, .int .i64 b, .int .i64 s, .slice none 0 0], .pointer (some ⟨A, 0, none⟩)] W fun e w' => e = .panicked ch ∧ S w') :
    Calls Tryz.prog 73 #[.pointer (some ⟨PB, 0, none⟩), .pointer (some ⟨RB, 0, none⟩), .pointer (some ⟨A, 0, none⟩)] W fun e w' => e = .panicked ch ∧ S w' := by
  have KD := Lib.hid hK
  have c0 : W.cell? ⟨PB, 0, none⟩ = some (.pointer (some ⟨P, 0, none⟩)) := blk_cell hpb 0
  obtain ⟨b0, b1, b2, b3, b4⟩ := hrb.cells
  clear hK hpb hrb
  go_enter Tryz.func73, Tryz.ntmps73
  go_wp2_with (go_at_call 74; (with_reducible refine KD.out.mono ?_); rintro e w1 ⟨rfl, hs⟩)
  exact ⟨rfl, rfl, hs⟩
def tsOut : List TypeId := [27, 67, 142, 20]
def tsAll : List TypeId := [107, 148, 142, 20]
/-- What the rest of serve leaves. -/
def Firm (Q : World → Prop) : Prop := ∀ (C : Nat) (W W' : World), Kept tsOut C W W' → Q W → Q W'
theorem Firm.steady {Q : World → Prop} (h : Firm Q) : Steady Q := fun W E e v hE hq => h E W _ ((Kept.refl _ E _).set hE (Nat.le_refl _) (by rfl) 0 v) hq
theorem Firm.set {Q : World → Prop} (h : Firm Q) {W : World} {A : Nat} {vs : Array Value} (hA : W.heap[A]? = some (.cells vs 67 (0, 0))) (j : Nat) (v : Value) (hq : Q W) : Q (W.setCell ⟨A, j, none⟩ v) := h A W _ ((Kept.refl _ A _).set hA (Nat.le_refl _) (by rfl) j v) hq
theorem Firm.below {Q : World → Prop} (h : Firm Q) {W W' : World} (hb : Below W.heap.size W W') (hq : Q W) : Q W' := h W.heap.size W W' (Kept.of hb (Nat.le_refl _)) hq
theorem Firm.gate {Q : World → Prop} (h : Firm Q) {C : Nat} {W W' : World} (hk : Kept [142, 20] C W W') (hq : Q W) : Q W' := h C W W' (hk.mono (by rfl)) hq
theorem sizeRep : (Tryz.prog.info? 67).map (·.size) = some 5 := by kernel_rfl
theorem results_ct {P : Program} {fn : Func} {p u : Tmp} {ty : TypeId} (h : fn.results = #[.cell p ty, .tmp u]) (tmps : Array Value) (w : World) (g : Nat) (t : TypeId) (cs : Array Value) (fr : Nat × Nat) (d : TypeDesc)
    (hp : tmps.getD p undef = .pointer (some ⟨g, 0, none⟩)) (hg : w.heap[g]? = some (.cells cs t fr))
    (hu : P.underlying ty = some d) (hd : (match d with | .struct _ | .array _ _ => true | _ => false) = true) (hi : (P.info? ty).map (·.size) = some cs.size) :
    (results fn tmps).run P w = .ok (.tuple #[.agg cs, tmps.getD u undef]) w := by
  have hp' : tmps[p]?.getD undef = .pointer (some ⟨g, 0, none⟩) := by simpa using hp
  simp [results, h, hp', asAddr, run_loadVar_row w g t ty cs fr d hg hu hd hi]
/-- serve's boxes. -/
structure SvAt (W : World) (P M A : Nat) (t e i : Int) (d n : Value) : Prop where
  box : W.heap[M]? = some (.cells #[.pointer (some ⟨P, 0, none⟩)] 37 (0, 0))
  res : W.heap[M + 1]? = some (.cells #[.int .i64 0, .int .i64 0, .int .i64 0, .slice none 0 0, .slice none 0 0] 67 (0, 0))
  rep : RepAt W A t e i d n
  ne : A ≠ M + 1
theorem SvAt.kept {ts : List TypeId} {C : Nat} {W W' : World} {P M A : Nat} {t e i : Int} {d n : Value} (h : SvAt W P M A t e i d n) (hk : Kept ts C W W') (h1 : ts.contains 37 = false) (h2 : ts.contains 67 = false) : SvAt W' P M A t e i d n := ⟨hk.at h.box h1, hk.at h.res h2, h.rep.kept hk h2, h.ne⟩
theorem SvAt.set {W : World} {P M A : Nat} {t e i : Int} {d n : Value} (h : SvAt W P M A t e i d n) (t' : Int) : SvAt (W.setCell ⟨A, 0, none⟩ (.int .i64 t')) P M A t' e i d n :=
  ⟨blk_set_other h.box (fun e => by
    have e' : M = A := e
    have hb := h.box
    rw [e', h.rep.blk] at hb
    injection hb with hh
    injection hh with _ hh _
    exact absurd hh (by decide)) _, blk_set_other h.res (fun e => h.ne e.symm) _, ⟨blk_set h.rep.blk 0 _⟩, h.ne⟩
theorem SvAt.cells {W : World} {P M A : Nat} {t e i : Int} {d n : Value} (h : SvAt W P M A t e i d n) : W.cell? ⟨M, 0, none⟩ = some (.pointer (some ⟨P, 0, none⟩)) ∧ W.cell? ⟨A, 0, none⟩ = some (.int .i64 t) ∧ W.frozen? ⟨A, 0, none⟩ = false := ⟨blk_cell h.box 0, blk_cell h.rep.blk 0, blk_free h.rep.blk 0⟩
abbrev waitV (k v b s t : Int) : Value := .iface 161 (.agg #[.int .i64 k, .int .i64 v, .int .i64 b, .int .i64 s, .slice none 0 0, .int .i64 t])
theorem KD.new {A B : Nat} {w w' : World} (h : KD A B w w') (hA : w.heap.size ≤ A) : Kept tsAll B w w' :=
  ⟨h.k.below, fun k o hk hn => by
    cases o with
    | cells vs t fz =>
      by_cases ht : t = 67
      · subst ht
        exact h.rest k vs fz (fun e => by have := lt_of_block hk; omega) hk
      · refine h.k.kept k _ hk ?_
        have h1 : tsAll.contains t = false := hn
        show tsDo.contains t = false
        unfold tsAll at h1
        unfold tsDo
        simp at h1 ⊢
        exact ⟨h1.1, h1.2.1, ht⟩
    | _ => exact h.k.kept k _ hk rfl⟩
theorem GateAt.out {B : Nat} {w w' : World} {A : Nat} {G : Nat} {t : Int} {l : List Value} {p : Option Addr} {c : Nat} (h : GateAt B w G t l p c) (hk : KD A B w w') : GateAt B w' G t l p c := h.kept hk.k (by rfl) (by rfl)
theorem gate5 {B : Nat} {W : World} {G X : Nat} {t : Int} {l : List Value} {p : Option Addr} {c : Nat} (h : GateAt B W G t l p c) {vs : Array Value} (hX : W.heap[X]? = some (.cells vs 67 (0, 0))) (hB : B ≤ X) (x0 x1 x2 x3 x4 : Value) :
    GateAt B (((((W.setCell ⟨X, 0, none⟩ x0).setCell ⟨X, 1, none⟩ x1).setCell ⟨X, 2, none⟩ x2).setCell ⟨X, 3, none⟩ x3).setCell ⟨X, 4, none⟩ x4) G t l p c := by
  have k0 := (Kept.refl [67] B W).set hX hB (by rfl) 0 x0
  have k1 := k0.set (blk_set hX 0 x0) hB (by rfl) 1 x1
  have k2 := k1.set (blk_set (blk_set hX 0 x0) 1 x1) hB (by rfl) 2 x2
  have k3 := k2.set (blk_set (blk_set (blk_set hX 0 x0) 1 x1) 2 x2) hB (by rfl) 3 x3
  have k4 := k3.set (blk_set (blk_set (blk_set (blk_set hX 0 x0) 1 x1) 2 x2) 3 x3) hB (by rfl) 4 x4
  exact h.kept k4 (by rfl) (by rfl)
theorem kept5 {ts : List TypeId} {B : Nat} {a W : World} (h : Kept ts B a W) {X : Nat} (hX : a.heap.size ≤ X) (hB : B ≤ X) (x0 x1 x2 x3 x4 : Value) :
    Kept ts B a (((((W.setCell ⟨X, 0, none⟩ x0).setCell ⟨X, 1, none⟩ x1).setCell ⟨X, 2, none⟩ x2).setCell ⟨X, 3, none⟩ x3).setCell ⟨X, 4, none⟩ x4) :=
  Kept.setNew (Kept.setNew (Kept.setNew (Kept.setNew (Kept.setNew h hX hB 0 x0) hX hB 1 x1) hX hB 2 x2) hX hB 3 x3) hX hB 4 x4
set_option maxHeartbeats 8000000 in
theorem serve_ok {B : Nat} {w : World} {P G R : Nat} {x : PoolV} {t : Int} {p : Option Addr} {c : Nat} (k v b s tk id : Int) (h : PoolAt B w P G R x) (hg : GateAt B w G t [waitV k v b s tk] p c)
    (Q : Value → Value → World → Prop) (hQ : ∀ d n, Firm (Q d n)) (hQP : ∀ d n W, Q d n W → (∃ x', PoolAt B W P G R x') ∧ (∃ p m c, d = .slice p m c) ∧ ∃ p m c, n = .slice p m c)
    (hD : ∀ W A, Below w.heap.size w W → RepAt W A 0 0 0 (.slice none 0 0) (.slice none 0 0) → B ≤ A → Calls Tryz.prog 74 #[.pointer (some ⟨P, 0, none⟩), .agg #[.int .i64 k, .int .i64 v, .int .i64 b, .int .i64 s, .slice none 0 0], .pointer (some ⟨A, 0, none⟩)] W fun e w' => e = .returned (.tuple #[]) ∧ (∃ d n, RepAt w' A 0 0 id d n ∧ Q d n w') ∧ KD A B W w') :
    Calls Tryz.prog 43 #[.pointer (some ⟨P, 0, none⟩)] w fun e w' => ∃ d n, (e = .returned (.tuple #[.agg #[.int .i64 tk, .int .i64 0, .int .i64 id, d, n], .bool true])) ∧ Q d n w' ∧ (∃ p' c', GateAt B w' G t [] p' c') ∧ Kept tsAll B w w' := by
  have hmf : ∀ (fn : Fn) (first cap : Array Value) (w : World), (Instr.makeFunc fn first cap).run Tryz.prog w = .ok (.func fn first cap) w := fun _ _ _ _ => rfl
  have KF := Lib.hid (fun (W : World) (hh : GateAt B W G t [waitV k v b s tk] p c) => first_c hh)
  have KO := Lib.hid (fun (W : World) (hh : GateAt B W G t [waitV k v b s tk] p c) => done_c hh)
  have hbox := blk_old (blk_new w #[.pointer (some ⟨P, 0, none⟩)] 37) (.cells #[.int .i64 0, .int .i64 0, .int .i64 0, .slice none 0 0, .slice none 0 0] 67)
  have hres := blk_new (w.alloc (.cells #[.pointer (some ⟨P, 0, none⟩)] 37)) #[.int .i64 0, .int .i64 0, .int .i64 0, .slice none 0 0, .slice none 0 0] 67
  rw [sz_alloc] at hres
  have hbb : Below w.heap.size w ((w.alloc (.cells #[.pointer (some ⟨P, 0, none⟩)] 37)).alloc (.cells #[.int .i64 0, .int .i64 0, .int .i64 0, .slice none 0 0, .slice none 0 0] 67)) := ((Below.refl _ _).alloc (Nat.le_refl _) _).alloc (by rw [sz_alloc]; exact Nat.le_succ _) _
  have HBX := Lib.hid hbox
  have HRS := Lib.hid hres
  have HL0 := Lib.hid hbb
  have HP0 := Lib.hid (h.below hbb)
  have HG0 := Lib.hid (hg.below hbb)
  have HBw := Lib.hid h.size
  have KD' := Lib.hid hD
  have HQ := Lib.hid hQ
  have HQP := Lib.hid hQP
  clear h hg hD hQ hQP hbox hres hbb
  go_enter Tryz.func43, Tryz.ntmps43
  go_upto_region 1 with fail
  generalize ((w.alloc (.cells #[.pointer (some ⟨P, 0, none⟩)] 37)).alloc (.cells #[.int .i64 0, .int .i64 0, .int .i64 0, .slice none 0 0, .slice none 0 0] 67)) = w0 at *
  have c0 : w0.cell? ⟨w.heap.size, 0, none⟩ = some (.pointer (some ⟨P, 0, none⟩)) := blk_cell HBX.out 0
  have p0 : w0.cell? ⟨P, 0, none⟩ = some (.pointer (some ⟨G, 0, none⟩)) := blk_cell HP0.out.blk 0
  go_upto_region 5 with (go_at_call 72; (with_reducible refine (KF.out _ HG0.out).mono ?_); rintro e w1 ⟨rfl, hb1⟩; have HL1 := Lib.hid (HL0.out.trans (hb1.mono HL0.out.size)); have HBX1 := Lib.hid (blk_below HBX.out hb1 (lt_of_block HBX.out)); have HRS1 := Lib.hid (blk_below HRS.out hb1 (lt_of_block HRS.out)); have HP1 := Lib.hid (HP0.out.below hb1); have HG1 := Lib.hid (HG0.out.below hb1); clear hb1)
  have hreq := blk_old (blk_new w1 #[.int .i64 k, .int .i64 v, .int .i64 b, .int .i64 s, .slice none 0 0] 24) (.cells #[.int .i64 0, .int .i64 0, .int .i64 0, .slice none 0 0, .slice none 0 0] 67)
  have hrep := blk_new (w1.alloc (.cells #[.int .i64 k, .int .i64 v, .int .i64 b, .int .i64 s, .slice none 0 0] 24)) #[.int .i64 0, .int .i64 0, .int .i64 0, .slice none 0 0, .slice none 0 0] 67
  rw [sz_alloc] at hrep
  have hb2 : Below w1.heap.size w1 ((w1.alloc (.cells #[.int .i64 k, .int .i64 v, .int .i64 b, .int .i64 s, .slice none 0 0] 24)).alloc (.cells #[.int .i64 0, .int .i64 0, .int .i64 0, .slice none 0 0, .slice none 0 0] 67)) := ((Below.refl _ _).alloc (Nat.le_refl _) _).alloc (by rw [sz_alloc]; exact Nat.le_succ _) _
  have HREQ := Lib.hid (BoxAt.mk hreq)
  have HREP := Lib.hid (RepAt.mk hrep)
  have HL2 := Lib.hid (HL1.out.trans (hb2.mono HL1.out.size))
  have HBX2 := Lib.hid (blk_below HBX1.out hb2 (lt_of_block HBX1.out))
  have HRS2 := Lib.hid (blk_below HRS1.out hb2 (lt_of_block HRS1.out))
  have HP2 := Lib.hid (HP1.out.below hb2)
  have HG2 := Lib.hid (HG1.out.below hb2)
  have hAM : w1.heap.size + 1 ≠ w.heap.size + 1 := by have := lt_of_block HRS1.out; omega
  have hA0 : w.heap.size ≤ w1.heap.size + 1 := by have := lt_of_block HRS1.out; omega
  have HAM := Lib.hid hAM
  have HA0 := Lib.hid hA0
  clear hreq hrep hb2 hAM hA0 c0 p0
  generalize ((w1.alloc (.cells #[.int .i64 k, .int .i64 v, .int .i64 b, .int .i64 s, .slice none 0 0] 24)).alloc (.cells #[.int .i64 0, .int .i64 0, .int .i64 0, .slice none 0 0, .slice none 0 0] 67)) = w2 at *
  generalize w1.heap.size + 1 = A at *
  generalize w1.heap.size = RB at *
  have KT := Lib.hid (try_ok HP2.out A #[.pointer (some ⟨w.heap.size, 0, none⟩), .pointer (some ⟨RB, 0, none⟩), .pointer (some ⟨A, 0, none⟩)] (fun W => ∃ d n, RepAt W A 0 0 id d n ∧ Q d n W)
    (fun W E e u hE hq => by
      obtain ⟨d, n, h1, h2⟩ := hq
      exact ⟨d, n, h1.kept (ts := [27]) ((Kept.refl _ E _).set hE (Nat.le_refl _) (by rfl) 0 u) (by rfl), (HQ.out d n).steady W E e u hE h2⟩)
    (fun W hb => serve1_ok (blk_below HBX2.out hb (lt_of_block HBX2.out)) (HREQ.out.below hb) (fun w' => (∃ d n, RepAt w' A 0 0 id d n ∧ Q d n w') ∧ KD A B W w') (KD'.out W A (HL2.out.trans (hb.mono HL2.out.size)) (HREP.out.below hb) (Nat.le_trans HBw.out HA0.out))))
  have c2 : w2.cell? ⟨w.heap.size, 0, none⟩ = some (.pointer (some ⟨P, 0, none⟩)) := blk_cell HBX2.out 0
  go_upto_region 8 with (go_at_call 44; go_loud (refine KT.out.mono ?_); go_loud (rintro e w3 ⟨rfl, ⟨d, n, hr3, hq3⟩, hk3⟩); go_loud ( have HS3 : Hid (SvAt w3 P w.heap.size A 0 0 id d n) := Lib.hid ⟨hk3.k.at HBX2.out (by rfl), hk3.rest _ _ _ HAM.out.symm HRS2.out, hr3, HAM.out⟩; have HQ3 := Lib.hid hq3; have HG3 := Lib.hid (GateAt.out HG2.out hk3); have HK3 : Hid (Kept tsAll B w w3) := Lib.hid (KD.new ((KD.of HL2.out HBw.out).trans hk3) HA0.out); clear hr3 hq3 hk3))
  obtain ⟨e0, e1, e2⟩ := HS3.out.cells
  go_upto_region 9 with fail
  have HS4 := Lib.hid (HS3.out.set tk)
  have HQ4 := Lib.hid ((HQ.out d n).set HS3.out.rep.blk 0 (.int .i64 tk) HQ3.out)
  have HG4 : Hid (GateAt B (w3.setCell ⟨A, 0, none⟩ (.int .i64 tk)) G t [waitV k v b s tk] p c) := Lib.hid (HG3.out.kept ((Kept.refl [67] B w3).set HS3.out.rep.blk (Nat.le_trans HBw.out HA0.out) (by rfl) 0 _) (by rfl) (by rfl))
  have HK4 := Lib.hid (Kept.setNew HK3.out HA0.out (Nat.le_trans HBw.out HA0.out) 0 (.int .i64 tk))
  clear e0 e1 e2
  generalize (w3.setCell ⟨A, 0, none⟩ (.int .i64 tk)) = w4 at *
  obtain ⟨e0, e1, e2⟩ := HS4.out.cells
  obtain ⟨⟨x', hx'⟩, ⟨d1, d2, d3, rfl⟩, n1, n2, n3, rfl⟩ := HQP.out d n w4 HQ4.out
  have p4 : w4.cell? ⟨P, 0, none⟩ = some (.pointer (some ⟨G, 0, none⟩)) := blk_cell hx'.blk 0
  clear hx'
  go_wp2_with (go_at_call 42; (with_reducible refine (KO.out _ HG4.out).mono ?_); rintro e w5 ⟨rfl, hg5, hk5⟩; have HS5 := Lib.hid (HS4.out.kept hk5 (by rfl) (by rfl)); have HQ5 := Lib.hid ((HQ.out _ _).gate hk5 HQ4.out); have HG5 := Lib.hid hg5; have HK5 : Hid (Kept tsAll B w w5) := Lib.hid (HK4.out.trans (hk5.mono (by rfl))); clear hg5 hk5; have a0 := blk_cell HS5.out.rep.blk 0; have a1 := blk_cell HS5.out.rep.blk 1; have a2 := blk_cell HS5.out.rep.blk 2; have a3 := blk_cell HS5.out.rep.blk 3; have a4 := blk_cell HS5.out.rep.blk 4; have s0 := blk_cell HS5.out.res 0; have s1 := blk_cell HS5.out.res 1; have s2 := blk_cell HS5.out.res 2; have s3 := blk_cell HS5.out.res 3; have s4 := blk_cell HS5.out.res 4; have t0 := blk_free HS5.out.res 0; have t1 := blk_free HS5.out.res 1; have t2 := blk_free HS5.out.res 2; have t3 := blk_free HS5.out.res 3; have t4 := blk_free HS5.out.res 4)
  refine bodyPost_ret (results_ct rfl _ _ (w.heap.size + 1) _ #[.int .i64 tk, .int .i64 0, .int .i64 id, .slice d1 d2 d3, .slice n1 n2 n3] _ _ rfl (five HS5.out.res _ _ _ _ _) Tryz.underlying67 rfl sizeRep) rfl ?_
  refine ⟨_, _, rfl, ?_, ?_, ?_⟩
  · exact (HQ.out _ _).set (blk_set (blk_set (blk_set (blk_set HS5.out.res 0 _) 1 _) 2 _) 3 _) 4 _ ((HQ.out _ _).set (blk_set (blk_set (blk_set HS5.out.res 0 _) 1 _) 2 _) 3 _ ((HQ.out _ _).set (blk_set (blk_set HS5.out.res 0 _) 1 _) 2 _ ((HQ.out _ _).set (blk_set HS5.out.res 0 _) 1 _ ((HQ.out _ _).set HS5.out.res 0 _ HQ5.out))))
  · obtain ⟨p', c', hg⟩ := HG5.out
    exact ⟨p', c', gate5 hg HS5.out.res (Nat.le_succ_of_le HBw.out) _ _ _ _ _⟩
  · exact kept5 HK5.out (Nat.le_succ _) (Nat.le_succ_of_le HBw.out) _ _ _ _ _
theorem pool5 {B : Nat} {W : World} {P G R X : Nat} {x : PoolV} (h : PoolAt B W P G R x) {vs : Array Value} (hX : W.heap[X]? = some (.cells vs 67 (0, 0))) (x0 x1 x2 x3 x4 : Value) :
    PoolAt B (((((W.setCell ⟨X, 0, none⟩ x0).setCell ⟨X, 1, none⟩ x1).setCell ⟨X, 2, none⟩ x2).setCell ⟨X, 3, none⟩ x3).setCell ⟨X, 4, none⟩ x4) P G R x :=
  pool_set (pool_set (pool_set (pool_set (pool_set h hX 0 x0) (blk_set hX 0 x0) 1 x1) (blk_set (blk_set hX 0 x0) 1 x1) 2 x2) (blk_set (blk_set (blk_set hX 0 x0) 1 x1) 2 x2) 3 x3) (blk_set (blk_set (blk_set (blk_set hX 0 x0) 1 x1) 2 x2) 3 x3) 4 x4
theorem sv5 {W : World} {P M A : Nat} {t e i : Int} {d n : Value} (h : SvAt W P M A t e i d n) (t' e' i' : Int) (d' n' : Value) :
    SvAt (((((W.setCell ⟨A, 0, none⟩ (.int .i64 t')).setCell ⟨A, 1, none⟩ (.int .i64 e')).setCell ⟨A, 2, none⟩ (.int .i64 i')).setCell ⟨A, 3, none⟩ d').setCell ⟨A, 4, none⟩ n') P M A t' e' i' d' n' := by
  have hM : M ≠ A := fun ee => by
    have hb := h.box
    rw [ee, h.rep.blk] at hb
    injection hb with hh
    injection hh with _ hh _
    exact absurd hh (by decide)
  exact ⟨blk_set_other (blk_set_other (blk_set_other (blk_set_other (blk_set_other h.box hM _) hM _) hM _) hM _) hM _, blk_set_other (blk_set_other (blk_set_other (blk_set_other (blk_set_other h.res h.ne.symm _) h.ne.symm _) h.ne.symm _) h.ne.symm _) h.ne.symm _, ⟨five h.rep.blk _ _ _ _ _⟩, h.ne⟩
def tsBad : List TypeId := [107, 142, 20]
set_option maxHeartbeats 8000000 in
theorem serve_bad {B : Nat} {w : World} {P G R : Nat} {x : PoolV} {t : Int} {p : Option Addr} {c : Nat} (k v b s tk er : Int) (he0 : er ≠ 0) (he10 : er ≠ 10) (he12 : er ≠ 12) (h : PoolAt B w P G R x) (hg : GateAt B w G t [waitV k v b s tk] p c)
    (hD : ∀ W A, Below w.heap.size w W → RepAt W A 0 0 0 (.slice none 0 0) (.slice none 0 0) → B ≤ A → Calls Tryz.prog 74 #[.pointer (some ⟨P, 0, none⟩), .agg #[.int .i64 k, .int .i64 v, .int .i64 b, .int .i64 s, .slice none 0 0], .pointer (some ⟨A, 0, none⟩)] W fun e w' => e = .panicked [{ v := .iface 167 (.agg #[.int .i64 er]), recovered := false }] ∧ Below W.heap.size W w') :
    Calls Tryz.prog 43 #[.pointer (some ⟨P, 0, none⟩)] w fun e w' => (e = .returned (.tuple #[.agg #[.int .i64 tk, .int .i64 er, .int .i64 0, .slice none 0 0, .slice none 0 0], .bool true])) ∧ PoolAt B w' P G R x ∧ (∃ p' c', GateAt B w' G t [] p' c') ∧ Kept tsBad B w w' := by
  have hmf : ∀ (fn : Fn) (first cap : Array Value) (w : World), (Instr.makeFunc fn first cap).run Tryz.prog w = .ok (.func fn first cap) w := fun _ _ _ _ => rfl
  have KF := Lib.hid (fun (W : World) (hh : GateAt B W G t [waitV k v b s tk] p c) => first_c hh)
  have KO := Lib.hid (fun (W : World) (hh : GateAt B W G t [waitV k v b s tk] p c) => done_c hh)
  have hbox := blk_old (blk_new w #[.pointer (some ⟨P, 0, none⟩)] 37) (.cells #[.int .i64 0, .int .i64 0, .int .i64 0, .slice none 0 0, .slice none 0 0] 67)
  have hres := blk_new (w.alloc (.cells #[.pointer (some ⟨P, 0, none⟩)] 37)) #[.int .i64 0, .int .i64 0, .int .i64 0, .slice none 0 0, .slice none 0 0] 67
  rw [sz_alloc] at hres
  have hbb : Below w.heap.size w ((w.alloc (.cells #[.pointer (some ⟨P, 0, none⟩)] 37)).alloc (.cells #[.int .i64 0, .int .i64 0, .int .i64 0, .slice none 0 0, .slice none 0 0] 67)) := ((Below.refl _ _).alloc (Nat.le_refl _) _).alloc (by rw [sz_alloc]; exact Nat.le_succ _) _
  have HBX := Lib.hid hbox
  have HRS := Lib.hid hres
  have HL0 := Lib.hid hbb
  have HP0 := Lib.hid (h.below hbb)
  have HG0 := Lib.hid (hg.below hbb)
  have HBw := Lib.hid h.size
  have KD' := Lib.hid hD
  have hz : (er == 0) = false := by simpa using he0
  clear h hg hD hbox hres hbb
  go_enter Tryz.func43, Tryz.ntmps43
  go_upto_region 1 with fail
  generalize ((w.alloc (.cells #[.pointer (some ⟨P, 0, none⟩)] 37)).alloc (.cells #[.int .i64 0, .int .i64 0, .int .i64 0, .slice none 0 0, .slice none 0 0] 67)) = w0 at *
  have c0 : w0.cell? ⟨w.heap.size, 0, none⟩ = some (.pointer (some ⟨P, 0, none⟩)) := blk_cell HBX.out 0
  have p0 : w0.cell? ⟨P, 0, none⟩ = some (.pointer (some ⟨G, 0, none⟩)) := blk_cell HP0.out.blk 0
  go_upto_region 5 with (go_at_call 72; (with_reducible refine (KF.out _ HG0.out).mono ?_); rintro e w1 ⟨rfl, hb1⟩; have HL1 := Lib.hid (HL0.out.trans (hb1.mono HL0.out.size)); have HBX1 := Lib.hid (blk_below HBX.out hb1 (lt_of_block HBX.out)); have HRS1 := Lib.hid (blk_below HRS.out hb1 (lt_of_block HRS.out)); have HP1 := Lib.hid (HP0.out.below hb1); have HG1 := Lib.hid (HG0.out.below hb1); clear hb1)
  have hreq := blk_old (blk_new w1 #[.int .i64 k, .int .i64 v, .int .i64 b, .int .i64 s, .slice none 0 0] 24) (.cells #[.int .i64 0, .int .i64 0, .int .i64 0, .slice none 0 0, .slice none 0 0] 67)
  have hrep := blk_new (w1.alloc (.cells #[.int .i64 k, .int .i64 v, .int .i64 b, .int .i64 s, .slice none 0 0] 24)) #[.int .i64 0, .int .i64 0, .int .i64 0, .slice none 0 0, .slice none 0 0] 67
  rw [sz_alloc] at hrep
  have hb2 : Below w1.heap.size w1 ((w1.alloc (.cells #[.int .i64 k, .int .i64 v, .int .i64 b, .int .i64 s, .slice none 0 0] 24)).alloc (.cells #[.int .i64 0, .int .i64 0, .int .i64 0, .slice none 0 0, .slice none 0 0] 67)) := ((Below.refl _ _).alloc (Nat.le_refl _) _).alloc (by rw [sz_alloc]; exact Nat.le_succ _) _
  have HREQ := Lib.hid (BoxAt.mk hreq)
  have HREP := Lib.hid (RepAt.mk hrep)
  have HL2 := Lib.hid (HL1.out.trans (hb2.mono HL1.out.size))
  have HBX2 := Lib.hid (blk_below HBX1.out hb2 (lt_of_block HBX1.out))
  have HRS2 := Lib.hid (blk_below HRS1.out hb2 (lt_of_block HRS1.out))
  have HP2 := Lib.hid (HP1.out.below hb2)
  have HG2 := Lib.hid (HG1.out.below hb2)
  have hAM : w1.heap.size + 1 ≠ w.heap.size + 1 := by have := lt_of_block HRS1.out; omega
  have hA0 : w.heap.size ≤ w1.heap.size + 1 := by have := lt_of_block HRS1.out; omega
  have HAM := Lib.hid hAM
  have HA0 := Lib.hid hA0
  clear hreq hrep hb2 hAM hA0 c0 p0
  generalize ((w1.alloc (.cells #[.int .i64 k, .int .i64 v, .int .i64 b, .int .i64 s, .slice none 0 0] 24)).alloc (.cells #[.int .i64 0, .int .i64 0, .int .i64 0, .slice none 0 0, .slice none 0 0] 67)) = w2 at *
  generalize w1.heap.size + 1 = A at *
  generalize w1.heap.size = RB at *
  have KT := Lib.hid (try_bad HP2.out #[.pointer (some ⟨w.heap.size, 0, none⟩), .pointer (some ⟨RB, 0, none⟩), .pointer (some ⟨A, 0, none⟩)] er he10
    (fun W hb => serve1_bad (blk_below HBX2.out hb (lt_of_block HBX2.out)) (HREQ.out.below hb) (fun w' => Below W.heap.size W w') _ (KD'.out W A (HL2.out.trans (hb.mono HL2.out.size)) (HREP.out.below hb) (Nat.le_trans HBw.out HA0.out))))
  have c2 : w2.cell? ⟨w.heap.size, 0, none⟩ = some (.pointer (some ⟨P, 0, none⟩)) := blk_cell HBX2.out 0
  go_upto_region 7 with (go_at_call 44; (with_reducible refine KT.out.mono ?_); rintro e w3 ⟨rfl, hp3, hk3⟩; have HS3 : Hid (SvAt w3 P w.heap.size A 0 0 0 (.slice none 0 0) (.slice none 0 0)) := Lib.hid ⟨hk3.at HBX2.out (by rfl), hk3.at HRS2.out (by rfl), HREP.out.kept hk3 (by rfl), HAM.out⟩; have HG3 := Lib.hid (HG2.out.kept hk3 (by rfl) (by rfl)); have HP3 := Lib.hid hp3; have HK3 : Hid (Kept tsBad B w w3) := Lib.hid ((Kept.of HL2.out HBw.out).trans (hk3.mono (by rfl))); clear hp3 hk3)
  have a0 := blk_cell HS3.out.rep.blk 0
  have a1 := blk_cell HS3.out.rep.blk 1
  have a2 := blk_cell HS3.out.rep.blk 2
  have a3 := blk_cell HS3.out.rep.blk 3
  have a4 := blk_cell HS3.out.rep.blk 4
  have t0 := blk_free HS3.out.rep.blk 0
  have t1 := blk_free HS3.out.rep.blk 1
  have t2 := blk_free HS3.out.rep.blk 2
  have t3 := blk_free HS3.out.rep.blk 3
  have t4 := blk_free HS3.out.rep.blk 4
  go_upto_region 8 with fail
  have HS3' := Lib.hid (sv5 HS3.out 0 er 0 (.slice none 0 0) (.slice none 0 0))
  have HG3' := Lib.hid (gate5 HG3.out HS3.out.rep.blk (Nat.le_trans HBw.out HA0.out) (.int .i64 0) (.int .i64 er) (.int .i64 0) (.slice none 0 0) (.slice none 0 0))
  have HP3' := Lib.hid (pool5 HP3.out HS3.out.rep.blk (.int .i64 0) (.int .i64 er) (.int .i64 0) (.slice none 0 0) (.slice none 0 0))
  have HK3' := Lib.hid (kept5 HK3.out HA0.out (Nat.le_trans HBw.out HA0.out) (.int .i64 0) (.int .i64 er) (.int .i64 0) (.slice none 0 0) (.slice none 0 0))
  clear a0 a1 a2 a3 a4 t0 t1 t2 t3 t4 HS3 HG3 HP3 HK3
  generalize (((((w3.setCell ⟨A, 0, none⟩ (.int .i64 0)).setCell ⟨A, 1, none⟩ (.int .i64 er)).setCell ⟨A, 2, none⟩ (.int .i64 0)).setCell ⟨A, 3, none⟩ (.slice none 0 0)).setCell ⟨A, 4, none⟩ (.slice none 0 0)) = w3' at *
  obtain ⟨e0, e1, e2⟩ := HS3'.out.cells
  go_upto_region 9 with fail
  have HS4 := Lib.hid (HS3'.out.set tk)
  have HG4 : Hid (GateAt B (w3'.setCell ⟨A, 0, none⟩ (.int .i64 tk)) G t [waitV k v b s tk] p c) := Lib.hid (HG3'.out.kept ((Kept.refl [67] B w3').set HS3'.out.rep.blk (Nat.le_trans HBw.out HA0.out) (by rfl) 0 _) (by rfl) (by rfl))
  have HP4 := Lib.hid (pool_set HP3'.out HS3'.out.rep.blk 0 (.int .i64 tk))
  have HK4 := Lib.hid (Kept.setNew HK3'.out HA0.out (Nat.le_trans HBw.out HA0.out) 0 (.int .i64 tk))
  clear e0 e1 e2
  generalize (w3'.setCell ⟨A, 0, none⟩ (.int .i64 tk)) = w4 at *
  obtain ⟨e0, e1, e2⟩ := HS4.out.cells
  have p4 : w4.cell? ⟨P, 0, none⟩ = some (.pointer (some ⟨G, 0, none⟩)) := blk_cell HP4.out.blk 0
  go_wp2_with (go_at_call 42; (with_reducible refine (KO.out _ HG4.out).mono ?_); rintro e w5 ⟨rfl, hg5, hk5⟩; have HS5 := Lib.hid (HS4.out.kept hk5 (by rfl) (by rfl)); have HP5 := Lib.hid (HP4.out.kept hk5 (by rfl)); have HG5 := Lib.hid hg5; have HK5 : Hid (Kept tsBad B w w5) := Lib.hid (HK4.out.trans (hk5.mono (by rfl))); clear hg5 hk5; have a0 := blk_cell HS5.out.rep.blk 0; have a1 := blk_cell HS5.out.rep.blk 1; have a2 := blk_cell HS5.out.rep.blk 2; have a3 := blk_cell HS5.out.rep.blk 3; have a4 := blk_cell HS5.out.rep.blk 4; have s0 := blk_cell HS5.out.res 0; have s1 := blk_cell HS5.out.res 1; have s2 := blk_cell HS5.out.res 2; have s3 := blk_cell HS5.out.res 3; have s4 := blk_cell HS5.out.res 4; have t0 := blk_free HS5.out.res 0; have t1 := blk_free HS5.out.res 1; have t2 := blk_free HS5.out.res 2; have t3 := blk_free HS5.out.res 3; have t4 := blk_free HS5.out.res 4)
  refine bodyPost_ret (results_ct rfl _ _ (w.heap.size + 1) _ #[.int .i64 tk, .int .i64 er, .int .i64 0, .slice none 0 0, .slice none 0 0] _ _ rfl (five HS5.out.res _ _ _ _ _) Tryz.underlying67 rfl sizeRep) rfl ?_
  refine ⟨rfl, pool5 HP5.out HS5.out.res _ _ _ _ _, ?_, kept5 HK5.out (Nat.le_succ _) (Nat.le_succ_of_le HBw.out) _ _ _ _ _⟩
  obtain ⟨p', c', hg⟩ := HG5.out
  exact ⟨p', c', gate5 hg HS5.out.res (Nat.le_succ_of_le HBw.out) _ _ _ _ _⟩
end Go.Proofs.YtjohhjdicbeojaaGreatDoor.Vk
