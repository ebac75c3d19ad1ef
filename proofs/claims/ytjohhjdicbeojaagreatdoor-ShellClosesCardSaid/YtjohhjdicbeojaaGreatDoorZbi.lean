/- Texts joined: Vj. -/
import Derived.Recover
import Derived.Laws.Pointers
import Derived.Test.YtjohhjdicbeojaaGreatDoorZbg
namespace Go.Proofs.YtjohhjdicbeojaaGreatDoor.Vj
open Go.RowKit Go.Proofs.YtjohhjdicbeojaaGreatDoor.Ra Go.Proofs.YtjohhjdicbeojaaGreatDoor.Rj Go.Proofs.YtjohhjdicbeojaaGreatDoor.Rl Go.Proofs.YtjohhjdicbeojaaGreatDoor.Rn Go.Proofs.YtjohhjdicbeojaaGreatDoor.Ro Go.Proofs.YtjohhjdicbeojaaGreatDoor.Rq Go.Proofs.YtjohhjdicbeojaaGreatDoor.Ua Go.Proofs.YtjohhjdicbeojaaGreatDoor.Ub Go.Proofs.YtjohhjdicbeojaaGreatDoor.Va Go.Proofs.YtjohhjdicbeojaaGreatDoor.Vb Go.Proofs.YtjohhjdicbeojaaGreatDoor.Vc Go.Proofs.YtjohhjdicbeojaaGreatDoor.Vd Go.Proofs.YtjohhjdicbeojaaGreatDoor.Ve Go.Proofs.YtjohhjdicbeojaaGreatDoor.Vg Go.Proofs.YtjohhjdicbeojaaGreatDoor.Vh Go.Proofs.YtjohhjdicbeojaaGreatDoor.Vi
set_option maxRecDepth 8000
theorem neq_iface (t : TypeId) (v : Value) (w : World) : (binOp .neq 20 (.iface t v) .nilIface).run Tryz.prog w = .ok (.bool true) w := by kernel_rfl
theorem neq_nil (w : World) : (binOp .neq 20 .nilIface .nilIface).run Tryz.prog w = .ok (.bool false) w := by kernel_rfl
theorem as_failed (v : Value) (w : World) : (Instr.typeAssert (.iface 167 v) 20 167 false).run Tryz.prog w = .ok v w := by kernel_rfl
theorem field_failed (n : Int) (w : World) : (Instr.field 167 (.agg #[.int .i64 n]) 0).run Tryz.prog w = .ok (.int .i64 n) w := by kernel_rfl
theorem catch_idle (E PB : Nat) (w : World) :
    CallsD Tryz.prog 75 #[.pointer (some ⟨E, 0, none⟩), .pointer (some ⟨PB, 0, none⟩)] .returning w fun e u' w' => e = .returned (.tuple #[]) ∧ u' = .returning ∧ w' = w := by
  have hn := neq_nil
  refine callsD_of_wpS Tryz.func75 rfl fun c₀ cs hu => ?_
  apply wpS_seq
  apply wpS_region
  simp [wpOpsS, go_sem, recoverD, hu, Tryz.ntmps75, Exit.thenS]
  refine wpS_of_wp ?_
  go_wp2
  refine ⟨rfl, .returning, ?_, .tuple #[], by simp [results, Tryz.results75, go_sem], rfl, rfl, rfl⟩
  cases c₀
  simp_all
theorem catch_panicking {B : Nat} {w : World} {P G R : Nat} {x : PoolV} (h : PoolAt B w P G R x) (n : Int) (hn : n ≠ 10) (E PB : Nat) (old : Value) (hE : w.heap[E]? = some (.cells #[old] 27 (0, 0))) (hPB : w.heap[PB]? = some (.cells #[.pointer (some ⟨P, 0, none⟩)] 37 (0, 0))) (older : List PanicEntry) :
    CallsD Tryz.prog 75 #[.pointer (some ⟨E, 0, none⟩), .pointer (some ⟨PB, 0, none⟩)] (.panicking ({ v := .iface 167 (.agg #[.int .i64 n]), recovered := false } :: older)) w fun e u' w' =>
      e = .returned (.tuple #[]) ∧ u' = .panicking ({ v := .iface 167 (.agg #[.int .i64 n]), recovered := true } :: older) ∧ w' = (w.setCell ⟨E, 0, none⟩ (.int .i64 n)).setCell ⟨P, 12, none⟩ (.bool false) := by
  have h1 := neq_iface
  have h2 := as_failed
  have h3 := field_failed
  have c0 : w.cell? ⟨E, 0, none⟩ = some old := blk_cell hE 0
  have f0 := blk_free hE 0
  have c1 : w.cell? ⟨PB, 0, none⟩ = some (.pointer (some ⟨P, 0, none⟩)) := blk_cell hPB 0
  have hne1 : E ≠ PB := fun e => by
    subst e
    rw [hE] at hPB
    injection hPB with hh
    injection hh with _ hh _
    exact absurd hh (by decide)
  have hne2 : E ≠ P := fun e => by
    subst e
    have hb := h.blk
    rw [hE] at hb
    injection hb with hh
    injection hh with _ hh _
    exact absurd hh (by decide)
  have hne3 := hne1.symm
  have hne4 := hne2.symm
  have hn10 : (n == 10) = false := by simpa using hn
  have c12 : w.cell? ⟨P, 12, none⟩ = some (.bool false) := blk_cell h.blk 12
  have f12 := blk_free h.blk 12
  refine callsD_of_wpS Tryz.func75 rfl fun c₀ cs hu => ?_
  apply wpS_seq
  apply wpS_region
  simp [wpOpsS, go_sem, recoverD, hu, Tryz.ntmps75, Exit.thenS]
  refine wpS_of_wp ?_
  go_wp2
  exact ⟨rfl, _, rfl, .tuple #[], by simp [results, Tryz.results75, go_sem], rfl, rfl, rfl⟩
/-- In try: the boxes. -/
structure TryAt (w W : World) (P : Nat) (e : Value) : Prop where
  box : W.heap[w.heap.size]? = some (.cells #[.pointer (some ⟨P, 0, none⟩)] 37 (0, 0))
  err : W.heap[w.heap.size + 1]? = some (.cells #[e] 27 (0, 0))
theorem tryStart (w : World) (P : Nat) : TryAt w ((w.alloc (.cells #[.pointer (some ⟨P, 0, none⟩)] 37)).alloc (.cells #[.int .i64 0] 27)) P (.int .i64 0) := by
  have h := blk_new (w.alloc (.cells #[.pointer (some ⟨P, 0, none⟩)] 37)) #[.int .i64 0] 27
  rw [sz_alloc] at h
  exact ⟨blk_old (blk_new _ _ _) _, h⟩
theorem tryBelow (w : World) (P : Nat) : Below w.heap.size w ((w.alloc (.cells #[.pointer (some ⟨P, 0, none⟩)] 37)).alloc (.cells #[.int .i64 0] 27)) :=
  ((Below.refl _ _).alloc (Nat.le_refl _) _).alloc (by rw [sz_alloc]; exact Nat.le_succ _) _
theorem TryAt.kept {ts : List TypeId} {C : Nat} {w W W' : World} {P : Nat} {e : Value} (h : TryAt w W P e) (hk : Kept ts C W W') (h1 : ts.contains 37 = false) (h2 : ts.contains 27 = false) : TryAt w W' P e := ⟨hk.at h.box h1, hk.at h.err h2⟩
theorem TryAt.below {w W W' : World} {P : Nat} {e : Value} (h : TryAt w W P e) (hb : Below W.heap.size W W') : TryAt w W' P e := ⟨blk_below h.box hb (lt_of_block h.box), blk_below h.err hb (lt_of_block h.err)⟩
theorem Kept.setNew {ts : List TypeId} {B : Nat} {a b : World} (h : Kept ts B a b) {x : Nat} (hx : a.heap.size ≤ x) (hB : B ≤ x) (j : Nat) (v : Value) : Kept ts B a (b.setCell ⟨x, j, none⟩ v) :=
  ⟨h.below.setCell hB _, fun k o hk hn => blk_set_other (h.kept k o hk hn) (fun e => by have e' : k = x := e; have := lt_of_block hk; omega) v⟩
/-- What a store into the error's box leaves. -/
def Steady (Q : World → Prop) : Prop := ∀ (W : World) (E : Nat) (e v : Value), W.heap[E]? = some (.cells #[e] 27 (0, 0)) → Q W → Q (W.setCell ⟨E, 0, none⟩ v)
set_option maxHeartbeats 4000000 in
theorem try_ok {B : Nat} {w : World} {P G R : Nat} {x : PoolV} (h : PoolAt B w P G R x) (A : Nat) (caps : Array Value) (Q : World → Prop) (hQ : Steady Q)
    (hK : ∀ W, Below w.heap.size w W → Calls Tryz.prog 73 caps W fun e w' => e = .returned (.tuple #[]) ∧ Q w' ∧ KD A B W w') :
    Calls Tryz.prog 44 #[.pointer (some ⟨P, 0, none⟩), .func (.func 73) #[] caps] w fun e w' => e = .returned (.int .i64 0) ∧ Q w' ∧ KD A B w w' := by
  have hmf : ∀ (fn : Fn) (first cap : Array Value) (w : World), (Instr.makeFunc fn first cap).run Tryz.prog w = .ok (.func fn first cap) w := fun _ _ _ _ => rfl
  have HL0 := Lib.hid (tryBelow w P)
  have HT0 := Lib.hid (tryStart w P)
  have H0 := Lib.hid (h.below (tryBelow w P))
  have KQ := Lib.hid hK
  have HQ := Lib.hid hQ
  have HBw := Lib.hid h.size
  clear h hK hQ
  go_enter_defers Tryz.func44, Tryz.ntmps44
  go_upto_region 1 with fail
  generalize ((w.alloc (.cells #[.pointer (some ⟨P, 0, none⟩)] 37)).alloc (.cells #[.int .i64 0] 27)) = w0 at *
  have c0 : w0.cell? ⟨w.heap.size, 0, none⟩ = some (.pointer (some ⟨P, 0, none⟩)) := blk_cell HT0.out.box 0
  have c12 : w0.cell? ⟨P, 12, none⟩ = some (.bool false) := blk_cell H0.out.blk 12
  go_wp2_with (go_at_call 73; (with_reducible refine (KQ.out _ HL0.out).mono ?_); rintro e w1 ⟨rfl, hq1, hk1⟩; have HT1 := Lib.hid (HT0.out.kept hk1.k (by rfl) (by rfl)); have HQ1 := Lib.hid hq1; have HK1 : Hid (KD A B w w1) := Lib.hid ((KD.of HL0.out HBw.out).trans hk1); clear hq1 hk1; have e0 : w1.cell? ⟨w.heap.size + 1, 0, none⟩ = some (.int .i64 0) := blk_cell HT1.out.err 0; have f0 := blk_free HT1.out.err 0)
  have hlast : (w1.setCell ⟨w.heap.size + 1, 0, none⟩ (.int .i64 0)).heap[w.heap.size + 1]? = some (.cells #[.int .i64 0] 27 (0, 0)) := blk_set HT1.out.err 0 (.int .i64 0)
  have d0 : (w1.setCell ⟨w.heap.size + 1, 0, none⟩ (.int .i64 0)).cell? ⟨w.heap.size + 1, 0, none⟩ = some (.int .i64 0) := blk_cell hlast 0
  have HE : Hid (Q (w1.setCell ⟨w.heap.size + 1, 0, none⟩ (.int .i64 0)) ∧ KD A B w (w1.setCell ⟨w.heap.size + 1, 0, none⟩ (.int .i64 0))) := Lib.hid ⟨HQ.out _ _ _ _ HT1.out.err HQ1.out, HK1.out.setNew (Nat.le_succ _) (Nat.le_succ_of_le HBw.out) 0 _⟩
  refine leaves_cons (f := 75) (args := #[.pointer (some ⟨w.heap.size + 1, 0, none⟩), .pointer (some ⟨w.heap.size, 0, none⟩)]) (by simp) (by simp [go_sem]) ?_
  refine (catch_idle (w.heap.size + 1) w.heap.size _).mono ?_
  rintro e u' w'' ⟨rfl, rfl, rfl⟩
  refine ⟨.int .i64 0, ?_, rfl, HE.out⟩
  simp [results, Tryz.results44, go_sem, d0]
set_option maxHeartbeats 4000000 in
theorem try_bad {B : Nat} {w : World} {P G R : Nat} {x : PoolV} (h : PoolAt B w P G R x) (caps : Array Value) (n : Int) (hn : n ≠ 10)
    (hK : ∀ W, Below w.heap.size w W → Calls Tryz.prog 73 caps W fun e w' => e = .panicked [{ v := .iface 167 (.agg #[.int .i64 n]), recovered := false }] ∧ Below W.heap.size W w') :
    Calls Tryz.prog 44 #[.pointer (some ⟨P, 0, none⟩), .func (.func 73) #[] caps] w fun e w' => e = .returned (.int .i64 n) ∧ PoolAt B w' P G R x ∧ Kept [107] B w w' := by
  have hmf : ∀ (fn : Fn) (first cap : Array Value) (w : World), (Instr.makeFunc fn first cap).run Tryz.prog w = .ok (.func fn first cap) w := fun _ _ _ _ => rfl
  have HL0 := Lib.hid (tryBelow w P)
  have HT0 := Lib.hid (tryStart w P)
  have H0 := Lib.hid (h.below (tryBelow w P))
  have KQ := Lib.hid hK
  have HBw := Lib.hid h.size
  clear h hK
  go_enter_defers Tryz.func44, Tryz.ntmps44
  go_upto_region 1 with fail
  generalize ((w.alloc (.cells #[.pointer (some ⟨P, 0, none⟩)] 37)).alloc (.cells #[.int .i64 0] 27)) = w0 at *
  have c0 : w0.cell? ⟨w.heap.size, 0, none⟩ = some (.pointer (some ⟨P, 0, none⟩)) := blk_cell HT0.out.box 0
  have c12 : w0.cell? ⟨P, 12, none⟩ = some (.bool false) := blk_cell H0.out.blk 12
  go_wp2_with (go_at_call 73; (with_reducible refine (KQ.out _ HL0.out).mono ?_); rintro e w1 ⟨rfl, hb1⟩; have HT1 := Lib.hid (HT0.out.below hb1); have H1 := Lib.hid (H0.out.below hb1); have HL1 := Lib.hid (HL0.out.trans (hb1.mono HL0.out.size)); clear hb1)
  have hlast : ((w1.setCell ⟨w.heap.size + 1, 0, none⟩ (.int .i64 n)).setCell ⟨P, 12, none⟩ (.bool false)).heap[w.heap.size + 1]? = some (.cells #[.int .i64 n] 27 (0, 0)) := blk_set_other (blk_set HT1.out.err 0 (.int .i64 n)) (fun e => by
    have e' : w.heap.size + 1 = P := e
    have hb := H1.out.blk
    have he := HT1.out.err
    rw [e', hb] at he
    injection he with hh
    injection hh with _ hh _
    exact absurd hh (by decide)) _
  have hp : ((w1.setCell ⟨w.heap.size + 1, 0, none⟩ (.int .i64 n)).setCell ⟨P, 12, none⟩ (.bool false)).heap[P]? = some (.cells (x.cells G R) 107 (0, 0)) := by
    have := blk_set (blk_set_other (a := ⟨w.heap.size + 1, 0, none⟩) H1.out.blk (fun e => by
      have e' : P = w.heap.size + 1 := e
      have hb := H1.out.blk
      have he := HT1.out.err
      rw [← e', hb] at he
      injection he with hh
      injection hh with _ hh _
      exact absurd hh (by decide)) (.int .i64 n)) 12 (.bool false)
    exact this
  have d0 := blk_cell hlast 0
  have d0' : ((w1.setCell ⟨w.heap.size + 1, 0, none⟩ (.int .i64 n)).setCell ⟨P, 12, none⟩ (.bool false)).cell? ⟨w.heap.size + 1, 0, none⟩ = some (.int .i64 n) := d0
  have hk : Kept [107] B w ((w1.setCell ⟨w.heap.size + 1, 0, none⟩ (.int .i64 n)).setCell ⟨P, 12, none⟩ (.bool false)) := by
    refine (Kept.setNew (Kept.of HL1.out HBw.out) (Nat.le_succ _) (Nat.le_succ_of_le HBw.out) 0 _).set (blk_set_other (a := ⟨w.heap.size + 1, 0, none⟩) H1.out.blk (fun e => by
      have e' : P = w.heap.size + 1 := e
      have hb := H1.out.blk
      have he := HT1.out.err
      rw [← e', hb] at he
      injection he with hh
      injection hh with _ hh _
      exact absurd hh (by decide)) _) H1.out.base (by rfl) 12 _
  refine leaves_cons (f := 75) (args := #[.pointer (some ⟨w.heap.size + 1, 0, none⟩), .pointer (some ⟨w.heap.size, 0, none⟩)]) (by simp) (by simp [go_sem]) ?_
  refine (catch_panicking H1.out n hn (w.heap.size + 1) w.heap.size _ HT1.out.err HT1.out.box []).mono ?_
  rintro e u' w'' ⟨rfl, rfl, rfl⟩
  refine ⟨.int .i64 n, ?_, rfl, ⟨H1.out.base, hp⟩, hk⟩
  simp [results, Tryz.results44, go_sem, d0']
end Go.Proofs.YtjohhjdicbeojaaGreatDoor.Vj
