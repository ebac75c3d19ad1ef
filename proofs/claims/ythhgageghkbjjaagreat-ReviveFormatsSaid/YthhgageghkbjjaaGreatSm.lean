/- leaf.Decode of Encode's pages: its last region, each operation once. -/
import Derived.Test.YthhgageghkbjjaaGreatSl
namespace Go.Proofs.YthhgageghkbjjaaGreat.Sm
open Go.RowKit Go.Proofs.YthhgageghkbjjaaGreat.Ra Go.Proofs.YthhgageghkbjjaaGreat.Rc Go.Proofs.YthhgageghkbjjaaGreat.Rd Go.Proofs.YthhgageghkbjjaaGreat.Re Go.Proofs.YthhgageghkbjjaaGreat.Ri Go.Proofs.YthhgageghkbjjaaGreat.Rj Go.Proofs.YthhgageghkbjjaaGreat.Rl Go.Proofs.YthhgageghkbjjaaGreat.Rn Go.Proofs.YthhgageghkbjjaaGreat.Ro Go.Proofs.YthhgageghkbjjaaGreat.Rp Go.Proofs.YthhgageghkbjjaaGreat.Rq Go.Proofs.YthhgageghkbjjaaGreat.Rw Go.Proofs.YthhgageghkbjjaaGreat.Sd Go.Proofs.YthhgageghkbjjaaGreat.Se Go.Proofs.YthhgageghkbjjaaGreat.Sf Go.Proofs.YthhgageghkbjjaaGreat.Sg
set_option maxRecDepth 8000

noncomputable def r22 : Array Oper := funcOps Tryz.f39 22

/-- Decode's boxes behind its checks: the answers' (A, A + 1), the found ones' (G, H), the header's (K). -/
structure DB (A G H K : Nat) (s b : Int) (w W : World) : Prop where
  st : W.heap[A]? = some (.cells emptyCells 30 (0, 0))
  pl : ∃ x y, W.heap[A + 1]? = some (.cells #[x, y] 23 (0, 0))
  fs : W.heap[G]? = some (.cells emptyCells 30 (0, 0))
  fp : W.heap[H]? = some (.cells #[.int .i64 s, .int .i64 b] 23 (0, 0))
  hd : W.cell? ⟨K, 0, none⟩ = some (.int .i64 1)
  below : Below w.heap.size w W

def T22 (s b : Int) (K : Nat) : Nat → Value → Prop
  | 0, v => v = .agg emptyCells
  | 1, v => v = .agg #[.int .i64 s, .int .i64 b]
  | 2, v => v = .pointer (some ⟨K, 0, none⟩)
  | 3, v => v = .int .i64 1
  | 6, v => v = .int .i64 1
  | 7, v => v = .int .i64 0
  | _, _ => True

def T22L (s b : Int) (K : Nat) (_ : Nat → Prop) (j : Nat) (v : Value) (_ : World) : Prop := T22 s b K j v

theorem setCells_cell {w : World} {b k : Nat} {v : Value} (l : List Value) (hne : b ≠ k) (h : w.cell? ⟨k, 0, none⟩ = some v) : (w.setCells b 0 l).cell? ⟨k, 0, none⟩ = some v :=
  (World.cell?_of_block ((grownBy_setCells b l 0 w).block k (World.block_lt_of_cell? w ⟨k, 0, none⟩ h) (fun e => hne (Option.some.inj e).symm))).trans h
theorem field_h (K : Nat) (w : World) : (Instr.fieldAt 112 (.pointer (some ⟨K, 0, none⟩)) 0).run Tryz.prog w = .ok (.pointer (some ⟨K, 0, none⟩)) w := by kernel_rfl

set_option maxHeartbeats 4000000 in
theorem owes22 {Q : Exit → Act → World → Prop} (A G H K : Nat) (s b : Int) (w0 : World) (hA : w0.heap.size ≤ A) (h1 : A ≠ G) (h2 : A ≠ H) (h3 : A ≠ K) (h4 : A + 1 ≠ G) (h5 : A + 1 ≠ H) (h6 : A + 1 ≠ K) (a0 : Act)
    (e2 : a0.tmps[2]? = some (.pointer (some ⟨A, 0, none⟩))) (e3 : a0.tmps[3]? = some (.pointer (some ⟨A + 1, 0, none⟩))) (e6 : a0.tmps[6]? = some (.pointer (some ⟨K, 0, none⟩))) (e13 : a0.tmps[13]? = some (.pointer (some ⟨H, 0, none⟩))) (e14 : a0.tmps[14]? = some (.pointer (some ⟨G, 0, none⟩))) :
    ∀ (i : Nat) (o : Oper), r22[i]? = some o → Owes Tryz.prog r22 Q (T22L s b K) (fun L w => DB A G H K s b w0 w ∧ (L 5 → w.heap[A + 1]? = some (.cells #[.int .i64 s, .int .i64 b] 23 (0, 0)))) a0 i o := by
  intro i o ho L a w P hsh hnl haf hF ⟨hS, hS5⟩ hT hK
  have hi : i < 8 := by
    have h1 := (Array.getElem?_eq_some_iff.1 ho).1
    rwa [show r22.size = 8 from by kernel_rfl] at h1
  have plain : ∀ v, i ≠ 5 → T22 s b K i v → P (a.put o.dst v) w := fun v hne hv => hK v w hv ⟨hS, fun h => hS5 (h.resolve_right fun e => hne e.symm)⟩ fun j u _ _ h => h
  obtain rfl | rfl | rfl | rfl | rfl | rfl | rfl | rfl : i = 0 ∨ i = 1 ∨ i = 2 ∨ i = 3 ∨ i = 4 ∨ i = 5 ∨ i = 6 ∨ i = 7 := by omega
  · exact wp_load_row 30 (.tmp 14) (op_is ho (by kernel_rfl)) G (slot hF (by kernel_rfl) e14) _ emptyCells _ _ hS.fs Tryz.underlying30 rfl sizeE' (plain _ (by decide) rfl)
  · exact wp_load_row 23 (.tmp 13) (op_is ho (by kernel_rfl)) H (slot hF (by kernel_rfl) e13) _ _ _ _ hS.fp Tryz.underlying23 rfl (by kernel_rfl) (plain _ (by decide) rfl)
  · exact wp_field (f := 0) (op_is ho (by kernel_rfl)) (slot hF (by kernel_rfl) e6) (field_h K) (plain _ (by decide) rfl)
  · obtain ⟨v, q1, p1⟩ := has (a := a) hT (haf 2 (on_is ho (by kernel_rfl))) (d := 111) (by kernel_rfl)
    obtain rfl : v = .pointer (some ⟨K, 0, none⟩) := p1
    exact wp_load1 (x := .tmp 111) (op_is ho (by kernel_rfl)) q1 hS.hd agg_int (plain _ (by decide) rfl)
  · obtain ⟨v, q1, p1⟩ := has (a := a) hT (haf 0 (on_is ho (by kernel_rfl))) (d := 109) (by kernel_rfl)
    obtain rfl : v = .agg emptyCells := p1
    obtain ⟨x, y, hp⟩ := hS.pl
    refine wp_store_mid 30 (.tmp 2) (.tmp 109) (op_is ho (by kernel_rfl)) A 0 emptyCells (slot hF (by kernel_rfl) e2) q1 (thereE' hS.st) sizeE' (by kernel_rfl) (hK _ _ trivial ⟨⟨setE' hS.st, ⟨x, y, setOther hp (by omega) _⟩, setOther hS.fs (fun e => h1 e.symm) _, setOther hS.fp (fun e => h2 e.symm) _, ?_, belowSet hS.below (Nat.le_refl _) hA _⟩, fun h => setOther (hS5 (h.resolve_right (by decide))) (by omega) _⟩ fun j u _ _ h => h)
    exact setCells_cell _ h3 hS.hd
  · obtain ⟨v, q1, p1⟩ := has (a := a) hT (haf 1 (on_is ho (by kernel_rfl))) (d := 110) (by kernel_rfl)
    obtain rfl : v = .agg #[.int .i64 s, .int .i64 b] := p1
    obtain ⟨x, y, hp⟩ := hS.pl
    obtain ⟨hp1, hp2⟩ := put_plat hp (.int .i64 s) (.int .i64 b)
    refine wp_store_mid 23 (.tmp 3) (.tmp 110) (op_is ho (by kernel_rfl)) (A + 1) 0 #[.int .i64 s, .int .i64 b] (slot hF (by kernel_rfl) e3) q1 hp2 (by kernel_rfl) (by simp [Value.oneCell']) (hK _ _ trivial ⟨⟨setOther hS.st (by omega) _, ⟨_, _, hp1⟩, setOther hS.fs (fun e => h4 e.symm) _, setOther hS.fp (fun e => h5 e.symm) _, ?_, belowSet hS.below (Nat.le_refl _) (by omega) _⟩, fun _ => hp1⟩ fun j u _ _ h => h)
    exact setCells_cell _ h6 hS.hd
  · obtain ⟨v, q1, p1⟩ := has (a := a) hT (haf 3 (on_is ho (by kernel_rfl))) (d := 112) (by kernel_rfl)
    obtain rfl : v = .int .i64 1 := p1
    exact wp_assign (x := .tmp 112) (op_is ho (by kernel_rfl)) (by rw [q1]; exact plain _ (by decide) rfl)
  · exact wp_assign (x := .const (.int .i64 0)) (op_is ho (by kernel_rfl)) (plain _ (by decide) rfl)
end Go.Proofs.YthhgageghkbjjaaGreat.Sm
