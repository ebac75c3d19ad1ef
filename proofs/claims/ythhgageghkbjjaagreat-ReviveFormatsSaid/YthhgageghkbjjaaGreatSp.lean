/- Regions that hand a state and a geometry over: slate.Load's, revive.Open's; each operation once. -/
import Derived.Test.YthhgageghkbjjaaGreatSo
import Derived.Deep.WholeRow
namespace Go.Proofs.YthhgageghkbjjaaGreat.Sp
open Go.RowKit Go.Proofs.YthhgageghkbjjaaGreat.Ra Go.Proofs.YthhgageghkbjjaaGreat.Rc Go.Proofs.YthhgageghkbjjaaGreat.Rd Go.Proofs.YthhgageghkbjjaaGreat.Re Go.Proofs.YthhgageghkbjjaaGreat.Ri Go.Proofs.YthhgageghkbjjaaGreat.Rj Go.Proofs.YthhgageghkbjjaaGreat.Rl Go.Proofs.YthhgageghkbjjaaGreat.Rn Go.Proofs.YthhgageghkbjjaaGreat.Ro Go.Proofs.YthhgageghkbjjaaGreat.Rp Go.Proofs.YthhgageghkbjjaaGreat.Rq Go.Proofs.YthhgageghkbjjaaGreat.Rw Go.Proofs.YthhgageghkbjjaaGreat.Sd Go.Proofs.YthhgageghkbjjaaGreat.Se Go.Proofs.YthhgageghkbjjaaGreat.Sf Go.Proofs.YthhgageghkbjjaaGreat.Sg Go.Proofs.YthhgageghkbjjaaGreat.Sm
set_option maxRecDepth 8000


noncomputable def rL2 : Array Oper := funcOps Tryz.f18 2
def VL2 (x y : Value) : Nat → Value → Prop
  | 0, v => v = .agg emptyCells
  | 1, v => v = .agg #[x, y]
  | 4, v => v = .int .i64 0
  | 5, v => v = .int .i64 1
  | _, _ => True
def TL2 (x y : Value) (_ : Nat → Prop) (j : Nat) (v : Value) (_ : World) : Prop := VL2 x y j v
set_option maxHeartbeats 4000000 in
theorem owesL2 {Q : Exit → Act → World → Prop} (A : Nat) (x y : Value) (hx1 : x.oneCell' = true) (hy1 : y.oneCell' = true) (w0 : World) (hA : w0.heap.size ≤ A) (a0 : Act) (e2 : a0.tmps[2]? = some (.pointer (some ⟨A, 0, none⟩))) (e3 : a0.tmps[3]? = some (.pointer (some ⟨A + 1, 0, none⟩))) :
    ∀ (i : Nat) (o : Oper), rL2[i]? = some o → Owes Tryz.prog rL2 Q (TL2 x y) (fun _ w => AB A x y w0 w) a0 i o := by
  intro i o ho L a w P hsh hnl haf hF hS hT hK
  have hi : i < 6 := by
    have h1 := (Array.getElem?_eq_some_iff.1 ho).1
    rwa [show rL2.size = 6 from by kernel_rfl] at h1
  have plain : ∀ v, TL2 x y (fun k => L k ∨ k = i) i v w → P (a.put o.dst v) w := fun v hv => hK v w hv hS fun j u _ _ h => h
  obtain rfl | rfl | rfl | rfl | rfl | rfl : i = 0 ∨ i = 1 ∨ i = 2 ∨ i = 3 ∨ i = 4 ∨ i = 5 := by omega
  · exact wp_load_row 30 (.tmp 2) (op_is ho (by kernel_rfl)) A (slot hF (by kernel_rfl) e2) _ emptyCells _ _ hS.st Tryz.underlying30 rfl sizeE' (plain _ rfl)
  · exact wp_load_row 23 (.tmp 3) (op_is ho (by kernel_rfl)) (A + 1) (slot hF (by kernel_rfl) e3) _ _ _ _ hS.pl Tryz.underlying23 rfl (by kernel_rfl) (plain _ rfl)
  · obtain ⟨v, q1, p1⟩ := has (a := a) hT (haf 0 (on_is ho (by kernel_rfl))) (d := 15) (by kernel_rfl)
    obtain rfl : v = .agg emptyCells := p1
    exact wp_store_mid 30 (.tmp 2) (.tmp 15) (op_is ho (by kernel_rfl)) A 0 emptyCells (slot hF (by kernel_rfl) e2) q1 (thereE' hS.st) sizeE' (by kernel_rfl) (hK _ _ trivial (hS.setSt hA) fun j u _ _ h => h)
  · obtain ⟨v, q1, p1⟩ := has (a := a) hT (haf 1 (on_is ho (by kernel_rfl))) (d := 16) (by kernel_rfl)
    obtain rfl : v = .agg #[x, y] := p1
    exact wp_store_mid 23 (.tmp 3) (.tmp 16) (op_is ho (by kernel_rfl)) (A + 1) 0 #[x, y] (slot hF (by kernel_rfl) e3) q1 (put_plat hS.pl x y).2 (by kernel_rfl) (by simp [hx1, hy1]) (hK _ _ trivial (hS.setPl hA x y) fun j u _ _ h => h)
  · exact wp_assign (x := .const (.int .i64 0)) (op_is ho (by kernel_rfl)) (plain _ rfl)
  · exact wp_assign (x := .const (.int .i64 1)) (op_is ho (by kernel_rfl)) (plain _ rfl)

noncomputable def rL11 : Array Oper := funcOps Tryz.f18 11
def VL11 (u z m : Value) : Nat → Value → Prop
  | 0, v => v = .agg emptyCells
  | 1, v => v = .agg #[u, z]
  | 2, v => v = m
  | 5, v => v = m
  | _, _ => True
def TL11 (u z m : Value) (_ : Nat → Prop) (j : Nat) (v : Value) (_ : World) : Prop := VL11 u z m j v
set_option maxHeartbeats 4000000 in
theorem owesL11 {Q : Exit → Act → World → Prop} (A G H : Nat) (u z m : Value) (hu1 : u.oneCell' = true) (hz1 : z.oneCell' = true) (w0 : World) (hA : w0.heap.size ≤ A) (g1 : G ≠ A) (g2 : G ≠ A + 1) (g3 : H ≠ A) (g4 : H ≠ A + 1) (a0 : Act) (e9 : a0.tmps[9]? = some (.pointer (some ⟨G, 0, none⟩))) (e10 : a0.tmps[10]? = some (.pointer (some ⟨H, 0, none⟩))) (e11 : a0.tmps[11]? = some (m)) (e2 : a0.tmps[2]? = some (.pointer (some ⟨A, 0, none⟩))) (e3 : a0.tmps[3]? = some (.pointer (some ⟨A + 1, 0, none⟩))) :
    ∀ (i : Nat) (o : Oper), rL11[i]? = some o → Owes Tryz.prog rL11 Q (TL11 u z m) (fun L w => (∃ x y, AB A x y w0 w) ∧ (L 4 → AB A u z w0 w) ∧ w.heap[G]? = some (.cells emptyCells 30 (0, 0)) ∧ w.heap[H]? = some (.cells #[u, z] 23 (0, 0))) a0 i o := by
  intro i o ho L a w P hsh hnl haf hF hS hT hK
  have hi : i < 6 := by
    have h1 := (Array.getElem?_eq_some_iff.1 ho).1
    rwa [show rL11.size = 6 from by kernel_rfl] at h1
  obtain ⟨hx, hS5, hG, hH⟩ := hS
  have plain : ∀ v, i ≠ 4 → TL11 u z m (fun k => L k ∨ k = i) i v w → P (a.put o.dst v) w := fun v hne hv => hK v w hv ⟨hx, fun h => hS5 (h.resolve_right fun e => hne e.symm), hG, hH⟩ fun j u _ _ h => h
  obtain rfl | rfl | rfl | rfl | rfl | rfl : i = 0 ∨ i = 1 ∨ i = 2 ∨ i = 3 ∨ i = 4 ∨ i = 5 := by omega
  · exact wp_load_row 30 (.tmp 9) (op_is ho (by kernel_rfl)) G (slot hF (by kernel_rfl) e9) _ emptyCells _ _ hG Tryz.underlying30 rfl sizeE' (plain _ (by decide) rfl)
  · exact wp_load_row 23 (.tmp 10) (op_is ho (by kernel_rfl)) H (slot hF (by kernel_rfl) e10) _ _ _ _ hH Tryz.underlying23 rfl (by kernel_rfl) (plain _ (by decide) rfl)
  · exact wp_move (op_is ho (by kernel_rfl)) (plain _ (by decide) (slot hF (by kernel_rfl) e11))
  · obtain ⟨v, q1, p1⟩ := has (a := a) hT (haf 0 (on_is ho (by kernel_rfl))) (d := 46) (by kernel_rfl)
    obtain rfl : v = .agg emptyCells := p1
    obtain ⟨x, y, hS⟩ := hx
    exact wp_store_mid 30 (.tmp 2) (.tmp 46) (op_is ho (by kernel_rfl)) A 0 emptyCells (slot hF (by kernel_rfl) e2) q1 (thereE' hS.st) sizeE' (by kernel_rfl) (hK _ _ trivial ⟨⟨x, y, hS.setSt hA⟩, fun h => (hS5 (h.resolve_right (by decide))).setSt hA, setOther hG g1 _, setOther hH g3 _⟩ fun j u _ _ h => h)
  · obtain ⟨v, q1, p1⟩ := has (a := a) hT (haf 1 (on_is ho (by kernel_rfl))) (d := 47) (by kernel_rfl)
    obtain rfl : v = .agg #[u, z] := p1
    obtain ⟨x, y, hS⟩ := hx
    exact wp_store_mid 23 (.tmp 3) (.tmp 47) (op_is ho (by kernel_rfl)) (A + 1) 0 #[u, z] (slot hF (by kernel_rfl) e3) q1 (put_plat hS.pl u z).2 (by kernel_rfl) (by simp [hu1, hz1]) (hK _ _ trivial ⟨⟨u, z, hS.setPl hA u z⟩, fun _ => hS.setPl hA u z, setOther hG g2 _, setOther hH g4 _⟩ fun j u _ _ h => h)
  · obtain ⟨v, q1, p1⟩ := has (a := a) hT (haf 2 (on_is ho (by kernel_rfl))) (d := 48) (by kernel_rfl)
    obtain rfl : v = m := p1
    exact wp_assign (x := .tmp 48) (op_is ho (by kernel_rfl)) (by rw [q1]; exact plain _ (by decide) rfl)

noncomputable def rL15 : Array Oper := funcOps Tryz.f18 15
def VL15 (x y m : Value) : Nat → Value → Prop
  | 0, v => v = .agg emptyCells
  | 1, v => v = .agg #[x, y]
  | 2, v => v = m
  | 5, v => v = m
  | 6, v => v = .int .i64 0
  | _, _ => True
def TL15 (x y m : Value) (_ : Nat → Prop) (j : Nat) (v : Value) (_ : World) : Prop := VL15 x y m j v
set_option maxHeartbeats 4000000 in
theorem owesL15 {Q : Exit → Act → World → Prop} (A : Nat) (x y m : Value) (hx1 : x.oneCell' = true) (hy1 : y.oneCell' = true) (w0 : World) (hA : w0.heap.size ≤ A) (a0 : Act) (e2 : a0.tmps[2]? = some (.pointer (some ⟨A, 0, none⟩))) (e3 : a0.tmps[3]? = some (.pointer (some ⟨A + 1, 0, none⟩))) (e4 : a0.tmps[4]? = some (m)) :
    ∀ (i : Nat) (o : Oper), rL15[i]? = some o → Owes Tryz.prog rL15 Q (TL15 x y m) (fun _ w => AB A x y w0 w) a0 i o := by
  intro i o ho L a w P hsh hnl haf hF hS hT hK
  have hi : i < 7 := by
    have h1 := (Array.getElem?_eq_some_iff.1 ho).1
    rwa [show rL15.size = 7 from by kernel_rfl] at h1
  have plain : ∀ v, TL15 x y m (fun k => L k ∨ k = i) i v w → P (a.put o.dst v) w := fun v hv => hK v w hv hS fun j u _ _ h => h
  obtain rfl | rfl | rfl | rfl | rfl | rfl | rfl : i = 0 ∨ i = 1 ∨ i = 2 ∨ i = 3 ∨ i = 4 ∨ i = 5 ∨ i = 6 := by omega
  · exact wp_load_row 30 (.tmp 2) (op_is ho (by kernel_rfl)) A (slot hF (by kernel_rfl) e2) _ emptyCells _ _ hS.st Tryz.underlying30 rfl sizeE' (plain _ rfl)
  · exact wp_load_row 23 (.tmp 3) (op_is ho (by kernel_rfl)) (A + 1) (slot hF (by kernel_rfl) e3) _ _ _ _ hS.pl Tryz.underlying23 rfl (by kernel_rfl) (plain _ rfl)
  · exact wp_move (op_is ho (by kernel_rfl)) (plain _ (slot_of (j := 5) hF (by kernel_rfl) (fun h => hnl (run_down hsh [2] 5 (by kernel_rfl) h)) e4))
  · obtain ⟨v, q1, p1⟩ := has (a := a) hT (haf 0 (on_is ho (by kernel_rfl))) (d := 54) (by kernel_rfl)
    obtain rfl : v = .agg emptyCells := p1
    exact wp_store_mid 30 (.tmp 2) (.tmp 54) (op_is ho (by kernel_rfl)) A 0 emptyCells (slot hF (by kernel_rfl) e2) q1 (thereE' hS.st) sizeE' (by kernel_rfl) (hK _ _ trivial (hS.setSt hA) fun j u _ _ h => h)
  · obtain ⟨v, q1, p1⟩ := has (a := a) hT (haf 1 (on_is ho (by kernel_rfl))) (d := 55) (by kernel_rfl)
    obtain rfl : v = .agg #[x, y] := p1
    exact wp_store_mid 23 (.tmp 3) (.tmp 55) (op_is ho (by kernel_rfl)) (A + 1) 0 #[x, y] (slot hF (by kernel_rfl) e3) q1 (put_plat hS.pl x y).2 (by kernel_rfl) (by simp [hx1, hy1]) (hK _ _ trivial (hS.setPl hA x y) fun j u _ _ h => h)
  · obtain ⟨v, q1, p1⟩ := has (a := a) hT (haf 2 (on_is ho (by kernel_rfl))) (d := 56) (by kernel_rfl)
    obtain rfl : v = m := p1
    exact wp_assign (x := .tmp 56) (op_is ho (by kernel_rfl)) (by rw [q1]; exact plain _ rfl)
  · exact wp_assign (x := .const (.int .i64 0)) (op_is ho (by kernel_rfl)) (plain _ rfl)

end Go.Proofs.YthhgageghkbjjaaGreat.Sp
