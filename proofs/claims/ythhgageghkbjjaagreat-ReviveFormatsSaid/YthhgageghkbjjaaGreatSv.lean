/- revive.Open's last region, each operation once. -/
import Derived.Test.YthhgageghkbjjaaGreatSu
namespace Go.Proofs.YthhgageghkbjjaaGreat.Sv
open Go.RowKit Go.Proofs.YthhgageghkbjjaaGreat.Ra Go.Proofs.YthhgageghkbjjaaGreat.Rc Go.Proofs.YthhgageghkbjjaaGreat.Rd Go.Proofs.YthhgageghkbjjaaGreat.Re Go.Proofs.YthhgageghkbjjaaGreat.Ri Go.Proofs.YthhgageghkbjjaaGreat.Rj Go.Proofs.YthhgageghkbjjaaGreat.Rl Go.Proofs.YthhgageghkbjjaaGreat.Rn Go.Proofs.YthhgageghkbjjaaGreat.Ro Go.Proofs.YthhgageghkbjjaaGreat.Rp Go.Proofs.YthhgageghkbjjaaGreat.Rq Go.Proofs.YthhgageghkbjjaaGreat.Rw Go.Proofs.YthhgageghkbjjaaGreat.Sd Go.Proofs.YthhgageghkbjjaaGreat.Se Go.Proofs.YthhgageghkbjjaaGreat.Sf Go.Proofs.YthhgageghkbjjaaGreat.Sg Go.Proofs.YthhgageghkbjjaaGreat.Sm Go.Proofs.YthhgageghkbjjaaGreat.Sp
set_option maxRecDepth 8000

noncomputable def rO16 : Array Oper := funcOps Tryz.f6 16
def VO16 (x y m : Value) : Nat → Value → Prop
  | 0, v => v = .agg emptyCells
  | 1, v => v = .agg #[x, y]
  | 2, v => v = m
  | 3, v => v = .slice none 0 0
  | 4, v => v = .int .i64 0
  | 7, v => v = m
  | 8, v => v = .int .i64 0
  | 9, v => v = .int .i64 0
  | _, _ => True
def TO16 (x y m : Value) (_ : Nat → Prop) (j : Nat) (v : Value) (_ : World) : Prop := VO16 x y m j v
set_option maxHeartbeats 4000000 in
theorem owesO16 {Q : Exit → Act → World → Prop} (A : Nat) (x y m : Value) (hx1 : x.oneCell' = true) (hy1 : y.oneCell' = true) (w0 : World) (hA : w0.heap.size ≤ A) (a0 : Act) (e2 : a0.tmps[2]? = some (.pointer (some ⟨A, 0, none⟩))) (e3 : a0.tmps[3]? = some (.pointer (some ⟨A + 1, 0, none⟩))) (e4 : a0.tmps[4]? = some (m)) (e9 : a0.tmps[9]? = some (.slice none 0 0)) :
    ∀ (i : Nat) (o : Oper), rO16[i]? = some o → Owes Tryz.prog rO16 Q (TO16 x y m) (fun _ w => AB A x y w0 w) a0 i o := by
  intro i o ho L a w P hsh hnl haf hF hS hT hK
  have hi : i < 10 := by
    have h1 := (Array.getElem?_eq_some_iff.1 ho).1
    rwa [show rO16.size = 10 from by kernel_rfl] at h1
  have plain : ∀ v, TO16 x y m (fun k => L k ∨ k = i) i v w → P (a.put o.dst v) w := fun v hv => hK v w hv hS fun j u _ _ h => h
  obtain rfl | rfl | rfl | rfl | rfl | rfl | rfl | rfl | rfl | rfl : i = 0 ∨ i = 1 ∨ i = 2 ∨ i = 3 ∨ i = 4 ∨ i = 5 ∨ i = 6 ∨ i = 7 ∨ i = 8 ∨ i = 9 := by omega
  · exact wp_load_row 30 (.tmp 2) (op_is ho (by kernel_rfl)) A (slot hF (by kernel_rfl) e2) _ emptyCells _ _ hS.st Tryz.underlying30 rfl sizeE' (plain _ rfl)
  · exact wp_load_row 23 (.tmp 3) (op_is ho (by kernel_rfl)) (A + 1) (slot hF (by kernel_rfl) e3) _ _ _ _ hS.pl Tryz.underlying23 rfl (by kernel_rfl) (plain _ rfl)
  · exact wp_move (op_is ho (by kernel_rfl)) (plain _ (slot_of (j := 7) hF (by kernel_rfl) (fun h => hnl (run_down hsh [2] 7 (by kernel_rfl) h)) e4))
  · exact wp_move (op_is ho (by kernel_rfl)) (plain _ (slot hF (by kernel_rfl) e9))
  · obtain ⟨v, q1, p1⟩ := has (a := a) hT (haf 3 (on_is ho (by kernel_rfl))) (d := 79) (by kernel_rfl)
    obtain rfl : v = .slice none 0 0 := p1
    exact wp_len (op_is ho (by kernel_rfl)) q1 Tryz.underlying58 (plain _ rfl)
  · obtain ⟨v, q1, p1⟩ := has (a := a) hT (haf 0 (on_is ho (by kernel_rfl))) (d := 76) (by kernel_rfl)
    obtain rfl : v = .agg emptyCells := p1
    exact wp_store_mid 30 (.tmp 2) (.tmp 76) (op_is ho (by kernel_rfl)) A 0 emptyCells (slot hF (by kernel_rfl) e2) q1 (thereE' hS.st) sizeE' (by kernel_rfl) (hK _ _ trivial (hS.setSt hA) fun j u _ _ h => h)
  · obtain ⟨v, q1, p1⟩ := has (a := a) hT (haf 1 (on_is ho (by kernel_rfl))) (d := 77) (by kernel_rfl)
    obtain rfl : v = .agg #[x, y] := p1
    exact wp_store_mid 23 (.tmp 3) (.tmp 77) (op_is ho (by kernel_rfl)) (A + 1) 0 #[x, y] (slot hF (by kernel_rfl) e3) q1 (put_plat hS.pl x y).2 (by kernel_rfl) (by simp [hx1, hy1]) (hK _ _ trivial (hS.setPl hA x y) fun j u _ _ h => h)
  · obtain ⟨v, q1, p1⟩ := has (a := a) hT (haf 2 (on_is ho (by kernel_rfl))) (d := 78) (by kernel_rfl)
    obtain rfl : v = m := p1
    exact wp_assign (x := .tmp 78) (op_is ho (by kernel_rfl)) (by rw [q1]; exact plain _ rfl)
  · obtain ⟨v, q1, p1⟩ := has (a := a) hT (haf 4 (on_is ho (by kernel_rfl))) (d := 80) (by kernel_rfl)
    obtain rfl : v = .int .i64 0 := p1
    exact wp_assign (x := .tmp 80) (op_is ho (by kernel_rfl)) (by rw [q1]; exact plain _ rfl)
  · exact wp_assign (x := .const (.int .i64 0)) (op_is ho (by kernel_rfl)) (plain _ rfl)

end Go.Proofs.YthhgageghkbjjaaGreat.Sv
