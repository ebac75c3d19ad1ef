/- slices.Chunk of 16 bytes by 52: one round. -/
import Derived.Test.YthhgageghkbjjaaGreatSb
import Derived.RangeFuncBound
import Derived.RangeFuncLeaves
import Derived.RangeFuncKeeps
import Derived.Shelf.Abstract
import Derived.Shelf.RegionOpen
import Derived.OwnWalkIn
import Derived.TacticsInMore
import Derived.LoopNIn
import Derived.LoopIn
namespace Go.Proofs.YthhgageghkbjjaaGreat.Sc
open Go.RowKit Go.Shelf Go.Proofs.YthhgageghkbjjaaGreat.Ra Go.Proofs.YthhgageghkbjjaaGreat.Re Go.Proofs.YthhgageghkbjjaaGreat.Sb
set_option maxRecDepth 8000

theorem chunk_c (p : Option Addr) (n c : Nat) (w : World) : Calls Tryz.prog 79 #[.slice p n c, .int .i64 52] w fun e w' => e = .returned (.func (.func 100) #[] #[.pointer (some ⟨w.heap.size, 0, none⟩), .pointer (some ⟨w.heap.size + 1, 0, none⟩)]) ∧ w' = (w.alloc (.cells #[.slice p n c] 44)).alloc (.cells #[.int .i64 52] 3) := by
  go_enter Tryz.func79, Tryz.ntmps79
  go_wp2
  go_ret
  exact ⟨rfl, rfl⟩

/-- What a round keeps: the two boxes of the iterator. -/
def Kp2 (Bs Bn : Nat) (W W' : World) : Prop := W'.heap[Bs]? = W.heap[Bs]? ∧ W'.heap[Bn]? = W.heap[Bn]?
theorem Kp2.trans {Bs Bn : Nat} {A B C : World} (h : Kp2 Bs Bn A B) (k : Kp2 Bs Bn B C) : Kp2 Bs Bn A C := ⟨k.1.trans h.1, k.2.trans h.2⟩
theorem Kp2.below {Bs Bn : Nat} {A B : World} (h : Below A.heap.size A B) (h1 : Bs < A.heap.size) (h2 : Bn < A.heap.size) : Kp2 Bs Bn A B := ⟨h.block Bs h1, h.block Bn h2⟩

set_option maxHeartbeats 2000000 in
theorem chunk1_in (F : Fence) (n : Nat) (h7 : F.fn 100) (hro : F.round = none) (hn : 1 ≤ n) (l Bs Bn g c : Nat) (hc : 16 ≤ c) (J Jx : List Unit → World → Prop)
    (hJ : ∀ pre W, J pre W → J pre W.drew)
    (hY : ∀ pre x W, J pre W → pre.length < 1 → YieldAt F (n - 1) Tryz.prog l #[.slice (some ⟨g, 0, none⟩) 16 16] W fun e W' =>
      (e = .returned (.bool true) ∧ J (pre ++ [x]) W' ∧ Kp2 Bs Bn W W') ∨ (e = .returned (.bool false) ∧ Jx (pre ++ [x]) W'))
    (W : World) (hBs : W.cell? ⟨Bs, 0, none⟩ = some (.slice (some ⟨g, 0, none⟩) 16 c)) (hBn : W.cell? ⟨Bn, 0, none⟩ = some (.int .i64 52)) (h0 : J [] W) :
    CallsIn F n Tryz.prog 100 #[.func (.yield l) #[] #[], .pointer (some ⟨Bs, 0, none⟩), .pointer (some ⟨Bn, 0, none⟩)] W fun e W' => (∃ v, e = .returned v) ∧
      ((∃ ys, ys = [()] ∧ J ys W') ∨ (∃ pre, Jx pre W')) := by
  refine callsIn_of_wp Tryz.func100 rfl h7 ?_ hro
  simp only [Tryz.ntmps100, List.size_toArray, List.length_cons, List.length_nil, Nat.reduceAdd, Nat.reduceSub, Array.replicate_succ, Array.replicate_zero, List.push_toArray, List.append_toArray, List.nil_append, List.cons_append]
  have hc0 : (16 : Int) ≤ (c : Int) := by omega
  gi_wp2
  gi_loopw [4] (fun i wr => ∃ k : Nat, k ≤ 1 ∧ i = .int .i64 ((52 * k : Nat) : Int) ∧ J (List.replicate k ()) wr ∧ Kp2 Bs Bn W wr) (fun i _ => 100 - (intOf i).toNat)
  case atStart => exact ⟨0, Nat.zero_le _, rfl, h0, rfl, rfl⟩
  case round =>
    obtain ⟨k, hk, rfl, hJs, hnx⟩ := hrel
    have c1 : wr.cell? ⟨Bs, 0, none⟩ = some (.slice (some ⟨g, 0, none⟩) 16 c) := (World.cell?_of_block hnx.1).trans hBs
    have c2 : wr.cell? ⟨Bn, 0, none⟩ = some (.int .i64 52) := (World.cell?_of_block hnx.2).trans hBn
    by_cases hlt : k = 0
    · subst hlt
      obtain ⟨fn, tmps, assign, body, hy, hR⟩ := hY [] () wr.drew (hJ _ _ hJs) (by decide)
      gi_wp2
      gi_region
      all_goals
        gi_wp2
        refine hR.mono ?_
        rintro e W3 (⟨rfl, hJ3, hk3⟩ | ⟨rfl, hJx3⟩)
        · have c3 : W3.cell? ⟨Bn, 0, none⟩ = some (.int .i64 52) := (World.cell?_of_block hk3.2).trans c2
          gi_wp2
          go_roundw
          case rel => exact ⟨1, by omega, rfl, hJ3, hnx.trans hk3⟩
          case measure => decide
        · gi_wp2
          refine bodyPost_ret (results_none rfl _ _ _) rfl ?_
          exact ⟨⟨_, rfl⟩, .inr ⟨_, hJx3⟩⟩
    · obtain rfl : k = 1 := by omega
      gi_wp2
      go_end0
      exact ⟨⟨_, rfl⟩, .inl ⟨_, rfl, hJs⟩⟩

theorem chunk_stops (n : Nat) (hn : 1 ≤ n) (Bs Bn g c : Nat) (hc : 16 ≤ c) (w : World) (hBs : w.cell? ⟨Bs, 0, none⟩ = some (.slice (some ⟨g, 0, none⟩) 16 c)) (hBn : w.cell? ⟨Bn, 0, none⟩ = some (.int .i64 52)) :
    SeqStopsK Fence.wide n Tryz.prog 100 #[.pointer (some ⟨Bs, 0, none⟩), .pointer (some ⟨Bn, 0, none⟩)] (fun _ : Unit => #[Value.slice (some ⟨g, 0, none⟩) 16 16]) (Kp2 Bs Bn) (fun ys => ys = [()]) (fun _ => True) 1 w := fun l J Jx W hW hJ _ hY h0 => by
  have h1 := World.block_lt_of_cell? w ⟨Bs, 0, none⟩ hBs
  have h2 := World.block_lt_of_cell? w ⟨Bn, 0, none⟩ hBn
  refine (chunk1_in Fence.wide n trivial rfl hn l Bs Bn g c hc J Jx (fun pre W1 h => hJ pre W1 W1.drew none h ⟨rfl, rfl, rfl, Nat.le_refl _, fun _ _ _ => rfl⟩ (fun _ e => by cases e)) hY W ((hW.cell (p := ⟨Bs, 0, none⟩) h1).trans hBs) ((hW.cell (p := ⟨Bn, 0, none⟩) h2).trans hBn) h0).mono ?_
  rintro e W' ⟨he, ⟨ys, rfl, hj⟩ | ⟨pre, hj⟩⟩
  · exact ⟨he, .inl ⟨_, rfl, hj⟩⟩
  · exact ⟨he, .inr ⟨_, trivial, hj⟩⟩
end Go.Proofs.YthhgageghkbjjaaGreat.Sc
