/- A round of a range over a function: what a plain word says of an operation holds in the round, at the wide fence. -/
import Derived.Test.YthhgageghkbjjaaGreatSa
import Derived.RangeFuncNested
import Derived.RangeFuncCalls
import Derived.OrdersIn
import Derived.Deep.RegionHeld
namespace Go.Proofs.YthhgageghkbjjaaGreat.Sb
open Go

theorem wpIn_of_wp {l n : Nat} {P : Program} {o : Oper} {a : Act} {w : World} {K : Act → World → Prop} {Q : Exit → Act → World → Prop} (hsem : o.semAt (some l) a.eval = execOp a.eval o) (h : o.wp P a w K Q) : o.wpIn (Fence.wide.inRound l) n P a w K Q := by
  unfold Oper.wp at h
  refine ⟨fun _ _ => trivial, ?_⟩
  rw [show (Fence.wide.inRound l).round = some l from rfl, hsem]
  generalize (execOp a.eval o).run P w = r at *
  cases r with
  | ok x w' =>
    cases x
    case value => exact h
    case skip => exact h
    case defer => exact h
    case enter => exact ⟨(fun h' => by cases h'), CallsIn.inRound l (callsIn_wide.2 h)⟩
    case row => exact ⟨(fun h' => by cases h'), fun c cs _ => let ⟨v, w'', r, s⟩ := h c cs; ⟨v, w'', r, stepsIn_wide.2 s⟩⟩
    all_goals exact h.elim
  | halt x w' => cases x <;> exact h

theorem wpOpIn_of_wpOp {l n : Nat} {P : Program} {ops : Array Oper} {i : Nat} {a : Act} {w : World} {K : Act → World → Prop} {Q : Exit → Act → World → Prop} (hQ : ¬ LetsOut Q) (hd : ∀ o ∈ ops.toList, ∀ c, o.op ≠ .defer c) (h : wpOp P ops Q i K a w) : wpOpIn (Fence.wide.inRound l) n P ops Q i K a w := by
  unfold wpOp at h
  unfold wpOpIn
  cases ho : ops[i]? with
  | none => rw [ho] at h; exact h
  | some o =>
    rw [ho] at h
    dsimp only at h ⊢
    have hm : o ∈ ops.toList := by
      have := Array.mem_of_getElem? ho
      exact Array.mem_toList_iff.2 this
    split
    · rename_i hw
      rw [if_pos hw] at h
      rcases h with h | ⟨_, h⟩
      · exact wpIn_of_wp (Oper.semAt_some l _ o (hd o hm)) h
      · exact absurd h hQ
    · rename_i hw
      rw [if_neg hw] at h
      exact ⟨fun _ _ => trivial, h⟩
theorem wpAnyIn_of_wpAny {l n : Nat} {P : Program} {md : Region.Mode} {ops : Array Oper} {Q : Exit → Act → World → Prop} (hQ : ¬ LetsOut Q) (hd : ∀ o ∈ ops.toList, ∀ c, o.op ≠ .defer c) :
    ∀ (fuel : Nat) (listed : Array Bool) (a : Act) (w : World), wpAny P md ops Q fuel listed a w → wpAnyIn (Fence.wide.inRound l) n P md ops Q fuel listed a w
  | 0, _, _, _, h => h
  | fuel + 1, _, _, _, h => ⟨h.1, fun i hi => wpOpIn_mono (fun a' w' h' => wpAnyIn_of_wpAny hQ hd fuel _ a' w' h') (wpOpIn_of_wpOp hQ hd (h.2 i hi))⟩
theorem wpIn_region_held {l n id : Nat} {P : Program} {ops : Array Oper} {Q : Exit → Act → World → Prop} {a : Act} {w : World} (S : World → Prop) (hm : P.follows .mixedOrders = true) (hQ : ¬ LetsOut Q) (hd : ops.toList.all (fun o => match o.op with | .defer _ => false | _ => true) = true) (hS : S w.drew)
    (h : S w.drew → wpAnyH P .any ops Q S ops.size (Array.replicate ops.size false) a w.drew) : (Code.region id ops true).wpIn (Fence.wide.inRound l) n P Q a w := by
  refine wpIn_region_any hm (wpAnyIn_of_wpAny hQ (fun o ho c hc => ?_) _ _ _ _ (wpAny_of_held _ _ _ _ (h hS)))
  have := List.all_eq_true.1 hd o ho
  rw [hc] at this
  cases this
end Go.Proofs.YthhgageghkbjjaaGreat.Sb
