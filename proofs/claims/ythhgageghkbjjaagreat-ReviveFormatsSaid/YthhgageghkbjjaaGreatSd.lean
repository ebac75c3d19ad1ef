/- A region that draws its order, in a round. -/
import Derived.Test.YthhgageghkbjjaaGreatSc
import Derived.Test.YthhgageghkbjjaaGreatOw
namespace Go.Proofs.YthhgageghkbjjaaGreat.Sd
open Go
variable {P : Program} {ops : Array Oper} {Q : Exit → Act → World → Prop}
theorem wpIn_region_each {l n : Nat} (T : (Nat → Prop) → Nat → Value → World → Prop) (S : (Nat → Prop) → World → Prop) {a0 : Act} {w : World} {id : Nat} (hm : P.follows .mixedOrders = true) (hQ : ¬ LetsOut Q) (hd : ops.toList.all (fun o => match o.op with | .defer _ => false | _ => true) = true) (ht : tidy ops a0.tmps.size = true)
    (hS : S (fun _ => False) w.drew) (hstep : ∀ (i : Nat) (o : Oper), ops[i]? = some o → Owes P ops Q T S a0 i o)
    (hend : ∀ L a w, (∀ i, i < ops.size → L i) → Fr ops L a0 a → S L w → (∀ (i : Nat) (o : Oper), ops[i]? = some o → ∃ v, At a o.dst v ∧ T L i v w) → Q .normal a w) : (Code.region id ops true).wpIn (Fence.wide.inRound l) n P Q a0 w := by
  refine wpIn_region_any hm (Sb.wpAnyIn_of_wpAny hQ (fun o ho c hc => ?_) _ _ _ _ (wpAny_each T S ht hS hstep hend))
  have := List.all_eq_true.1 hd o ho
  rw [hc] at this
  cases this

end Go.Proofs.YthhgageghkbjjaaGreat.Sd
