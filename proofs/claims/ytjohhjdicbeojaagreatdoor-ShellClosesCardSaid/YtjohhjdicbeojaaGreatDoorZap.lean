/- Texts joined: Ri Ow. -/
import Derived.OrdersIn
import Derived.Great.BuildSlice
import Derived.Laws.Cover3
import Derived.Deep.RegionHeldLaw
import Derived.Test.YtjohhjdicbeojaaGreatDoorZao
namespace Go.Proofs.YtjohhjdicbeojaaGreatDoor.Ri
open Go.RowKit Go.Proofs.YtjohhjdicbeojaaGreatDoor.Ra Go.Proofs.YtjohhjdicbeojaaGreatDoor.Re Go.Proofs.YtjohhjdicbeojaaGreatDoor.Rf Go.Proofs.YtjohhjdicbeojaaGreatDoor.Rg Go.Proofs.YtjohhjdicbeojaaGreatDoor.Rh
theorem grownBy_setCells (b : Nat) : ∀ (vs : List Value) (o : Nat) (w : World), w.grownBy (w.setCells b o vs) (some b)
  | [], _, _ => World.grownBy.refl _ _
  | v :: r, o, w => by
    rw [World.setCells]
    have h1 : w.grownBy (w.setCell ⟨b, o, none⟩ v) (some b) := ⟨rfl, rfl, rfl, by simp, fun k _ hne => Below.heap_setCell w _ v k (fun e => hne (by rw [e]))⟩
    exact h1.trans (grownBy_setCells b r (o + 1) _)
theorem setCells_blk {b : Nat} {t : TypeId} : ∀ (vs : List Value) (o : Nat) (w : World) (cs : Array Value), w.heap[b]? = some (.cells cs t (0, 0)) → o + vs.length ≤ cs.size →
    (w.setCells b o vs).heap[b]? = some (.cells (cs.toList.take o ++ vs ++ cs.toList.drop (o + vs.length)).toArray t (0, 0))
  | [], o, w, cs, h, _ => by
    rw [World.setCells, h]
    simp
  | v :: r, o, w, cs, h, hf => by
    rw [World.setCells]
    have h1 := blk_set h o v
    have hlt : o < cs.size := by simp at hf; omega
    rw [setCells_blk r (o + 1) _ _ h1 (by simp at hf ⊢; omega)]
    refine congrArg (fun z : List Value => some (Obj.cells z.toArray t (0, 0))) ?_
    apply List.ext_getElem?
    intro k
    simp only [Array.toList_setIfInBounds, List.length_cons]
    simp only [List.append_assoc, List.getElem?_append, List.length_take, List.length_set, Array.length_toList, List.getElem?_take, List.getElem?_set, List.getElem?_drop]
    rcases Nat.lt_trichotomy k o with hk | hk | hk
    · have e1 : k < min (o + 1) cs.size := by omega
      have e2 : k < min o cs.size := by omega
      simp [e1, e2, hk, Nat.lt_succ_of_lt hk, Nat.ne_of_gt hk]
    · subst hk
      have e1 : k < min (k + 1) cs.size := by omega
      have e2 : ¬ k < min k cs.size := by omega
      have e3 : k - min k cs.size = 0 := by omega
      simp [e1, e2, e3, hlt]
    · have e1 : ¬ k < min (o + 1) cs.size := by omega
      have e2 : ¬ k < min o cs.size := by omega
      have e3 : k - min o cs.size = (k - min (o + 1) cs.size) + 1 := by omega
      rw [if_neg e1, if_neg e2, e3]
      simp only [List.length_cons, Nat.add_lt_add_iff_right, List.getElem?_cons_succ]
      by_cases h5 : k - min (o + 1) cs.size < r.length
      · simp [h5]
      · rw [if_neg h5, if_neg h5, if_neg (by omega)]
        congr 1
        omega
/-- A sector more. -/
def splice (l : List UInt8) (o : Nat) (x : List UInt8) : List UInt8 := l.take o ++ x ++ l.drop (o + x.length)
theorem splice_len (l : List UInt8) (o : Nat) (x : List UInt8) (h : o + x.length ≤ l.length) : (splice l o x).length = l.length := by
  unfold splice
  simp
  omega
def setNow (d : Dev) (i : Nat) (l : List UInt8) : Dev := { d with now := splice d.now (i * 64) l }
def addLoose (d : Dev) (i : Nat) (l : List UInt8) : Dev := { d with loose := d.loose ++ [((i : Int), l)] }
def putDev (d : Dev) (i : Nat) (l : List UInt8) : Dev := addLoose (setNow d i l) i l
theorem dev_ne {B : Nat} {w : World} {D S N : Nat} {lv : Value} {d : Dev} (h : DevAt B w D S N lv d) : D ≠ S ∧ D ≠ N := by
  refine ⟨fun e => ?_, fun e => ?_⟩
  · have h1 := h.dev
    rw [e, h.sure] at h1
    injection (Option.some.inj h1) with _ h2 _
    exact absurd h2 (by decide)
  · have h1 := h.dev
    rw [e, h.now] at h1
    injection (Option.some.inj h1) with _ h2 _
    exact absurd h2 (by decide)
theorem loose_block {B : Nat} {w : World} {D S N : Nat} {lv : Value} {d : Dev} (h : DevAt B w D S N lv d) (g : Nat) (hg : lv.ownBlock = some g) : B ≤ g ∧ ∃ cur, w.heap[g]? = some (.cells cur 115 (0, 0)) := by
  rcases h.loose.2 with ⟨hv, _⟩ | ⟨g', cap, cur, hv, hg', hh, _⟩
  · rw [hv] at hg; cases hg
  · rw [hv] at hg
    obtain rfl := Option.some.inj hg
    exact ⟨hg', _, hh⟩
theorem put13 {B : Nat} {w : World} {D S N : Nat} {lv : Value} {d : Dev} (h : DevAt B w D S N lv d) (i : Nat) (hi : i < d.n) (l : List UInt8) (hl : l.length = 64) :
    DevAt B (w.setCells N (i * 64) (byteVals l)) D S N lv (setNow d i l) ∧ Step B w (w.setCells N (i * 64) (byteVals l)) := by
  have hg := grownBy_setCells N (byteVals l) (i * 64) w
  have hL := h.lt
  obtain ⟨hDS, hDN⟩ := dev_ne h
  have h1 : (i + 1) * 64 ≤ d.n * 64 := Nat.mul_le_mul_right _ hi
  have hfit : i * 64 + l.length ≤ d.now.length := by rw [hl, h.lnow]; omega
  have hb := setCells_blk (byteVals l) (i * 64) w _ h.now (by rw [byteVals_len, List.size_toArray, byteVals_len]; exact hfit)
  have hbe : ((byteVals d.now).toArray.toList.take (i * 64) ++ byteVals l ++ (byteVals d.now).toArray.toList.drop (i * 64 + (byteVals l).length)) = byteVals (splice d.now (i * 64) l) := by
    unfold splice
    rw [byteVals_app, byteVals_app, byteVals_len]
    unfold byteVals
    rw [List.map_take, List.map_drop]
  rw [hbe] at hb
  have keep : ∀ b, b ≠ N → b < w.heap.size → (w.setCells N (i * 64) (byteVals l)).heap[b]? = w.heap[b]? := fun b hb hlt => hg.block b hlt (fun e => hb (Option.some.inj e))
  refine ⟨⟨h.baseD, h.baseS, h.baseN, h.ne, (keep D hDN h.lt).trans h.dev, (keep S h.ne (lt_of_block h.sure)).trans h.sure, hb, h.lsure, ?_, h.n1, h.n2, ?_, h.each, h.few, h.aft⟩, Step.of_grown hg h.now rfl h.baseN⟩
  · show (splice d.now (i * 64) l).length = d.n * 64
    rw [splice_len _ _ _ hfit, h.lnow]
  · refine ⟨h.loose.1, ?_⟩
    rcases h.loose.2 with hn | ⟨g, cap, cur, hv, hgB, hh, r⟩
    · exact Or.inl hn
    · refine Or.inr ⟨g, cap, cur, hv, hgB, (keep g (fun e => ?_) (lt_of_block hh)).trans hh, r⟩
      have h1 := h.now
      rw [← e, hh] at h1
      injection (Option.some.inj h1) with _ h2 _
      exact absurd h2 (by decide)
theorem looseCells_snoc (l : List (Int × List UInt8)) (x : Int × List UInt8) : looseCells (l ++ [x]) = looseCells l ++ (.int .i64 x.1 :: byteVals x.2) := by
  unfold looseCells
  rw [List.flatMap_append]
  simp
theorem put14 {B : Nat} {w w3 : World} {D S N : Nat} {lv lv' : Value} {d : Dev} (h : DevAt B w D S N lv d) (i : Nat) (hi : i < d.n) (l : List UInt8) (hl : l.length = 64) (hfew : d.loose.length + 1 ≤ 100000) (o : Obj)
    (hown : w3.ownsRow B 115 65 lv' (d.loose.length + 1) (looseCells d.loose ++ (.int .i64 (i : Int) :: byteVals l))) (hg : (w.alloc o).grownBy w3 lv.ownBlock) :
    DevAt B (w3.setCell ⟨D, 2, none⟩ lv') D S N lv' (addLoose d i l) ∧ Step B w (w3.setCell ⟨D, 2, none⟩ lv') := by
  have hL := h.lt
  obtain ⟨hDS, hDN⟩ := dev_ne h
  have other : ∀ (b : Nat) (cs : Array Value) (t : TypeId) (fz : Nat × Nat), w.heap[b]? = some (.cells cs t fz) → t ≠ 115 → lv.ownBlock ≠ some b := fun b cs t fz hb ht e => by
    obtain ⟨_, cur, hc⟩ := loose_block h b e
    rw [hb] at hc
    injection (Option.some.inj hc) with _ h2 _
    exact ht h2
  have keep : ∀ (b : Nat), b < w.heap.size → lv.ownBlock ≠ some b → w3.heap[b]? = w.heap[b]? := fun b hlt hne => by
    rw [hg.block b (by rw [sz_alloc]; omega) (fun e => hne e.symm)]
    exact Below.heap_alloc w o b hlt
  have hD3 : w3.heap[D]? = _ := (keep D h.lt (other D _ _ _ h.dev (by decide))).trans h.dev
  have hS3 := (keep S (lt_of_block h.sure) (other S _ _ _ h.sure (by decide))).trans h.sure
  have hN3 := (keep N (lt_of_block h.now) (other N _ _ _ h.now (by decide))).trans h.now
  have hB := h.size
  have hlen : (addLoose d i l).loose.length = d.loose.length + 1 := by unfold addLoose; simp
  have s1 : Step B w w3 := by
    have sa : Step B w (w.alloc o) := (Step.refl B w).alloc hB o
    refine sa.trans ?_
    cases hob : lv.ownBlock with
    | none =>
      rw [hob] at hg
      exact Step.of (B := B) ⟨hg.os, hg.tape, hg.output, hg.size, fun k hk => hg.block k hk (fun e => by cases e)⟩ (by rw [sz_alloc]; omega)
    | some g =>
      rw [hob] at hg
      obtain ⟨hgB, cur, hc⟩ := loose_block h g hob
      exact Step.of_grown hg (blk_old hc o) rfl hgB
  refine ⟨⟨h.baseD, h.baseS, h.baseN, h.ne, blk_set hD3 2 _, blk_set_other hS3 (fun e => hDS e.symm) _, blk_set_other hN3 (fun e => hDN e.symm) _, h.lsure, h.lnow, h.n1, h.n2, ?_, ?_, by rw [hlen]; exact hfew, h.aft⟩, s1.trans (Step.set_dev hD3 rfl h.baseD 2 _)⟩
  · rw [hlen]
    show World.ownsRow _ B _ 65 lv' _ (looseCells (d.loose ++ [((i : Int), l)]))
    rw [looseCells_snoc]
    refine ⟨hown.1, ?_⟩
    rcases hown.2 with hn | ⟨g, cap, cur, hv, hgB, hh, r⟩
    · exact Or.inl hn
    · refine Or.inr ⟨g, cap, cur, hv, hgB, blk_set_other hh (fun e => ?_) _, r⟩
      obtain rfl : g = D := e
      rw [hD3] at hh
      injection (Option.some.inj hh) with _ h2 _
      exact absurd h2 (by decide)
  · intro x hx
    rcases List.mem_append.1 hx with hx | hx
    · exact h.each x hx
    · obtain rfl : x = ((i : Int), l) := by simpa using hx
      exact ⟨hl, by show (0 : Int) ≤ (i : Int); omega, by show (i : Int) < (d.n : Int); omega⟩
end Go.Proofs.YtjohhjdicbeojaaGreatDoor.Ri
namespace Go.Proofs.YtjohhjdicbeojaaGreatDoor.Sd
open Go
variable {P : Program} {ops : Array Oper} {Q : Exit → Act → World → Prop}
def At (a : Act) : Option Tmp → Value → Prop
  | some d, v => a.tmps[d]? = some v
  | none, _ => True
structure Fr (ops : Array Oper) (L : Nat → Prop) (a0 a : Act) : Prop where
  defers : a.defers = a0.defers
  size : a.tmps.size = a0.tmps.size
  same : ∀ k : Nat, (∀ (i : Nat) (o : Oper), L i → ops[i]? = some o → o.dst ≠ some k) → a.tmps[k]? = a0.tmps[k]?
/-- It waits for operation k. -/
def waits (o : Oper) (k : Nat) : Bool := o.after.any fun e => Region.binds .any e && e.on == k
def tidyAt (ops : Array Oper) (n : Nat) (i : Nat) : Bool := match ops[i]? with
  | some o => o.guard.isNone && o.after.all (fun e => !Region.binds .any e || decide (e.on < i)) && (match o.dst with | some d => decide (d < n) | none => true) && (List.range ops.size).all (fun j => j == i || match o.dst, (ops[j]?).bind (·.dst) with | some d, some d' => d != d' | _, _ => true)
  | none => true
def tidy (ops : Array Oper) (n : Nat) : Bool := (List.range ops.size).all (tidyAt ops n)
theorem tidy_at {n i : Nat} {o : Oper} (h : tidy ops n = true) (ho : ops[i]? = some o) :
    o.guard = none ∧ (∀ e ∈ o.after, Region.binds .any e = true → e.on < i) ∧ (∀ d, o.dst = some d → d < n) ∧ ∀ (j : Nat) (o' : Oper), ops[j]? = some o' → j ≠ i → ∀ d, o.dst = some d → o'.dst ≠ some d := by
  have hi : i < ops.size := (Array.getElem?_eq_some_iff.1 ho).1
  have h1 := List.all_eq_true.1 h i (List.mem_range.2 hi)
  unfold tidyAt at h1
  rw [ho] at h1
  simp only [Bool.and_eq_true] at h1
  obtain ⟨⟨⟨h1, h2⟩, h3⟩, h4⟩ := h1
  refine ⟨Option.isNone_iff_eq_none.1 h1, fun e he => ?_, fun d hd => ?_, fun j o' hj hne d hd hd' => ?_⟩
  · have := Array.all_eq_true'.1 h2 e he
    intro hb
    rw [hb] at this
    exact of_decide_eq_true (by simpa using this)
  · rw [hd] at h3
    exact of_decide_eq_true h3
  · have := List.all_eq_true.1 h4 j (List.mem_range.2 (Array.getElem?_eq_some_iff.1 hj).1)
    rw [hd, hj] at this
    simp [hd', hne] at this
/-- What one operation owes. L: which operations have come up. -/
def Owes (P : Program) (ops : Array Oper) (Q : Exit → Act → World → Prop) (T : (Nat → Prop) → Nat → Value → World → Prop) (S : (Nat → Prop) → World → Prop) (a0 : Act) (i : Nat) (o : Oper) : Prop :=
  ∀ (L : Nat → Prop) (a : Act) (w : World) (K : Act → World → Prop), (∀ (j : Nat) (oj : Oper), L j → ops[j]? = some oj → ∀ k, waits oj k = true → L k) → ¬ L i → (∀ k, waits o k = true → L k) →
    Fr ops L a0 a → S L w → (∀ (j : Nat) (oj : Oper), L j → ops[j]? = some oj → ∃ v, At a oj.dst v ∧ T L j v w) →
    (∀ v w', T (fun k => L k ∨ k = i) i v w' → S (fun k => L k ∨ k = i) w' → (∀ j u, j < ops.size → L j → T L j u w → T (fun k => L k ∨ k = i) j u w') → K (a.put o.dst v) w') → o.wp P a w K Q
def come (listed : Array Bool) : Nat → Prop := fun k => listed.getD k false = true
theorem come_set {listed : Array Bool} {i : Nat} (h : i < listed.size) : come (listed.setIfInBounds i true) = fun k => come listed k ∨ k = i := by
  funext k
  unfold come
  apply propext
  by_cases hk : k = i
  · subst hk
    simp [Array.getD_eq_getD_getElem?, h]
  · simp [Array.getD_eq_getD_getElem?, hk, Ne.symm hk]
structure Inv (ops : Array Oper) (T : (Nat → Prop) → Nat → Value → World → Prop) (S : (Nat → Prop) → World → Prop) (a0 : Act) (fuel : Nat) (listed : Array Bool) (a : Act) (w : World) : Prop where
  fr : Fr ops (come listed) a0 a
  s : S (come listed) w
  size : listed.size = ops.size
  shut : ∀ (j : Nat) (oj : Oper), come listed j → ops[j]? = some oj → ∀ k, waits oj k = true → come listed k
  got : ∀ (i : Nat) (o : Oper), come listed i → ops[i]? = some o → ∃ v, At a o.dst v ∧ T (come listed) i v w
  count : listed.count false = fuel
theorem ready_nil {listed : Array Bool} {n : Nat} (ht : tidy ops n = true) (hs : listed.size = ops.size) (h : Region.ready .any ops listed = []) : ∀ i, i < ops.size → listed.getD i false = true := by
  intro i
  induction i using Nat.strongRecOn with
  | ind i ih =>
    intro hi
    obtain ⟨o, ho⟩ : ∃ o, ops[i]? = some o := ⟨_, Array.getElem?_eq_getElem hi⟩
    obtain ⟨_, h2, _, _⟩ := tidy_at ht ho
    by_cases hl : listed.getD i false = true
    · exact hl
    · exfalso
      have hm : i ∈ Region.ready .any ops listed := by
        unfold Region.ready
        refine List.mem_filter.2 ⟨List.mem_range.2 hi, ?_⟩
        rw [ho]
        have h5 : listed.getD i true = false := by
          have hlt : i < listed.size := by rw [hs]; exact hi
          simp only [Array.getD, hlt, dif_pos] at hl ⊢
          simpa using hl
        simp only [h5, Bool.not_false, Bool.true_and, Option.map_some, Option.getD_some]
        refine Array.all_eq_true'.2 fun e he => ?_
        by_cases hb : Region.binds .any e = true
        · have := ih e.on (h2 e he hb) (Nat.lt_trans (h2 e he hb) hi)
          simp [this]
        · simp [hb]
      rw [h] at hm
      cases hm
theorem wpAny_inv {T : (Nat → Prop) → Nat → Value → World → Prop} {S : (Nat → Prop) → World → Prop} {a0 : Act} (ht : tidy ops a0.tmps.size = true)
    (hstep : ∀ (i : Nat) (o : Oper), ops[i]? = some o → Owes P ops Q T S a0 i o)
    (hend : ∀ L a w, (∀ i, i < ops.size → L i) → Fr ops L a0 a → S L w → (∀ (i : Nat) (o : Oper), ops[i]? = some o → ∃ v, At a o.dst v ∧ T L i v w) → Q .normal a w) :
    ∀ (fuel : Nat) (listed : Array Bool) (a : Act) (w : World), Inv ops T S a0 fuel listed a w → wpAny P .any ops Q fuel listed a w
  | 0, listed, a, w, h => by
    have hall : ∀ i, i < ops.size → listed.getD i false = true := fun i hi => by
      have hlt : i < listed.size := by rw [h.size]; exact hi
      have h0 := h.count
      rw [Array.count_eq_zero] at h0
      rw [Array.getD_eq_getD_getElem?, Array.getElem?_eq_getElem hlt, Option.getD_some]
      cases hc : listed[i] with
      | true => rfl
      | false => exact absurd (hc ▸ Array.getElem_mem hlt) h0
    refine ⟨?_, hend _ a w hall h.fr h.s (fun i o ho => h.got i o (hall i (Array.getElem?_eq_some_iff.1 ho).1) ho)⟩
    unfold Region.ready
    refine List.filter_eq_nil_iff.2 fun i hi => ?_
    have h1 := hall i (List.mem_range.1 hi)
    have hlt : i < listed.size := by rw [h.size]; exact List.mem_range.1 hi
    simp only [Array.getD, hlt, dif_pos] at h1 ⊢
    simp at h1 ⊢
    simp [h1]
  | fuel + 1, listed, a, w, h => by
    refine ⟨fun hn => hend _ a w (ready_nil ht h.size hn) h.fr h.s (fun i o ho => h.got i o (ready_nil ht h.size hn i (Array.getElem?_eq_some_iff.1 ho).1) ho), fun i hi => ?_⟩
    obtain ⟨hi1, hi2⟩ := List.mem_filter.1 hi
    have hlt : i < ops.size := List.mem_range.1 hi1
    obtain ⟨o, ho⟩ : ∃ o, ops[i]? = some o := ⟨_, Array.getElem?_eq_getElem hlt⟩
    obtain ⟨hg, hlow, hin, hdst⟩ := tidy_at ht ho
    rw [ho] at hi2
    simp only [Option.map_some, Option.getD_some, Bool.and_eq_true] at hi2
    obtain ⟨hun, hdeps⟩ := hi2
    have hll : i < listed.size := by rw [h.size]; exact hlt
    have hfalse : listed[i] = false := by
      simp only [Array.getD, hll, dif_pos] at hun
      simpa using hun
    have hnot : ¬ come listed i := by
      unfold come
      rw [Array.getD_eq_getD_getElem?, Array.getElem?_eq_getElem hll, Option.getD_some, hfalse]
      exact Bool.false_ne_true
    have hafter : ∀ k, waits o k = true → come listed k := fun k hk => by
      obtain ⟨e, he, hej⟩ := Array.any_eq_true'.1 hk
      rw [Bool.and_eq_true] at hej
      obtain rfl : e.on = k := by simpa using hej.2
      have := Array.all_eq_true'.1 hdeps e he
      rw [hej.1] at this
      show listed.getD e.on false = true
      simpa using this
    unfold wpOp
    rw [ho]
    dsimp only
    rw [if_pos (by simp [Region.wanted, hg])]
    refine Or.inl (hstep i o ho (come listed) a w _ h.shut hnot hafter h.fr h.s h.got (fun v w' hT hS hMw => ?_))
    refine wpAny_inv ht hstep hend fuel _ _ _ ⟨?_, ?_, by simp [h.size], ?_, fun j oj hj hoj => ?_, ?_⟩
    · rw [come_set hll]
      cases hd : o.dst with
      | none => exact ⟨h.fr.defers, h.fr.size, fun k hk => h.fr.same k fun j oj hj => hk j oj (.inl hj)⟩
      | some d =>
        refine ⟨h.fr.defers, by simp [Act.put, h.fr.size], fun k hk => ?_⟩
        have : d ≠ k := fun e => hk i o (.inr rfl) ho (e ▸ hd)
        simp [Act.put, this, h.fr.same k fun j oj hj => hk j oj (.inl hj)]
    · rw [come_set hll]; exact hS
    · intro j oj hj hoj k hk
      rw [come_set hll] at hj ⊢
      rcases hj with hj | rfl
      · exact Or.inl (h.shut j oj hj hoj k hk)
      · rw [ho] at hoj
        obtain rfl := Option.some.inj hoj
        exact Or.inl (hafter k hk)
    · rw [come_set hll] at hj ⊢
      by_cases hji : j = i
      · subst hji
        rw [ho] at hoj
        obtain rfl := Option.some.inj hoj
        refine ⟨v, ?_, hT⟩
        cases hd : o.dst with
        | none => trivial
        | some d =>
          show (a.put (some d) v).tmps[d]? = some v
          simp [Act.put, h.fr.size, hin d hd]
      · have hj' : come listed j := hj.resolve_right hji
        obtain ⟨u, hu, hTu⟩ := h.got j oj hj' hoj
        refine ⟨u, ?_, hMw _ _ (Array.getElem?_eq_some_iff.1 hoj).1 hj' hTu⟩
        cases hdj : oj.dst with
        | none => trivial
        | some dj =>
          rw [hdj] at hu
          cases hd : o.dst with
          | none => exact hu
          | some d =>
            have : d ≠ dj := fun e => hdst j oj hoj hji d hd (e ▸ hdj)
            show (a.put (some d) v).tmps[dj]? = some u
            have hu' : a.tmps[dj]? = some u := hu
            simpa [Act.put, this] using hu'
    · have hc := h.count
      have e1 : listed.setIfInBounds i true = listed.set i true hll := by simp [Array.setIfInBounds, hll]
      rw [e1, Array.count_set, hc, hfalse]
      simp
theorem count_rep (n : Nat) : (Array.replicate n false).count false = n := by simp
/-- The beginning. -/
theorem wpAny_each (T : (Nat → Prop) → Nat → Value → World → Prop) (S : (Nat → Prop) → World → Prop) {a0 : Act} {w : World} (ht : tidy ops a0.tmps.size = true)
    (hS : S (fun _ => False) w) (hstep : ∀ (i : Nat) (o : Oper), ops[i]? = some o → Owes P ops Q T S a0 i o)
    (hend : ∀ L a w, (∀ i, i < ops.size → L i) → Fr ops L a0 a → S L w → (∀ (i : Nat) (o : Oper), ops[i]? = some o → ∃ v, At a o.dst v ∧ T L i v w) → Q .normal a w) : wpAny P .any ops Q ops.size (Array.replicate ops.size false) a0 w := by
  have h0 : come (Array.replicate ops.size false) = fun _ => False := by
    funext k
    unfold come
    apply propext
    rw [Array.getD_eq_getD_getElem?, Array.getElem?_replicate]
    split <;> simp
  refine wpAny_inv ht hstep hend _ _ _ _ ⟨⟨rfl, rfl, fun _ _ => rfl⟩, by rw [h0]; exact hS, by simp, fun j oj hj => ?_, fun i o hl => ?_, count_rep _⟩
  · rw [h0] at hj; exact hj.elim
  · rw [h0] at hl; exact hl.elim
theorem wp_region_each (T : (Nat → Prop) → Nat → Value → World → Prop) (S : (Nat → Prop) → World → Prop) {a0 : Act} {w : World} {id : Nat} (hm : P.follows .mixedOrders = true) (ht : tidy ops a0.tmps.size = true)
    (hS : S (fun _ => False) w.drew) (hstep : ∀ (i : Nat) (o : Oper), ops[i]? = some o → Owes P ops Q T S a0 i o)
    (hend : ∀ L a w, (∀ i, i < ops.size → L i) → Fr ops L a0 a → S L w → (∀ (i : Nat) (o : Oper), ops[i]? = some o → ∃ v, At a o.dst v ∧ T L i v w) → Q .normal a w) : (Code.region id ops true).wp P Q a0 w :=
  wp_region_any hm (wpAny_each T S ht hS hstep hend)
end Go.Proofs.YtjohhjdicbeojaaGreatDoor.Sd
namespace Go.Proofs.YtjohhjdicbeojaaGreatDoor.Se
open Go Go.RowKit Go.Proofs.YtjohhjdicbeojaaGreatDoor.Sd
variable {P : Program} {o : Oper} {a : Act} {w : World} {K : Act → World → Prop} {Q : Exit → Act → World → Prop}
theorem eval_at {k : Nat} {v : Value} (h : a.tmps[k]? = some v) : a.eval (.tmp k) = v := by
  show a.tmps.getD k undef = v
  rw [Array.getD_eq_getD_getElem?, h]
  rfl
theorem wp_value {v : Value} {w' : World} (hr : (execOp a.eval o).run P w = .ok (.value v) w') (h : K (a.put o.dst v) w') : o.wp P a w K Q := by
  unfold Oper.wp
  rw [hr]
  exact h
theorem wp_move {x : Operand} (ho : o.op = .move x) (h : K (a.put o.dst (a.eval x)) w) : o.wp P a w K Q := wp_value (by simp [execOp, ho]) h
theorem wp_assign {x : Operand} (ho : o.op = .assign x) (h : K (a.put o.dst (a.eval x)) w) : o.wp P a w K Q := wp_value (by simp [execOp, ho]) h
theorem wp_load1 {ty : TypeId} {x : Operand} {p : Addr} {v : Value} (ho : o.op = .load ty x) (hx : a.eval x = .pointer (some p)) (hc : w.cell? p = some v) (hagg : ∀ w, (isAgg ty).run P w = .ok false w) (h : K (a.put o.dst v) w) : o.wp P a w K Q := by
  refine wp_value ?_ h
  simp only [execOp, ho, hx, Instr.loadAt, Instr.sureAddr, Sem.run_bind, Sem.run_pure, Result.andThen_ok, loadVar, hagg]
  simp [go_sem, hc]
theorem wp_call {f : Nat} {args : Array Operand} {ts : Array TypeId} {vs : Array Value} (ho : o.op = .call { callee := .value (.func f), args := args, argTypes := ts }) (hv : args.map a.eval = vs) (eg : ∀ w, (callFunc f vs).run P w = .ok (.enter f vs) w)
    (h : Calls P f vs w fun e w' => ∃ v, e = .returned v ∧ K (a.put o.dst v) w') : o.wp P a w K Q := by
  unfold Oper.wp
  have : (execOp a.eval o).run P w = .ok (.enter f vs) w := by
    simp only [execOp, ho, resolve, invoke, Sem.run_bind, hv]
    simp [go_sem, eg]
  rw [this, Oper.upon_enter]
  refine h.mono ?_
  rintro e w' ⟨v, rfl, hk⟩
  exact hk
theorem wp_len {x : Operand} {t : TypeId} {p : Option Addr} {n c : Nat} (ho : o.op = .call { callee := .builtin .len, args := #[x], argTypes := #[t] }) (hx : a.eval x = .slice p n c) {e : TypeId} (hu : P.underlying t = some (.slice e)) (h : K (a.put o.dst (.int .i64 (n : Int))) w) : o.wp P a w K Q := by
  refine wp_value ?_ h
  simp only [execOp, ho, resolve, invoke, builtin, Sem.run_bind, Sem.run_pure, Result.andThen_ok, List.map_toArray, List.map_cons, List.map_nil, hx]
  simp [go_sem, Builtin.len_, underlying, hu]
theorem fill1 (zs : Array Value) (h : zs.size = 1) (v : Value) (hv : v.cells = #[v]) : Instr.fill (fun i => some (i * 1, 1)) zs [(0, v)] = some #[v] := by
  cases zs with
  | mk l =>
    match l, h with
    | [_], _ => simp [Instr.fill, hv]
theorem fill2 (zs : Array Value) (h : zs.size = 2) (v u : Value) (hv : v.cells = #[v]) (hu : u.cells = #[u]) : Instr.fill (fun i => some (i * 1, 1)) zs [(0, v), (1, u)] = some #[v, u] := by
  cases zs with
  | mk l =>
    match l, h with
    | [_, _], _ => simp [Instr.fill, hv, hu]
theorem fill3 (zs : Array Value) (h : zs.size = 3) (v u x : Value) (hv : v.cells = #[v]) (hu : u.cells = #[u]) (hx : x.cells = #[x]) : Instr.fill (fun i => some (i * 1, 1)) zs [(0, v), (1, u), (2, x)] = some #[v, u, x] := by
  cases zs with
  | mk l =>
    match l, h with
    | [_, _, _], _ => simp [Instr.fill, hv, hu, hx]
theorem fill4 (zs : Array Value) (h : zs.size = 4) (v u x y : Value) (hv : v.cells = #[v]) (hu : u.cells = #[u]) (hx : x.cells = #[x]) (hy : y.cells = #[y]) : Instr.fill (fun i => some (i * 1, 1)) zs [(0, v), (1, u), (2, x), (3, y)] = some #[v, u, x, y] := by
  cases zs with
  | mk l =>
    match l, h with
    | [_, _, _, _], _ => simp [Instr.fill, hv, hu, hx, hy]
theorem wp_store1 {ty : TypeId} {x y : Operand} {g : Nat} {t : TypeId} {old v : Value} (ho : o.op = .store ty x y) (hx : a.eval x = .pointer (some ⟨g, 0, none⟩)) (hy : a.eval y = v) (hg : w.heap[g]? = some (.cells #[old] t (0, 0))) (hi : (P.info? ty).map (·.size) = some 1) (h1 : v.oneCell' = true)
    (h : K (a.put o.dst undef) (w.setRow g #[v])) : o.wp P a w K Q := by
  unfold Oper.wp execOp
  simp only [ho, hx, hy, Instr.storeAt, Instr.sureAddr, Sem.run_bind, Sem.run_pure, Result.andThen_ok, run_storeVar_one w g t ty old _ hg hi h1]
  exact h
theorem wp_field {ty : TypeId} {x : Operand} {f b k : Nat} (ho : o.op = .fieldAddr ty x f) (hx : a.eval x = .pointer (some ⟨b, 0, none⟩)) (hr : ∀ w, (Instr.fieldAt ty (.pointer (some ⟨b, 0, none⟩)) f).run P w = .ok (.pointer (some ⟨b, k, none⟩)) w) (h : K (a.put o.dst (.pointer (some ⟨b, k, none⟩))) w) : o.wp P a w K Q := by
  refine wp_value ?_ h
  simp only [execOp, ho, hx, Sem.run_bind, Sem.run_pure, Result.andThen_ok, hr]
theorem wp_conv {s t : TypeId} {x : Operand} {v u : Value} (ho : o.op = .convert s t x) (hx : a.eval x = v) {w' : World} (hr : (convert s t v).run P w = .ok u w') (h : K (a.put o.dst u) w') : o.wp P a w K Q := by
  refine wp_value ?_ h
  simp only [execOp, ho, hx, Sem.run_bind, Sem.run_pure, Result.andThen_ok, hr]
/-! ### A region's operations, looked up -/
variable {ops : Array Oper} {T : (Nat → Prop) → Nat → Value → World → Prop} {L : Nat → Prop} {a0 : Act}
def opOf (ops : Array Oper) (i : Nat) : Option Op := (ops[i]?).map (·.op)
def dstOf (ops : Array Oper) (i : Nat) : Option Tmp := (ops[i]?).bind (·.dst)
def onOf (ops : Array Oper) (i k : Nat) : Bool := ((ops[i]?).map (fun o => waits o k)).getD false
theorem op_is {i : Nat} {p : Op} (ho : ops[i]? = some o) (h : opOf ops i = some p) : o.op = p := by
  unfold opOf at h
  rw [ho] at h
  exact Option.some.inj h
theorem on_is {i k : Nat} (ho : ops[i]? = some o) (h : onOf ops i k = true) : waits o k = true := by
  unfold onOf at h
  rw [ho] at h
  exact h
/-- What an operation that has come up has yielded. -/
theorem has {j d : Nat} (hT : ∀ (j : Nat) (oj : Oper), L j → ops[j]? = some oj → ∃ v, At a oj.dst v ∧ T L j v w) (hL : L j) (hd : dstOf ops j = some d) : ∃ v, a.eval (.tmp d) = v ∧ T L j v w := by
  unfold dstOf at hd
  cases hj : ops[j]? with
  | none => rw [hj] at hd; cases hd
  | some oj =>
    rw [hj] at hd
    obtain ⟨v, h1, h2⟩ := hT j oj hL hj
    have hd' : oj.dst = some d := hd
    rw [hd'] at h1
    exact ⟨v, eval_at h1, h2⟩
theorem slot' {k : Nat} {v : Value} (hF : Fr ops L a0 a) (hk : (ops.toList.all fun o => decide (o.dst ≠ some k)) = true) (h : a0.tmps[k]? = some v) : a.tmps[k]? = some v := by
  refine (hF.same k fun i o _ ho => ?_).trans h
  have := List.all_eq_true.1 hk o (Array.mem_toList_iff.2 (Array.mem_of_getElem? ho))
  exact of_decide_eq_true this
theorem slot {k : Nat} {v : Value} (hF : Fr ops L a0 a) (hk : (ops.toList.all fun o => decide (o.dst ≠ some k)) = true) (h : a0.tmps[k]? = some v) : a.eval (.tmp k) = v := eval_at (slot' hF hk h)
/-- A slot that operation j alone writes, which has not come up. -/
theorem slot_of {j k : Nat} {v : Value} (hF : Fr ops L a0 a) (hk : ((List.range ops.size).all fun i => i == j || decide (dstOf ops i ≠ some k)) = true) (hn : ¬ L j) (h : a0.tmps[k]? = some v) : a.eval (.tmp k) = v := by
  refine eval_at ((hF.same k fun i o hi ho => ?_).trans h)
  have h1 := List.all_eq_true.1 hk i (List.mem_range.2 (Array.getElem?_eq_some_iff.1 ho).1)
  rw [Bool.or_eq_true] at h1
  rcases h1 with h1 | h1
  · obtain rfl : i = j := by simpa using h1
    exact absurd hi hn
  · have h2 := of_decide_eq_true h1
    unfold dstOf at h2
    rw [ho] at h2
    exact h2
/-- If one has come up, then what it waits for has, too. -/
theorem came {j k : Nat} (hsh : ∀ (j : Nat) (oj : Oper), L j → ops[j]? = some oj → ∀ k, waits oj k = true → L k) (hL : L j) (h : onOf ops j k = true) : L k := by
  unfold onOf at h
  cases hj : ops[j]? with
  | none => rw [hj] at h; cases h
  | some oj =>
    rw [hj] at h
    exact hsh j oj hL hj k h
def linked (ops : Array Oper) : Nat → List Nat → Bool
  | _, [] => true
  | j, k :: l => onOf ops j k && linked ops k l
theorem run_down {L : Nat → Prop} (hsh : ∀ (j : Nat) (oj : Oper), L j → ops[j]? = some oj → ∀ k, waits oj k = true → L k) : ∀ (l : List Nat) (j : Nat), linked ops j l = true → L j → L (l.getLastD j)
  | [], _, _, h => h
  | k :: l, j, hl, h => by
    have hl' : (onOf ops j k && linked ops k l) = true := hl
    rw [Bool.and_eq_true] at hl'
    have := run_down hsh l k hl'.2 (came hsh h hl'.1)
    cases l <;> exact this
theorem own_ge {B e sz n : Nat} {w : World} {v : Value} {xs : List Value} (h : w.ownsRow B e sz v n xs) : ∀ k, v.ownBlock = some k → B ≤ k := by
  intro k hk
  rcases h.2 with ⟨rfl, _⟩ | ⟨g, cap, cur, rfl, hg, _⟩
  · cases hk
  · obtain rfl : g = k := Option.some.inj hk
    exact hg
/-- A region's operations, out of a function's code. -/
def codeOps (id : Nat) : Code → Option (Array Oper)
  | .region k ops _ => if k = id then some ops else none
  | .seq c d => (codeOps id c).or (codeOps id d)
  | .cond _ c d => (codeOps id c).or (codeOps id d)
  | .block _ c => codeOps id c
  | .loop c => codeOps id c
  | .scope c => codeOps id c
  | .rangeFunc _ _ c d => (codeOps id c).or (codeOps id d)
  | _ => none
def funcOps (f : Func) (id : Nat) : Array Oper := (f.body.bind (codeOps id)).getD #[]
/-- The frame behind the region. -/
theorem act_of {ops : Array Oper} {L : Nat → Prop} {a0 a : Act} (h : Fr ops L a0 a) (l : List (Nat × Value)) (hl : ∀ p ∈ l, a.tmps[p.1]? = some p.2) (hd : (ops.toList.all fun o => match o.dst with | some d => (l.map (·.1)).contains d | none => true) = true) :
    a = { tmps := l.foldl (fun t p => t.setIfInBounds p.1 p.2) a0.tmps, defers := a0.defers } := by
  have key : ∀ (l : List (Nat × Value)) (t : Array Value), t.size = a.tmps.size → (∀ p ∈ l, a.tmps[p.1]? = some p.2) → (∀ k : Nat, (∀ p ∈ l, p.1 ≠ k) → t[k]? = a.tmps[k]?) → a.tmps = l.foldl (fun t p => t.setIfInBounds p.1 p.2) t := by
    intro l
    induction l with
    | nil => intro t _ _ h2; exact (Array.ext_getElem? fun k => h2 k (fun _ h => by cases h)).symm
    | cons p l ih =>
      intro t hs h1 h2
      refine ih _ (by simp [hs]) (fun q hq => h1 q (List.mem_cons_of_mem _ hq)) (fun k hk => ?_)
      by_cases hpk : p.1 = k
      · subst hpk
        have := h1 p (List.mem_cons_self ..)
        have hlt := (Array.getElem?_eq_some_iff.1 this).1
        rw [Array.getElem?_setIfInBounds, if_pos rfl, if_pos (by rw [hs]; exact hlt), this]
      · rw [Array.getElem?_setIfInBounds, if_neg hpk]
        exact h2 k (fun q hq => by
          rcases List.mem_cons.1 hq with rfl | hq
          · exact hpk
          · exact hk q hq)
  cases a with
  | mk tm df =>
    have h1 := key l a0.tmps h.size.symm hl (fun k hk => (h.same k (fun i o _ ho hdk => by
      have h3 := List.all_eq_true.1 hd o (Array.mem_toList_iff.2 (Array.mem_of_getElem? ho))
      rw [hdk] at h3
      obtain ⟨p, hp, e⟩ := List.mem_map.1 (List.contains_iff_mem.1 h3)
      exact hk p hp e)).symm)
    have h2 := h.defers
    dsimp only at h1 h2
    rw [h1, h2]
theorem region_eq0 {id : Nat} {P : Program} {ops ops' : Array Oper} {d : Bool} {Q : Exit → Act → World → Prop} {a : Act} {w : World} (h : ops = ops') (k : (Code.region id ops d).wp P Q a w) : (Code.region id ops' d).wp P Q a w := h ▸ k
theorem wp_nil {P : Program} {o : Oper} {a : Act} {w : World} {K : Act → World → Prop} {Q : Exit → Act → World → Prop} {x : Operand} {p : Addr} (ho : o.op = .nilCheck x) (hx : a.eval x = .pointer (some p)) (h : K (a.put o.dst (.pointer (some p))) w) : o.wp P a w K Q := by
  refine wp_value ?_ h
  simp only [execOp, ho, hx]
  rfl
theorem wp_store_at {P : Program} {o : Oper} {a : Act} {w : World} {K : Act → World → Prop} {Q : Exit → Act → World → Prop} {ty : TypeId} {x y : Operand} {b k n c : Nat} {q : Option Addr} {u : Value} (ho : o.op = .store ty x y) (hx : a.eval x = .pointer (some ⟨b, k, none⟩)) (hy : a.eval y = .slice q n c) (hc : w.cell? ⟨b, k, none⟩ = some u) (hf : w.frozen? ⟨b, k, none⟩ = false) (hi : (P.info? ty).map (·.size) = some 1)
    (h : K (a.put o.dst undef) (w.setCell ⟨b, k, none⟩ (.slice q n c))) : o.wp P a w K Q := by
  have hr : (storeVar ty ⟨b, k, none⟩ (.slice q n c)).run P w = .ok () (w.setCell ⟨b, k, none⟩ (.slice q n c)) := by
    cases hq : P.info? ty with
    | none => simp [hq] at hi
    | some i =>
      have hs : i.size = 1 := by simpa [hq] using hi
      simp [storeVar, sizeOf, typeInfo, hq, hs, go_sem, hc, hf]
  unfold Oper.wp execOp
  simp only [ho, hx, hy, Instr.storeAt, Instr.sureAddr, Sem.run_bind, Sem.run_pure, Result.andThen_ok, hr]
  exact h
end Go.Proofs.YtjohhjdicbeojaaGreatDoor.Se
