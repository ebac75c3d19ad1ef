/- What Put makes of a device in memory. -/
import Derived.Test.YthhgageghkbjjaaGreatRh
namespace Go.Proofs.YthhgageghkbjjaaGreat.Ri
open Go.RowKit Go.Proofs.YthhgageghkbjjaaGreat.Ra Go.Proofs.YthhgageghkbjjaaGreat.Re Go.Proofs.YthhgageghkbjjaaGreat.Rf Go.Proofs.YthhgageghkbjjaaGreat.Rg Go.Proofs.YthhgageghkbjjaaGreat.Rh

theorem grownBy_setCells (b : Nat) : ∀ (vs : List Value) (o : Nat) (w : World), w.grownBy (w.setCells b o vs) (some b)
  | [], _, _ => World.grownBy.refl _ _
  | v :: r, o, w => by
    rw [World.setCells]
    have h1 : w.grownBy (w.setCell ⟨b, o, none⟩ v) (some b) := ⟨rfl, rfl, rfl, by simp, fun k _ hne => Below.heap_setCell w _ v k (fun e => hne (by rw [e]))⟩
    exact h1.trans (grownBy_setCells b r (o + 1) _)
theorem setCells_blk {b : Nat} {t : TypeId} : ∀ (vs : List Value) (o : Nat) (w : World) (cs : Array Value), w.heap[b]? = some (.cells cs t (0, 0)) → o + vs.length ≤ cs.size →
    (w.setCells b o vs).heap[b]? = some (.cells (cs.toList.take o ++ vs ++ cs.toList.drop (o + vs.length)).toArray t (0, 0))
  | [], o, w, cs, h, _ => by
    rw [World.setCells, h]
    simp
  | v :: r, o, w, cs, h, hf => by
    rw [World.setCells]
    have h1 := blk_set h o v
    have hlt : o < cs.size := by simp at hf; omega
    rw [setCells_blk r (o + 1) _ _ h1 (by simp at hf ⊢; omega)]
    refine congrArg (fun z : List Value => some (Obj.cells z.toArray t (0, 0))) ?_
    apply List.ext_getElem?
    intro k
    simp only [Array.toList_setIfInBounds, List.length_cons]
    simp only [List.append_assoc, List.getElem?_append, List.length_take, List.length_set, Array.length_toList, List.getElem?_take, List.getElem?_set, List.getElem?_drop]
    rcases Nat.lt_trichotomy k o with hk | hk | hk
    · have e1 : k < min (o + 1) cs.size := by omega
      have e2 : k < min o cs.size := by omega
      simp [e1, e2, hk, Nat.lt_succ_of_lt hk, Nat.ne_of_gt hk]
    · subst hk
      have e1 : k < min (k + 1) cs.size := by omega
      have e2 : ¬ k < min k cs.size := by omega
      have e3 : k - min k cs.size = 0 := by omega
      simp [e1, e2, e3, hlt]
    · have e1 : ¬ k < min (o + 1) cs.size := by omega
      have e2 : ¬ k < min o cs.size := by omega
      have e3 : k - min o cs.size = (k - min (o + 1) cs.size) + 1 := by omega
      rw [if_neg e1, if_neg e2, e3]
      simp only [List.length_cons, Nat.add_lt_add_iff_right, List.getElem?_cons_succ]
      by_cases h5 : k - min (o + 1) cs.size < r.length
      · simp [h5]
      · rw [if_neg h5, if_neg h5, if_neg (by omega)]
        congr 1
        omega

/-- A sector more. -/
def splice (l : List UInt8) (o : Nat) (x : List UInt8) : List UInt8 := l.take o ++ x ++ l.drop (o + x.length)
theorem splice_len (l : List UInt8) (o : Nat) (x : List UInt8) (h : o + x.length ≤ l.length) : (splice l o x).length = l.length := by
  unfold splice
  simp
  omega
def setNow (d : Dev) (i : Nat) (l : List UInt8) : Dev := { d with now := splice d.now (i * 64) l }
def addLoose (d : Dev) (i : Nat) (l : List UInt8) : Dev := { d with loose := d.loose ++ [((i : Int), l)] }
def putDev (d : Dev) (i : Nat) (l : List UInt8) : Dev := addLoose (setNow d i l) i l

theorem dev_ne {B : Nat} {w : World} {D S N : Nat} {lv : Value} {d : Dev} (h : DevAt B w D S N lv d) : D ≠ S ∧ D ≠ N := by
  refine ⟨fun e => ?_, fun e => ?_⟩
  · have h1 := h.dev
    rw [e, h.sure] at h1
    injection (Option.some.inj h1) with _ h2 _
    exact absurd h2 (by decide)
  · have h1 := h.dev
    rw [e, h.now] at h1
    injection (Option.some.inj h1) with _ h2 _
    exact absurd h2 (by decide)

theorem loose_block {B : Nat} {w : World} {D S N : Nat} {lv : Value} {d : Dev} (h : DevAt B w D S N lv d) (g : Nat) (hg : lv.ownBlock = some g) : B ≤ g ∧ ∃ cur, w.heap[g]? = some (.cells cur 77 (0, 0)) := by
  rcases h.loose.2 with ⟨hv, _⟩ | ⟨g', cap, cur, hv, hg', hh, _⟩
  · rw [hv] at hg; cases hg
  · rw [hv] at hg
    obtain rfl := Option.some.inj hg
    exact ⟨hg', _, hh⟩

theorem put13 {B : Nat} {w : World} {D S N : Nat} {lv : Value} {d : Dev} (h : DevAt B w D S N lv d) (i : Nat) (hi : i < d.n) (l : List UInt8) (hl : l.length = 64) :
    DevAt B (w.setCells N (i * 64) (byteVals l)) D S N lv (setNow d i l) ∧ Step B w (w.setCells N (i * 64) (byteVals l)) := by
  have hg := grownBy_setCells N (byteVals l) (i * 64) w
  have hL := h.lt
  obtain ⟨hDS, hDN⟩ := dev_ne h
  have h1 : (i + 1) * 64 ≤ d.n * 64 := Nat.mul_le_mul_right _ hi
  have hfit : i * 64 + l.length ≤ d.now.length := by rw [hl, h.lnow]; omega
  have hb := setCells_blk (byteVals l) (i * 64) w _ h.now (by rw [byteVals_len, List.size_toArray, byteVals_len]; exact hfit)
  have hbe : ((byteVals d.now).toArray.toList.take (i * 64) ++ byteVals l ++ (byteVals d.now).toArray.toList.drop (i * 64 + (byteVals l).length)) = byteVals (splice d.now (i * 64) l) := by
    unfold splice
    rw [byteVals_app, byteVals_app, byteVals_len]
    unfold byteVals
    rw [List.map_take, List.map_drop]
  rw [hbe] at hb
  have keep : ∀ b, b ≠ N → b < w.heap.size → (w.setCells N (i * 64) (byteVals l)).heap[b]? = w.heap[b]? := fun b hb hlt => hg.block b hlt (fun e => hb (Option.some.inj e))
  refine ⟨⟨h.baseD, h.baseS, h.baseN, h.ne, (keep D hDN h.lt).trans h.dev, (keep S h.ne (lt_of_block h.sure)).trans h.sure, hb, h.lsure, ?_, h.n1, h.n2, ?_, h.each, h.few, h.aft⟩, Step.of_grown hg h.now rfl h.baseN⟩
  · show (splice d.now (i * 64) l).length = d.n * 64
    rw [splice_len _ _ _ hfit, h.lnow]
  · refine ⟨h.loose.1, ?_⟩
    rcases h.loose.2 with hn | ⟨g, cap, cur, hv, hgB, hh, r⟩
    · exact Or.inl hn
    · refine Or.inr ⟨g, cap, cur, hv, hgB, (keep g (fun e => ?_) (lt_of_block hh)).trans hh, r⟩
      have h1 := h.now
      rw [← e, hh] at h1
      injection (Option.some.inj h1) with _ h2 _
      exact absurd h2 (by decide)

theorem looseCells_snoc (l : List (Int × List UInt8)) (x : Int × List UInt8) : looseCells (l ++ [x]) = looseCells l ++ (.int .i64 x.1 :: byteVals x.2) := by
  unfold looseCells
  rw [List.flatMap_append]
  simp

theorem put14 {B : Nat} {w w3 : World} {D S N : Nat} {lv lv' : Value} {d : Dev} (h : DevAt B w D S N lv d) (i : Nat) (hi : i < d.n) (l : List UInt8) (hl : l.length = 64) (hfew : d.loose.length + 1 ≤ 100000) (o : Obj)
    (hown : w3.ownsRow B 77 65 lv' (d.loose.length + 1) (looseCells d.loose ++ (.int .i64 (i : Int) :: byteVals l))) (hg : (w.alloc o).grownBy w3 lv.ownBlock) :
    DevAt B (w3.setCell ⟨D, 2, none⟩ lv') D S N lv' (addLoose d i l) ∧ Step B w (w3.setCell ⟨D, 2, none⟩ lv') := by
  have hL := h.lt
  obtain ⟨hDS, hDN⟩ := dev_ne h
  have other : ∀ (b : Nat) (cs : Array Value) (t : TypeId) (fz : Nat × Nat), w.heap[b]? = some (.cells cs t fz) → t ≠ 77 → lv.ownBlock ≠ some b := fun b cs t fz hb ht e => by
    obtain ⟨_, cur, hc⟩ := loose_block h b e
    rw [hb] at hc
    injection (Option.some.inj hc) with _ h2 _
    exact ht h2
  have keep : ∀ (b : Nat), b < w.heap.size → lv.ownBlock ≠ some b → w3.heap[b]? = w.heap[b]? := fun b hlt hne => by
    rw [hg.block b (by rw [sz_alloc]; omega) (fun e => hne e.symm)]
    exact Below.heap_alloc w o b hlt
  have hD3 : w3.heap[D]? = _ := (keep D h.lt (other D _ _ _ h.dev (by decide))).trans h.dev
  have hS3 := (keep S (lt_of_block h.sure) (other S _ _ _ h.sure (by decide))).trans h.sure
  have hN3 := (keep N (lt_of_block h.now) (other N _ _ _ h.now (by decide))).trans h.now
  have hB := h.size
  have hlen : (addLoose d i l).loose.length = d.loose.length + 1 := by unfold addLoose; simp
  have s1 : Step B w w3 := by
    have sa : Step B w (w.alloc o) := (Step.refl B w).alloc hB o
    refine sa.trans ?_
    cases hob : lv.ownBlock with
    | none =>
      rw [hob] at hg
      exact Step.of (B := B) ⟨hg.os, hg.tape, hg.output, hg.size, fun k hk => hg.block k hk (fun e => by cases e)⟩ (by rw [sz_alloc]; omega)
    | some g =>
      rw [hob] at hg
      obtain ⟨hgB, cur, hc⟩ := loose_block h g hob
      exact Step.of_grown hg (blk_old hc o) rfl hgB
  refine ⟨⟨h.baseD, h.baseS, h.baseN, h.ne, blk_set hD3 2 _, blk_set_other hS3 (fun e => hDS e.symm) _, blk_set_other hN3 (fun e => hDN e.symm) _, h.lsure, h.lnow, h.n1, h.n2, ?_, ?_, by rw [hlen]; exact hfew, h.aft⟩, s1.trans (Step.set_dev hD3 rfl h.baseD 2 _)⟩
  · rw [hlen]
    show World.ownsRow _ B _ 65 lv' _ (looseCells (d.loose ++ [((i : Int), l)]))
    rw [looseCells_snoc]
    refine ⟨hown.1, ?_⟩
    rcases hown.2 with hn | ⟨g, cap, cur, hv, hgB, hh, r⟩
    · exact Or.inl hn
    · refine Or.inr ⟨g, cap, cur, hv, hgB, blk_set_other hh (fun e => ?_) _, r⟩
      obtain rfl : g = D := e
      rw [hD3] at hh
      injection (Option.some.inj hh) with _ h2 _
      exact absurd h2 (by decide)
  · intro x hx
    rcases List.mem_append.1 hx with hx | hx
    · exact h.each x hx
    · obtain rfl : x = ((i : Int), l) := by simpa using hx
      exact ⟨hl, by show (0 : Int) ≤ (i : Int); omega, by show (i : Int) < (d.n : Int); omega⟩

end Go.Proofs.YthhgageghkbjjaaGreat.Ri
