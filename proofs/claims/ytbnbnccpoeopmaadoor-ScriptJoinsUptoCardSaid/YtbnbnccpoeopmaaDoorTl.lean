/- A list of acts that is read as data. -/
import Derived.Test.YtbnbnccpoeopmaaDoorTi
import Derived.Deep.Slices
import Derived.ProofKit
namespace Go.Proofs.YtbnbnccpoeopmaaDoor.Tl
open Go.RowKit Go.ChangeShapes Go.WideShapes Go.Proofs.YtbnbnccpoeopmaaDoor.Sx Go.Proofs.YtbnbnccpoeopmaaDoor.Tg Go.Proofs.YtbnbnccpoeopmaaDoor.Ti

theorem list_of {α : Type} (P : Nat → α → Prop) : ∀ len : Nat, (∀ i, i < len → ∃ e, P i e) → ∃ es : List α, es.length = len ∧ ∀ i e, es[i]? = some e → P i e
  | 0, _ => ⟨[], rfl, fun i e h => by cases h⟩
  | n + 1, h => by
    obtain ⟨es, hl, he⟩ := list_of P n (fun i hi => h i (by omega))
    obtain ⟨e, hp⟩ := h n (by omega)
    refine ⟨es ++ [e], by rw [List.length_append, hl]; rfl, fun i x hx => ?_⟩
    rcases Nat.lt_or_ge i es.length with hi | hi
    · rw [List.getElem?_append_left hi] at hx
      exact he i x hx
    · rw [List.getElem?_append_right hi] at hx
      by_cases h0 : i - es.length = 0
      · rw [h0] at hx
        obtain rfl : e = x := Option.some.inj hx
        have : i = n := by omega
        subst this
        exact hp
      · obtain ⟨k, hk⟩ : ∃ k, i - es.length = k + 1 := ⟨i - es.length - 1, by omega⟩
        rw [hk] at hx
        cases hx

section
variable {H : Type} {enc : TypeId × Value → H} {w : World} {base : Nat} {spare : Nat → Bool} {held : Bool}
set_option maxRecDepth 100000 in
theorem open_list {fuel : Nat} {v : Value} {x : DataW H × List MemPlace} (h : DataW.trod enc Tryd.prog w base spare held fuel 42 [v] = some x) :
    ∃ (p : Option Addr) (es : List Ent) (c : Nat), v = .slice p es.length c ∧ InList w p es ∧ es.length ≤ c ∧ c ≤ maxLen := by
  rcases Go.Deep.open_slice Tryd.underlying42 h with ⟨hcs, _⟩ | ⟨a, len, cap, m, n, D, Pl, hcs, hb, hl, hm, hmm, hx, hi⟩
  · simp at hcs
    subst hcs
    exact ⟨none, [], 0, rfl, ⟨fun j e he => by cases he⟩, Nat.zero_le _, Nat.zero_le _⟩
  · simp at hcs
    subst hcs
    have hlm : len ≤ m := by rw [hmm]; split <;> omega
    have c27 : Tryd.prog.cellsOf 27 = 8 := by kernel_rfl
    have hplain : 0 < len → a = ⟨a.block, a.off, none⟩ ∧ a.block < w.heap.size := fun h0 => by
      obtain ⟨cs', hc, ht⟩ := hi 0 (by omega)
      obtain ⟨mm, dv, kv, rfl, hin⟩ := open_act ht
      rw [c27] at hc
      obtain ⟨_, _, hat⟩ := World.cells?_some hc
      have h1 := hat 0 (by omega)
      have e0 : (a.add (0 * 8)).add 0 = a := by simp [Addr.add]
      rw [e0] at h1
      exact cell_plain (h1.trans rfl)
    obtain ⟨es, hel, hes⟩ := list_of (fun i (e : Ent) => ∃ g o, some a = some ⟨g, o, none⟩ ∧ g < w.heap.size ∧ (∀ j u, e.cells[j]? = some u → w.cell? ⟨g, o + i * 8 + j, none⟩ = some u) ∧ ActIn w e.m e.dv e.kv) len (fun i hil => by
      obtain ⟨cs', hc, ht⟩ := hi i (by omega)
      obtain ⟨mm, dv, kv, rfl, hin⟩ := open_act ht
      rw [c27] at hc
      obtain ⟨_, _, hat⟩ := World.cells?_some hc
      have hplain := hplain (by omega)
      refine ⟨⟨mm, dv, kv⟩, a.block, a.off, congrArg some hplain.1, hplain.2, fun j u hu => ?_, hin⟩
      have hj : j < 8 := (List.getElem?_eq_some_iff.1 hu).1
      have h2 := hat j hj
      rw [hplain.1, Lib.add_plain, Lib.add_plain] at h2
      exact h2.trans hu)
    subst hel
    exact ⟨some a, es, cap, rfl, ⟨hes⟩, hl, hm⟩
end

end Go.Proofs.YtbnbnccpoeopmaaDoor.Tl
