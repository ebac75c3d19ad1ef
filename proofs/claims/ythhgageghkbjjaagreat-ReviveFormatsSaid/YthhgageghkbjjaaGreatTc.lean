/- A list of writes, opened. -/
import Derived.Test.YthhgageghkbjjaaGreatRh
import Derived.Deep.SlicePairs
import Derived.OpenShut
import Derived.Below
import Derived.DataShut
namespace Go.Proofs.YthhgageghkbjjaaGreat.Tc
open Go.ChangeShapes Go.WideShapes Go.ChangeAt Go.RowKit Go.Proofs.YthhgageghkbjjaaGreat.Ra Go.Proofs.YthhgageghkbjjaaGreat.Rh
set_option maxRecDepth 8000

instance : Inhabited Wr := ⟨⟨0, .slice none 0 0, []⟩⟩
theorem in8 {n : Int} (h : (Lit.int .u8 n).wf = true) : 0 ≤ n ∧ n ≤ 255 := by
  have := (Lit.wf_int_iff .u8 n).1 h
  simpa [IntKind.min, IntKind.max, IntKind.signed, IntKind.bits] using this
theorem plain_addr {w : World} {x : Addr} {v : Value} (h : w.cell? x = some v) : x.spot = none := by
  obtain ⟨b, off, m⟩ := x
  cases m with
  | none => rfl
  | some m =>
    unfold World.cell? at h
    split at h <;> simp at h
theorem add_none (b off j : Nat) : Addr.add ⟨b, off, none⟩ j = ⟨b, off + j, none⟩ := by
  unfold Addr.add
  by_cases e : j = 0
  · subst e; rfl
  · rw [if_neg e]
theorem add_zero (x : Addr) : x.add 0 = x := rfl

section
variable {H : Type} {enc : TypeId × Value → H} {w : World}
/-- Bytes, opened. -/
theorem bytes_of {v : Value} {fuel : Nat} {x : DataW H × List MemPlace} (h : DataW.trod enc Tryz.prog w 0 (fun _ => true) true fuel 44 [v] = some x) : ∃ l, BytesIn w.heap.size w v l := by
  rcases open_ints Tryz.underlying44 Tryz.underlying5 (by kernel_rfl) h with ⟨hcs, _⟩ | ⟨a, l, c, zs, hcs, _, hl, hm, hz, _, hcell, hw⟩
  · obtain rfl : v = .slice none 0 0 := by simpa using hcs
    exact ⟨[], BytesIn.nil _ _ _ _⟩
  · obtain rfl : v = .slice (some a) l c := by simpa using hcs
    simp at hz
    refine ⟨(zs.take l).map fun z => UInt8.ofNat z.toNat, some a, c, ?_, ?_, fun hne => ?_⟩
    · rw [List.length_map, List.length_take, Nat.min_eq_left (by omega)]
    · rw [List.length_map, List.length_take, Nat.min_eq_left (by omega)]; exact hl
    · have hl0 : 0 < l := by
        rcases Nat.eq_zero_or_pos l with h0 | h0
        · subst h0; simp at hne
        · exact h0
      have hc0 := hcell 0 (by omega)
      rw [add_zero] at hc0
      have hn := plain_addr hc0
      obtain ⟨b, off, m⟩ := a
      obtain rfl : m = none := hn
      refine ⟨b, off, rfl, World.block_lt_of_cell? w _ hc0, .inl (World.block_lt_of_cell? w _ hc0), fun j x hj => ?_⟩
      rw [List.getElem?_map, List.getElem?_take] at hj
      split at hj
      · next hjl =>
        have hj' : j < zs.length := by omega
        rw [List.getElem?_eq_getElem hj'] at hj
        obtain rfl : UInt8.ofNat (zs[j]).toNat = x := by simpa using hj
        have hcj := hcell j hj'
        rw [add_none] at hcj
        rw [hcj]
        have e : zs.getD j 0 = zs[j] := by rw [List.getD_eq_getElem?_getD, List.getElem?_eq_getElem hj']; rfl
        rw [e]
        obtain ⟨q0, q1⟩ := in8 (hw _ (List.getElem_mem hj'))
        have : ((UInt8.ofNat (zs[j]).toNat).toNat : Int) = zs[j] := by
          rw [UInt8.toNat_ofNat']
          omega
        rw [this]
      · cases hj

/-- Writes, opened. -/
theorem writes_of {v : Value} {d : DataW H} {p : List MemPlace} (hv : ∃ a len cap, v = .slice a len cap) (h : DataW.Trod enc Tryz.prog w 0 (fun _ => true) true 38 v d p) : ∃ ws, WritesIn w.heap.size w v ws := by
  obtain ⟨pa, pl, pc, rfl⟩ := hv
  obtain ⟨fuel, hf⟩ := h
  rcases Go.Deep.open_slice_pairs Tryz.underlying38 Tryz.underlying46 (by kernel_rfl) rfl rfl (by kernel_rfl) (by kernel_rfl) hf with ⟨hcs, _⟩ | ⟨a, l, c, m, n, V0, V1, D0, D1, P0, P1, hcs, _, hl, hm, hmm, _, hx⟩
  · simp [Value.cells] at hcs
    obtain ⟨rfl, rfl, rfl⟩ := hcs
    exact ⟨[], ⟨none, 0, rfl, fun h => absurd rfl h⟩, fun x hx => by cases hx⟩
  · simp [Value.cells] at hcs
    obtain ⟨rfl, rfl, rfl⟩ := hcs
    simp at hmm
    rw [hmm] at hx
    obtain ⟨f, hff⟩ := Go.Deep.choose_lt (α := Wr) (n := pl) (p := fun i x => V0 i = .int .i64 x.at_ ∧ V1 i = x.v ∧ BytesIn w.heap.size w x.v x.l) (fun i hi => by
      obtain ⟨_, _, h2, h3⟩ := hx i (by omega)
      obtain ⟨z, e1, _, _⟩ := DataW.trod_int Tryz.underlying3 h2
      obtain ⟨bs, hbs⟩ := bytes_of h3
      exact ⟨⟨z, V1 i, bs⟩, by simpa using e1, rfl, hbs⟩)
    refine ⟨(List.range pl).map f, ⟨some a, pc, ?_, fun hne => ?_⟩, fun x hm => ?_⟩
    · rw [List.length_map, List.length_range]
    · have hl0 : 0 < pl := by
        rcases Nat.eq_zero_or_pos pl with h0 | h0
        · subst h0; simp at hne
        · exact h0
      have hc0 := (hx 0 (by omega)).1
      rw [Nat.zero_mul, add_zero] at hc0
      have hn := plain_addr hc0
      obtain ⟨b, off, m⟩ := a
      obtain rfl : m = none := hn
      refine ⟨b, off, rfl, World.block_lt_of_cell? w _ hc0, .inl (World.block_lt_of_cell? w _ hc0), fun j x hj => ?_⟩
      rw [List.getElem?_map] at hj
      have hjl : j < pl := by
        rcases Nat.lt_or_ge j pl with h | h
        · exact h
        · rw [List.getElem?_eq_none (by rw [List.length_range]; exact h)] at hj
          cases hj
      rw [List.getElem?_eq_getElem (by rw [List.length_range]; exact hjl)] at hj
      obtain rfl : f j = x := by simpa using hj
      obtain ⟨h0, h1, _, _⟩ := hx j (by omega)
      rw [add_none] at h0 h1
      obtain ⟨e0, e1, _⟩ := hff j hjl
      exact ⟨by rw [h0, e0], by rw [Nat.add_assoc, h1, e1]⟩
    · obtain ⟨i, hi, rfl⟩ := List.mem_map.1 hm
      exact (hff i (List.mem_range.1 hi)).2.2
end
end Go.Proofs.YthhgageghkbjjaaGreat.Tc
