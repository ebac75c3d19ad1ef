/- Lists of acts that are read as data, of a bulk that is known. -/
import Derived.Test.YtbnbnccpoeopmaaDoorTl
import Derived.Test.YtbnbnccpoeopmaaDoorBulk
namespace Go.Proofs.YtbnbnccpoeopmaaDoor.Tn
open Go.RowKit Go.ChangeShapes Go.WideShapes Go.Proofs.YtbnbnccpoeopmaaDoor.Sh Go.Proofs.YtbnbnccpoeopmaaDoor.Sp Go.Proofs.YtbnbnccpoeopmaaDoor.Sx Go.Proofs.YtbnbnccpoeopmaaDoor.Tg Go.Proofs.YtbnbnccpoeopmaaDoor.Ti Go.Proofs.YtbnbnccpoeopmaaDoor.Tl

section
variable {H : Type} {enc : TypeId × Value → H} {w : World} {base : Nat} {spare : Nat → Bool} {held : Bool}
theorem ints_le {t e : TypeId} {k : IntKind} {fuel : Nat} {p : Option Addr} {n c : Nat} {x : DataW H × List MemPlace} (ht : Tryd.prog.underlying t = some (.slice e)) (he : Tryd.prog.underlying e = some (.int k)) (hc : Tryd.prog.cellsOf e = 1)
    (h : DataW.trod enc Tryd.prog w base spare held fuel t [.slice p n c] = some x) : n ≤ Rows.uptoBulk x.1 := by
  rcases open_ints ht he hc h with ⟨hcs, _⟩ | ⟨a, len, cap, zs, hcs, _, hl, hm, hz, hx, _, _⟩
  · simp at hcs
    omega
  · simp at hcs
    obtain ⟨_, rfl, _⟩ := hcs
    have hlz : n ≤ zs.length := by rw [hz]; split <;> omega
    have h1 := bulks.slice_le (H := H) (lits k (zs.take n)) (lits k (zs.drop n))
    have h2 : (lits (H := H) k (zs.take n)).length = n := by
      unfold lits
      rw [List.length_map, List.length_take]
      omega
    rw [hx]
    simp only
    omega

theorem agg_le {xs : List (DataW H × List MemPlace)} {y : DataW H × List MemPlace} (h : y ∈ xs) : Rows.uptoBulk y.1 ≤ Rows.uptoBulk (.agg (xs.map (·.1))) := by
  have := bulks.part_le (List.mem_map_of_mem (f := (·.1)) h)
  simp only [Rows.uptoBulk]
  omega

set_option maxRecDepth 100000 in
theorem act_le {fuel : Nat} {m : Sg.ActM} {dv kv : Value} {x : DataW H × List MemPlace} (h : DataW.trod enc Tryd.prog w base spare held fuel 27 [.int .i64 m.kind, .int .i64 m.n, .int .i64 m.rk, .int .i64 m.vol, .int .i64 m.block, .int .i64 m.size, dv, kv] = some x) (ha : ActIn w m dv kv) :
    m.data.length ≤ Rows.uptoBulk x.1 ∧ m.keep.length ≤ Rows.uptoBulk x.1 := by
  obtain ⟨p1, c1, hd, -⟩ := ha.data
  obtain ⟨p3, c3, hk, -⟩ := ha.keep
  subst hd
  subst hk
  have c27 : Tryd.prog.cellsOf 27 = 8 := by kernel_rfl
  have c24 : Tryd.prog.cellsOf 24 = 5 := by kernel_rfl
  have c22 : Tryd.prog.cellsOf 22 = 1 := by kernel_rfl
  have c25 : Tryd.prog.cellsOf 25 = 1 := by kernel_rfl
  obtain ⟨xs, n, _, hx, _, hlen, hf⟩ := DataW.trod_struct Tryd.underlying27 h
  match xs, hlen, hx, hf with
  | [y0, y1, y2, y3], _, hx, hf =>
    have g2 : DataW.trod enc Tryd.prog w base spare held n 24 [.int .i64 m.rk, .int .i64 m.vol, .int .i64 m.block, .int .i64 m.size, .slice p1 m.data.length c1] = some y2 := by
      have g := hf 2 _ rfl
      simpa [c24] using g
    have g3 : DataW.trod enc Tryd.prog w base spare held n 25 [.slice p3 m.keep.length c3] = some y3 := by
      have g := hf 3 _ rfl
      simpa [c25] using g
    have b2 := agg_le (xs := [y0, y1, y2, y3]) (y := y2) (by simp)
    have b3 := agg_le (xs := [y0, y1, y2, y3]) (y := y3) (by simp)
    have k3 := ints_le Tryd.underlying25 Tryd.underlying3 (by kernel_rfl) g3
    obtain ⟨zs, n2, _, hx2, _, hlen2, hf2⟩ := DataW.trod_struct Tryd.underlying24 g2
    match zs, hlen2, hx2, hf2 with
    | [z0, z1, z2, z3, z4], _, hx2, hf2 =>
      have g4 : DataW.trod enc Tryd.prog w base spare held n2 22 [.slice p1 m.data.length c1] = some z4 := by
        have g := hf2 4 _ rfl
        simpa [c22] using g
      have b4 := agg_le (xs := [z0, z1, z2, z3, z4]) (y := z4) (by simp)
      have k4 := ints_le Tryd.underlying22 Tryd.underlying5 (by kernel_rfl) g4
      have e2 : y2.1 = .agg ([z0, z1, z2, z3, z4].map (·.1)) := congrArg Prod.fst hx2
      have e0 : x.1 = .agg ([y0, y1, y2, y3].map (·.1)) := congrArg Prod.fst hx
      rw [e0]
      rw [← e2] at b4
      exact ⟨by omega, by omega⟩

set_option maxRecDepth 100000 in
theorem open_listB {fuel : Nat} {v : Value} {x : DataW H × List MemPlace} (h : DataW.trod enc Tryd.prog w base spare held fuel 42 [v] = some x) :
    ∃ (p : Option Addr) (es : List Ent) (c : Nat), v = .slice p es.length c ∧ InList w p es ∧ (p = none → es = [] ∧ c = 0) ∧ es.length ≤ Rows.uptoBulk x.1 ∧ ∀ e ∈ es, e.m.data.length ≤ Rows.uptoBulk x.1 ∧ e.m.keep.length ≤ Rows.uptoBulk x.1 := by
  rcases Go.Deep.open_slice Tryd.underlying42 h with ⟨hcs, _⟩ | ⟨a, len, cap, m, n, D, Pl, hcs, hb, hl, hm, hmm, hx, hi⟩
  · simp at hcs
    subst hcs
    exact ⟨none, [], 0, rfl, ⟨fun j e he => by cases he⟩, fun _ => ⟨rfl, rfl⟩, Nat.zero_le _, fun e he => by cases he⟩
  · simp at hcs
    subst hcs
    have hlm : len ≤ m := by rw [hmm]; split <;> omega
    have c27 : Tryd.prog.cellsOf 27 = 8 := by kernel_rfl
    have hx1 : x.1 = .slice ((List.range len).map D) ((List.range (m - len)).map fun j => D (len + j)) := congrArg Prod.fst hx
    have hD : ∀ i, i < len → Rows.uptoBulk (D i) ≤ Rows.uptoBulk x.1 := fun i hil => by
      rw [hx1]
      have h1 := bulks.part_le (H := H) (List.mem_map_of_mem (f := D) (List.mem_range.2 hil))
      have h2 := bulks.slice_elems (H := H) ((List.range len).map D) ((List.range (m - len)).map fun j => D (len + j))
      omega
    have hN : len ≤ Rows.uptoBulk x.1 := by
      rw [hx1]
      have h2 := bulks.slice_le (H := H) ((List.range len).map D) ((List.range (m - len)).map fun j => D (len + j))
      rw [List.length_map, List.length_range] at h2
      omega
    have hplain : 0 < len → a = ⟨a.block, a.off, none⟩ ∧ a.block < w.heap.size := fun h0 => by
      obtain ⟨cs', hc, ht⟩ := hi 0 (by omega)
      obtain ⟨mm, dv, kv, rfl, hin⟩ := open_act ht
      rw [c27] at hc
      obtain ⟨_, _, hat⟩ := World.cells?_some hc
      have h1 := hat 0 (by omega)
      have e0 : (a.add (0 * 8)).add 0 = a := by simp [Addr.add]
      rw [e0] at h1
      exact cell_plain (h1.trans rfl)
    obtain ⟨es, hel, hes⟩ := list_of (fun i (e : Ent) => (∃ g o, some a = some ⟨g, o, none⟩ ∧ g < w.heap.size ∧ (∀ j u, e.cells[j]? = some u → w.cell? ⟨g, o + i * 8 + j, none⟩ = some u) ∧ ActIn w e.m e.dv e.kv) ∧ e.m.data.length ≤ Rows.uptoBulk x.1 ∧ e.m.keep.length ≤ Rows.uptoBulk x.1) len (fun i hil => by
      obtain ⟨cs', hc, ht⟩ := hi i (by omega)
      obtain ⟨mm, dv, kv, rfl, hin⟩ := open_act ht
      rw [c27] at hc
      obtain ⟨_, _, hat⟩ := World.cells?_some hc
      have hplain := hplain (by omega)
      have hb1 := act_le ht hin
      have hb2 := hD i hil
      refine ⟨⟨mm, dv, kv⟩, ⟨a.block, a.off, congrArg some hplain.1, hplain.2, fun j u hu => ?_, hin⟩, Nat.le_trans hb1.1 hb2, Nat.le_trans hb1.2 hb2⟩
      have hj : j < 8 := (List.getElem?_eq_some_iff.1 hu).1
      have h2 := hat j hj
      rw [hplain.1, Lib.add_plain, Lib.add_plain] at h2
      exact h2.trans hu)
    subst hel
    refine ⟨some a, es, cap, rfl, ⟨fun j e he => (hes j e he).1⟩, (fun e => by cases e), hN, fun e he => ?_⟩
    obtain ⟨i, hi⟩ := List.mem_iff_getElem?.1 he
    exact (hes i e hi).2
end

end Go.Proofs.YtbnbnccpoeopmaaDoor.Tn
