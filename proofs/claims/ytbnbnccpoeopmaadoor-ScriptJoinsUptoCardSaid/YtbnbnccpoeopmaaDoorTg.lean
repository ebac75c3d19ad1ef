/- An act that is read as data: its numbers, its bytes, its kept numbers. -/
import Derived.Test.YtbnbnccpoeopmaaDoorTe
import Derived.ProofKit
namespace Go.Proofs.YtbnbnccpoeopmaaDoor.Tg
open Go.RowKit Go.ChangeShapes Go.WideShapes Go.Proofs.YtbnbnccpoeopmaaDoor.Sd Go.Proofs.YtbnbnccpoeopmaaDoor.Sf Go.Proofs.YtbnbnccpoeopmaaDoor.Sg Go.Proofs.YtbnbnccpoeopmaaDoor.Sh Go.Proofs.YtbnbnccpoeopmaaDoor.Sp Go.Proofs.YtbnbnccpoeopmaaDoor.Su Go.Proofs.YtbnbnccpoeopmaaDoor.Sw

section
variable {H : Type} {enc : TypeId × Value → H} {w : World} {base : Nat} {spare : Nat → Bool} {held : Bool}
theorem wf_u8 {n : Int} (h : (Lit.int .u8 n).wf = true) : 0 ≤ n ∧ n < 256 := by
  have e1 : IntKind.u8.min = 0 := by decide
  have e2 : IntKind.u8.max = 255 := by decide
  simp [Lit.wf, e1, e2] at h
  omega
theorem wf_i64' {n : Int} (h : (Lit.int .i64 n).wf = true) : I64 n := by
  have e1 : IntKind.i64.min = -9223372036854775808 := by decide
  have e2 : IntKind.i64.max = 9223372036854775807 := by decide
  simp [Lit.wf, e1, e2] at h
  exact h

theorem cell_plain {a : Addr} {v : Value} (h : w.cell? a = some v) : a = ⟨a.block, a.off, none⟩ ∧ a.block < w.heap.size := by
  obtain ⟨b, o, s⟩ := a
  cases s with
  | none => exact ⟨rfl, Go.block_lt_of_cell h⟩
  | some s =>
    unfold World.cell? at h
    split at h
    · simp at h
    · cases h

theorem open_bytesIn {fuel : Nat} {v : Value} {x : DataW H × List MemPlace} (h : DataW.trod enc Tryd.prog w base spare held fuel 22 [v] = some x) :
    ∃ l : List UInt8, BytesIn w v l ∧ l.length ≤ maxLen := by
  rcases open_ints Tryd.underlying22 Tryd.underlying5 (by kernel_rfl) h with ⟨hcs, hx⟩ | ⟨a, len, cap, zs, hcs, _, hl, hm, hz, hx, hcell, hwz⟩
  · simp at hcs
    subst hcs
    exact ⟨[], bytes_nil _ _ _, Nat.zero_le _⟩
  · simp at hcs
    subst hcs
    have hlz : len ≤ zs.length := by rw [hz]; split <;> omega
    refine ⟨(zs.take len).map fun z => UInt8.ofNat z.toNat, ⟨some a, cap, ?_, fun hne => ?_⟩, ?_⟩
    · rw [List.length_map, List.length_take, Nat.min_eq_left hlz]
    · have hpos : 0 < len := by
        rcases Nat.eq_zero_or_pos len with h0 | h0
        · subst h0
          exact absurd rfl hne
        · exact h0
      have c0 := hcell 0 (by omega)
      have e0 : a.add 0 = a := by simp [Addr.add]
      rw [e0] at c0
      obtain ⟨ha, hb⟩ := cell_plain c0
      refine ⟨a.block, a.off, congrArg some ha, hb, fun j y hy => ?_⟩
      rw [List.getElem?_map] at hy
      cases hz2 : (zs.take len)[j]? with
      | none => rw [hz2] at hy; cases hy
      | some z =>
        rw [hz2] at hy
        have hy : UInt8.ofNat z.toNat = y := Option.some.inj hy
        have hj : j < len := by
          have := (List.getElem?_eq_some_iff.1 hz2).1
          rw [List.length_take] at this
          omega
        have hz3 : zs[j]? = some z := by
          rw [List.getElem?_take, if_pos hj] at hz2
          exact hz2
        have c := hcell j (by omega)
        have hwfz := wf_u8 (hwz z (List.mem_of_getElem? hz3))
        rw [List.getD_eq_getElem?_getD, hz3] at c
        have e1 : a.add j = ⟨a.block, a.off + j, none⟩ := by
          rw [ha]
          exact Lib.add_plain _ _ _
        rw [e1] at c
        rw [c, ← hy]
        simp only [Option.getD_some, Option.some.injEq, Value.int.injEq, true_and]
        rw [UInt8.toNat_ofNat']
        omega
    · rw [List.length_map, List.length_take]
      omega

theorem open_intsIn {fuel : Nat} {v : Value} {x : DataW H × List MemPlace} (h : DataW.trod enc Tryd.prog w base spare held fuel 25 [v] = some x) :
    ∃ l : List Int, IntsIn w v l ∧ l.length ≤ maxLen ∧ ∀ y ∈ l, I64 y := by
  rcases open_ints Tryd.underlying25 Tryd.underlying3 (by kernel_rfl) h with ⟨hcs, hx⟩ | ⟨a, len, cap, zs, hcs, _, hl, hm, hz, hx, hcell, hwz⟩
  · simp at hcs
    subst hcs
    exact ⟨[], ints_nil _ _ _, Nat.zero_le _, fun _ h => by cases h⟩
  · simp at hcs
    subst hcs
    have hlz : len ≤ zs.length := by rw [hz]; split <;> omega
    refine ⟨zs.take len, ⟨some a, cap, ?_, fun hne => ?_⟩, ?_, fun y hy => wf_i64' (hwz y (List.mem_of_mem_take hy))⟩
    · rw [List.length_take, Nat.min_eq_left hlz]
    · have hpos : 0 < len := by
        rcases Nat.eq_zero_or_pos len with h0 | h0
        · subst h0
          exact absurd rfl hne
        · exact h0
      have c0 := hcell 0 (by omega)
      have e0 : a.add 0 = a := by simp [Addr.add]
      rw [e0] at c0
      obtain ⟨ha, hb⟩ := cell_plain c0
      refine ⟨a.block, a.off, congrArg some ha, hb, fun j y hy => ?_⟩
      have hj : j < len := by
        have := (List.getElem?_eq_some_iff.1 hy).1
        rw [List.length_take] at this
        omega
      rw [List.getElem?_take, if_pos hj] at hy
      have c := hcell j (by omega)
      rw [List.getD_eq_getElem?_getD, hy] at c
      have e1 : a.add j = ⟨a.block, a.off + j, none⟩ := by
        rw [ha]
        exact Lib.add_plain _ _ _
      rw [e1] at c
      exact c
    · rw [List.length_take]
      omega

theorem open_one {fuel : Nat} {v : Value} {x : DataW H × List MemPlace} (h : DataW.trod enc Tryd.prog w base spare held fuel 3 [v] = some x) : ∃ n, v = .int .i64 n ∧ I64 n := by
  obtain ⟨n, hn, _, hw⟩ := DataW.trod_int Tryd.underlying3 h
  simp at hn
  exact ⟨n, hn, wf_i64' hw⟩

/-- What an act's cells are. -/
structure ActIn (w : World) (m : ActM) (dv kv : Value) : Prop where
  n : I64 m.n
  vol : I64 m.vol
  block : I64 m.block
  size : I64 m.size
  keeps : ∀ x ∈ m.keep, I64 x
  data : BytesIn w dv m.data
  keep : IntsIn w kv m.keep

set_option maxRecDepth 100000 in
theorem open_act {fuel : Nat} {cs : List Value} {x : DataW H × List MemPlace} (h : DataW.trod enc Tryd.prog w base spare held fuel 27 cs = some x) :
    ∃ m dv kv, cs = [.int .i64 m.kind, .int .i64 m.n, .int .i64 m.rk, .int .i64 m.vol, .int .i64 m.block, .int .i64 m.size, dv, kv] ∧ ActIn w m dv kv := by
  obtain ⟨xs, n, _, _, hl, hlen, hf⟩ := DataW.trod_struct Tryd.underlying27 h
  have c27 : Tryd.prog.cellsOf 27 = 8 := by kernel_rfl
  have c24 : Tryd.prog.cellsOf 24 = 5 := by kernel_rfl
  have c3 : Tryd.prog.cellsOf 3 = 1 := by kernel_rfl
  have c22 : Tryd.prog.cellsOf 22 = 1 := by kernel_rfl
  have c25 : Tryd.prog.cellsOf 25 = 1 := by kernel_rfl
  rw [c27] at hl
  match cs, hl, xs, hlen with
  | [u0, u1, u2, u3, u4, u5, u6, u7], _, [y0, y1, y2, y3], _ =>
    have g0 : DataW.trod enc Tryd.prog w base spare held n 3 [u0] = some y0 := by
      have g := hf 0 _ rfl
      simpa [c3] using g
    have g1 : DataW.trod enc Tryd.prog w base spare held n 3 [u1] = some y1 := by
      have g := hf 1 _ rfl
      simpa [c3] using g
    have g2 : DataW.trod enc Tryd.prog w base spare held n 24 [u2, u3, u4, u5, u6] = some y2 := by
      have g := hf 2 _ rfl
      simpa [c24] using g
    have g3 : DataW.trod enc Tryd.prog w base spare held n 25 [u7] = some y3 := by
      have g := hf 3 _ rfl
      simpa [c25] using g
    obtain ⟨kind, rfl, _⟩ := open_one g0
    obtain ⟨nn, rfl, hn⟩ := open_one g1
    obtain ⟨lk, hk, _, hki⟩ := open_intsIn g3
    obtain ⟨zs, n2, _, _, _, hlen2, hf2⟩ := DataW.trod_struct Tryd.underlying24 g2
    match zs, hlen2 with
    | [z0, z1, z2, z3, z4], _ =>
      have k0 : DataW.trod enc Tryd.prog w base spare held n2 3 [u2] = some z0 := by
        have g := hf2 0 _ rfl
        simpa [c3] using g
      have k1 : DataW.trod enc Tryd.prog w base spare held n2 3 [u3] = some z1 := by
        have g := hf2 1 _ rfl
        simpa [c3] using g
      have k2 : DataW.trod enc Tryd.prog w base spare held n2 3 [u4] = some z2 := by
        have g := hf2 2 _ rfl
        simpa [c3] using g
      have k3 : DataW.trod enc Tryd.prog w base spare held n2 3 [u5] = some z3 := by
        have g := hf2 3 _ rfl
        simpa [c3] using g
      have k4 : DataW.trod enc Tryd.prog w base spare held n2 22 [u6] = some z4 := by
        have g := hf2 4 _ rfl
        simpa [c22] using g
      obtain ⟨rk, rfl, _⟩ := open_one k0
      obtain ⟨vol, rfl, hv⟩ := open_one k1
      obtain ⟨block, rfl, hb⟩ := open_one k2
      obtain ⟨size, rfl, hd⟩ := open_one k3
      obtain ⟨la, ha, _⟩ := open_bytesIn k4
      exact ⟨⟨kind, nn, rk, vol, block, size, la, lk⟩, u6, u7, rfl, hn, hv, hb, hd, hki, ha, hk⟩
end

theorem ActIn.below {w w' : World} {m : ActM} {dv kv : Value} (h : ActIn w m dv kv) (hb : Below w.heap.size w w') : ActIn w' m dv kv :=
  ⟨h.n, h.vol, h.block, h.size, h.keeps, h.data.below hb, h.keep.below hb⟩
theorem ActIn.ok {w : World} {m : ActM} {dv kv : Value} (h : ActIn w m dv kv) (h1 : m.data.length ≤ 1099511627776) (h2 : m.keep.length ≤ 1099511627776) : Td.NumsOk m := ⟨h.n, h.vol, h.block, h.size, h.keeps, h1, h2⟩

end Go.Proofs.YtbnbnccpoeopmaaDoor.Tg
