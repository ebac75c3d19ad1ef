/- The walk of same, where the two acts are the same. -/
import Derived.Test.YtbnbnccpoeopmaaDoorSp
import Derived.Outline
namespace Go.Proofs.YtbnbnccpoeopmaaDoor.Sq
open Go.RowKit Go.Proofs.YtbnbnccpoeopmaaDoor.Sa Go.Proofs.YtbnbnccpoeopmaaDoor.Sb Go.Proofs.YtbnbnccpoeopmaaDoor.Sd Go.Proofs.YtbnbnccpoeopmaaDoor.Se Go.Proofs.YtbnbnccpoeopmaaDoor.Sf Go.Proofs.YtbnbnccpoeopmaaDoor.Sg Go.Proofs.YtbnbnccpoeopmaaDoor.Sh Go.Proofs.YtbnbnccpoeopmaaDoor.Sp

theorem conv_in {w : World} {p : Option Addr} {n c : Nat} {l : List UInt8} (h : BytesIn w (.slice p n c) l) : (convert 22 9 (.slice p n c)).run Tryd.prog w = .ok (.string ⟨l.toArray⟩) w := by
  obtain ⟨p', c', hv, hp⟩ := h
  cases hv
  cases l with
  | nil =>
    have h1 : Tryd.prog.underlying 22 = some (.slice 5) := by kernel_rfl
    have h2 : Tryd.prog.underlying 5 = some (.int .u8) := by kernel_rfl
    have h3 : Tryd.prog.underlying 9 = some .string := by kernel_rfl
    show (convert 22 9 (.slice p 0 c)).run Tryd.prog w = _
    rw [run_convert_bytes_string w 22 9 5 p 0 c h1 h2 h3]
    cases p <;> simp [Conv.bytesToString, loadCells]
    all_goals rfl
  | cons x t =>
    obtain ⟨b, o, rfl, hb, hc⟩ := hp (by simp)
    refine run_convert_bytes_back (P := Tryd.prog) w 22 9 5 ⟨b, o, none⟩ c (x :: t) (by kernel_rfl) (by kernel_rfl) (by kernel_rfl) (fun j hj => ?_)
    rw [Lib.add_plain]
    exact hc j _ (List.getElem?_eq_getElem hj)

theorem four (w : World) (c0 c1 c2 c3 : Array Value) :
    Below w.heap.size w ((((w.alloc (.cells c0 27)).alloc (.cells c1 27)).alloc (.cells c2 24)).alloc (.cells c3 24)).drew ∧
    ((((w.alloc (.cells c0 27)).alloc (.cells c1 27)).alloc (.cells c2 24)).alloc (.cells c3 24)).drew.heap[w.heap.size + 1 + 1]? = some (.cells c2 24 (0, 0)) ∧
    ((((w.alloc (.cells c0 27)).alloc (.cells c1 27)).alloc (.cells c2 24)).alloc (.cells c3 24)).drew.heap[w.heap.size + 1 + 1 + 1]? = some (.cells c3 24 (0, 0)) ∧
    ((((w.alloc (.cells c0 27)).alloc (.cells c1 27)).alloc (.cells c2 24)).alloc (.cells c3 24)).drew.heap.size = w.heap.size + 1 + 1 + 1 + 1 := by
  have h2 := blk_old (blk_new ((w.alloc (.cells c0 27)).alloc (.cells c1 27)) c2 24) (.cells c3 24)
  have h3 := blk_new (((w.alloc (.cells c0 27)).alloc (.cells c1 27)).alloc (.cells c2 24)) c3 24
  rw [sz_alloc, sz_alloc] at h2
  rw [sz_alloc, sz_alloc, sz_alloc] at h3
  refine ⟨Below.drew (((((Below.refl w.heap.size w).alloc (Nat.le_refl _) _).alloc (by rw [sz_alloc]; omega) _).alloc (by rw [sz_alloc, sz_alloc]; omega) _).alloc (by rw [sz_alloc, sz_alloc, sz_alloc]; omega) _), h2, h3, ?_⟩
  show (World.alloc _ _).heap.size = _
  rw [sz_alloc, sz_alloc, sz_alloc, sz_alloc]

theorem cells5 {w : World} {b : Nat} {u0 u1 u2 u3 u4 : Value} {t : TypeId} (h : w.heap[b]? = some (.cells #[u0, u1, u2, u3, u4] t (0, 0))) :
    w.cell? ⟨b, 0, none⟩ = some u0 ∧ w.cell? ⟨b, 1, none⟩ = some u1 ∧ w.cell? ⟨b, 2, none⟩ = some u2 ∧ w.cell? ⟨b, 3, none⟩ = some u3 ∧ w.cell? ⟨b, 4, none⟩ = some u4 :=
  ⟨blk_cell h 0, blk_cell h 1, blk_cell h 2, blk_cell h 3, blk_cell h 4⟩

set_option maxRecDepth 100000 in
theorem same_c (kind n rk vol block size : Int) (dv du kv ku : Value) (la : List UInt8) (lk : List Int) (w : World) (h1 : BytesIn w dv la) (h2 : BytesIn w du la) (h3 : IntsIn w kv lk) (h4 : IntsIn w ku lk) (hl : lk.length ≤ 1099511627776) :
    Calls Tryd.prog 13 #[actVal kind n rk vol block size dv kv, actVal kind n rk vol block size du ku] w fun e w' => e = .returned (.bool true) ∧ Below w.heap.size w w' := by
  have b1 := h1
  have b2 := h2
  have b3 := h3
  have b4 := h4
  obtain ⟨p1, c1, rfl, -⟩ := h1
  obtain ⟨p2, c2, rfl, -⟩ := h2
  obtain ⟨p3, c3, rfl, -⟩ := h3
  obtain ⟨p4, c4, rfl, -⟩ := h4
  have B1 := Lib.hid b1
  have B2 := Lib.hid b2
  have B3 := Lib.hid b3
  have B4 := Lib.hid b4
  clear b1 b2 b3 b4
  unfold actVal
  go_enter Tryd.func13, Tryd.ntmps13
  go_wp2
  go_region
  all_goals (go_wp2_with fail)
  all_goals first
    | (obtain ⟨q1, q2, q3, q4⟩ := four w #[.int .i64 kind, .int .i64 n, .int .i64 rk, .int .i64 vol, .int .i64 block, .int .i64 size, .slice p1 la.length c1, .slice p3 lk.length c3] #[.int .i64 kind, .int .i64 n, .int .i64 rk, .int .i64 vol, .int .i64 block, .int .i64 size, .slice p2 la.length c2, .slice p4 lk.length c4] #[.int .i64 rk, .int .i64 vol, .int .i64 block, .int .i64 size, .slice p1 la.length c1] #[.int .i64 rk, .int .i64 vol, .int .i64 block, .int .i64 size, .slice p2 la.length c2]
       refine (ints_c _ _ lk _ (B3.out.below q1) (B4.out.below q1) hl).mono ?_
       rintro e w5 ⟨rfl, hb5⟩
       have hb := q1.trans (hb5.mono (by rw [q4]; omega))
       obtain ⟨e0, e1, e2, e3, e4⟩ := cells5 (blk_below q2 hb5 (by rw [q4]; omega))
       obtain ⟨f0, f1, f2, f3, f4⟩ := cells5 (blk_below q3 hb5 (by rw [q4]; omega))
       have v1 := conv_in (B1.out.below hb)
       have v2 := conv_in (B2.out.below hb)
       have HB := Lib.hid hb
       clear q1 q2 q3 q4 hb5 hb
       go_wp2
       go_ret
       exact ⟨rfl, HB.out⟩)
    | (obtain ⟨q1, q2, q3, q4⟩ := four w #[.int .i64 kind, .int .i64 n, .int .i64 rk, .int .i64 vol, .int .i64 block, .int .i64 size, .slice p1 la.length c1, .slice p3 lk.length c3] #[.int .i64 kind, .int .i64 n, .int .i64 rk, .int .i64 vol, .int .i64 block, .int .i64 size, .slice p2 la.length c2, .slice p4 lk.length c4] #[.int .i64 rk, .int .i64 vol, .int .i64 block, .int .i64 size, .slice p2 la.length c2] #[.int .i64 rk, .int .i64 vol, .int .i64 block, .int .i64 size, .slice p1 la.length c1]
       refine (ints_c _ _ lk _ (B3.out.below q1) (B4.out.below q1) hl).mono ?_
       rintro e w5 ⟨rfl, hb5⟩
       have hb := q1.trans (hb5.mono (by rw [q4]; omega))
       obtain ⟨e0, e1, e2, e3, e4⟩ := cells5 (blk_below q2 hb5 (by rw [q4]; omega))
       obtain ⟨f0, f1, f2, f3, f4⟩ := cells5 (blk_below q3 hb5 (by rw [q4]; omega))
       have v1 := conv_in (B1.out.below hb)
       have v2 := conv_in (B2.out.below hb)
       have HB := Lib.hid hb
       clear q1 q2 q3 q4 hb5 hb
       go_wp2
       go_ret
       exact ⟨rfl, HB.out⟩)

end Go.Proofs.YtbnbnccpoeopmaaDoor.Sq
