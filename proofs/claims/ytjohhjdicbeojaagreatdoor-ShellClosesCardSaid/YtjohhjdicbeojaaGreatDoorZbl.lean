/- Texts joined: Vs Vf Su Sv. -/
import Derived.Shelf.Slices.Turned
import Derived.Ground.Names2Prog
import Derived.Shelf.Slices.SearchI
import Derived.Shelf.Slices.Empties
import Derived.Test.YtjohhjdicbeojaaGreatDoorProg
import Derived.Test.YtjohhjdicbeojaaGreatDoorZbe
import Derived.Test.YtjohhjdicbeojaaGreatDoorZbk
namespace Go.Proofs
open Go.Shelf
open Go.Lib in
def Tryz.lays107_ren : Go.Shelf.Ren := ⟨fun | 107 => 39 | 108 => 69 | n => n, fun | 28 => 25 | 3 => 3 | 4 => 4 | 0 => 0 | n => n, fun | n => n⟩
theorem Tryz.lays107 : Go.Proofs.Lays.n107 Tryz.prog Tryz.lays107_ren := {
  mixed := by kernel_rfl
  f107 := Tryz.func39.trans (congrArg some (by kernel_rfl))
  f108 := Tryz.func69.trans (congrArg some (by kernel_rfl))
  t0 := Tryz.underlying0
  a0 := Tryz.isAgg0
  z0 := Tryz.sizeOf0
  v0 := Tryz.zeroValue0
  t3 := Tryz.underlying3
  a3 := Tryz.isAgg3
  z3 := Tryz.sizeOf3
  v3 := Tryz.zeroValue3
  t4 := Tryz.underlying4
  a4 := Tryz.isAgg4
  z4 := Tryz.sizeOf4
  v4 := Tryz.zeroValue4
  t28 := Tryz.underlying25
  a28 := Tryz.isAgg25
  z28 := Tryz.sizeOf25
  v28 := Tryz.zeroValue25 }
open Go.Lib in
/-- slices.Contains at []int: "Contains reports whether v is present in s.": IT RETURNS 'elements.contains v'; the world is as it was. ITS CALLEE slices.Index IS MET BY ITS OWN CONTRACT OFF THE SHELF (lay that first): no loop is walked here. (LAID: no walk: one application.) -/
theorem Tryz.slices_Contains_int (b off n c : Nat) (zs : List Int) (x : Int) (w : World) (hz : n ≤ zs.length) (hbig : n ≤ 9223372036854775807) (hc : ∀ j, j < zs.length → w.cell? ⟨b, off + j, none⟩ = some (.int .i64 (zs.getD j 0))) :
    Calls Tryz.prog 39 #[.slice (some ⟨b, off, none⟩) n c, .int .i64 x] w fun e w' => e = .returned (.bool ((zs.take n).contains x)) ∧ w' = w := Any.slices_Contains_int Tryz.lays107 b off n c zs x w hz hbig hc
open Go.Lib in
/-- The same at a slice of length 0, a nil one too. (LAID: no walk: one application.) -/
theorem Tryz.slices_Contains_int_empty (a : Option Addr) (c : Nat) (x : Int) (w : World) :
    Calls Tryz.prog 39 #[.slice a 0 c, .int .i64 x] w fun e w' => e = .returned (.bool false) ∧ w' = w := Any.slices_Contains_int_empty Tryz.lays107 a c x w
open Go.RowKit Go.Lib in
def Tryz.laysNm225_ren : Go.Shelf.Ren := ⟨fun | 25 => 119 | 31 => 177 | 32 => 178 | 37 => 221 | n => n, fun | 22 => 25 | 3 => 3 | 4 => 4 | 40 => 88 | 0 => 0 | n => n, fun | n => n⟩
theorem Tryz.laysNm225 : Go.Proofs.Lays2.n25 Tryz.prog Tryz.laysNm225_ren := {
  mixed := by kernel_rfl
  f25 := Tryz.func119.trans (congrArg some (by kernel_rfl))
  f31 := Tryz.func177.trans (congrArg some (by kernel_rfl))
  f32 := Tryz.func178.trans (congrArg some (by kernel_rfl))
  f37 := Tryz.func221.trans (congrArg some (by kernel_rfl))
  t0 := Tryz.underlying0
  a0 := Tryz.isAgg0
  z0 := Tryz.sizeOf0
  v0 := Tryz.zeroValue0
  t3 := Tryz.underlying3
  a3 := Tryz.isAgg3
  z3 := Tryz.sizeOf3
  v3 := Tryz.zeroValue3
  t4 := Tryz.underlying4
  a4 := Tryz.isAgg4
  z4 := Tryz.sizeOf4
  v4 := Tryz.zeroValue4
  t22 := Tryz.underlying25
  a22 := Tryz.isAgg25
  z22 := Tryz.sizeOf25
  v22 := Tryz.zeroValue25
  t40 := Tryz.underlying88
  a40 := Tryz.isAgg88
  z40 := Tryz.sizeOf88
  v40 := Tryz.zeroValue88 }
open Go.RowKit Go.Lib in
/-- slices.BinarySearch at []int: "BinarySearch searches for target in a sorted slice and returns the earliest position where target is found, or the position where target would appear in the sort order; it also returns a bool saying whether the target is really found in the slice. The slice must be sorted in increasing order.": OF A SORTED SLICE IT RETURNS how many elements are less than the target, and whether the target is among the elements; the world is as it was but for the count of draws. 'zs': what the cells behind the slice's address hold; 'zs.take n': its elements. (Of a slice that is not sorted: no contract here.) (LAID: no walk: one application.) -/
theorem Tryz.slices_BinarySearch_int (b off n c : Nat) (zs : List Int) (x : Int) (w : World) (hz : n ≤ zs.length) (hbig : n < 4611686018427387904) (hc : ∀ j, j < zs.length → w.cell? ⟨b, off + j, none⟩ = some (.int .i64 (zs.getD j 0))) (hs : (zs.take n).Pairwise (· ≤ ·)) :
    Calls Tryz.prog 119 #[.slice (some ⟨b, off, none⟩) n c, .int .i64 x] w fun e w' => e = .returned (.tuple #[.int .i64 ((zs.take n).countP (· < x) : Nat), .bool ((zs.take n).contains x)]) ∧ ∃ q, w' = w.drewN q := Any.slices_BinarySearch_int Tryz.laysNm225 b off n c zs x w hz hbig hc hs
open Go.RowKit Go.Lib in
/-- slices.BinarySearch at []int of no element: position 0, not found; the world is as it was. (LAID: no walk: one application.) -/
theorem Tryz.slices_BinarySearch_int_empty (a : Option Addr) (c : Nat) (x : Int) (w : World) :
    Calls Tryz.prog 119 #[.slice a 0 c, .int .i64 x] w fun e w' => e = .returned (.tuple #[.int .i64 0, .bool false]) ∧ w' = w := Any.slices_BinarySearch_int_empty Tryz.laysNm225 a c x w
end Go.Proofs
namespace Go.Proofs.YtjohhjdicbeojaaGreatDoor.Vf
open Go.RowKit Go.Proofs.YtjohhjdicbeojaaGreatDoor.Ra Go.Proofs.YtjohhjdicbeojaaGreatDoor.Rj Go.Proofs.YtjohhjdicbeojaaGreatDoor.Rl Go.Proofs.YtjohhjdicbeojaaGreatDoor.Rn Go.Proofs.YtjohhjdicbeojaaGreatDoor.Ro Go.Proofs.YtjohhjdicbeojaaGreatDoor.Rt Go.Proofs.YtjohhjdicbeojaaGreatDoor.Ud
set_option maxRecDepth 8000
def upZ (n : Nat) : List Int := (List.range n).map fun i : Nat => (i : Int)
theorem upZ_len (n : Nat) : (upZ n).length = n := by unfold upZ; simp
theorem upZ_take (n : Nat) : (upZ n).take n = upZ n := List.take_of_length_le (by rw [upZ_len]; exact Nat.le_refl _)
theorem upZ_get (n j : Nat) (h : j < n) : (upZ n).getD j 0 = (j : Int) := by unfold upZ; simp [List.getD, h]
theorem upZ_not (n : Nat) : (upZ n).contains (n : Int) = false := by
  rw [Bool.eq_false_iff]
  intro h
  have := List.contains_iff_mem.1 h
  unfold upZ at this
  simp at this
  omega
theorem upZ_count (n : Nat) : (upZ n).countP (· < (n : Int)) = n := by
  have : (upZ n).countP (· < (n : Int)) = (upZ n).length := by
    rw [List.countP_eq_length]
    intro a ha
    unfold upZ at ha
    simp at ha ⊢
    obtain ⟨x, hx, rfl⟩ := ha
    omega
  rw [this, upZ_len]
theorem upZ_sorted (n : Nat) : (upZ n).Pairwise (· ≤ ·) := by
  unfold upZ
  rw [List.pairwise_map]
  exact (List.pairwise_lt_range (n := n)).imp (fun h => by omega)
theorem up_cells {w : World} {B : Nat} {n : Nat} {g c : Nat} (h : w.ownsRow B 3 1 (.slice (some ⟨g, 0, none⟩) n c) n (upTo n)) : ∀ j, j < (upZ n).length → w.cell? ⟨g, 0 + j, none⟩ = some (.int .i64 ((upZ n).getD j 0)) := fun j hj => by
  rw [upZ_len] at hj
  have := h.cells (g := g) rfl j (.int .i64 (j : Int)) (by unfold upTo; rw [List.getElem?_map, List.getElem?_range hj]; rfl)
  rw [Addr.add_lit] at this
  rw [upZ_get n j hj]
  simpa using this
theorem up_form {w : World} {B : Nat} {n : Nat} {v : Value} (h : w.ownsRow B 3 1 v n (upTo n)) : (n = 0 ∧ ∃ p c, v = .slice p 0 c) ∨ (0 < n ∧ ∃ g c, v = .slice (some ⟨g, 0, none⟩) n c ∧ n ≤ c ∧ g < w.heap.size) := by
  rcases h.2 with ⟨rfl, h0⟩ | ⟨g, cap, cur, rfl, hg, hh, hc, _⟩
  · exact .inl ⟨h0, none, 0, rfl⟩
  · rcases Nat.eq_zero_or_pos n with h0 | h0
    · subst h0
      exact .inl ⟨rfl, _, _, rfl⟩
    · exact .inr ⟨h0, g, cap, rfl, hc, lt_of_block hh⟩
theorem contains_up {w : World} {B : Nat} {n : Nat} {v : Value} (hn : n ≤ 24) (h : w.ownsRow B 3 1 v n (upTo n)) : Calls Tryz.prog 39 #[v, .int .i64 (n : Int)] w fun e w' => e = .returned (.bool false) ∧ w = w' := by
  rcases up_form h with ⟨rfl, p, c, rfl⟩ | ⟨h0, g, c, rfl, _, _⟩
  · exact (Tryz.slices_Contains_int_empty p c _ w).mono fun e w' h => ⟨h.1, h.2.symm⟩
  · refine (Tryz.slices_Contains_int g 0 n c (upZ n) n w (by rw [upZ_len]; exact Nat.le_refl _) (by omega) (up_cells h)).mono ?_
    rintro e w' ⟨rfl, rfl⟩
    rw [upZ_take, upZ_not]
    exact ⟨rfl, rfl⟩
theorem search_up {w : World} {B : Nat} {n : Nat} {v : Value} (hn : n ≤ 24) (h : w.ownsRow B 3 1 v n (upTo n)) : Calls Tryz.prog 119 #[v, .int .i64 (n : Int)] w fun e w' => e = .returned (.tuple #[.int .i64 (n : Int), .bool false]) ∧ ∃ q, w' = w.drewN q := by
  rcases up_form h with ⟨rfl, p, c, rfl⟩ | ⟨h0, g, c, rfl, _, _⟩
  · exact (Tryz.slices_BinarySearch_int_empty p c _ w).mono fun e w' h => ⟨h.1, 0, h.2⟩
  · refine (Tryz.slices_BinarySearch_int g 0 n c (upZ n) n w (by rw [upZ_len]; exact Nat.le_refl _) (by omega) (up_cells h) (by rw [upZ_take]; exact upZ_sorted n)).mono ?_
    rintro e w' ⟨rfl, q, rfl⟩
    rw [upZ_take, upZ_not, upZ_count]
    exact ⟨rfl, q, rfl⟩
/-- Insert behind the end. -/
structure Ins (B n : Nat) (w w' : World) (v v' : Value) : Prop where
  row : w'.ownsRow B 3 1 v' (n + 1) (upTo (n + 1))
  grown : w.grownBy w' v.ownBlock
set_option maxHeartbeats 4000000 in
theorem insert_up {w : World} {B : Nat} {n : Nat} {v : Value} (hn : n ≤ 24) (hB : B ≤ w.heap.size) (h : w.ownsRow B 3 1 v n (upTo n)) (a : Addr) (ha : w.cell? (a.add 0) = some (.int .i64 (n : Int))) :
    Calls Tryz.prog 120 #[v, .int .i64 (n : Int), .slice (some a) 1 1] w fun e w' => ∃ v', e = .returned v' ∧ Ins B n w w' v v' := by
  obtain ⟨i0, hi, hz0, hz1, hz2⟩ := info_parts info_int
  have HI := Lib.hid hi
  have HZ0 := Lib.hid hz0
  have HZ1 := Lib.hid hz1
  have HZ2 := Lib.hid hz2
  have OW := Lib.hid h
  have HBB := Lib.hid hB
  have h63 : Hid (n + 1 ≤ maxLen) := Lib.hid (by unfold maxLen; omega)
  have hbs : Hid ((n + 1) * 8 ≤ 140737488355328) := Lib.hid (by omega)
  have HA : Hid (∀ (j : Nat) (u : Value), [Value.int .i64 (n : Int)][j]? = some u → w.cell? (a.add j) = some u) := Lib.hid (fun j u hj => by
    cases j with
    | zero =>
      obtain rfl := Option.some.inj hj
      exact ha
    | succ j => cases hj)
  clear hi hz0 hz1 hz2
  rcases up_form h with ⟨rfl, p, c, rfl⟩ | ⟨h0, g, c, rfl, hnc, _⟩
  · clear h ha hB hn
    go_enter Tryz.func120, Tryz.ntmps120
    go_wp2_with (at_builtin; go_loud (refine wpList_append_lies _ rfl _ _ 25 rfl B 3 i0 (.int .i64 0) 1 8 Tryz.underlying25 HI.out HZ0.out HZ1.out HZ2.out rfl (by decide) _ 0 (upTo 0) rfl OW.out a 1 1 [.int .i64 0] rfl rfl HA.out (by simp [Value.oneCell']) (by decide) h63.out hbs.out HBB.out _ rfl ?_))
    all_goals (
      intro g3 cap3 w6 hown hgrow _ _
      have HN := Lib.hid (Ins.mk (B := B) (by rw [upTo_succ]; exact hown) hgrow)
      clear hown hgrow
      go_wp2
      go_ret
      exact ⟨_, rfl, ⟨HN.out.row, HN.out.grown⟩⟩)
  · clear h ha hB
    have e1 : ¬ (n : Int) < 0 := by omega
    have e2 : ((n : Int) = 0) = False := by simp; omega
    go_enter Tryz.func120, Tryz.ntmps120
    go_wp2_with (at_builtin; go_loud (refine wpList_append_lies _ rfl _ _ 25 rfl B 3 i0 (.int .i64 0) 1 8 Tryz.underlying25 HI.out HZ0.out HZ1.out HZ2.out rfl (by decide) _ n (upTo n) rfl OW.out a 1 1 [.int .i64 (n : Int)] rfl rfl HA.out (by simp [Value.oneCell']) (by decide) h63.out hbs.out HBB.out _ rfl ?_))
    all_goals (
      intro g3 cap3 w6 hown hgrow _ _
      have HN := Lib.hid (Ins.mk (B := B) (by rw [upTo_succ]; exact hown) hgrow)
      clear hown hgrow
      go_wp2
      go_ret
      exact ⟨_, rfl, ⟨HN.out.row, HN.out.grown⟩⟩)
/-- A strand, with the segments 0, .., n - 1. -/
structure StrandAt (B : Nat) (w0 w : World) (S : Nat) (s b : Int) (n : Nat) (v : Value) : Prop where
  ge : B ≤ S
  blk : w.heap[S]? = some (.cells #[.int .i64 s, .int .i64 b, v, .int .i64 (-1), .int .i64 0] 155 (0, 0))
  row : w.ownsRow B 3 1 v n (upTo n)
  below : Below B w0 w
theorem StrandAt.size {B : Nat} {w0 w : World} {S : Nat} {s b : Int} {n : Nat} {v : Value} (h : StrandAt B w0 w S s b n v) : B ≤ w.heap.size := Nat.le_of_lt (Nat.lt_of_le_of_lt h.ge (lt_of_block h.blk))
theorem StrandAt.ne {B : Nat} {w0 w : World} {S : Nat} {s b : Int} {n : Nat} {v : Value} (h : StrandAt B w0 w S s b n v) : v.ownBlock ≠ some S := fun e => by
  rcases h.row.2 with ⟨rfl, _⟩ | ⟨g, cap, cur, rfl, _, hh, _⟩
  · cases e
  · obtain rfl : g = S := Option.some.inj e
    rw [h.blk] at hh
    injection hh with hh
    injection hh with _ hh _
    exact absurd hh (by decide)
/-- Insert's call, and the store. -/
theorem StrandAt.next {B : Nat} {w0 w w1 : World} {S : Nat} {s b : Int} {n : Nat} {v v' : Value} (h : StrandAt B w0 w S s b n v) (hi : Ins B n w w1 v v') : StrandAt B w0 (w1.setCell ⟨S, 2, none⟩ v') S s b (n + 1) v' := by
  have hb : w1.heap[S]? = some (.cells #[.int .i64 s, .int .i64 b, v, .int .i64 (-1), .int .i64 0] 155 (0, 0)) := (hi.grown.block S (lt_of_block h.blk) (fun e => h.ne e.symm)).trans h.blk
  refine ⟨h.ge, blk_set hb 2 v', ⟨hi.row.1, ?_⟩, ?_⟩
  · rcases hi.row.2 with hn | ⟨g, cap, cur, rfl, hg, hh, r⟩
    · exact .inl hn
    · refine .inr ⟨g, cap, cur, rfl, hg, blk_set_other hh (fun e => ?_) _, r⟩
      have e' : g = S := e
      subst e'
      rw [hb] at hh
      injection hh with hh
      injection hh with _ hh _
      exact absurd hh (by decide)
  · exact (h.below.trans (below_grown h.row h.size hi.grown)).setCell h.ge _
theorem StrandAt.ins {B : Nat} {w0 w w1 : World} {S : Nat} {s b : Int} {n : Nat} {v v' : Value} (h : StrandAt B w0 w S s b n v) (hi : Ins B n w w1 v v') : w1.cell? ⟨S, 2, none⟩ = some v ∧ w1.frozen? ⟨S, 2, none⟩ = false ∧ ∃ p m c, v' = .slice p m c := by
  have hb : w1.heap[S]? = some (.cells #[.int .i64 s, .int .i64 b, v, .int .i64 (-1), .int .i64 0] 155 (0, 0)) := (hi.grown.block S (lt_of_block h.blk) (fun e => h.ne e.symm)).trans h.blk
  refine ⟨blk_cell hb 2, blk_free hb 2, ?_⟩
  rcases up_form hi.row with ⟨_, p, c, h⟩ | ⟨_, g, c, h, _⟩
  · exact ⟨_, _, _, h⟩
  · exact ⟨_, _, _, h⟩
theorem StrandAt.drewN {B : Nat} {w0 w : World} {S : Nat} {s b : Int} {n : Nat} {v : Value} (h : StrandAt B w0 w S s b n v) (q : Nat) : StrandAt B w0 (w.drewN q) S s b n v :=
  ⟨h.ge, h.blk, h.row, below_drewN h.below q⟩
theorem StrandAt.alloc {B : Nat} {w0 w : World} {S : Nat} {s b : Int} {n : Nat} {v : Value} (h : StrandAt B w0 w S s b n v) (o : Obj) : StrandAt B w0 (w.alloc o) S s b n v :=
  ⟨h.ge, blk_old h.blk o, h.row.alloc o, h.below.alloc h.size o⟩
theorem StrandAt.cells {B : Nat} {w0 w : World} {S : Nat} {s b : Int} {n : Nat} {v : Value} (h : StrandAt B w0 w S s b n v) : w.cell? ⟨S, 0, none⟩ = some (.int .i64 s) ∧ w.cell? ⟨S, 2, none⟩ = some v ∧ w.cell? ⟨S, 3, none⟩ = some (.int .i64 (-1)) ∧ w.frozen? ⟨S, 2, none⟩ = false :=
  ⟨blk_cell h.blk 0, blk_cell h.blk 2, blk_cell h.blk 3, blk_free h.blk 2⟩
set_option maxHeartbeats 4000000 in
theorem sfree_c {B : Nat} {w0 w : World} {S : Nat} {s b : Int} {n : Nat} {v : Value} (h : StrandAt B w0 w S s b n v) (hn : (n : Int) < s) (hs : s ≤ 24) :
    Calls Tryz.prog 68 #[.pointer (some ⟨S, 0, none⟩), .int .i64 (n : Int)] w fun e w' => e = .returned (.int .i64 0) ∧ ∃ v', StrandAt B w0 w' S s b (n + 1) v' := by
  have H0 := Lib.hid h
  have KC := Lib.hid (contains_up (by omega) h.row)
  have KS := Lib.hid (search_up (by omega) h.row)
  have KI := Lib.hid (fun (W : World) (hh : StrandAt B w0 W S s b n v) (a : Addr) (ha : W.cell? (a.add 0) = some (.int .i64 (n : Int))) => insert_up (by omega) hh.size hh.row a ha)
  have hL : S < w.heap.size := lt_of_block h.blk
  have g0 : ¬ (n : Int) < 0 := by omega
  have g1 : ¬ s ≤ (n : Int) := by omega
  have g2 : ((n : Int) = -1) = False := by first | (simp; done) | (simp; omega)
  obtain ⟨c0, c2, c3, f2⟩ := h.cells
  clear h hn hs
  go_enter Tryz.func68, Tryz.ntmps68
  go_upto_region 6 with (first
    | (go_at_call 39; (with_reducible refine KC.out.mono ?_); rintro e w1 ⟨rfl, rfl⟩)
    | (go_at_call 119; (with_reducible refine KS.out.mono ?_); rintro e w1 ⟨rfl, q, rfl⟩))
  have H2 := Lib.hid (H0.out.drewN q)
  clear c0 c2 c3 f2 KC KS
  generalize w.drewN q = w2 at *
  obtain ⟨c0, c2, c3, f2⟩ := H2.out.cells
  go_wp2_with (go_at_call 120; go_loud (refine (KI.out _ (H2.out.alloc _) _ (blk_cell (blk_new _ _ _) 0)).mono ?_); go_loud (rintro e w4 ⟨v', rfl, hi⟩; have H4 := Lib.hid ((H2.out.alloc _).next hi); obtain ⟨d2, e2, pv, nv, cv, rfl⟩ := (H2.out.alloc _).ins hi; clear hi))
  go_ret
  exact ⟨rfl, _, H4.out⟩
theorem StrandAt.new {B : Nat} {w0 w : World} (hb : Below B w0 w) (hB : B ≤ w.heap.size) (s b : Int) : StrandAt B w0 (w.alloc (.cells #[.int .i64 s, .int .i64 b, .slice none 0 0, .int .i64 (-1), .int .i64 0] 155)) w.heap.size s b 0 (.slice none 0 0) :=
  ⟨hB, blk_new _ _ _, World.ownsRow_nil _ _ _ _, hb.alloc hB _⟩
set_option maxHeartbeats 4000000 in
theorem snew_c (s : Nat) (b : Int) (hm : MayP s b) (v : Value) {B0 : Nat} (w : World) (hv : w.ownsRow B0 3 1 v s (upTo s)) :
    Calls Tryz.prog 38 #[.agg #[.int .i64 (s : Int), .int .i64 b], v] w fun e w' => ∃ S, (e = .returned (.tuple #[.pointer (some ⟨S, 0, none⟩), .int .i64 0])) ∧ Below w.heap.size w w' := by
  have kc := fun (W : World) => check_c s b W
  simp only [if_pos hm] at kc
  have KC := Lib.hid kc
  have KF := Lib.hid (fun (W : World) (S n : Nat) (x : Value) (hh : StrandAt w.heap.size w W S s b n x) (hn : (n : Int) < s) => sfree_c hh hn (by have := hm.2.1; omega))
  have hs1 : 0 < s := by have := hm.1; omega
  have hs24 : s ≤ 24 := by have := hm.2.1; omega
  obtain ⟨g, c, rfl, hsc, hg⟩ : ∃ g c, v = .slice (some ⟨g, 0, none⟩) s c ∧ s ≤ c ∧ g < w.heap.size := by
    rcases up_form hv with ⟨h, _⟩ | ⟨_, h⟩
    · omega
    · exact h
  have HC : Hid (∀ j : Nat, j < s → w.cell? ⟨g, j, none⟩ = some (.int .i64 (j : Int))) := Lib.hid (fun j hj => by
    have := up_cells hv j (by rw [upZ_len]; exact hj)
    rw [upZ_get s j hj, Nat.zero_add] at this
    exact this)
  have HB0 := Lib.hid (blk_new w #[.int .i64 (s : Int), .int .i64 b] 58)
  have HL0 : Hid (Below w.heap.size w (w.alloc (.cells #[.int .i64 (s : Int), .int .i64 b] 58))) := Lib.hid ((Below.refl _ _).alloc (Nat.le_refl _) _)
  clear hv kc hm
  go_enter Tryz.func38, Tryz.ntmps38
  go_upto_region 1 with fail
  generalize (w.alloc (.cells #[.int .i64 (s : Int), .int .i64 b] 58)) = w0 at *
  have b0 := blk_cell HB0.out 0
  have b1 := blk_cell HB0.out 1
  have b0' : w0.cell? ⟨w.heap.size, 0, none⟩ = some (.int .i64 (s : Int)) := b0
  have b1' : w0.cell? ⟨w.heap.size, 1, none⟩ = some (.int .i64 b) := b1
  clear b0 b1
  go_upto_region 6 with (go_at_call 67; (with_reducible refine (KC.out _).mono ?_); rintro e w1 ⟨rfl, hb1⟩; have HB1 := Lib.hid (blk_below HB0.out hb1 (lt_of_block HB0.out)); have HL1 := Lib.hid (HL0.out.trans (hb1.mono HL0.out.size)); have d0 : w1.cell? ⟨w.heap.size, 0, none⟩ = some (.int .i64 (s : Int)) := blk_cell HB1.out 0; have d1 : w1.cell? ⟨w.heap.size, 1, none⟩ = some (.int .i64 b) := blk_cell HB1.out 1; clear hb1)
  have HS := Lib.hid (StrandAt.new HL1.out HL1.out.size (s : Int) b)
  go_loopg [9, 10, 21] (s + 1) (fun gg _ _ s21 wr => ∃ j : Nat, j ≤ s ∧ s - j < gg ∧ s21 = .int .i64 (j : Int) ∧ Hid (∃ x, StrandAt w.heap.size w wr w1.heap.size s b j x))
  case atStart => exact ⟨0, by omega, by omega, rfl, Lib.hid ⟨_, HS.out⟩⟩
  case round =>
    obtain ⟨j, hj, hgg, rfl, HR⟩ := hrel
    obtain ⟨x, hx⟩ := HR.out
    have HX := Lib.hid hx
    clear hx
    by_cases hlt : j < s
    · have hil : (j : Int) < (s : Int) := by omega
      have cj : wr.cell? ⟨g, j, none⟩ = some (.int .i64 (j : Int)) := (HX.out.below.cell (p := ⟨g, j, none⟩) hg).trans (HC.out j hlt)
      go_wp2_with (go_at_call 68; (with_reducible refine (KF.out _ _ _ _ HX.out hil).mono ?_); rintro e w2 ⟨rfl, x', hx'⟩; have HX2 := Lib.hid hx'; clear hx')
      go_roundg (s - (j + 1) + 1)
      case measure => omega
      case rel => exact ⟨j + 1, by omega, by omega, by go_num, Lib.hid ⟨_, HX2.out⟩⟩
    · have hil : ¬ (j : Int) < (s : Int) := by omega
      go_wp2
      go_ret2
      exact ⟨⟨_, rfl⟩, HX.out.below⟩
end Go.Proofs.YtjohhjdicbeojaaGreatDoor.Vf
namespace Go.Proofs.YtjohhjdicbeojaaGreatDoor.Su
open Go.RowKit Go.Proofs.YtjohhjdicbeojaaGreatDoor.Ra Go.Proofs.YtjohhjdicbeojaaGreatDoor.Rc Go.Proofs.YtjohhjdicbeojaaGreatDoor.Re Go.Proofs.YtjohhjdicbeojaaGreatDoor.Rf Go.Proofs.YtjohhjdicbeojaaGreatDoor.Rg Go.Proofs.YtjohhjdicbeojaaGreatDoor.Rh Go.Proofs.YtjohhjdicbeojaaGreatDoor.Ri Go.Proofs.YtjohhjdicbeojaaGreatDoor.Rj Go.Proofs.YtjohhjdicbeojaaGreatDoor.Rl Go.Proofs.YtjohhjdicbeojaaGreatDoor.Sf Go.Proofs.YtjohhjdicbeojaaGreatDoor.Sg Go.Proofs.YtjohhjdicbeojaaGreatDoor.Sj Go.Proofs.YtjohhjdicbeojaaGreatDoor.Sq Go.Proofs.YtjohhjdicbeojaaGreatDoor.Ss Go.Proofs.YtjohhjdicbeojaaGreatDoor.St
set_option maxRecDepth 8000
theorem splice_get (l : List UInt8) (o : Nat) (x : List UInt8) (h : o + x.length ≤ l.length) (m : Nat) : (Ri.splice l o x)[m]? = if m < o then l[m]? else if m < o + x.length then x[m - o]? else l[m]? := by
  unfold Ri.splice
  rw [List.append_assoc, List.getElem?_append, List.length_take, Nat.min_eq_left (by omega)]
  by_cases h1 : m < o
  · rw [if_pos h1, if_pos h1, List.getElem?_take, if_pos h1]
  · rw [if_neg h1, if_neg h1, List.getElem?_append]
    by_cases h2 : m < o + x.length
    · rw [if_pos h2, if_pos (by omega)]
    · rw [if_neg h2, if_neg (by omega), List.getElem?_drop]
      congr 1
      omega
theorem secL_get (l : List UInt8) (j k : Nat) : (secL l j)[k]? = if k < 64 then l[j * 64 + k]? else none := by
  unfold secL
  rw [List.getElem?_take]
  split
  · rw [List.getElem?_drop]
  · rfl
theorem secL_put (l : List UInt8) (i j : Nat) (x : List UInt8) (hx : x.length = 64) (hi : (i + 1) * 64 ≤ l.length) : secL (Ri.splice l (i * 64) x) j = if j = i then x else secL l j := by
  apply List.ext_getElem?
  intro k
  rw [secL_get, splice_get _ _ _ (by omega)]
  by_cases hk : k < 64
  · rw [if_pos hk]
    by_cases hj : j = i
    · subst hj
      rw [if_neg (by omega), if_pos (by omega), if_pos rfl]
      congr 1
      omega
    · rw [if_neg hj, secL_get, if_pos hk]
      rcases Nat.lt_or_gt_of_ne hj with h | h
      · have : (j + 1) * 64 ≤ i * 64 := Nat.mul_le_mul_right _ h
        rw [if_pos (by omega)]
      · have : (i + 1) * 64 ≤ j * 64 := Nat.mul_le_mul_right _ h
        rw [if_neg (by omega), if_neg (by omega)]
  · rw [if_neg hk]
    by_cases hj : j = i
    · rw [if_pos hj, List.getElem?_eq_none (by omega)]
    · rw [if_neg hj, secL_get, if_neg hk]
/-- Its sectors are all there. -/
def Whole (d : Dev) : Prop := d.now.length = d.n * 64
theorem sec_one {d : Dev} (h : Whole d) (i : Nat) (v : Value) (l : List UInt8) (hl : l.length = 64) (hi : i < d.n) (j : Nat) : secL (putAll d [⟨(i : Int), v, l⟩]).now j = if j = i then l else secL d.now j :=
  secL_put d.now i j l hl (by rw [h]; exact Nat.mul_le_mul_right _ hi)
theorem whole_one {d : Dev} (h : Whole d) (i : Nat) (v : Value) (l : List UInt8) (hl : l.length = 64) (hi : i < d.n) : Whole (putAll d [⟨(i : Int), v, l⟩]) := by
  show (Ri.splice d.now (i * 64) l).length = d.n * 64
  have := Nat.mul_le_mul_right 64 (show i + 1 ≤ d.n from hi)
  rw [splice_len _ _ _ (by rw [h, hl]; omega)]
  exact h
theorem z64_len : z64.length = 64 := List.length_replicate
theorem sec_wz {d : Dev} (h : Whole d) (i : Nat) (hi : i < d.n) (j : Nat) : secL (putAll d [wz i]).now j = if j = i then z64 else secL d.now j := sec_one h i _ z64 z64_len hi j
theorem whole_wz {d : Dev} (h : Whole d) (i : Nat) (hi : i < d.n) : Whole (putAll d [wz i]) := whole_one h i _ z64 z64_len hi
theorem fmt0_now (d : Dev) : (fmtK d 0).now = (putAll (putAll d [wz 0]) [wz 12]).now := rfl
theorem fmtK_succ (d : Dev) (k : Nat) : fmtK d (k + 1) = putAll (fmtK d k) [wz (24 + k)] := rfl
theorem fmtK_whole {d : Dev} (h : Whole d) (hn : 40 ≤ d.n) : ∀ k, k ≤ 16 → Whole (fmtK d k)
  | 0, _ => by
    have h1 := whole_wz (whole_wz h 0 (by omega)) 12 (by rw [putAll_n]; omega)
    unfold Whole at h1 ⊢
    rw [fmt0_now, h1, putAll_n, putAll_n, fmtK_n]
  | k + 1, hk => by
    rw [fmtK_succ]
    exact whole_wz (fmtK_whole h hn k (by omega)) (24 + k) (by rw [fmtK_n]; omega)
theorem fmt_0 {d : Dev} (h : Whole d) (hn : 40 ≤ d.n) : ∀ k, k ≤ 16 → secL (fmtK d k).now 0 = z64
  | 0, _ => by
    rw [fmt0_now, sec_wz (whole_wz h 0 (by omega)) 12 (by rw [putAll_n]; omega), if_neg (by decide), sec_wz h 0 (by omega), if_pos rfl]
  | k + 1, hk => by
    rw [fmtK_succ, sec_wz (fmtK_whole h hn k (by omega)) (24 + k) (by rw [fmtK_n]; omega), if_neg (by omega), fmt_0 h hn k (by omega)]
theorem fmt_24 {d : Dev} (h : Whole d) (hn : 40 ≤ d.n) : ∀ k, k + 1 ≤ 16 → secL (fmtK d (k + 1)).now 24 = z64
  | 0, _ => by
    rw [fmtK_succ, sec_wz (fmtK_whole h hn 0 (by omega)) (24 + 0) (by rw [fmtK_n]; omega), if_pos rfl]
  | k + 1, hk => by
    rw [fmtK_succ, sec_wz (fmtK_whole h hn (k + 1) (by omega)) (24 + (k + 1)) (by rw [fmtK_n]; omega), if_neg (by omega), fmt_24 h hn k (by omega)]
theorem two_now (d : Dev) (a b : Int) (v u : Value) (l m : List UInt8) : (flushed (putAll (flushed (putAll d [⟨a, v, l⟩])) [⟨b, u, m⟩])).now = (putAll (putAll d [⟨a, v, l⟩]) [⟨b, u, m⟩]).now := rfl
theorem saved_sec {d : Dev} (h : Whole d) (hn : 40 ≤ d.n) (s b : Int) (j : Nat) : secL (savedDev s b d).now j = if j = 12 then closeL (headL s b) else if j = 13 then closeL leafL else secL d.now j := by
  unfold savedDev
  have hl := leaf_len
  have hh := headc_len s b
  generalize closeL leafL = l at *
  generalize closeL (headL s b) = m at *
  have h1 := whole_one h 13 (.slice none 0 0) l hl (by omega)
  have h2 := sec_one h1 12 (.slice none 0 0) m hh (by rw [putAll_n]; omega) j
  rw [sec_one h 13 (.slice none 0 0) l hl (by omega) j] at h2
  rw [two_now]
  exact h2
theorem saved_n (s b : Int) (d : Dev) : (savedDev s b d).n = d.n := rfl
theorem saved_on {d : Dev} (h : OnDev d) (s b : Int) : OnDev (savedDev s b d) := ⟨h.off, h.after⟩
theorem formed {d : Dev} (h : Whole d) (hd : OnDev d) (hn : 40 ≤ d.n) (s b : Int) : Formed s b (savedDev s b (fmtK d 16)) := by
  have hw := fmtK_whole h hn 16 (by omega)
  have hn' : 40 ≤ (fmtK d 16).n := by rw [fmtK_n]; exact hn
  have hz : z64 = List.replicate 64 0 := rfl
  refine ⟨(saved_on (fmtK_on hd 16) s b).off, by rw [saved_n]; exact hn', ?_, ?_, ?_, ?_⟩
  · rw [saved_sec hw hn', if_neg (by decide), if_neg (by decide), fmt_0 h hn 16 (by omega), hz]
  · rw [saved_sec hw hn', if_pos rfl]
  · rw [saved_sec hw hn', if_neg (by decide), if_pos rfl]
  · rw [saved_sec hw hn', if_neg (by decide), if_neg (by decide), fmt_24 h hn 15 (by omega), hz]
end Go.Proofs.YtjohhjdicbeojaaGreatDoor.Su
namespace Go.Proofs.YtjohhjdicbeojaaGreatDoor.Sv
open Go.RowKit Go.Proofs.YtjohhjdicbeojaaGreatDoor.Ra Go.Proofs.YtjohhjdicbeojaaGreatDoor.Rc Go.Proofs.YtjohhjdicbeojaaGreatDoor.Rd Go.Proofs.YtjohhjdicbeojaaGreatDoor.Re Go.Proofs.YtjohhjdicbeojaaGreatDoor.Ri Go.Proofs.YtjohhjdicbeojaaGreatDoor.Rj Go.Proofs.YtjohhjdicbeojaaGreatDoor.Rl Go.Proofs.YtjohhjdicbeojaaGreatDoor.Rn Go.Proofs.YtjohhjdicbeojaaGreatDoor.Ro Go.Proofs.YtjohhjdicbeojaaGreatDoor.Rp Go.Proofs.YtjohhjdicbeojaaGreatDoor.Rq Go.Proofs.YtjohhjdicbeojaaGreatDoor.Rw Go.Proofs.YtjohhjdicbeojaaGreatDoor.Sd Go.Proofs.YtjohhjdicbeojaaGreatDoor.Se Go.Proofs.YtjohhjdicbeojaaGreatDoor.Sf Go.Proofs.YtjohhjdicbeojaaGreatDoor.Sg Go.Proofs.YtjohhjdicbeojaaGreatDoor.Sm Go.Proofs.YtjohhjdicbeojaaGreatDoor.Sp
set_option maxRecDepth 8000
noncomputable def rO16 : Array Oper := funcOps Tryz.f34 16
def VO16 (x y m : Value) : Nat → Value → Prop
  | 0, v => v = .agg emptyCells
  | 1, v => v = .agg #[x, y]
  | 2, v => v = m
  | 3, v => v = .slice none 0 0
  | 4, v => v = .int .i64 0
  | 7, v => v = m
  | 8, v => v = .int .i64 0
  | 9, v => v = .int .i64 0
  | _, _ => True
def TO16 (x y m : Value) (_ : Nat → Prop) (j : Nat) (v : Value) (_ : World) : Prop := VO16 x y m j v
set_option maxHeartbeats 4000000 in
theorem owesO16 {Q : Exit → Act → World → Prop} (A : Nat) (x y m : Value) (hx1 : x.oneCell' = true) (hy1 : y.oneCell' = true) (w0 : World) (hA : w0.heap.size ≤ A) (a0 : Act) (e2 : a0.tmps[2]? = some (.pointer (some ⟨A, 0, none⟩))) (e3 : a0.tmps[3]? = some (.pointer (some ⟨A + 1, 0, none⟩))) (e4 : a0.tmps[4]? = some (m)) (e9 : a0.tmps[9]? = some (.slice none 0 0)) :
    ∀ (i : Nat) (o : Oper), rO16[i]? = some o → Owes Tryz.prog rO16 Q (TO16 x y m) (fun _ w => AB A x y w0 w) a0 i o := by
  intro i o ho L a w P hsh hnl haf hF hS hT hK
  have hi : i < 10 := by
    have h1 := (Array.getElem?_eq_some_iff.1 ho).1
    rwa [show rO16.size = 10 from by kernel_rfl] at h1
  have plain : ∀ v, TO16 x y m (fun k => L k ∨ k = i) i v w → P (a.put o.dst v) w := fun v hv => hK v w hv hS fun j u _ _ h => h
  obtain rfl | rfl | rfl | rfl | rfl | rfl | rfl | rfl | rfl | rfl : i = 0 ∨ i = 1 ∨ i = 2 ∨ i = 3 ∨ i = 4 ∨ i = 5 ∨ i = 6 ∨ i = 7 ∨ i = 8 ∨ i = 9 := by omega
  · exact wp_load_row 96 (.tmp 2) (op_is ho (by kernel_rfl)) A (slot hF (by kernel_rfl) e2) _ emptyCells _ _ hS.st Tryz.underlying96 rfl sizeE' (plain _ rfl)
  · exact wp_load_row 58 (.tmp 3) (op_is ho (by kernel_rfl)) (A + 1) (slot hF (by kernel_rfl) e3) _ _ _ _ hS.pl Tryz.underlying58 rfl (by kernel_rfl) (plain _ rfl)
  · exact wp_move (op_is ho (by kernel_rfl)) (plain _ (slot_of (j := 7) hF (by kernel_rfl) (fun h => hnl (run_down hsh [2] 7 (by kernel_rfl) h)) e4))
  · exact wp_move (op_is ho (by kernel_rfl)) (plain _ (slot hF (by kernel_rfl) e9))
  · obtain ⟨v, q1, p1⟩ := has (a := a) hT (haf 3 (on_is ho (by kernel_rfl))) (d := 79) (by kernel_rfl)
    obtain rfl : v = .slice none 0 0 := p1
    exact wp_len (op_is ho (by kernel_rfl)) q1 Tryz.underlying105 (plain _ rfl)
  · obtain ⟨v, q1, p1⟩ := has (a := a) hT (haf 0 (on_is ho (by kernel_rfl))) (d := 76) (by kernel_rfl)
    obtain rfl : v = .agg emptyCells := p1
    exact wp_store_mid 96 (.tmp 2) (.tmp 76) (op_is ho (by kernel_rfl)) A 0 emptyCells (slot hF (by kernel_rfl) e2) q1 (thereE' hS.st) sizeE' (by kernel_rfl) (hK _ _ trivial (hS.setSt hA) fun j u _ _ h => h)
  · obtain ⟨v, q1, p1⟩ := has (a := a) hT (haf 1 (on_is ho (by kernel_rfl))) (d := 77) (by kernel_rfl)
    obtain rfl : v = .agg #[x, y] := p1
    exact wp_store_mid 58 (.tmp 3) (.tmp 77) (op_is ho (by kernel_rfl)) (A + 1) 0 #[x, y] (slot hF (by kernel_rfl) e3) q1 (put_plat hS.pl x y).2 (by kernel_rfl) (by simp [hx1, hy1]) (hK _ _ trivial (hS.setPl hA x y) fun j u _ _ h => h)
  · obtain ⟨v, q1, p1⟩ := has (a := a) hT (haf 2 (on_is ho (by kernel_rfl))) (d := 78) (by kernel_rfl)
    obtain rfl : v = m := p1
    exact wp_assign (x := .tmp 78) (op_is ho (by kernel_rfl)) (by rw [q1]; exact plain _ rfl)
  · obtain ⟨v, q1, p1⟩ := has (a := a) hT (haf 4 (on_is ho (by kernel_rfl))) (d := 80) (by kernel_rfl)
    obtain rfl : v = .int .i64 0 := p1
    exact wp_assign (x := .tmp 80) (op_is ho (by kernel_rfl)) (by rw [q1]; exact plain _ rfl)
  · exact wp_assign (x := .const (.int .i64 0)) (op_is ho (by kernel_rfl)) (plain _ rfl)
end Go.Proofs.YtjohhjdicbeojaaGreatDoor.Sv
