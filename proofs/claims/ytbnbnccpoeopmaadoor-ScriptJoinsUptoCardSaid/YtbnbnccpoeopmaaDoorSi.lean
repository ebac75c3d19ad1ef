/- The walk of Line at the act that the law's first facts name. -/
import Derived.Test.YtbnbnccpoeopmaaDoorSh
import Derived.Test.YtbnbnccpoeopmaaDoorSg
import Derived.Lib.OthersKept
namespace Go.Proofs.YtbnbnccpoeopmaaDoor.Si
open Go.RowKit Go.Proofs.YtbnbnccpoeopmaaDoor.Sa Go.Proofs.YtbnbnccpoeopmaaDoor.Sb Go.Proofs.YtbnbnccpoeopmaaDoor.Sd Go.Proofs.YtbnbnccpoeopmaaDoor.Se Go.Proofs.YtbnbnccpoeopmaaDoor.Sf Go.Proofs.YtbnbnccpoeopmaaDoor.Sg Go.Proofs.YtbnbnccpoeopmaaDoor.Sh

def strVals (l : List ByteArray) : List Value := l.map Value.string
def writeB : ByteArray := ⟨#[119, 114, 105, 116, 101]⟩
def laterS : ByteArray := ⟨#[108, 97, 116, 101, 114]⟩
def bcx : ByteArray := ⟨#[98, 99, 120]⟩
/-- The words that are laid, k of the form's parts being done. -/
def outs (k : Nat) : List ByteArray := [laterS, writeB] ++ ([⟨(Lib.itoa 1).toArray⟩, ⟨(Lib.itoa 2).toArray⟩, ⟨(120 :: hexOf [97, 98]).toArray⟩] : List ByteArray).take k

def restCells (k : Nat) (dv : Value) : Array Value := #[.int .i64 0, .int .i64 0, .int .i64 0, .int .i64 (if k = 0 then 1 else 0), .int .i64 (if k ≤ 1 then 2 else 0), .int .i64 0, (if k ≤ 2 then dv else .slice none 0 0), .slice none 0 0]

structure LineSt (w wr : World) (B H i k : Nat) (dv s6 : Value) : Prop where
  below : Below B w wr
  lt : B < H
  size : H + 5 ≤ wr.heap.size
  act : wr.heap[B]? = some (.cells #[.int .i64 3, .int .i64 0, .int .i64 5, .int .i64 1, .int .i64 2, .int .i64 0, dv, .slice none 0 0] 27 (0, 0))
  form : wr.heap[H]? = some (.cells #[.string writeB, .string bcx, .int .i64 0, .int .i64 5] 49 (0, 0))
  rest : wr.heap[H + 1 + 1 + 1]? = some (.cells (restCells k dv) 27 (0, 0))
  iter : wr.heap[H + 1 + 1 + 1 + 1]? = some (.stringIter bcx i)
  row : wr.ownsRow (H + 1 + 1) 9 1 s6 (2 + k) (strVals (outs k))
  off : ∀ q, s6.ownBlock = some q → q = H + 1 + 1 ∨ H + 5 ≤ q

theorem LineSt.later {w wr wy : World} {B H i k : Nat} {dv v : Value} (h : LineSt w wr B H i k dv v) (hb : Below wr.heap.size wr wy) : LineSt w wy B H i k dv v := by
  have h1 := h.lt
  have h2 := h.size
  exact ⟨h.below.trans (hb.mono (by omega)), h1, Nat.le_trans h2 hb.size, blk_below h.act hb (by omega), blk_below h.form hb (by omega), blk_below h.rest hb (by omega), blk_below h.iter hb (by omega), row_below h.row hb, h.off⟩

theorem LineSt.next {w wr wn : World} {B H i k : Nat} {dv v : Value} (h : LineSt w wr B H i k dv v) (hn : wn = wr.iterAt (H + 1 + 1 + 1 + 1) bcx (i + 1)) : LineSt w wn B H (i + 1) k dv v := by
  subst hn
  have h1 := h.lt
  have h2 := h.size
  have ot := fun j (hj : j ≠ H + 1 + 1 + 1 + 1) => Lib.iterAt_other wr (H + 1 + 1 + 1 + 1) j bcx (i + 1) hj
  refine ⟨Lib.below_iterAt h.below (by omega) _ _, h1, by rw [Lib.iterAt_size]; exact h2, (ot _ (by omega)).trans h.act, (ot _ (by omega)).trans h.form, (ot _ (by omega)).trans h.rest, Lib.iterAt_heap wr _ bcx i (i + 1) h.iter, ?_, h.off⟩
  refine ⟨h.row.1, ?_⟩
  rcases h.row.2 with hn | ⟨g, cap, cur, hv, hg, hh, r⟩
  · exact Or.inl hn
  · refine Or.inr ⟨g, cap, cur, hv, hg, (ot g ?_).trans hh, r⟩
    have := h.off g (by rw [hv]; rfl)
    omega

theorem LineSt.put {w w5 w6 : World} {B H i k : Nat} {dv v : Value} (h : LineSt w w5 B H i k dv v) {ob : Obj} (hg : (w5.alloc ob).grownBy w6 v.ownBlock) {v' : Value} {x : ByteArray} {g : Nat} (hv' : v'.ownBlock = some g)
    (hown : w6.ownsRow (H + 1 + 1) 9 1 v' (2 + k + 1) (strVals (outs k) ++ [.string x])) (hat : v.ownBlock = some g ∨ g = w5.heap.size + 1) (hx : outs (k + 1) = outs k ++ [x]) (j : Nat) (u : Value) (hc : (restCells k dv).setIfInBounds j u = restCells (k + 1) dv) :
    LineSt w (w6.setCell ⟨H + 1 + 1 + 1, j, none⟩ u) B H i (k + 1) dv v' := by
  have h1 := h.lt
  have h2 := h.size
  have gb : ∀ b, b < H + 5 → b ≠ H + 1 + 1 → w6.heap[b]? = w5.heap[b]? := by
    intro b hb hne
    rw [hg.block b (by rw [sz_alloc]; omega) (fun e => by have := h.off b (by first | exact e | exact e.symm); omega)]
    exact Below.heap_alloc w5 ob b (by omega)
  have hs6 : w5.heap.size + 1 ≤ w6.heap.size := by rw [← sz_alloc w5 ob]; exact hg.size
  have hof : ∀ q, v'.ownBlock = some q → q = H + 1 + 1 ∨ H + 5 ≤ q := by
    intro q hq
    rw [hv'] at hq
    have hqq : g = q := Option.some.inj hq
    rcases hat with e | e
    · rw [← hqq]
      exact h.off g e
    · right
      omega
  have hb6 : Below B w w6 := (h.below.alloc (by omega) ob).grown hg (by rw [sz_alloc]; omega) (fun q hq => by have := h.off q hq; omega)
  have e := blk_set ((gb (H + 1 + 1 + 1) (by omega) (by omega)).trans h.rest) j u
  rw [hc] at e
  refine ⟨hb6.setCell (by show B ≤ H + 1 + 1 + 1; omega) _, h1, by rw [sz_set]; omega, blk_set_other ((gb _ (by omega) (by omega)).trans h.act) (by show B ≠ H + 1 + 1 + 1; omega) _, blk_set_other ((gb _ (by omega) (by omega)).trans h.form) (by show H ≠ H + 1 + 1 + 1; omega) _, e, blk_set_other ((gb _ (by omega) (by omega)).trans h.iter) (by show H + 1 + 1 + 1 + 1 ≠ H + 1 + 1 + 1; omega) _, ?_, hof⟩
  rw [hx]
  have e2 : strVals (outs k ++ [x]) = strVals (outs k) ++ [.string x] := by
    unfold strVals
    rw [List.map_append]
    rfl
  rw [e2]
  exact ownsRow_setCell_other hown (fun e3 => by have := hof _ e3; have h5 : (⟨H + 1 + 1 + 1, j, none⟩ : Addr).block = H + 1 + 1 + 1 := rfl; omega) _

theorem line_start {w w1 : World} {B : Nat} {dv : Value} (hb : Below B w w1) (hlt : B < w1.heap.size) (ha : w1.heap[B]? = some (.cells #[.int .i64 3, .int .i64 0, .int .i64 5, .int .i64 1, .int .i64 2, .int .i64 0, dv, .slice none 0 0] 27 (0, 0))) :
    LineSt w (((((w1.alloc (.cells #[.string writeB, .string bcx, .int .i64 0, .int .i64 5] 49)).alloc (.cells #[.string writeB] 9)).alloc (.cells #[.string laterS, .string writeB] 9)).alloc (.cells (restCells 0 dv) 27)).iter bcx 0) B w1.heap.size 0 0 dv (.slice (some ⟨w1.heap.size + 1 + 1, 0, none⟩) 2 2) := by
  have f1 := blk_old (blk_old (blk_old (blk_old (blk_new w1 #[.string writeB, .string bcx, .int .i64 0, .int .i64 5] 49) (.cells #[.string writeB] 9)) (.cells #[.string laterS, .string writeB] 9)) (.cells (restCells 0 dv) 27)) (.stringIter bcx 0)
  have f2 := blk_old (blk_old (blk_new ((w1.alloc (.cells #[.string writeB, .string bcx, .int .i64 0, .int .i64 5] 49)).alloc (.cells #[.string writeB] 9)) #[.string laterS, .string writeB] 9) (.cells (restCells 0 dv) 27)) (.stringIter bcx 0)
  have f3 := blk_old (blk_new (((w1.alloc (.cells #[.string writeB, .string bcx, .int .i64 0, .int .i64 5] 49)).alloc (.cells #[.string writeB] 9)).alloc (.cells #[.string laterS, .string writeB] 9)) (restCells 0 dv) 27) (.stringIter bcx 0)
  have f4 := World.iter_heap ((((w1.alloc (.cells #[.string writeB, .string bcx, .int .i64 0, .int .i64 5] 49)).alloc (.cells #[.string writeB] 9)).alloc (.cells #[.string laterS, .string writeB] 9)).alloc (.cells (restCells 0 dv) 27)) bcx 0
  rw [sz_alloc, sz_alloc] at f2
  rw [sz_alloc, sz_alloc, sz_alloc] at f3
  rw [sz_alloc, sz_alloc, sz_alloc, sz_alloc] at f4
  refine ⟨(((((hb.alloc (by omega) _).alloc (by rw [sz_alloc]; omega) _).alloc (by rw [sz_alloc, sz_alloc]; omega) _).alloc (by rw [sz_alloc, sz_alloc, sz_alloc]; omega) _).alloc (by rw [sz_alloc, sz_alloc, sz_alloc, sz_alloc]; omega) _), hlt, ?_, blk_old (blk_old (blk_old (blk_old (blk_old ha _) _) _) _) _, f1, f3, f4, ⟨rfl, Or.inr ⟨_, _, _, rfl, Nat.le_refl _, f2, Nat.le_refl _, by decide, rfl, rfl⟩⟩, ?_⟩
  · show _ ≤ (World.alloc _ _).heap.size
    rw [sz_alloc, sz_alloc, sz_alloc, sz_alloc, sz_alloc]
    omega
  · intro q hq
    exact Or.inl (Option.some.inj hq).symm

theorem itoa_one : Lib.itoa 1 = [49] := by rw [show (1 : Int) = ((1 : Nat) : Int) from rfl, Lib.itoa_nonneg, Lib.decDigits_one (by decide)]; rfl
theorem itoa_two : Lib.itoa 2 = [50] := by rw [show (2 : Int) = ((2 : Nat) : Int) from rfl, Lib.itoa_nonneg, Lib.decDigits_one (by decide)]; rfl
theorem outs3 : outs 3 = [laterS, writeB, ⟨#[49]⟩, ⟨#[50]⟩, ⟨#[120, 54, 49, 54, 50]⟩] := by
  unfold outs
  rw [itoa_one, itoa_two]
  rfl
theorem line_text : Lib.join ((outs 3).map (·.data.toList)) [32] = [108, 97, 116, 101, 114, 32, 119, 114, 105, 116, 101, 32, 49, 32, 50, 32, 120, 54, 49, 54, 50] := by
  rw [outs3]
  rfl

theorem find_form : findFrom 3 5 14 0 = some (formAt 9) := rfl

theorem find_aw (dv : Value) (w : World) :
    Calls Tryd.prog 17 #[.agg #[.int .i64 3, .int .i64 0, .int .i64 5, .int .i64 1, .int .i64 2, .int .i64 0, dv, .slice none 0 0]] w fun e w' => e = .returned (.tuple #[.agg #[.string writeB, .string bcx, .int .i64 0, .int .i64 5], .bool true]) ∧ Below w.heap.size w w' :=
  find_c 3 0 5 1 2 0 dv (.slice none 0 0) w

theorem info9 : (Tryd.prog.info? 9).map (fun i => (i.zero, i.size, i.bytes)) = some (some (.string ⟨#[]⟩), 1, 16) := by kernel_rfl

set_option maxHeartbeats 4000000 in
set_option maxRecDepth 100000 in
theorem line_aw (p : Option Addr) (c : Nat) (w : World) (hE : Env w) (hv : BytesIn w (.slice p 2 c) [97, 98]) :
    Calls Tryd.prog 10 #[.agg #[.int .i64 3, .int .i64 0, .int .i64 5, .int .i64 1, .int .i64 2, .int .i64 0, .slice p 2 c, .slice none 0 0]] w fun e w' => e = .returned (.tuple #[.string ⟨(Lib.join ((outs 3).map (·.data.toList)) [32]).toArray⟩, .int .i64 0]) ∧ Below w.heap.size w w' := by
  obtain ⟨res, hres⟩ : ∃ res : ByteArray, res = ⟨(Lib.join ((outs 3).map (·.data.toList)) [32]).toArray⟩ := ⟨_, rfl⟩
  rw [← hres]
  have HRES := Lib.hid hres
  clear hres
  have HE := Lib.hid hE
  have HV := Lib.hid hv
  clear hE hv
  have hfd := fun W => find_aw (.slice p 2 c) W
  have A0 : Hid ((w.alloc (.cells #[.int .i64 3, .int .i64 0, .int .i64 5, .int .i64 1, .int .i64 2, .int .i64 0, .slice p 2 c, .slice none 0 0] 27)).heap[w.heap.size]? = _) := Lib.hid (blk_new _ _ _)
  have B0 : Hid (Below w.heap.size w (w.alloc (.cells #[.int .i64 3, .int .i64 0, .int .i64 5, .int .i64 1, .int .i64 2, .int .i64 0, .slice p 2 c, .slice none 0 0] 27))) := Lib.hid ((Below.refl _ _).alloc (Nat.le_refl _) _)
  have Z0 : Hid ((w.alloc (.cells #[.int .i64 3, .int .i64 0, .int .i64 5, .int .i64 1, .int .i64 2, .int .i64 0, .slice p 2 c, .slice none 0 0] 27)).heap.size = w.heap.size + 1) := Lib.hid (sz_alloc _ _)
  go_enter Tryd.func10, Tryd.ntmps10
  go_wp2_with fail
  refine (hfd _).mono ?_
  rintro e w1 ⟨rfl, hb1⟩
  rw [Z0.out] at hb1
  have hs1 := hb1.size
  rw [Z0.out] at hs1
  have a1 := blk_below A0.out hb1 (Nat.lt_succ_self _)
  obtain ⟨⟨c0, c1, c2, c3, c4, c5, c6, c7⟩, _, _, _, _, _, _, _, _⟩ := cells8 a1
  have A1 := Lib.hid a1
  have B1 := Lib.hid (B0.out.trans (hb1.mono (Nat.le_succ _)))
  clear a1 hb1
  have hl1 : w.heap.size < w1.heap.size := by omega
  have hl2 : w.heap.size < w1.heap.size + 1 := by omega
  have hl3 : w.heap.size < w1.heap.size + 1 + 1 := by omega
  have hl4 : w.heap.size < w1.heap.size + 1 + 1 + 1 := by omega
  go_wp2_with fail
  have S0 := Lib.hid (line_start B1.out hl1 A1.out)
  clear c0 c1 c2 c3 c4 c5 c6 c7 hfd A0 B0 Z0 hl2 hl3 hl4
  change Hid (LineSt w (World.iter (World.alloc (World.alloc (World.alloc (World.alloc w1 _) _) (.cells #[.string ⟨#[108, 97, 116, 101, 114]⟩, .string writeB] 9)) (.cells #[.int .i64 0, .int .i64 0, .int .i64 0, .int .i64 1, .int .i64 2, .int .i64 0, .slice p 2 c, .slice none 0 0] 27)) bcx 0) _ _ _ _ _ _) at S0
  generalize World.iter (World.alloc (World.alloc (World.alloc (World.alloc w1 _) _) (.cells #[.string ⟨#[108, 97, 116, 101, 114]⟩, .string writeB] 9)) (.cells #[.int .i64 0, .int .i64 0, .int .i64 0, .int .i64 1, .int .i64 2, .int .i64 0, .slice p 2 c, .slice none 0 0] 27)) bcx 0 = wL at S0 ⊢
  generalize w1.heap.size = H at S0 hl1 hs1 ⊢
  go_loopg [6, 9] 4 (fun gg s6 _ wr => ∃ k : Nat, k ≤ 3 ∧ 3 - k < gg ∧ Hid (LineSt w wr w.heap.size H k k (.slice p 2 c) s6))
  case atStart => exact ⟨0, by omega, by omega, S0⟩
  case round =>
    obtain ⟨k, hk, hgg, SR⟩ := hrel
    obtain ⟨i9, hi9, hz0, hz1, hz2⟩ := info_parts info9
    have HZ0 := Lib.hid hz0
    have HZ1 := Lib.hid hz1
    have HZ2 := Lib.hid hz2
    have HI9 := Lib.hid hi9
    clear hz0 hz1 hz2 hi9
    have HBH : w.heap.size < H := SR.out.lt
    obtain ⟨g0, cap0, rfl, hg0, hg1⟩ := SR.out.row.form (by omega)
    have hsz := SR.out.size
    have hkk : k = 0 ∨ k = 1 ∨ k = 2 ∨ k = 3 := by omega
    rcases hkk with rfl | rfl | rfl | rfl
    · obtain ⟨wn, hwn⟩ : ∃ wn, wn = wr.iterAt (H + 1 + 1 + 1 + 1) bcx (0 + 1) := ⟨_, rfl⟩
      have hnx : ∀ ty, (Instr.next (.pointer (some ⟨H + 1 + 1 + 1 + 1, 0, none⟩)) true ty).run Tryd.prog wr = .ok (.tuple #[.bool true, .int .i64 0, .int .i32 98]) wn := fun ty => by
        rw [hwn]
        exact Lib.run_next_ascii_at wr (H + 1 + 1 + 1 + 1) bcx 0 ty SR.out.iter (by decide) (by decide)
      have SN := Lib.hid (SR.out.next hwn)
      clear hwn
      have ca : wn.cell? ⟨w.heap.size, 3, none⟩ = some (.int .i64 1) := blk_cell SN.out.act 3
      have HEn := HE.out.below SN.out.below
      have hcall := itoa_c 1 (by decide) (by decide) wn HEn
      clear HEn
      go_wp2_with (first | (go_at_call 18; (with_reducible refine hcall.mono ?_); rintro e w5 ⟨rfl, hb5⟩; have S5 := Lib.hid (SN.out.later hb5); clear hb5 ca hnx; have hre : w5.heap[H + 1 + 1 + 1]? = some (.cells #[.int .i64 0, .int .i64 0, .int .i64 0, .int .i64 1, .int .i64 2, .int .i64 0, .slice p 2 c, .slice none 0 0] 27 (0, 0)) := S5.out.rest; obtain ⟨⟨e0, e1, e2, e3, e4, e5, e6, e7⟩, g0', g1', g2', g3', g4', g5', g6', g7'⟩ := cells8 hre; have HRE := Lib.hid hre; clear hre; have h5sz := S5.out.size; have hs5 : H + 1 + 1 ≤ w5.heap.size + 1 := (by omega); have hml : 2 + 0 + 1 ≤ maxLen := (by decide); have hbs : (2 + 0 + 1) * 16 ≤ 140737488355328 := (by decide)) | (at_builtin; go_loud (refine wpList_append_lies _ rfl _ _ 40 rfl (H + 1 + 1) 9 i9 (.string ⟨#[]⟩) 1 16 Tryd.underlying40 HI9.out HZ0.out HZ1.out HZ2.out rfl (by decide) _ (2 + 0) (strVals (outs 0)) rfl (S5.out.row.alloc _) ⟨w5.heap.size, 0, none⟩ 1 1 [.string ⟨(Lib.itoa 1).toArray⟩] rfl rfl (cell_one_new _ _ _) (by simp [Value.oneCell']) (by decide) hml hbs (by rw [sz_alloc]; exact hs5) _ rfl ?_)))
      intro g cap w6 hown hgrow hat _
      have HP := Lib.hid (S5.out.put hgrow rfl hown hat rfl 3 (.int .i64 0) rfl)
      have HR6 := (hgrow.block (H + 1 + 1 + 1) (by rw [sz_alloc]; omega) (fun e => by have := S5.out.off _ (by first | exact e | exact e.symm); omega)).trans ((Below.heap_alloc w5 _ _ (by omega)).trans HRE.out)
      obtain ⟨⟨m0, m1, m2, m3, m4, m5, m6, m7⟩, n0, n1, n2, n3, n4, n5, n6, n7⟩ := cells8 HR6
      clear hown hgrow hat HR6
      go_wp2
      go_roundg (3 - 1 + 1)
      case measure => omega
      case rel => exact ⟨1, by omega, by omega, HP⟩
    · obtain ⟨wn, hwn⟩ : ∃ wn, wn = wr.iterAt (H + 1 + 1 + 1 + 1) bcx (1 + 1) := ⟨_, rfl⟩
      have hnx : ∀ ty, (Instr.next (.pointer (some ⟨H + 1 + 1 + 1 + 1, 0, none⟩)) true ty).run Tryd.prog wr = .ok (.tuple #[.bool true, .int .i64 1, .int .i32 99]) wn := fun ty => by
        rw [hwn]
        exact Lib.run_next_ascii_at wr (H + 1 + 1 + 1 + 1) bcx 1 ty SR.out.iter (by decide) (by decide)
      have SN := Lib.hid (SR.out.next hwn)
      clear hwn
      have ca : wn.cell? ⟨w.heap.size, 4, none⟩ = some (.int .i64 2) := blk_cell SN.out.act 4
      have HEn := HE.out.below SN.out.below
      have hcall := itoa_c 2 (by decide) (by decide) wn HEn
      clear HEn
      go_wp2_with (first | (go_at_call 18; (with_reducible refine hcall.mono ?_); rintro e w5 ⟨rfl, hb5⟩; have S5 := Lib.hid (SN.out.later hb5); clear hb5 ca hnx; have hre : w5.heap[H + 1 + 1 + 1]? = some (.cells #[.int .i64 0, .int .i64 0, .int .i64 0, .int .i64 0, .int .i64 2, .int .i64 0, .slice p 2 c, .slice none 0 0] 27 (0, 0)) := S5.out.rest; obtain ⟨⟨e0, e1, e2, e3, e4, e5, e6, e7⟩, g0', g1', g2', g3', g4', g5', g6', g7'⟩ := cells8 hre; have HRE := Lib.hid hre; clear hre; have h5sz := S5.out.size; have hs5 : H + 1 + 1 ≤ w5.heap.size + 1 := (by omega); have hml : 2 + 1 + 1 ≤ maxLen := (by decide); have hbs : (2 + 1 + 1) * 16 ≤ 140737488355328 := (by decide)) | (at_builtin; go_loud (refine wpList_append_lies _ rfl _ _ 40 rfl (H + 1 + 1) 9 i9 (.string ⟨#[]⟩) 1 16 Tryd.underlying40 HI9.out HZ0.out HZ1.out HZ2.out rfl (by decide) _ (2 + 1) (strVals (outs 1)) rfl (S5.out.row.alloc _) ⟨w5.heap.size, 0, none⟩ 1 1 [.string ⟨(Lib.itoa 2).toArray⟩] rfl rfl (cell_one_new _ _ _) (by simp [Value.oneCell']) (by decide) hml hbs (by rw [sz_alloc]; exact hs5) _ rfl ?_)))
      intro g cap w6 hown hgrow hat _
      have HP := Lib.hid (S5.out.put hgrow rfl hown hat rfl 4 (.int .i64 0) rfl)
      have HR6 := (hgrow.block (H + 1 + 1 + 1) (by rw [sz_alloc]; omega) (fun e => by have := S5.out.off _ (by first | exact e | exact e.symm); omega)).trans ((Below.heap_alloc w5 _ _ (by omega)).trans HRE.out)
      obtain ⟨⟨m0, m1, m2, m3, m4, m5, m6, m7⟩, n0, n1, n2, n3, n4, n5, n6, n7⟩ := cells8 HR6
      clear hown hgrow hat HR6
      go_wp2
      go_roundg (3 - 2 + 1)
      case measure => omega
      case rel => exact ⟨2, by omega, by omega, HP⟩
    · obtain ⟨wn, hwn⟩ : ∃ wn, wn = wr.iterAt (H + 1 + 1 + 1 + 1) bcx (2 + 1) := ⟨_, rfl⟩
      have hnx : ∀ ty, (Instr.next (.pointer (some ⟨H + 1 + 1 + 1 + 1, 0, none⟩)) true ty).run Tryd.prog wr = .ok (.tuple #[.bool true, .int .i64 2, .int .i32 120]) wn := fun ty => by
        rw [hwn]
        exact Lib.run_next_ascii_at wr (H + 1 + 1 + 1 + 1) bcx 2 ty SR.out.iter (by decide) (by decide)
      have SN := Lib.hid (SR.out.next hwn)
      clear hwn
      have ca : wn.cell? ⟨w.heap.size, 6, none⟩ = some (.slice p 2 c) := blk_cell SN.out.act 6
      have HEn := HE.out.below SN.out.below
      have hcall := hex_c (.slice p 2 c) [97, 98] wn (HV.out.below SN.out.below) (by decide)
      clear HEn
      go_wp2_with (first | (go_at_call 19; (with_reducible refine hcall.mono ?_); rintro e w5 ⟨rfl, hb5⟩; have S5 := Lib.hid (SN.out.later hb5); clear hb5 ca hnx; have hre : w5.heap[H + 1 + 1 + 1]? = some (.cells #[.int .i64 0, .int .i64 0, .int .i64 0, .int .i64 0, .int .i64 0, .int .i64 0, .slice p 2 c, .slice none 0 0] 27 (0, 0)) := S5.out.rest; obtain ⟨⟨e0, e1, e2, e3, e4, e5, e6, e7⟩, g0', g1', g2', g3', g4', g5', g6', g7'⟩ := cells8 hre; have HRE := Lib.hid hre; clear hre; have h5sz := S5.out.size; have hs5 : H + 1 + 1 ≤ w5.heap.size + 1 := (by omega); have hml : 2 + 2 + 1 ≤ maxLen := (by decide); have hbs : (2 + 2 + 1) * 16 ≤ 140737488355328 := (by decide)) | (at_builtin; go_loud (refine wpList_append_lies _ rfl _ _ 40 rfl (H + 1 + 1) 9 i9 (.string ⟨#[]⟩) 1 16 Tryd.underlying40 HI9.out HZ0.out HZ1.out HZ2.out rfl (by decide) _ (2 + 2) (strVals (outs 2)) rfl (S5.out.row.alloc _) ⟨w5.heap.size, 0, none⟩ 1 1 [.string ⟨(120 :: hexOf [97, 98]).toArray⟩] rfl rfl (cell_one_new _ _ _) (by simp [Value.oneCell']) (by decide) hml hbs (by rw [sz_alloc]; exact hs5) _ rfl ?_)))
      intro g cap w6 hown hgrow hat _
      have HP := Lib.hid (S5.out.put hgrow rfl hown hat rfl 6 (.slice none 0 0) rfl)
      have HR6 := (hgrow.block (H + 1 + 1 + 1) (by rw [sz_alloc]; omega) (fun e => by have := S5.out.off _ (by first | exact e | exact e.symm); omega)).trans ((Below.heap_alloc w5 _ _ (by omega)).trans HRE.out)
      obtain ⟨⟨m0, m1, m2, m3, m4, m5, m6, m7⟩, n0, n1, n2, n3, n4, n5, n6, n7⟩ := cells8 HR6
      clear hown hgrow hat HR6
      go_wp2
      go_roundg (3 - 3 + 1)
      case measure => omega
      case rel => exact ⟨3, by omega, by omega, HP⟩
    · have hnx : ∀ ty, (Instr.next (.pointer (some ⟨H + 1 + 1 + 1 + 1, 0, none⟩)) true ty).run Tryd.prog wr = .ok (.tuple #[.bool false]) wr := fun ty => Lib.run_next_end_at wr (H + 1 + 1 + 1 + 1) bcx 3 ty SR.out.iter (by decide)
      have hre : wr.heap[H + 1 + 1 + 1]? = some (.cells #[.int .i64 0, .int .i64 0, .int .i64 0, .int .i64 0, .int .i64 0, .int .i64 0, .slice none 0 0, .slice none 0 0] 27 (0, 0)) := SR.out.rest
      obtain ⟨⟨e0, e1, e2, e3, e4, e5, e6, e7⟩, _, _, _, _, _, _, _, _⟩ := cells8 hre
      have fa : wr.cell? ⟨H, 2, none⟩ = some (.int .i64 0) := blk_cell SR.out.form 2
      have hH1 : H < wr.heap.size := by omega
      have hH2 : H + 1 + 1 + 1 < wr.heap.size := by omega
      clear hre
      have hjoin : ∀ W, Below wr.heap.size wr W → Calls Tryd.prog 20 #[.slice (some ⟨g0, 0, none⟩) 5 cap0, .string ⟨#[32]⟩] W fun e w' => e = .returned (.string res) ∧ Below W.heap.size W w' := by
        intro W hW
        rw [HRES.out]
        obtain ⟨_, hcap⟩ : True ∧ 5 ≤ cap0 := ⟨trivial, by
          rcases SR.out.row.2 with ⟨h, _⟩ | ⟨g, cap, cur, hv, _, _, hc, _⟩
          · cases h
          · cases hv
            exact hc⟩
        refine Tryd.strings_Join g0 0 cap0 (outs 3) ⟨#[32]⟩ W (fun j x hx => ?_) (Nat.lt_of_lt_of_le hg1 hW.size) (by decide) hcap ?_
        · have h1 := SR.out.row.cells (g := g0) rfl j (.string x) (by unfold strVals; rw [List.getElem?_map, hx]; rfl)
          rw [Lib.add_plain] at h1
          exact (hW.cell (p := ⟨g0, 0 + j, none⟩) hg1).trans h1
        · rw [outs3]; decide
      go_wp2_with (go_at_call 20; (with_reducible refine (hjoin _ ((Below.refl _ _).alloc (Nat.le_refl _) _)).mono ?_); rintro e w9 ⟨rfl, hb9⟩)
      go_ret2
      exact ⟨rfl, (SR.out.below.alloc (by omega) _).trans (hb9.mono (by rw [sz_alloc]; omega))⟩

end Go.Proofs.YtbnbnccpoeopmaaDoor.Si
