/- Texts joined: Rj. -/
import Derived.Laws.Cover3
import Derived.Great.BuildSlice
import Derived.Deep.RegionHeldLaw
import Derived.Test.YtjohhjdicbeojaaGreatDoorZap
namespace Go.Proofs.YtjohhjdicbeojaaGreatDoor.Rj
open Go.RowKit Go.Proofs.YtjohhjdicbeojaaGreatDoor.Ra Go.Proofs.YtjohhjdicbeojaaGreatDoor.Re Go.Proofs.YtjohhjdicbeojaaGreatDoor.Rf Go.Proofs.YtjohhjdicbeojaaGreatDoor.Rg Go.Proofs.YtjohhjdicbeojaaGreatDoor.Rh Go.Proofs.YtjohhjdicbeojaaGreatDoor.Ri Go.Proofs.YtjohhjdicbeojaaGreatDoor.Sd Go.Proofs.YtjohhjdicbeojaaGreatDoor.Se
set_option maxRecDepth 8000
theorem wpStill_load_mid {P : Program} {ops : Array Oper} {w : World} {Q : Act → Prop} {a : Act} {o : Oper} {rest : List Oper} (hgd : o.guard = none) (ty : TypeId) (x : Operand) (ho : o.op = .load ty x)
    (b off : Nat) (hx : a.eval x = .pointer (some ⟨b, off, none⟩)) (cs : List Value) (d : TypeDesc) (hc : w.rangeAt b off cs)
    (hu : P.underlying ty = some d) (hd : d.isRow = true) (hi : (P.info? ty).map (·.size) = some cs.length)
    (h : wpStill P ops w Q rest (a.put o.dst (.agg cs.toArray))) : wpStill P ops w Q (o :: rest) a := by
  refine wpStill_step fun K hK => ?_
  rw [if_pos (by simp [Region.wanted, hgd])]
  unfold Oper.still execOp
  simp only [ho, hx, Instr.loadAt, Instr.sureAddr, Sem.run_bind, Sem.run_pure, Result.andThen_ok, run_loadVar_mid w b off ty cs d hc hu hd hi]
  show Oper.stillUpon P o a w K (.ok (.value (.agg cs.toArray)) w)
  rw [Oper.stillUpon_value]
  exact hK _ h
theorem bytes_at {B : Nat} {w : World} {q : Option Addr} {n c : Nat} {l : List UInt8} (h : BytesIn B w (.slice q n c) l) (hne : l ≠ []) :
    ∃ b o, q = some ⟨b, o, none⟩ ∧ b < w.heap.size ∧ Ra.Safe B w b ∧ ∀ j x, l[j]? = some x → w.cell? ⟨b, o + j, none⟩ = some (.int .u8 (x.toNat : Int)) := by
  obtain ⟨p0, c0, e0, _, h0⟩ := h
  injection e0 with e1 _ _
  rw [e1]
  exact h0 hne
theorem wpList_store_named {P : Program} {ops : Array Oper} {rest : List Oper} {op : Oper} {a : Act} {w : World} {Q : Exit → Act → World → Prop} (hgd : op.guard = none) (ty : TypeId) (x y : Operand) (ho : op.op = .store ty x y)
    (b o : Nat) (cells : List Value) (hx : a.eval x = .pointer (some ⟨b, o, none⟩)) (hy : a.eval y = .agg cells.toArray)
    (ht : w.there b o cells.length) (hi : (P.info? ty).map (·.size) = some cells.length) (h1 : ∀ v ∈ cells, v.oneCell' = true)
    (h : ∀ w', w' = w.setCells b o cells → wpList P ops Q rest (a.put op.dst undef) w') : wpList P ops Q (op :: rest) a w :=
  wpList_store_mid hgd ty x y ho b o cells.toArray hx hy (by simpa using ht) (by simpa using hi) (all_oneCell_toArray h1) (h _ rfl)
theorem fill_at (b : Nat) : ∀ (l : List Value) (k : Nat) (cs : Array Value), b + k + l.length ≤ cs.size →
    List.foldl (fun (cs : Array Value) (x : Value × Nat) => cs.setIfInBounds (b + x.snd) x.fst) cs (l.zipIdx k) = (cs.toList.take (b + k) ++ l ++ cs.toList.drop (b + k + l.length)).toArray
  | [], k, cs, _ => by
    simp
  | v :: l, k, cs, h => by
    rw [List.zipIdx_cons, List.foldl_cons, fill_at b l (k + 1) _ (by simp at h ⊢; omega)]
    have hlt : b + k < cs.size := by simp at h; omega
    refine congrArg List.toArray ?_
    apply List.ext_getElem?
    intro j
    simp only [Array.toList_setIfInBounds, List.length_cons]
    simp only [List.append_assoc, List.getElem?_append, List.length_take, List.length_set, Array.length_toList, List.getElem?_take, List.getElem?_set, List.getElem?_drop]
    rcases Nat.lt_trichotomy j (b + k) with hk | hk | hk
    · have e1 : j < min (b + (k + 1)) cs.size := by omega
      have e2 : j < min (b + k) cs.size := by omega
      have e3 : j < b + (k + 1) := by omega
      have e4 : ¬ b + k = j := by omega
      simp [e1, e2, hk, e3, e4]
    · subst hk
      have e1 : b + k < min (b + (k + 1)) cs.size := by omega
      have e2 : ¬ b + k < min (b + k) cs.size := by omega
      have e3 : b + k - min (b + k) cs.size = 0 := by omega
      have e4 : b + k < b + (k + 1) := by omega
      simp [e1, e2, e3, e4, hlt]
    · have e1 : ¬ j < min (b + (k + 1)) cs.size := by omega
      have e2 : ¬ j < min (b + k) cs.size := by omega
      have e3 : j - min (b + k) cs.size = (j - min (b + (k + 1)) cs.size) + 1 := by omega
      rw [if_neg e1, if_neg e2, e3]
      simp only [List.length_cons, Nat.add_lt_add_iff_right, List.getElem?_cons_succ]
      by_cases h5 : j - min (b + (k + 1)) cs.size < l.length
      · simp [h5]
      · rw [if_neg h5, if_neg h5, if_neg (by omega)]
        congr 1
        omega
theorem fill_write (z : Value) (l : List Value) (cs : Array Value) (h : cs.size = 1 + l.length) :
    List.foldl (fun (cs : Array Value) (x : Value × Nat) => cs.setIfInBounds (1 + x.snd) x.fst) (cs.setIfInBounds 0 z) l.zipIdx = (z :: l).toArray := by
  rw [fill_at 1 l 0 _ (by simp [h])]
  refine congrArg List.toArray ?_
  have h0 : 0 < cs.size := by omega
  rw [List.drop_eq_nil_of_le (by simp [h]), List.append_nil]
  cases hc : cs.toList with
  | nil => rw [← Array.length_toList, hc] at h0; cases h0
  | cons a r => simp [hc]
theorem fill_one (l : List Value) (n : Nat) (hn : l.length = n) (cs : Array Value) (hc : cs.size = n) : Instr.fill (fun i => some (i * n, n)) cs [(0, .agg l.toArray)] = some l.toArray := by
  have h0 : (Value.agg l.toArray).cells = l.toArray := rfl
  unfold Instr.fill
  simp only [h0, List.size_toArray, hn, Nat.zero_mul, Nat.zero_add, hc, Nat.lt_irrefl, ne_eq, not_true_eq_false, decide_false, gt_iff_lt]
  unfold Instr.fill
  have := fill_at 0 l 0 cs (by omega)
  rw [Nat.zero_add, List.take_zero, List.nil_append, List.drop_eq_nil_of_le (by rw [Array.length_toList, hn, hc]; omega), List.append_nil] at this
  refine congrArg some (Eq.trans ?_ this)
  rw [← Array.foldl_toList]
  simp
theorem info_write : (Tryz.prog.info? 115).map (fun i => (i.zero, i.size, i.bytes)) = some (some (.agg (#[.int .i64 0] ++ Array.replicate 64 (.int .u8 0))), 65, 72) := by kernel_rfl
theorem put14a {B : Nat} {w w3 : World} {D S N : Nat} {lv : Value} {d : Dev} (h : DevAt B w D S N lv d) (o : Obj) (hg : (w.alloc o).grownBy w3 lv.ownBlock) : w3.heap[D]? = w.heap[D]? ∧ Step B w w3 := by
  have other : ∀ (b : Nat) (cs : Array Value) (t : TypeId) (fz : Nat × Nat), w.heap[b]? = some (.cells cs t fz) → t ≠ 115 → lv.ownBlock ≠ some b := fun b cs t fz hb ht e => by
    obtain ⟨_, cur, hc⟩ := loose_block h b e
    rw [hb] at hc
    injection (Option.some.inj hc) with _ h2 _
    exact ht h2
  have hB := h.size
  refine ⟨?_, ?_⟩
  · rw [hg.block D (by rw [sz_alloc]; exact Nat.lt_succ_of_lt h.lt) (fun e => other D _ _ _ h.dev (by decide) e.symm)]
    exact Below.heap_alloc w o D h.lt
  · have sa : Step B w (w.alloc o) := (Step.refl B w).alloc hB o
    refine sa.trans ?_
    cases hob : lv.ownBlock with
    | none =>
      rw [hob] at hg
      exact Step.of (B := B) ⟨hg.os, hg.tape, hg.output, hg.size, fun k hk => hg.block k hk (fun e => by cases e)⟩ (by rw [sz_alloc]; omega)
    | some g =>
      rw [hob] at hg
      obtain ⟨hgB, cur, hc⟩ := loose_block h g hob
      exact Step.of_grown hg (blk_old hc o) rfl hgB
/-- A good write. -/
def Good (n : Nat) (x : Wr) : Prop := x.l.length = 64 ∧ 0 ≤ x.at_ ∧ x.at_ < (n : Int)
def putAll (d : Dev) (ws : List Wr) : Dev := ws.foldl (fun d x => putDev d x.at_.toNat x.l) d
def bad1 (x : Wr) : Bool := decide (x.l.length ≠ 64)
def bad2 (n : Nat) (x : Wr) : Bool := decide (x.at_ < 0 ∨ (n : Int) ≤ x.at_)
theorem putAll_n (d : Dev) : ∀ ws : List Wr, (putAll d ws).n = d.n := by
  intro ws
  induction ws generalizing d with
  | nil => rfl
  | cons x ws ih => exact ih _
theorem putAll_snoc (d : Dev) (ws : List Wr) (x : Wr) : putAll d (ws ++ [x]) = putDev (putAll d ws) x.at_.toNat x.l := by unfold putAll; rw [List.foldl_append]; rfl
theorem putAll_loose (d : Dev) : ∀ ws : List Wr, (putAll d ws).loose.length = d.loose.length + ws.length := by
  intro ws
  induction ws generalizing d with
  | nil => rfl
  | cons x ws ih =>
    show (putAll (putDev d x.at_.toNat x.l) ws).loose.length = _
    rw [ih]
    show (d.loose ++ _).length + ws.length = _
    simp
    omega
theorem putAll_on (d : Dev) (h : OnDev d) : ∀ ws : List Wr, OnDev (putAll d ws) := by
  intro ws
  induction ws generalizing d with
  | nil => exact h
  | cons x ws ih => exact ih _ ⟨h.off, h.after⟩
noncomputable def r14 : Array Oper := funcOps Tryz.f55 14
def P14 (B : Nat) (W0 : World) (lv1 : Value) (dc : Dev) (i : Nat) (xl : List UInt8) (v : Value) (w : World) : Prop := ∃ g cap, v = .slice (some ⟨g, 0, none⟩) (dc.loose.length + 1) cap ∧ w.ownsRow B 115 65 v (dc.loose.length + 1) (looseCells dc.loose ++ (.int .i64 (i : Int) :: byteVals xl)) ∧ (W0.alloc (.cells (.int .i64 (i : Int) :: byteVals xl).toArray 115)).grownBy w lv1.ownBlock
def V14 (W0 : World) (D : Nat) (lv1 : Value) (i : Nat) (xl : List UInt8) (gx db dofs cq : Nat) : Nat → Value → Prop
  | 0, v => v = .pointer (some ⟨D, 0, none⟩)
  | 1, v => v = .pointer (some ⟨D, 0, none⟩)
  | 2, v => v = .pointer (some ⟨D, 0, none⟩)
  | 3, v => v = .pointer (some ⟨D, 2, none⟩)
  | 4, v => v = lv1
  | 5, v => v = .pointer (some ⟨gx, 0, none⟩)
  | 6, v => v = .int .i64 (i : Int)
  | 7, v => v = .pointer (some ⟨gx, 1, none⟩)
  | 8, v => v = .slice (some ⟨db, dofs, none⟩) 64 cq
  | 9, v => v = .pointer (some ⟨db, dofs, none⟩)
  | 10, v => v = .agg (byteVals xl).toArray
  | 11, v => v = .agg (.int .i64 (i : Int) :: byteVals xl).toArray
  | 12, v => v = .slice (some ⟨W0.heap.size, 0, none⟩) 1 1
  | 14, v => v = .pointer (some ⟨D, 0, none⟩)
  | 15, v => v = .pointer (some ⟨D, 2, none⟩)
  | _, _ => True
def T14 (B : Nat) (W0 : World) (D : Nat) (lv1 : Value) (dc : Dev) (i : Nat) (xl : List UInt8) (gx db dofs cq : Nat) (L : Nat → Prop) (j : Nat) (v : Value) (w : World) : Prop := V14 W0 D lv1 i xl gx db dofs cq j v ∧ (j = 13 → ¬ L 16 → P14 B W0 lv1 dc i xl v w)
structure S14 (B : Nat) (W0 : World) (D S N : Nat) (lv1 : Value) (dc : Dev) (i : Nat) (xl : List UInt8) (L : Nat → Prop) (w : World) : Prop where
  step : ¬ L 16 → Step B W0 w
  first : ¬ L 12 → w = W0
  second : L 12 → ¬ L 13 → w = W0.alloc (.cells (.int .i64 (i : Int) :: byteVals xl).toArray 115)
  third : ¬ L 16 → w.cell? ⟨D, 2, none⟩ = some lv1 ∧ w.frozen? ⟨D, 2, none⟩ = false
  fin : L 16 → (∃ lv', DevAt B w D S N lv' (addLoose dc i xl)) ∧ Step B W0 w
theorem S14.start {B : Nat} {W0 : World} {D S N : Nat} {lv1 : Value} {dc : Dev} {i : Nat} {xl : List UInt8} (h : DevAt B W0 D S N lv1 dc) : S14 B W0 D S N lv1 dc i xl (fun _ => False) W0 :=
  ⟨fun _ => Step.refl _ _, fun _ => rfl, fun h => h.elim, fun _ => ⟨h.cells.2.2.1, blk_free h.dev 2⟩, fun h => h.elim⟩
theorem fill_build (i : Int) (xl : List UInt8) (h : (byteVals xl).length = 64) (W : World) : (Instr.build 115 #[(0, .int .i64 i), (1, .agg (byteVals xl).toArray)]).run Tryz.prog W = .ok (.agg (.int .i64 i :: byteVals xl).toArray) W := by
  go_simp
  rw [fill_write _ _ _ (by rw [h]; rfl)]
theorem field_b2 (D : Nat) (W : World) : (Instr.fieldAt 85 (.pointer (some ⟨D, 0, none⟩)) 2).run Tryz.prog W = .ok (.pointer (some ⟨D, 2, none⟩)) W := by kernel_rfl
theorem field_w (g f : Nat) (hf : f = 0 ∨ f = 1) (W : World) : (Instr.fieldAt 131 (.pointer (some ⟨g, 0, none⟩)) f).run Tryz.prog W = .ok (.pointer (some ⟨g, f, none⟩)) W := by
  rcases hf with rfl | rfl <;> kernel_rfl
theorem agg_pb (w : World) : (isAgg 42).run Tryz.prog w = .ok false w := by kernel_rfl
theorem agg_lw (w : World) : (isAgg 83).run Tryz.prog w = .ok false w := by kernel_rfl
theorem agg_in (w : World) : (isAgg 3).run Tryz.prog w = .ok false w := by kernel_rfl
theorem agg_by (w : World) : (isAgg 22).run Tryz.prog w = .ok false w := by kernel_rfl
set_option maxHeartbeats 4000000 in
theorem owes14 {Q : Exit → Act → World → Prop} {B : Nat} {W0 : World} {D S N : Nat} {lv1 : Value} {dc : Dev} (h : DevAt B W0 D S N lv1 dc) (i : Nat) (hin : i < dc.n) (xl : List UInt8) (hx64 : xl.length = 64) (hfw : dc.loose.length + 1 ≤ 100000) (bx gx db dofs cq : Nat)
    (hbx : W0.heap[bx]? = some (.cells #[.pointer (some ⟨D, 0, none⟩)] 42 (0, 0))) (hgx : W0.heap[gx]? = some (.cells #[.int .i64 (i : Int), .slice (some ⟨db, dofs, none⟩) 64 cq] 131 (0, 0))) (hrg : ∀ w', Step B W0 w' → w'.rangeAt db dofs (byteVals xl))
    (a0 : Act) (e2 : a0.tmps[2]? = some (.pointer (some ⟨bx, 0, none⟩))) (e7 : a0.tmps[7]? = some (.pointer (some ⟨gx, 0, none⟩))) :
    ∀ (k : Nat) (o : Oper), r14[k]? = some o → Owes Tryz.prog r14 Q (T14 B W0 D lv1 dc i xl gx db dofs cq) (S14 B W0 D S N lv1 dc i xl) a0 k o := by
  intro k o ho L a w K hsh hnl haf hF hS hT hK
  have hi : k < 17 := by
    have h1 := (Array.getElem?_eq_some_iff.1 ho).1
    rwa [show r14.size = 17 from by kernel_rfl] at h1
  have hbl : (byteVals xl).length = 64 := by rw [byteVals_len, hx64]
  have plain : ∀ v, k ≠ 12 → k ≠ 13 → k ≠ 16 → V14 W0 D lv1 i xl gx db dofs cq k v → K (a.put o.dst v) w := fun v h12 h13 h16 hv =>
    hK v w ⟨hv, fun e => absurd e h13⟩ ⟨fun h => hS.step fun x => h (.inl x), fun h => hS.first fun x => h (.inl x), fun h g => hS.second (h.resolve_right fun e => h12 e.symm) fun x => g (.inl x), fun h => hS.third fun x => h (.inl x), fun h => hS.fin (h.resolve_right fun e => h16 e.symm)⟩
      fun j u _ _ h => ⟨h.1, fun e g => h.2 e fun x => g (.inl x)⟩
  have cbx : ¬ L 16 → w.cell? ⟨bx, 0, none⟩ = some (.pointer (some ⟨D, 0, none⟩)) := fun n => blk_cell ((hS.step n).kept _ _ hbx rfl) 0
  have cg0 : ¬ L 16 → w.cell? ⟨gx, 0, none⟩ = some (.int .i64 (i : Int)) := fun n => blk_cell ((hS.step n).kept _ _ hgx rfl) 0
  have cg1 : ¬ L 16 → w.cell? ⟨gx, 1, none⟩ = some (.slice (some ⟨db, dofs, none⟩) 64 cq) := fun n => blk_cell ((hS.step n).kept _ _ hgx rfl) 1
  have harr : ∀ W : World, (Instr.arrayAt 113 (.slice (some ⟨db, dofs, none⟩) 64 cq)).run Tryz.prog W = .ok (.pointer (some ⟨db, dofs, none⟩)) W := fun W => run_arrayAt W _ _ 64 _ _ _ Tryz.underlying113 (Nat.le_refl _)
  obtain ⟨i77, hi77, hz77, hs77, hb77⟩ := info_parts info_write
  obtain rfl | rfl | rfl | rfl | rfl | rfl | rfl | rfl | rfl | rfl | rfl | rfl | rfl | rfl | rfl | rfl | rfl : k = 0 ∨ k = 1 ∨ k = 2 ∨ k = 3 ∨ k = 4 ∨ k = 5 ∨ k = 6 ∨ k = 7 ∨ k = 8 ∨ k = 9 ∨ k = 10 ∨ k = 11 ∨ k = 12 ∨ k = 13 ∨ k = 14 ∨ k = 15 ∨ k = 16 := by omega
  · exact wp_load1 (op_is ho (by kernel_rfl)) (slot hF (by kernel_rfl) e2) (cbx fun h => hnl (run_down hsh [15, 14, 0] 16 (by kernel_rfl) h)) agg_pb (plain _ (by decide) (by decide) (by decide) rfl)
  · exact wp_load1 (op_is ho (by kernel_rfl)) (slot hF (by kernel_rfl) e2) (cbx fun h => hnl (run_down hsh [13, 4, 3, 2, 1] 16 (by kernel_rfl) h)) agg_pb (plain _ (by decide) (by decide) (by decide) rfl)
  · obtain ⟨v, q1, p1⟩ := has (a := a) hT (haf 1 (on_is ho (by kernel_rfl))) (d := 38) (by kernel_rfl)
    obtain rfl : v = .pointer (some ⟨D, 0, none⟩) := p1.1
    exact wp_nil (x := .tmp 38) (op_is ho (by kernel_rfl)) q1 (plain _ (by decide) (by decide) (by decide) rfl)
  · obtain ⟨v, q1, p1⟩ := has (a := a) hT (haf 2 (on_is ho (by kernel_rfl))) (d := 39) (by kernel_rfl)
    obtain rfl : v = .pointer (some ⟨D, 0, none⟩) := p1.1
    exact wp_field (x := .tmp 39) (f := 2) (op_is ho (by kernel_rfl)) q1 (field_b2 D) (plain _ (by decide) (by decide) (by decide) rfl)
  · obtain ⟨v, q1, p1⟩ := has (a := a) hT (haf 3 (on_is ho (by kernel_rfl))) (d := 40) (by kernel_rfl)
    obtain rfl : v = .pointer (some ⟨D, 2, none⟩) := p1.1
    exact wp_load1 (x := .tmp 40) (op_is ho (by kernel_rfl)) q1 (hS.third fun h => hnl (run_down hsh [13, 4] 16 (by kernel_rfl) h)).1 agg_lw (plain _ (by decide) (by decide) (by decide) rfl)
  · exact wp_field (f := 0) (op_is ho (by kernel_rfl)) (slot hF (by kernel_rfl) e7) (field_w gx 0 (.inl rfl)) (plain _ (by decide) (by decide) (by decide) rfl)
  · obtain ⟨v, q1, p1⟩ := has (a := a) hT (haf 5 (on_is ho (by kernel_rfl))) (d := 42) (by kernel_rfl)
    obtain rfl : v = .pointer (some ⟨gx, 0, none⟩) := p1.1
    exact wp_load1 (x := .tmp 42) (op_is ho (by kernel_rfl)) q1 (cg0 fun h => hnl (run_down hsh [13, 12, 11, 6] 16 (by kernel_rfl) h)) agg_in (plain _ (by decide) (by decide) (by decide) rfl)
  · exact wp_field (f := 1) (op_is ho (by kernel_rfl)) (slot hF (by kernel_rfl) e7) (field_w gx 1 (.inr rfl)) (plain _ (by decide) (by decide) (by decide) rfl)
  · obtain ⟨v, q1, p1⟩ := has (a := a) hT (haf 7 (on_is ho (by kernel_rfl))) (d := 44) (by kernel_rfl)
    obtain rfl : v = .pointer (some ⟨gx, 1, none⟩) := p1.1
    exact wp_load1 (x := .tmp 44) (op_is ho (by kernel_rfl)) q1 (cg1 fun h => hnl (run_down hsh [13, 12, 11, 10, 9, 8] 16 (by kernel_rfl) h)) agg_by (plain _ (by decide) (by decide) (by decide) rfl)
  · obtain ⟨v, q1, p1⟩ := has (a := a) hT (haf 8 (on_is ho (by kernel_rfl))) (d := 45) (by kernel_rfl)
    obtain rfl : v = .slice (some ⟨db, dofs, none⟩) 64 cq := p1.1
    have hop := op_is (p := .sliceToArrayPointer 113 (.tmp 45)) ho (by kernel_rfl)
    refine wp_value ?_ (plain _ (by decide) (by decide) (by decide) rfl)
    simp only [execOp, hop, q1, Sem.run_bind, harr, Result.andThen_ok]
    rfl
  · obtain ⟨v, q1, p1⟩ := has (a := a) hT (haf 9 (on_is ho (by kernel_rfl))) (d := 46) (by kernel_rfl)
    obtain rfl : v = .pointer (some ⟨db, dofs, none⟩) := p1.1
    exact wp_load_mid 113 (.tmp 46) (op_is ho (by kernel_rfl)) db dofs q1 (byteVals xl) _ (hrg w (hS.step fun h => hnl (run_down hsh [13, 12, 11, 10] 16 (by kernel_rfl) h))) Tryz.underlying113 rfl (by rw [hbl]; kernel_rfl) (plain _ (by decide) (by decide) (by decide) rfl)
  · obtain ⟨v, q1, p1⟩ := has (a := a) hT (haf 6 (on_is ho (by kernel_rfl))) (d := 43) (by kernel_rfl)
    obtain rfl : v = .int .i64 (i : Int) := p1.1
    obtain ⟨u, q2, p2⟩ := has (a := a) hT (haf 10 (on_is ho (by kernel_rfl))) (d := 47) (by kernel_rfl)
    obtain rfl : u = .agg (byteVals xl).toArray := p2.1
    have hop := op_is (p := .build 115 #[(0, .tmp 43), (1, .tmp 47)]) ho (by kernel_rfl)
    refine wp_value ?_ (plain _ (by decide) (by decide) (by decide) rfl)
    simp only [execOp, hop, List.map_toArray, List.map_cons, List.map_nil, q1, q2, Sem.run_bind, fill_build (i : Int) xl hbl, Result.andThen_ok]
    rfl
  · obtain ⟨v, q1, p1⟩ := has (a := a) hT (haf 11 (on_is ho (by kernel_rfl))) (d := 48) (by kernel_rfl)
    obtain rfl : v = .agg (.int .i64 (i : Int) :: byteVals xl).toArray := p1.1
    obtain rfl : w = W0 := hS.first hnl
    have n13 : ¬ L 13 := fun h => hnl (run_down hsh [12] 13 (by kernel_rfl) h)
    have n16 : ¬ L 16 := fun h => n13 (run_down hsh [13] 16 (by kernel_rfl) h)
    refine wp_buildSlice 83 115 1 #[(0, .tmp 48)] (op_is ho (by kernel_rfl)) (.int .i64 (i : Int) :: byteVals xl).toArray i77 _ Tryz.underlying83 hi77 hz77 (by rw [hs77]; decide) (by rw [hs77]; decide) ?_ (hK _ _ ⟨rfl, fun e => absurd e (by decide)⟩ ⟨fun _ => (Step.refl B w).alloc h.size _, fun g => absurd (.inr rfl) g, fun _ _ => rfl, fun _ => ?_, fun g => absurd (g.resolve_right (by decide)) n16⟩ fun j u _ hj hu => ⟨hu.1, fun e => by subst e; exact absurd hj n13⟩)
    · rw [hs77]
      simp only [List.map_toArray, List.map_cons, List.map_nil, q1]
      refine fill_one (.int .i64 (i : Int) :: byteVals xl) 65 (by rw [List.length_cons, hbl]) _ ?_
      simp
    · have hd := h.later ((Below.refl _ _).alloc (Nat.le_refl _) (.cells (.int .i64 (i : Int) :: byteVals xl).toArray 115))
      exact ⟨hd.cells.2.2.1, blk_free hd.dev 2⟩
  · have l12 := haf 12 (on_is ho (by kernel_rfl))
    obtain ⟨v, q1, p1⟩ := has (a := a) hT (haf 4 (on_is ho (by kernel_rfl))) (d := 41) (by kernel_rfl)
    obtain rfl : v = lv1 := p1.1
    obtain ⟨u, q2, p2⟩ := has (a := a) hT l12 (d := 49) (by kernel_rfl)
    obtain rfl : u = .slice (some ⟨W0.heap.size, 0, none⟩) 1 1 := p2.1
    obtain rfl : w = W0.alloc (.cells (.int .i64 (i : Int) :: byteVals xl).toArray 115) := hS.second l12 hnl
    have n16 : ¬ L 16 := fun h => hnl (run_down hsh [13] 16 (by kernel_rfl) h)
    have hown := row_below h.loose ((Below.refl _ _).alloc (Nat.le_refl _) (.cells (.int .i64 (i : Int) :: byteVals xl).toArray 115))
    have hone : ∀ u ∈ (Value.int .i64 (i : Int) :: byteVals xl), u.oneCell' = true := fun u hu => by
      rcases List.mem_cons.1 hu with rfl | hu
      · rfl
      · exact byteVals_one _ u hu
    refine wp_append_lies _ (.tmp 41) (.tmp 49) 83 (op_is ho (by kernel_rfl)) B 115 i77 _ 65 72 Tryz.underlying83 hi77 hz77 hs77 hb77 rfl (by decide) v _ _ q1 hown ⟨W0.heap.size, 0, none⟩ 1 1 (.int .i64 (i : Int) :: byteVals xl) q2 (by rw [List.length_cons, hbl]) (World.news_of_block (blk_new _ _ _)) hone (by decide) (Nat.le_trans hfw (by decide)) (by omega) (Nat.le_trans h.size (by rw [sz_alloc]; omega)) _ rfl ?_
    intro g3 cap3 w3 hrow3 hgrow3 _ _
    obtain ⟨hD3, hS3⟩ := put14a h _ hgrow3
    refine hK _ _ ⟨trivial, fun _ _ => ⟨g3, cap3, rfl, hrow3, hgrow3⟩⟩ ⟨fun _ => hS3, fun g => absurd (.inl l12) g, fun _ g => absurd (.inr rfl) g, fun _ => ?_, fun g => absurd (g.resolve_right (by decide)) n16⟩ fun j u _ hj hu => ⟨hu.1, fun e => by subst e; exact absurd hj hnl⟩
    exact ⟨by rw [World.cell?_of_block hD3]; exact h.cells.2.2.1, by rw [World.frozen?_of_block hD3]; exact blk_free h.dev 2⟩
  · obtain ⟨v, q1, p1⟩ := has (a := a) hT (haf 0 (on_is ho (by kernel_rfl))) (d := 37) (by kernel_rfl)
    obtain rfl : v = .pointer (some ⟨D, 0, none⟩) := p1.1
    exact wp_nil (x := .tmp 37) (op_is ho (by kernel_rfl)) q1 (plain _ (by decide) (by decide) (by decide) rfl)
  · obtain ⟨v, q1, p1⟩ := has (a := a) hT (haf 14 (on_is ho (by kernel_rfl))) (d := 51) (by kernel_rfl)
    obtain rfl : v = .pointer (some ⟨D, 0, none⟩) := p1.1
    exact wp_field (x := .tmp 51) (f := 2) (op_is ho (by kernel_rfl)) q1 (field_b2 D) (plain _ (by decide) (by decide) (by decide) rfl)
  · have l13 := haf 13 (on_is ho (by kernel_rfl))
    obtain ⟨v, q1, p1⟩ := has (a := a) hT l13 (d := 50) (by kernel_rfl)
    obtain ⟨g3, cap3, rfl, hrow3, hgrow3⟩ := p1.2 rfl hnl
    obtain ⟨u, q2, p2⟩ := has (a := a) hT (haf 15 (on_is ho (by kernel_rfl))) (d := 52) (by kernel_rfl)
    obtain rfl : u = .pointer (some ⟨D, 2, none⟩) := p2.1
    obtain ⟨c32, f32⟩ := hS.third hnl
    have hfin := put14 h i hin xl hx64 hfw _ hrow3 hgrow3
    exact wp_store_at (ty := 83) (x := .tmp 52) (y := .tmp 50) (op_is ho (by kernel_rfl)) q2 q1 c32 f32 (by kernel_rfl) (hK _ _ ⟨trivial, fun e => absurd e (by decide)⟩ ⟨fun g => absurd (.inr rfl) g, fun g => absurd (.inl (run_down hsh [12] 13 (by kernel_rfl) l13)) g, fun _ g => absurd (.inl l13) g, fun g => absurd (.inr rfl) g, fun _ => ⟨⟨_, hfin.1⟩, hfin.2⟩⟩ fun j u _ _ hu => ⟨hu.1, fun _ g => absurd (.inr rfl) g⟩)
set_option maxHeartbeats 4000000 in
theorem put_c {B : Nat} {w : World} {D S N : Nat} {lv : Value} {d : Dev} (h : DevAt B w D S N lv d) (hd : OnDev d) (v : Value) (ws : List Wr) (hv : WritesIn B w v ws) (hg : ∀ x ∈ ws, Good d.n x) (hfew : d.loose.length + ws.length ≤ 100000) :
    Calls Tryz.prog 55 #[.pointer (some ⟨D, 0, none⟩), v] w fun e w' => e = .returned (.int .i64 0) ∧ (∃ lv', DevAt B w' D S N lv' (putAll d ws)) ∧ Step B w w' := by
  have hL := h.lt
  have hB := h.size
  have HDEV := Lib.hid h
  have HON := Lib.hid hd
  have HV := Lib.hid hv
  have HG := Lib.hid hg
  have HFEW := Lib.hid hfew
  have hl : ws.length ≤ 1000000 := by omega
  -- the world behind the box
  have SB : Hid (Step B w (w.alloc (.cells #[.pointer (some ⟨D, 0, none⟩)] 42))) := Lib.hid ((Step.refl B w).alloc hB _)
  have hbx : (w.alloc (.cells #[.pointer (some ⟨D, 0, none⟩)] 42)).heap[w.heap.size]? = some (.cells #[.pointer (some ⟨D, 0, none⟩)] 42 (0, 0)) := blk_new _ _ _
  have D0 : Hid (DevAt B (w.alloc (.cells #[.pointer (some ⟨D, 0, none⟩)] 42)) D S N lv d) := Lib.hid (h.later ((Below.refl _ _).alloc (Nat.le_refl _) _))
  have HBX := Lib.hid hbx
  have hX0 : w.heap.size < (w.alloc (.cells #[.pointer (some ⟨D, 0, none⟩)] 42)).heap.size := lt_of_block hbx
  have cb0 : (w.alloc (.cells #[.pointer (some ⟨D, 0, none⟩)] 42)).cell? ⟨w.heap.size, 0, none⟩ = some (.pointer (some ⟨D, 0, none⟩)) := blk_cell hbx 0
  have K0 := Lib.hid (ready_c D0.out hd.off)
  have hB0 : B ≤ (w.alloc (.cells #[.pointer (some ⟨D, 0, none⟩)] 42)).heap.size := Nat.le_trans hB SB.out.size
  have K1 := Lib.hid (contains_len_c B v ws (w.alloc (.cells #[.pointer (some ⟨D, 0, none⟩)] 42)) hB0 (hv.step SB.out) hl bad1 (fun x hx w' hb => by
    obtain ⟨p, c, hxv, _⟩ := (hv.2 x hx).form
    have := plen_c w' x.at_ p x.l.length c
    unfold wrVal bad1
    rw [hxv]
    exact this))
  have A1 : ws.any bad1 = false := by
    rw [Bool.eq_false_iff]
    intro ht
    obtain ⟨x, hx, hb⟩ := List.any_eq_true.1 ht
    have := (hg x hx).1
    unfold bad1 at hb
    simp [this] at hb
  rw [A1] at K1
  have K2 := Lib.hid (fun (W : World) (hW : Below (w.alloc (.cells #[.pointer (some ⟨D, 0, none⟩)] 42)).heap.size (w.alloc (.cells #[.pointer (some ⟨D, 0, none⟩)] 42)) W) => contains_rng_c B v ws W (Nat.le_trans hB0 hW.size) ((hv.step SB.out).step (Step.of hW hB0)) hl w.heap.size (bad2 d.n) (fun x hx w' hb => by
    have hd2 := D0.out.later (hW.trans (hb.mono hW.size))
    have := prng_c hd2 w.heap.size (((hW.trans (hb.mono hW.size)).cell (p := ⟨w.heap.size, 0, none⟩) hX0).trans cb0) x.at_ x.v
    unfold wrVal bad2
    exact this))
  have A2 : ws.any (bad2 d.n) = false := by
    rw [Bool.eq_false_iff]
    intro ht
    obtain ⟨x, hx, hb⟩ := List.any_eq_true.1 ht
    obtain ⟨_, h1, h2⟩ := hg x hx
    unfold bad2 at hb
    have := of_decide_eq_true hb
    omega
  rw [A2] at K2
  clear A1 A2 hg hfew
  obtain ⟨⟨p, c, rfl, -⟩, -⟩ := hv
  obtain ⟨M, hM⟩ : ∃ M, M = ws.length := ⟨_, rfl⟩
  rw [← hM] at hl ⊢
  rw [← hM] at HV HFEW K1 K2
  have HM := Lib.hid hM
  clear hM hbx h hd hX0 cb0 hB0
  go_enter Tryz.func55, Tryz.ntmps55
  go_wp2_with (first
    | (go_at_call 97; (with_reducible refine K0.out.mono ?_); rintro e w1 ⟨rfl, rfl⟩)
    | (go_at_call 98; (with_reducible refine K1.out.mono ?_); rintro e w1 ⟨rfl, hb1⟩; have HB1 := Lib.hid hb1; clear hb1)
    | (go_at_call 98; (with_reducible refine (K2.out _ HB1.out).mono ?_); rintro e w1 ⟨rfl, hb2⟩; have HB2 := Lib.hid hb2; clear hb2))
  clear K0 K1 K2
  have J0 : Hid (DevAt B w1 D S N lv (putAll d (ws.take 0)) ∧ Step B (w.alloc (.cells #[.pointer (some ⟨D, 0, none⟩)] 42)) w1) := Lib.hid ⟨D0.out.later (HB1.out.trans (HB2.out.mono HB1.out.size)), Step.of (HB1.out.trans (HB2.out.mono HB1.out.size)) (Nat.le_trans hB SB.out.size)⟩
  go_loopg [20] (M + 1) (fun gg s20 wr => ∃ j : Nat, j ≤ M ∧ M - j < gg ∧ s20 = .int .i64 (j : Int) ∧ Hid (∃ lv', DevAt B wr D S N lv' (putAll d (ws.take j)) ∧ Step B (w.alloc (.cells #[.pointer (some ⟨D, 0, none⟩)] 42)) wr))
  case atStart => exact ⟨0, by omega, by omega, rfl, Lib.hid ⟨_, J0.out⟩⟩
  case round =>
    obtain ⟨j, hj, hgg, rfl, HR⟩ := hrel
    by_cases hlt : j < M
    · have hil : (j : Int) < (M : Int) := by omega
      obtain ⟨x, hx⟩ : ∃ x, ws[j]? = some x := ⟨_, List.getElem?_eq_getElem (by rw [← HM.out]; exact hlt)⟩
      obtain ⟨lv1, hdv, hst⟩ := HR.out
      have hv2 := HV.out.step (SB.out.trans hst)
      obtain ⟨⟨p', c', hv', hp'⟩, hby⟩ := hv2
      obtain ⟨rfl, rfl⟩ : p = p' ∧ c = c' := by
        have := HM.out
        simpa using (by rw [← this] at hv'; simpa using hv' : p = p' ∧ c = c')
      obtain ⟨b, o, rfl, _, _, hc⟩ := hp' (fun e => by rw [e] at hx; cases hx)
      obtain ⟨cx, cy⟩ := hc j x hx
      have HX := Lib.hid hx
      have cbx : wr.cell? ⟨w.heap.size, 0, none⟩ = some (.pointer (some ⟨D, 0, none⟩)) := by
        rw [blk_cell (hst.kept _ _ HBX.out rfl)]; rfl
      have hXr : w.heap.size < wr.heap.size := lt_of_block (hst.kept _ _ HBX.out rfl)
      have hbx2 := hby x (List.mem_of_getElem? hx)
      obtain ⟨hx64, hx0, hxn⟩ := HG.out x (List.mem_of_getElem? hx)
      have hpa := putAll_snoc d (ws.take j) x
      rw [show ws.take j ++ [x] = ws.take (j + 1) from by rw [List.take_add_one, hx]; rfl] at hpa
      have HPA := Lib.hid hpa
      clear hpa hc hp' hv' hx HX hby
      obtain ⟨xa, xv, xl⟩ := x
      obtain ⟨q, cq, hxv, hcq⟩ := hbx2.form
      dsimp only at hx64 hx0 hxn hxv hcq cx cy HPA hbx2
      subst hxv
      rw [hx64] at cy hcq hbx2
      obtain ⟨i, rfl⟩ : ∃ i : Nat, xa = (i : Int) := ⟨xa.toNat, by omega⟩
      rw [Int.toNat_natCast] at HPA
      obtain ⟨db, dofs, rfl, hdlt, hdsafe, hdc⟩ := bytes_at hbx2 (fun e => by rw [e] at hx64; cases hx64)
      -- the world with the round's own write
      have hsA : Hid (Step B wr (wr.alloc (.cells #[.int .i64 (i : Int), .slice (some ⟨db, dofs, none⟩) 64 cq] 131))) := Lib.hid ((Step.refl B wr).alloc (Nat.le_trans hB (SB.out.trans hst).size) _)
      have hdA : Hid (DevAt B (wr.alloc (.cells #[.int .i64 (i : Int), .slice (some ⟨db, dofs, none⟩) 64 cq] 131)) D S N lv1 (putAll d (ws.take j))) := Lib.hid (hdv.later ((Below.refl _ _).alloc (Nat.le_refl _) _))
      have KS := Lib.hid (spend_c hdA.out (putAll_on d HON.out _))
      go_wp2_with (go_at_call 101; (with_reducible refine KS.out.mono ?_); rintro e w1 ⟨rfl, rfl⟩)
      refine wp_region_still_tail 11 (by kernel_rfl) (by kernel_rfl) ?_
      obtain ⟨wa, hwa⟩ : ∃ wa, wa = (wr.alloc (.cells #[.int .i64 (i : Int), .slice (some ⟨db, dofs, none⟩) 64 cq] 131)).drew := ⟨_, rfl⟩
      rw [show ({ (wr.alloc (.cells #[.int .i64 (i : Int), .slice (some ⟨db, dofs, none⟩) 64 cq] 131)) with drawn := (wr.alloc (.cells #[.int .i64 (i : Int), .slice (some ⟨db, dofs, none⟩) 64 cq] 131)).drawn + 1 } : World) = wa from hwa.symm]
      have HA : Hid (DevAt B wa D S N lv1 (putAll d (ws.take j)) ∧ Step B wr wa) := Lib.hid (by rw [hwa]; exact ⟨hdA.out.later (Below.refl _ _).drew, hsA.out.drewN 1⟩)
      have hn : (putAll d (ws.take j)).n = d.n := putAll_n d _
      have c1 : wa.cell? ⟨D, 1, none⟩ = some (.slice (some ⟨N, 0, none⟩) d.n d.n) := by rw [← hn]; exact HA.out.1.cells.2.1
      have cb : wa.cell? ⟨w.heap.size, 0, none⟩ = some (.pointer (some ⟨D, 0, none⟩)) := by
        rw [blk_cell (HA.out.2.kept _ _ (hst.kept _ _ HBX.out rfl) rfl)]; rfl
      have hg7 : wa.heap[wr.heap.size]? = some (.cells #[.int .i64 (i : Int), .slice (some ⟨db, dofs, none⟩) 64 cq] 131 (0, 0)) := by rw [hwa]; exact blk_new _ _ _
      have c70 : wa.cell? ⟨wr.heap.size, 0, none⟩ = some (.int .i64 (i : Int)) := blk_cell hg7 0
      have c71 : wa.cell? ⟨wr.heap.size, 1, none⟩ = some (.slice (some ⟨db, dofs, none⟩) 64 cq) := blk_cell hg7 1
      have HG7 := Lib.hid hg7
      have hrg : Hid (wa.rangeAt db dofs (byteVals xl)) := Lib.hid (fun k v hk => by
        unfold byteVals at hk
        rw [List.getElem?_map] at hk
        cases hy : xl[k]? with
        | none => rw [hy] at hk; cases hk
        | some y =>
          rw [hy] at hk
          rw [← Option.some.inj hk, hdsafe.cell HA.out.2]
          exact hdc k y hy)
      have hbl : Hid ((byteVals xl).length = 64) := Lib.hid (by rw [byteVals_len, hx64])
      have hsz : Hid ((Tryz.prog.info? 113).map (·.size) = some (byteVals xl).length) := Lib.hid (by rw [hbl.out]; kernel_rfl)
      have hin : i < d.n := by omega
      have HTH : Hid (wa.there N (i * 64) (byteVals xl).length) := Lib.hid (fun k hk => by
        have hnow := HA.out.1.now
        rw [hbl.out] at hk
        have h1 : (i + 1) * 64 ≤ d.n * 64 := Nat.mul_le_mul_right _ hin
        have h2 : i * 64 + k < (byteVals (putAll d (ws.take j)).now).toArray.size := by
          rw [List.size_toArray, byteVals_len, HA.out.1.lnow, hn]
          omega
        exact ⟨by rw [blk_cell hnow, Array.getElem?_eq_getElem h2]; rfl, blk_free hnow _⟩)
      have HP := Lib.hid (put13 HA.out.1 i (by rw [hn]; exact hin) xl hx64)
      have hi1 : (0 : Int) ≤ (i : Int) := by omega
      have hi2 : (i : Int) < (d.n : Int) := by omega
      have hX2 : w.heap.size < wa.heap.size := Nat.lt_of_lt_of_le hXr HA.out.2.size
      have hD2 : D < wa.heap.size := HA.out.1.lt
      have hn2 : d.n ≤ 424 := HDEV.out.n2
      have harr : ∀ W : World, (Instr.arrayAt 113 (.slice (some ⟨db, dofs, none⟩) 64 cq)).run Tryz.prog W = .ok (.pointer (some ⟨db, dofs, none⟩)) W := fun W => run_arrayAt W _ _ 64 _ _ _ Tryz.underlying113 (Nat.le_refl _)
      clear hg7 hwa hdA hsA hdc hbx2 hn cx cy cbx hdv
      generalize hnn : d.n = n at *
      simp only [List.take_succ_cons, List.take_zero, List.drop_succ_cons, List.drop_zero]
      iterate 9 still_step
      refine wpStill_load_mid rfl 113 (.tmp 34) rfl db dofs rfl (byteVals xl) _ hrg.out Tryz.underlying113 rfl hsz.out ?_
      still_step
      refine wpStill_nil ?_
      refine wpList_store_named rfl 113 (.tmp 36) (.tmp 35) rfl N (i * 64) (byteVals xl) rfl rfl HTH.out hsz.out (byteVals_one _) ?_
      intro wb hwb
      rw [← hwb] at HP
      have HA2 : Hid (DevAt B wb D S N lv1 (setNow (putAll d (ws.take j)) i xl) ∧ Step B wr wb) := Lib.hid ⟨HP.out.1, HA.out.2.trans HP.out.2⟩
      have hrg2 : Hid (wb.rangeAt db dofs (byteVals xl)) := Lib.hid (fun k v hk => by
        rw [(hdsafe.step HA.out.2).cell HP.out.2]
        exact hrg.out k v hk)
      have hg7b := HP.out.2.kept _ _ HG7.out rfl
      have hboxb := HA2.out.2.kept _ _ (hst.kept _ _ HBX.out rfl) rfl
      have HG7b := Lib.hid hg7b
      have HBXb := Lib.hid hboxb
      have hXb : w.heap.size < wb.heap.size := lt_of_block hboxb
      clear hg7b hboxb c1 cb c70 c71 HTH HP HA hwb hX2 hD2 HG7 hXr
      go_wp2_with (fail)
      have HLL : (setNow (putAll d (ws.take j)) i xl).loose.length = d.loose.length + j := by
        show (putAll d (ws.take j)).loose.length = _
        rw [putAll_loose, List.length_take, ← HM.out, Nat.min_eq_left (by omega)]
      have hfw : (setNow (putAll d (ws.take j)) i xl).loose.length + 1 ≤ 100000 := by rw [HLL]; have := HFEW.out; omega
      have hnB : i < (setNow (putAll d (ws.take j)) i xl).n := by
        show i < (putAll d (ws.take j)).n
        rw [putAll_n, hnn]
        exact hin
      have HDW := Lib.hid (HA2.out.1.later (Below.refl _ _).drew)
      refine region_eq0 (ops := r14) (by kernel_rfl) ?_
      refine wp_region_each (T14 B wb.drew D lv1 (setNow (putAll d (ws.take j)) i xl) i xl wr.heap.size db dofs cq) (S14 B wb.drew D S N lv1 (setNow (putAll d (ws.take j)) i xl) i xl) (by kernel_rfl) (by kernel_rfl) (S14.start HDW.out)
        (owes14 HDW.out i hnB xl hx64 hfw w.heap.size wr.heap.size db dofs cq HBXb.out HG7b.out (fun w' hs k v hk => by
          rw [(hdsafe.step HA2.out.2).cell ((Step.refl B wb).drewN 1 |>.trans hs)]
          exact hrg2.out k v hk) _ rfl rfl) ?_
      intro P a1 w5 hall hF hS hT
      have hfin := hS.fin (hall 16 (by rw [show r14.size = 17 from by kernel_rfl]; decide))
      have HFIN : Hid (∃ lv', DevAt B w5 D S N lv' (putAll d (ws.take (j + 1))) ∧ Step B (w.alloc (.cells #[.pointer (some ⟨D, 0, none⟩)] 42)) w5) := Lib.hid (by
        obtain ⟨⟨lv', hd'⟩, hs'⟩ := hfin
        exact ⟨lv', by rw [HPA.out]; exact hd', (hst.trans HA2.out.2).trans (((Step.refl B wb).drewN 1).trans hs')⟩)
      obtain ⟨v0, q0, -⟩ := hT 0 _ (Array.getElem?_eq_getElem (by rw [show r14.size = 17 from by kernel_rfl]; decide))
      obtain ⟨v1, q1, -⟩ := hT 1 _ (Array.getElem?_eq_getElem (by rw [show r14.size = 17 from by kernel_rfl]; decide))
      obtain ⟨v2, q2, -⟩ := hT 2 _ (Array.getElem?_eq_getElem (by rw [show r14.size = 17 from by kernel_rfl]; decide))
      obtain ⟨v3, q3, -⟩ := hT 3 _ (Array.getElem?_eq_getElem (by rw [show r14.size = 17 from by kernel_rfl]; decide))
      obtain ⟨v4, q4, -⟩ := hT 4 _ (Array.getElem?_eq_getElem (by rw [show r14.size = 17 from by kernel_rfl]; decide))
      obtain ⟨v5, q5, -⟩ := hT 5 _ (Array.getElem?_eq_getElem (by rw [show r14.size = 17 from by kernel_rfl]; decide))
      obtain ⟨v6, q6, -⟩ := hT 6 _ (Array.getElem?_eq_getElem (by rw [show r14.size = 17 from by kernel_rfl]; decide))
      obtain ⟨v7, q7, -⟩ := hT 7 _ (Array.getElem?_eq_getElem (by rw [show r14.size = 17 from by kernel_rfl]; decide))
      obtain ⟨v8, q8, -⟩ := hT 8 _ (Array.getElem?_eq_getElem (by rw [show r14.size = 17 from by kernel_rfl]; decide))
      obtain ⟨v9, q9, -⟩ := hT 9 _ (Array.getElem?_eq_getElem (by rw [show r14.size = 17 from by kernel_rfl]; decide))
      obtain ⟨v10, q10, -⟩ := hT 10 _ (Array.getElem?_eq_getElem (by rw [show r14.size = 17 from by kernel_rfl]; decide))
      obtain ⟨v11, q11, -⟩ := hT 11 _ (Array.getElem?_eq_getElem (by rw [show r14.size = 17 from by kernel_rfl]; decide))
      obtain ⟨v12, q12, -⟩ := hT 12 _ (Array.getElem?_eq_getElem (by rw [show r14.size = 17 from by kernel_rfl]; decide))
      obtain ⟨v13, q13, -⟩ := hT 13 _ (Array.getElem?_eq_getElem (by rw [show r14.size = 17 from by kernel_rfl]; decide))
      obtain ⟨v14, q14, -⟩ := hT 14 _ (Array.getElem?_eq_getElem (by rw [show r14.size = 17 from by kernel_rfl]; decide))
      obtain ⟨v15, q15, -⟩ := hT 15 _ (Array.getElem?_eq_getElem (by rw [show r14.size = 17 from by kernel_rfl]; decide))
      have hact := act_of hF [(37, v0), (38, v1), (39, v2), (40, v3), (41, v4), (42, v5), (43, v6), (44, v7), (45, v8), (46, v9), (47, v10), (48, v11), (49, v12), (50, v13), (51, v14), (52, v15)] (by
        intro p hp
        simp only [List.mem_cons, List.not_mem_nil, or_false] at hp
        rcases hp with rfl | rfl | rfl | rfl | rfl | rfl | rfl | rfl | rfl | rfl | rfl | rfl | rfl | rfl | rfl | rfl
        · exact q0
        · exact q1
        · exact q2
        · exact q3
        · exact q4
        · exact q5
        · exact q6
        · exact q7
        · exact q8
        · exact q9
        · exact q10
        · exact q11
        · exact q12
        · exact q13
        · exact q14
        · exact q15) (by kernel_rfl)
      simp only [List.foldl_cons, List.foldl_nil] at hact
      rw [hact]
      clear hact hF hT hS hfin q0 q1 q2 q3 q4 q5 q6 q7 q8 q9 q10 q11 q12 q13 q14 q15
      go_wp2_with (fail)
      go_roundg (M - (j + 1) + 1)
      case measure => omega
      case rel => exact ⟨j + 1, by omega, by omega, by go_num, HFIN⟩
    · have hil : ¬ (j : Int) < (M : Int) := by omega
      obtain rfl : j = M := by omega
      have hall : ws.take j = ws := List.take_of_length_le (by rw [HM.out]; exact Nat.le_refl _)
      go_wp2
      go_ret
      obtain ⟨lv1, hdv, hst⟩ := HR.out
      rw [hall] at hdv
      exact ⟨rfl, ⟨_, hdv⟩, SB.out.trans hst⟩
end Go.Proofs.YtjohhjdicbeojaaGreatDoor.Rj
