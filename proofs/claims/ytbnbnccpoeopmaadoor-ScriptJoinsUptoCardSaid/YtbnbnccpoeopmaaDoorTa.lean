/- What the walk of Line lays, for any act: the words, what rests of the act, and where they lie. -/
import Derived.Test.YtbnbnccpoeopmaaDoorSi
import Derived.Test.YtbnbnccpoeopmaaDoorSv
namespace Go.Proofs.YtbnbnccpoeopmaaDoor.Ta
open Go.RowKit Go.Proofs.YtbnbnccpoeopmaaDoor.Sa Go.Proofs.YtbnbnccpoeopmaaDoor.Sb Go.Proofs.YtbnbnccpoeopmaaDoor.Sd Go.Proofs.YtbnbnccpoeopmaaDoor.Se Go.Proofs.YtbnbnccpoeopmaaDoor.Sf Go.Proofs.YtbnbnccpoeopmaaDoor.Sg Go.Proofs.YtbnbnccpoeopmaaDoor.Sh Go.Proofs.YtbnbnccpoeopmaaDoor.Si Go.Proofs.YtbnbnccpoeopmaaDoor.Su

/-- What rests of an act: its numbers; are its bytes put away, its kept numbers? -/
structure RestD where
  n : Int
  vol : Int
  block : Int
  size : Int
  dz : Bool
  kz : Bool

def restV (b : Bool) (v : Value) : Value := if b then .slice none 0 0 else v
def restC (r : RestD) (dv kv : Value) : Array Value := #[.int .i64 0, .int .i64 r.n, .int .i64 0, .int .i64 r.vol, .int .i64 r.block, .int .i64 r.size, restV r.dz dv, restV r.kz kv]

def strN (n : Int) : ByteArray := mkB (Lib.itoa n)

/-- A part of a form: the words that it puts behind, and what rests. -/
def partPut (m : ActM) (p : UInt8) (s : List ByteArray × RestD) : List ByteArray × RestD :=
  if p = 98 then (s.1 ++ [strN m.vol], { s.2 with vol := 0 })
  else if p = 99 then (s.1 ++ [strN m.block], { s.2 with block := 0 })
  else if p = 100 then (s.1 ++ [strN m.size], { s.2 with size := 0 })
  else if p = 110 then (s.1 ++ [strN m.n], { s.2 with n := 0 })
  else if p = 120 then (s.1 ++ [mkB (120 :: hexOf m.data)], { s.2 with dz := true })
  else (s.1 ++ m.keep.map strN, { s.2 with kz := true })

def runParts (m : ActM) : List UInt8 → List ByteArray × RestD → List ByteArray × RestD
  | [], s => s
  | p :: ps, s => runParts m ps (partPut m p s)

structure LSt (w wr : World) (B H G R i : Nat) (ac : Array Value) (fw fp : ByteArray) (fa fk : Int) (dv kv : Value) (o : List ByteArray) (r : RestD) (s6 : Value) : Prop where
  below : Below B w wr
  lt : B < H
  ltG : H < G
  ltR : G < R
  size : R + 2 ≤ wr.heap.size
  act : wr.heap[B]? = some (.cells ac 27 (0, 0))
  form : wr.heap[H]? = some (.cells #[.string fw, .string fp, .int .i64 fa, .int .i64 fk] 49 (0, 0))
  rest : wr.heap[R]? = some (.cells (restC r dv kv) 27 (0, 0))
  iter : wr.heap[R + 1]? = some (.stringIter fp i)
  row : wr.ownsRow G 9 1 s6 o.length (strVals o)
  off : ∀ q, s6.ownBlock = some q → q = G ∨ R + 2 ≤ q

variable {w wr wy : World} {B H G R i : Nat} {ac : Array Value} {fw fp : ByteArray} {fa fk : Int} {dv kv v : Value} {o : List ByteArray} {r : RestD}

theorem LSt.later (h : LSt w wr B H G R i ac fw fp fa fk dv kv o r v) (hb : Below wr.heap.size wr wy) : LSt w wy B H G R i ac fw fp fa fk dv kv o r v := by
  have h1 := h.lt
  have h2 := h.size
  have h3 := h.ltG
  have h4 := h.ltR
  exact ⟨h.below.trans (hb.mono (by omega)), h1, h3, h4, Nat.le_trans h2 hb.size, blk_below h.act hb (by omega), blk_below h.form hb (by omega), blk_below h.rest hb (by omega), blk_below h.iter hb (by omega), row_below h.row hb, h.off⟩

theorem LSt.next (h : LSt w wr B H G R i ac fw fp fa fk dv kv o r v) (hn : wy = wr.iterAt (R + 1) fp (i + 1)) : LSt w wy B H G R (i + 1) ac fw fp fa fk dv kv o r v := by
  subst hn
  have h1 := h.lt
  have h2 := h.size
  have h3 := h.ltG
  have h4 := h.ltR
  have ot := fun j (hj : j ≠ R + 1) => Lib.iterAt_other wr (R + 1) j fp (i + 1) hj
  refine ⟨Lib.below_iterAt h.below (by omega) _ _, h1, h3, h4, by rw [Lib.iterAt_size]; exact h2, (ot _ (by omega)).trans h.act, (ot _ (by omega)).trans h.form, (ot _ (by omega)).trans h.rest, Lib.iterAt_heap wr _ fp i (i + 1) h.iter, ?_, h.off⟩
  refine ⟨h.row.1, ?_⟩
  rcases h.row.2 with hn | ⟨g, cap, cur, hv, hg, hh, r⟩
  · exact Or.inl hn
  · refine Or.inr ⟨g, cap, cur, hv, hg, (ot g ?_).trans hh, r⟩
    have := h.off g (by rw [hv]; rfl)
    omega

/-- A word more. -/
theorem LSt.grow {w5 w6 : World} (h : LSt w w5 B H G R i ac fw fp fa fk dv kv o r v) {ob : Obj} (hg : (w5.alloc ob).grownBy w6 v.ownBlock) {v' : Value} {x : ByteArray} {g : Nat} (hv' : v'.ownBlock = some g)
    (hown : w6.ownsRow G 9 1 v' (o.length + 1) (strVals o ++ [.string x])) (hat : v.ownBlock = some g ∨ g = w5.heap.size + 1) :
    LSt w w6 B H G R i ac fw fp fa fk dv kv (o ++ [x]) r v' := by
  have h1 := h.lt
  have h2 := h.size
  have h3 := h.ltG
  have h4 := h.ltR
  have gb : ∀ b, b < R + 2 → b ≠ G → w6.heap[b]? = w5.heap[b]? := by
    intro b hb hne
    rw [hg.block b (by rw [sz_alloc]; omega) (fun e => by have := h.off b (by first | exact e | exact e.symm); omega)]
    exact Below.heap_alloc w5 ob b (by omega)
  have hs6 : w5.heap.size + 1 ≤ w6.heap.size := by rw [← sz_alloc w5 ob]; exact hg.size
  have hof : ∀ q, v'.ownBlock = some q → q = G ∨ R + 2 ≤ q := by
    intro q hq
    rw [hv'] at hq
    have hqq : g = q := Option.some.inj hq
    rcases hat with e | e
    · rw [← hqq]
      exact h.off g e
    · right
      omega
  have hb6 : Below B w w6 := (h.below.alloc (by omega) ob).grown hg (by rw [sz_alloc]; omega) (fun q hq => by have := h.off q hq; omega)
  refine ⟨hb6, h1, h3, h4, by omega, (gb _ (by omega) (by omega)).trans h.act, (gb _ (by omega) (by omega)).trans h.form, (gb _ (by omega) (by omega)).trans h.rest, (gb _ (by omega) (by omega)).trans h.iter, ?_, hof⟩
  have e2 : strVals (o ++ [x]) = strVals o ++ [.string x] := by
    unfold strVals
    rw [List.map_append]
    rfl
  rw [e2, List.length_append]
  exact hown

/-- A cell of the rest is set. -/
theorem LSt.set (h : LSt w wr B H G R i ac fw fp fa fk dv kv o r v) (j : Nat) (u : Value) (r' : RestD) (hc : (restC r dv kv).setIfInBounds j u = restC r' dv kv) :
    LSt w (wr.setCell ⟨R, j, none⟩ u) B H G R i ac fw fp fa fk dv kv o r' v := by
  have h1 := h.lt
  have h2 := h.size
  have h3 := h.ltG
  have h4 := h.ltR
  have e := blk_set h.rest j u
  rw [hc] at e
  refine ⟨h.below.setCell (by show B ≤ R; omega) _, h1, h3, h4, by rw [sz_set]; exact h2, blk_set_other h.act (by show B ≠ R; omega) _, blk_set_other h.form (by show H ≠ R; omega) _, e, blk_set_other h.iter (by show R + 1 ≠ R; omega) _, ?_, h.off⟩
  exact ownsRow_setCell_other h.row (fun e3 => by have := h.off _ e3; have h5 : (⟨R, j, none⟩ : Addr).block = R := rfl; omega) _

/-- Ahead of the rest: the first words are laid. -/
structure Pre (w wx : World) (B H G : Nat) (ac : Array Value) (fw fp : ByteArray) (fa fk : Int) (o : List ByteArray) (s6 : Value) : Prop where
  below : Below B w wx
  lt : B < H
  ltG : H < G
  size : G < wx.heap.size
  act : wx.heap[B]? = some (.cells ac 27 (0, 0))
  form : wx.heap[H]? = some (.cells #[.string fw, .string fp, .int .i64 fa, .int .i64 fk] 49 (0, 0))
  row : wx.ownsRow G 9 1 s6 o.length (strVals o)
  off : ∀ q, s6.ownBlock = some q → q = G

theorem Pre.start {wx : World} {s6 : Value} (h : Pre w wx B H G ac fw fp fa fk o s6) (c1 : Array Value) (r0 : RestD) (hr : c1 = restC r0 dv kv) :
    LSt w ((wx.alloc (.cells c1 27)).iter fp 0) B H G wx.heap.size 0 ac fw fp fa fk dv kv o r0 s6 := by
  subst hr
  have h1 := h.lt
  have h2 := h.size
  have h3 := h.ltG
  have f3 := blk_old (blk_new wx (restC r0 dv kv) 27) (.stringIter fp 0)
  have f4 := World.iter_heap (wx.alloc (.cells (restC r0 dv kv) 27)) fp 0
  rw [sz_alloc] at f4
  have hb : Below wx.heap.size wx ((wx.alloc (.cells (restC r0 dv kv) 27)).iter fp 0) := ((Below.refl _ _).alloc (Nat.le_refl _) _).alloc (by rw [sz_alloc]; omega) _
  refine ⟨h.below.trans (hb.mono (by omega)), h1, h3, h2, ?_, blk_below h.act hb (by omega), blk_below h.form hb (by omega), f3, f4, row_below h.row hb, fun q hq => Or.inl (h.off q hq)⟩
  show _ ≤ (World.alloc _ _).heap.size
  rw [sz_alloc, sz_alloc]
  omega

theorem pre_now {w1 : World} (hb : Below B w w1) (hlt : B < w1.heap.size) (ha : w1.heap[B]? = some (.cells ac 27 (0, 0))) :
    Pre w ((w1.alloc (.cells #[.string fw, .string fp, .int .i64 fa, .int .i64 fk] 49)).alloc (.cells #[.string fw] 9)) B w1.heap.size (w1.heap.size + 1) ac fw fp fa fk [fw] (.slice (some ⟨w1.heap.size + 1, 0, none⟩) 1 1) := by
  have f1 := blk_old (blk_new w1 #[.string fw, .string fp, .int .i64 fa, .int .i64 fk] 49) (.cells #[.string fw] 9)
  have f2 := blk_new (w1.alloc (.cells #[.string fw, .string fp, .int .i64 fa, .int .i64 fk] 49)) #[.string fw] 9
  rw [sz_alloc] at f2
  refine ⟨(hb.alloc (by omega) _).alloc (by rw [sz_alloc]; omega) _, hlt, Nat.lt_succ_self _, ?_, blk_old (blk_old ha _) _, f1, ⟨rfl, Or.inr ⟨_, _, _, rfl, Nat.le_refl _, f2, Nat.le_refl _, by decide, rfl, rfl⟩⟩, ?_⟩
  · rw [sz_alloc, sz_alloc]
    omega
  · intro q hq
    exact (Option.some.inj hq).symm

theorem pre_later {w1 : World} (hb : Below B w w1) (hlt : B < w1.heap.size) (ha : w1.heap[B]? = some (.cells ac 27 (0, 0))) :
    Pre w (((w1.alloc (.cells #[.string fw, .string fp, .int .i64 fa, .int .i64 fk] 49)).alloc (.cells #[.string fw] 9)).alloc (.cells #[.string laterS, .string fw] 9)) B w1.heap.size (w1.heap.size + 1 + 1) ac fw fp fa fk [laterS, fw] (.slice (some ⟨w1.heap.size + 1 + 1, 0, none⟩) 2 2) := by
  have f1 := blk_old (blk_old (blk_new w1 #[.string fw, .string fp, .int .i64 fa, .int .i64 fk] 49) (.cells #[.string fw] 9)) (.cells #[.string laterS, .string fw] 9)
  have f2 := blk_new ((w1.alloc (.cells #[.string fw, .string fp, .int .i64 fa, .int .i64 fk] 49)).alloc (.cells #[.string fw] 9)) #[.string laterS, .string fw] 9
  rw [sz_alloc, sz_alloc] at f2
  refine ⟨((hb.alloc (by omega) _).alloc (by rw [sz_alloc]; omega) _).alloc (by rw [sz_alloc, sz_alloc]; omega) _, hlt, by omega, ?_, blk_old (blk_old (blk_old ha _) _) _, f1, ⟨rfl, Or.inr ⟨_, _, _, rfl, Nat.le_refl _, f2, Nat.le_refl _, by decide, rfl, rfl⟩⟩, ?_⟩
  · rw [sz_alloc, sz_alloc, sz_alloc]
    omega
  · intro q hq
    exact (Option.some.inj hq).symm

/-- Where a walk stands: the fold over the parts that are done. -/
theorem run_step (m : ActM) (fp : ByteArray) (k : Nat) (h : k < fp.size) (s : List ByteArray × RestD) : runParts m (fp.data.toList.drop k) s = runParts m (fp.data.toList.drop (k + 1)) (partPut m (fp[k]'h) s) := by
  have hl : k < fp.data.toList.length := by rw [Array.length_toList]; exact h
  rw [List.drop_eq_getElem_cons hl]
  rfl

theorem part_at (fp : ByteArray) (k : Nat) (h : k < fp.size) : fp[k]'h ∈ fp.data.toList := by
  have hl : k < fp.data.toList.length := by rw [Array.length_toList]; exact h
  exact List.mem_iff_getElem.2 ⟨k, hl, rfl⟩

end Go.Proofs.YtbnbnccpoeopmaaDoor.Ta
