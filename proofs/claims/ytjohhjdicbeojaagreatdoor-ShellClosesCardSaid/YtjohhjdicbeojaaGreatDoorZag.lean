/- Texts joined: KTa KSw KSt. -/
import Derived.Lib.SlBytesConst
import Derived.Test.YtjohhjdicbeojaaGreatDoorZaf
namespace Go.Proofs.YtjohhjdicbeojaaGreatDoor.KTa
open Go.RowKit Go.Proofs.YtjohhjdicbeojaaGreatDoor.KSa Go.Proofs.YtjohhjdicbeojaaGreatDoor.KSb Go.Proofs.YtjohhjdicbeojaaGreatDoor.KSd Go.Proofs.YtjohhjdicbeojaaGreatDoor.KSe Go.Proofs.YtjohhjdicbeojaaGreatDoor.KSf Go.Proofs.YtjohhjdicbeojaaGreatDoor.KSg Go.Proofs.YtjohhjdicbeojaaGreatDoor.KSh Go.Proofs.YtjohhjdicbeojaaGreatDoor.KSi Go.Proofs.YtjohhjdicbeojaaGreatDoor.KSu
/-- What rests of an act: its numbers; are its bytes put away, its kept numbers? -/
structure RestD where
  n : Int
  vol : Int
  block : Int
  size : Int
  dz : Bool
  kz : Bool
def restV (b : Bool) (v : Value) : Value := if b then .slice none 0 0 else v
def restC (r : RestD) (dv kv : Value) : Array Value := #[.int .i64 0, .int .i64 r.n, .int .i64 0, .int .i64 r.vol, .int .i64 r.block, .int .i64 r.size, restV r.dz dv, restV r.kz kv]
def strN (n : Int) : ByteArray := mkB (Lib.itoa n)
/-- A part of a form: the words that it puts behind, and what rests. -/
def partPut (m : ActM) (p : UInt8) (s : List ByteArray × RestD) : List ByteArray × RestD :=
  if p = 98 then (s.1 ++ [strN m.vol], { s.2 with vol := 0 })
  else if p = 99 then (s.1 ++ [strN m.block], { s.2 with block := 0 })
  else if p = 100 then (s.1 ++ [strN m.size], { s.2 with size := 0 })
  else if p = 110 then (s.1 ++ [strN m.n], { s.2 with n := 0 })
  else if p = 120 then (s.1 ++ [mkB (120 :: hexOf m.data)], { s.2 with dz := true })
  else (s.1 ++ m.keep.map strN, { s.2 with kz := true })
def runParts (m : ActM) : List UInt8 → List ByteArray × RestD → List ByteArray × RestD
  | [], s => s
  | p :: ps, s => runParts m ps (partPut m p s)
structure LSt (w wr : World) (B H G R i : Nat) (ac : Array Value) (fw fp : ByteArray) (fa fk : Int) (dv kv : Value) (o : List ByteArray) (r : RestD) (s6 : Value) : Prop where
  below : Below B w wr
  lt : B < H
  ltG : H < G
  ltR : G < R
  size : R + 2 ≤ wr.heap.size
  act : wr.heap[B]? = some (.cells ac 34 (0, 0))
  form : wr.heap[H]? = some (.cells #[.string fw, .string fp, .int .i64 fa, .int .i64 fk] 49 (0, 0))
  rest : wr.heap[R]? = some (.cells (restC r dv kv) 34 (0, 0))
  iter : wr.heap[R + 1]? = some (.stringIter fp i)
  row : wr.ownsRow G 9 1 s6 o.length (strVals o)
  off : ∀ q, s6.ownBlock = some q → q = G ∨ R + 2 ≤ q
variable {w wr wy : World} {B H G R i : Nat} {ac : Array Value} {fw fp : ByteArray} {fa fk : Int} {dv kv v : Value} {o : List ByteArray} {r : RestD}
theorem LSt.later (h : LSt w wr B H G R i ac fw fp fa fk dv kv o r v) (hb : Below wr.heap.size wr wy) : LSt w wy B H G R i ac fw fp fa fk dv kv o r v := by
  have h1 := h.lt
  have h2 := h.size
  have h3 := h.ltG
  have h4 := h.ltR
  exact ⟨h.below.trans (hb.mono (by omega)), h1, h3, h4, Nat.le_trans h2 hb.size, blk_below h.act hb (by omega), blk_below h.form hb (by omega), blk_below h.rest hb (by omega), blk_below h.iter hb (by omega), row_below h.row hb, h.off⟩
theorem LSt.next (h : LSt w wr B H G R i ac fw fp fa fk dv kv o r v) (hn : wy = wr.iterAt (R + 1) fp (i + 1)) : LSt w wy B H G R (i + 1) ac fw fp fa fk dv kv o r v := by
  subst hn
  have h1 := h.lt
  have h2 := h.size
  have h3 := h.ltG
  have h4 := h.ltR
  have ot := fun j (hj : j ≠ R + 1) => Lib.iterAt_other wr (R + 1) j fp (i + 1) hj
  refine ⟨Lib.below_iterAt h.below (by omega) _ _, h1, h3, h4, by rw [Lib.iterAt_size]; exact h2, (ot _ (by omega)).trans h.act, (ot _ (by omega)).trans h.form, (ot _ (by omega)).trans h.rest, Lib.iterAt_heap wr _ fp i (i + 1) h.iter, ?_, h.off⟩
  refine ⟨h.row.1, ?_⟩
  rcases h.row.2 with hn | ⟨g, cap, cur, hv, hg, hh, r⟩
  · exact Or.inl hn
  · refine Or.inr ⟨g, cap, cur, hv, hg, (ot g ?_).trans hh, r⟩
    have := h.off g (by rw [hv]; rfl)
    omega
/-- A word more. -/
theorem LSt.grow {w5 w6 : World} (h : LSt w w5 B H G R i ac fw fp fa fk dv kv o r v) {ob : Obj} (hg : (w5.alloc ob).grownBy w6 v.ownBlock) {v' : Value} {x : ByteArray} {g : Nat} (hv' : v'.ownBlock = some g)
    (hown : w6.ownsRow G 9 1 v' (o.length + 1) (strVals o ++ [.string x])) (hat : v.ownBlock = some g ∨ g = w5.heap.size + 1) :
    LSt w w6 B H G R i ac fw fp fa fk dv kv (o ++ [x]) r v' := by
  have h1 := h.lt
  have h2 := h.size
  have h3 := h.ltG
  have h4 := h.ltR
  have gb : ∀ b, b < R + 2 → b ≠ G → w6.heap[b]? = w5.heap[b]? := by
    intro b hb hne
    rw [hg.block b (by rw [sz_alloc]; omega) (fun e => by have := h.off b (by first | exact e | exact e.symm); omega)]
    exact Below.heap_alloc w5 ob b (by omega)
  have hs6 : w5.heap.size + 1 ≤ w6.heap.size := by rw [← sz_alloc w5 ob]; exact hg.size
  have hof : ∀ q, v'.ownBlock = some q → q = G ∨ R + 2 ≤ q := by
    intro q hq
    rw [hv'] at hq
    have hqq : g = q := Option.some.inj hq
    rcases hat with e | e
    · rw [← hqq]
      exact h.off g e
    · right
      omega
  have hb6 : Below B w w6 := (h.below.alloc (by omega) ob).grown hg (by rw [sz_alloc]; omega) (fun q hq => by have := h.off q hq; omega)
  refine ⟨hb6, h1, h3, h4, by omega, (gb _ (by omega) (by omega)).trans h.act, (gb _ (by omega) (by omega)).trans h.form, (gb _ (by omega) (by omega)).trans h.rest, (gb _ (by omega) (by omega)).trans h.iter, ?_, hof⟩
  have e2 : strVals (o ++ [x]) = strVals o ++ [.string x] := by
    unfold strVals
    rw [List.map_append]
    rfl
  rw [e2, List.length_append]
  exact hown
/-- A cell of the rest is set. -/
theorem LSt.set (h : LSt w wr B H G R i ac fw fp fa fk dv kv o r v) (j : Nat) (u : Value) (r' : RestD) (hc : (restC r dv kv).setIfInBounds j u = restC r' dv kv) :
    LSt w (wr.setCell ⟨R, j, none⟩ u) B H G R i ac fw fp fa fk dv kv o r' v := by
  have h1 := h.lt
  have h2 := h.size
  have h3 := h.ltG
  have h4 := h.ltR
  have e := blk_set h.rest j u
  rw [hc] at e
  refine ⟨h.below.setCell (by show B ≤ R; omega) _, h1, h3, h4, by rw [sz_set]; exact h2, blk_set_other h.act (by show B ≠ R; omega) _, blk_set_other h.form (by show H ≠ R; omega) _, e, blk_set_other h.iter (by show R + 1 ≠ R; omega) _, ?_, h.off⟩
  exact ownsRow_setCell_other h.row (fun e3 => by have := h.off _ e3; have h5 : (⟨R, j, none⟩ : Addr).block = R := rfl; omega) _
/-- Ahead of the rest: the first words are laid. -/
structure Pre (w wx : World) (B H G : Nat) (ac : Array Value) (fw fp : ByteArray) (fa fk : Int) (o : List ByteArray) (s6 : Value) : Prop where
  below : Below B w wx
  lt : B < H
  ltG : H < G
  size : G < wx.heap.size
  act : wx.heap[B]? = some (.cells ac 34 (0, 0))
  form : wx.heap[H]? = some (.cells #[.string fw, .string fp, .int .i64 fa, .int .i64 fk] 49 (0, 0))
  row : wx.ownsRow G 9 1 s6 o.length (strVals o)
  off : ∀ q, s6.ownBlock = some q → q = G
theorem Pre.start {wx : World} {s6 : Value} (h : Pre w wx B H G ac fw fp fa fk o s6) (c1 : Array Value) (r0 : RestD) (hr : c1 = restC r0 dv kv) :
    LSt w ((wx.alloc (.cells c1 34)).iter fp 0) B H G wx.heap.size 0 ac fw fp fa fk dv kv o r0 s6 := by
  subst hr
  have h1 := h.lt
  have h2 := h.size
  have h3 := h.ltG
  have f3 := blk_old (blk_new wx (restC r0 dv kv) 34) (.stringIter fp 0)
  have f4 := World.iter_heap (wx.alloc (.cells (restC r0 dv kv) 34)) fp 0
  rw [sz_alloc] at f4
  have hb : Below wx.heap.size wx ((wx.alloc (.cells (restC r0 dv kv) 34)).iter fp 0) := ((Below.refl _ _).alloc (Nat.le_refl _) _).alloc (by rw [sz_alloc]; omega) _
  refine ⟨h.below.trans (hb.mono (by omega)), h1, h3, h2, ?_, blk_below h.act hb (by omega), blk_below h.form hb (by omega), f3, f4, row_below h.row hb, fun q hq => Or.inl (h.off q hq)⟩
  show _ ≤ (World.alloc _ _).heap.size
  rw [sz_alloc, sz_alloc]
  omega
theorem pre_now {w1 : World} (hb : Below B w w1) (hlt : B < w1.heap.size) (ha : w1.heap[B]? = some (.cells ac 34 (0, 0))) :
    Pre w ((w1.alloc (.cells #[.string fw, .string fp, .int .i64 fa, .int .i64 fk] 49)).alloc (.cells #[.string fw] 9)) B w1.heap.size (w1.heap.size + 1) ac fw fp fa fk [fw] (.slice (some ⟨w1.heap.size + 1, 0, none⟩) 1 1) := by
  have f1 := blk_old (blk_new w1 #[.string fw, .string fp, .int .i64 fa, .int .i64 fk] 49) (.cells #[.string fw] 9)
  have f2 := blk_new (w1.alloc (.cells #[.string fw, .string fp, .int .i64 fa, .int .i64 fk] 49)) #[.string fw] 9
  rw [sz_alloc] at f2
  refine ⟨(hb.alloc (by omega) _).alloc (by rw [sz_alloc]; omega) _, hlt, Nat.lt_succ_self _, ?_, blk_old (blk_old ha _) _, f1, ⟨rfl, Or.inr ⟨_, _, _, rfl, Nat.le_refl _, f2, Nat.le_refl _, by decide, rfl, rfl⟩⟩, ?_⟩
  · rw [sz_alloc, sz_alloc]
    omega
  · intro q hq
    exact (Option.some.inj hq).symm
theorem pre_later {w1 : World} (hb : Below B w w1) (hlt : B < w1.heap.size) (ha : w1.heap[B]? = some (.cells ac 34 (0, 0))) :
    Pre w (((w1.alloc (.cells #[.string fw, .string fp, .int .i64 fa, .int .i64 fk] 49)).alloc (.cells #[.string fw] 9)).alloc (.cells #[.string laterS, .string fw] 9)) B w1.heap.size (w1.heap.size + 1 + 1) ac fw fp fa fk [laterS, fw] (.slice (some ⟨w1.heap.size + 1 + 1, 0, none⟩) 2 2) := by
  have f1 := blk_old (blk_old (blk_new w1 #[.string fw, .string fp, .int .i64 fa, .int .i64 fk] 49) (.cells #[.string fw] 9)) (.cells #[.string laterS, .string fw] 9)
  have f2 := blk_new ((w1.alloc (.cells #[.string fw, .string fp, .int .i64 fa, .int .i64 fk] 49)).alloc (.cells #[.string fw] 9)) #[.string laterS, .string fw] 9
  rw [sz_alloc, sz_alloc] at f2
  refine ⟨((hb.alloc (by omega) _).alloc (by rw [sz_alloc]; omega) _).alloc (by rw [sz_alloc, sz_alloc]; omega) _, hlt, by omega, ?_, blk_old (blk_old (blk_old ha _) _) _, f1, ⟨rfl, Or.inr ⟨_, _, _, rfl, Nat.le_refl _, f2, Nat.le_refl _, by decide, rfl, rfl⟩⟩, ?_⟩
  · rw [sz_alloc, sz_alloc, sz_alloc]
    omega
  · intro q hq
    exact (Option.some.inj hq).symm
/-- Where a walk stands: the fold over the parts that are done. -/
theorem run_step (m : ActM) (fp : ByteArray) (k : Nat) (h : k < fp.size) (s : List ByteArray × RestD) : runParts m (fp.data.toList.drop k) s = runParts m (fp.data.toList.drop (k + 1)) (partPut m (fp[k]'h) s) := by
  have hl : k < fp.data.toList.length := by rw [Array.length_toList]; exact h
  rw [List.drop_eq_getElem_cons hl]
  rfl
theorem part_at (fp : ByteArray) (k : Nat) (h : k < fp.size) : fp[k]'h ∈ fp.data.toList := by
  have hl : k < fp.data.toList.length := by rw [Array.length_toList]; exact h
  exact List.mem_iff_getElem.2 ⟨k, hl, rfl⟩
end Go.Proofs.YtjohhjdicbeojaaGreatDoor.KTa
namespace Go.Proofs.YtjohhjdicbeojaaGreatDoor.KSw
open Go.RowKit Go.Proofs.YtjohhjdicbeojaaGreatDoor.KSa Go.Proofs.YtjohhjdicbeojaaGreatDoor.KSb Go.Proofs.YtjohhjdicbeojaaGreatDoor.KSc Go.Proofs.YtjohhjdicbeojaaGreatDoor.KSd Go.Proofs.YtjohhjdicbeojaaGreatDoor.KSe Go.Proofs.YtjohhjdicbeojaaGreatDoor.KSf Go.Proofs.YtjohhjdicbeojaaGreatDoor.KSg Go.Proofs.YtjohhjdicbeojaaGreatDoor.KSh Go.Proofs.YtjohhjdicbeojaaGreatDoor.KSj Go.Proofs.YtjohhjdicbeojaaGreatDoor.KSp Go.Proofs.YtjohhjdicbeojaaGreatDoor.KSq Go.Proofs.YtjohhjdicbeojaaGreatDoor.KSr Go.Proofs.YtjohhjdicbeojaaGreatDoor.KSu Go.Proofs.YtjohhjdicbeojaaGreatDoor.KSv
/-- What an act's numbers are, and how long its bytes. -/
structure AccOk (N : Nat) (n vol block size : Int) (data : List UInt8) (keep : List Int) : Prop where
  n : I64 n
  vol : I64 vol
  block : I64 block
  size : I64 size
  keep : ∀ x ∈ keep, I64 x
  data : data.length ≤ N
theorem i64_atoi (l : List UInt8) : I64 (atoiN l) := atoiN_bounds l
theorem unhex_len (x : List UInt8) : ((unhexL x).getD []).length ≤ x.length := by
  cases h : unhexL x with
  | none => exact Nat.zero_le _
  | some d =>
    have e := unhexL_back h
    rw [Option.getD_some, e, List.length_cons, hexOf_length]
    omega
theorem step_ok {N : Nat} (p : UInt8) (x : List UInt8) (a : Acc) (hx : x.length ≤ N) (h : AccOk N a.n a.vol a.block a.size a.data a.keep) :
    AccOk N (partStepL p x a).1.n (partStepL p x a).1.vol (partStepL p x a).1.block (partStepL p x a).1.size (partStepL p x a).1.data (partStepL p x a).1.keep ∧ (partStepL p x a).1.keep.length ≤ a.keep.length + 1 := by
  unfold partStepL
  split
  · exact ⟨⟨h.n, i64_atoi x, h.block, h.size, h.keep, h.data⟩, Nat.le_succ _⟩
  · split
    · exact ⟨⟨h.n, h.vol, i64_atoi x, h.size, h.keep, h.data⟩, Nat.le_succ _⟩
    · split
      · exact ⟨⟨h.n, h.vol, h.block, i64_atoi x, h.keep, h.data⟩, Nat.le_succ _⟩
      · split
        · exact ⟨⟨i64_atoi x, h.vol, h.block, h.size, h.keep, h.data⟩, Nat.le_succ _⟩
        · split
          · exact ⟨⟨h.n, h.vol, h.block, h.size, h.keep, Nat.le_trans (unhex_len x) hx⟩, Nat.le_succ _⟩
          · refine ⟨⟨h.n, h.vol, h.block, h.size, fun y hy => ?_, h.data⟩, by rw [List.length_append]; exact Nat.le_refl _⟩
            rcases List.mem_append.1 hy with hy | hy
            · exact h.keep y hy
            · rw [List.mem_singleton.1 hy]
              exact i64_atoi x
theorem bytes_of_row {w : World} {base : Nat} {v : Value} {l : List UInt8} (h : w.ownsRow base 5 1 v l.length (byteVals l)) : BytesIn w v l := by
  obtain ⟨p, c, rfl⟩ := own_slice h
  refine ⟨p, c, rfl, fun hne => ?_⟩
  have hpos : 0 < l.length := List.length_pos_iff.2 hne
  obtain ⟨g, cap, hv, _, hg⟩ := h.form hpos
  obtain ⟨rfl, _⟩ : p = some ⟨g, 0, none⟩ ∧ c = cap := by simpa using hv
  refine ⟨g, 0, rfl, hg, fun j x hx => ?_⟩
  have := h.cells (g := g) rfl j (.int .u8 (x.toNat : Int)) (by unfold byteVals; rw [List.getElem?_map, hx]; rfl)
  rw [Lib.add_plain] at this
  exact this
theorem ints_of_row {w : World} {base : Nat} {v : Value} {l : List Int} (h : w.ownsRow base 3 1 v l.length (intVals l)) : IntsIn w v l := by
  obtain ⟨p, c, rfl⟩ := own_slice h
  refine ⟨p, c, rfl, fun hne => ?_⟩
  have hpos : 0 < l.length := List.length_pos_iff.2 hne
  obtain ⟨g, cap, hv, _, hg⟩ := h.form hpos
  obtain ⟨rfl, _⟩ : p = some ⟨g, 0, none⟩ ∧ c = cap := by simpa using hv
  refine ⟨g, 0, rfl, hg, fun j x hx => ?_⟩
  have := h.cells (g := g) rfl j (.int .i64 x) (by unfold intVals; rw [List.getElem?_map, hx]; rfl)
  rw [Lib.add_plain] at this
  exact this
theorem bytes_nil (w : World) (p : Option Addr) (c : Nat) : BytesIn w (.slice p 0 c) [] := ⟨p, c, rfl, fun h => absurd rfl h⟩
theorem ints_nil (w : World) (p : Option Addr) (c : Nat) : IntsIn w (.slice p 0 c) [] := ⟨p, c, rfl, fun h => absurd rfl h⟩
end Go.Proofs.YtjohhjdicbeojaaGreatDoor.KSw
namespace Go.Proofs.YtjohhjdicbeojaaGreatDoor.KSt
open Go.RowKit Go.Proofs.YtjohhjdicbeojaaGreatDoor.KSa Go.Proofs.YtjohhjdicbeojaaGreatDoor.KSb Go.Proofs.YtjohhjdicbeojaaGreatDoor.KSd Go.Proofs.YtjohhjdicbeojaaGreatDoor.KSf Go.Proofs.YtjohhjdicbeojaaGreatDoor.KSg Go.Proofs.YtjohhjdicbeojaaGreatDoor.KSh Go.Proofs.YtjohhjdicbeojaaGreatDoor.KSj Go.Proofs.YtjohhjdicbeojaaGreatDoor.KSl Go.Proofs.YtjohhjdicbeojaaGreatDoor.KSr Go.Proofs.YtjohhjdicbeojaaGreatDoor.KSu Go.Proofs.YtjohhjdicbeojaaGreatDoor.KSw
theorem words_tl : ∀ (ws : List (List UInt8)) (a : List UInt8), 32 ∉ a → (∀ x ∈ ws, (32 : UInt8) ∉ x) → wordsL (a ++ tl ws) = a :: ws
  | [], a, ha, _ => by
    show wordsL (a ++ []) = _
    rw [List.append_nil]
    exact wordsL_one a ha
  | b :: t, a, ha, hw => by
    show wordsL (a ++ (32 :: b ++ tl t)) = _
    rw [show a ++ (32 :: b ++ tl t) = a ++ 32 :: (b ++ tl t) from rfl, wordsL_head a _ ha, words_tl t b (hw b (List.mem_cons_self ..)) (fun x hx => hw x (List.mem_cons_of_mem _ hx))]
theorem hex_tab : ∀ c : Fin 256, hexByte (digit (c.val / 16)) (digit (c.val % 16)) = some (UInt8.ofNat c.val) := by decide +kernel
theorem hexL_of : ∀ d : List UInt8, hexL (hexOf d) = some d
  | [] => rfl
  | c :: d => by
    have h := hex_tab ⟨c.toNat, c.toNat_lt⟩
    have h : hexByte (digit (c.toNat / 16)) (digit (c.toNat % 16)) = some c := by
      rw [h]
      congr 1
      exact UInt8.ofNat_toNat
    show hexL (digit (c.toNat / 16) :: digit (c.toNat % 16) :: hexOf d) = _
    rw [hexL.eq_3, h, hexL_of d]
    rfl
theorem unhex_of (d : List UInt8) : unhexL (120 :: hexOf d) = some d := by
  have h : unhexL (120 :: hexOf d) = hexL (hexOf d) := by
    unfold unhexL
    rw [if_pos (by simp [Lib.hasPrefix, List.isPrefixOf])]
    rfl
  rw [h, hexL_of]
theorem digit_tab : ∀ n : Fin 16, digit n.val ≠ 32 := by decide +kernel
theorem hex_no32 (d : List UInt8) : (32 : UInt8) ∉ 120 :: hexOf d := by
  intro h
  rcases List.mem_cons.1 h with h | h
  · revert h
    decide
  · unfold hexOf at h
    obtain ⟨c, _, hc⟩ := List.mem_flatMap.1 h
    have hl := c.toNat_lt
    simp only [List.mem_cons, List.mem_nil_iff, or_false] at hc
    rcases hc with hc | hc
    · exact digit_tab ⟨c.toNat / 16, by omega⟩ hc.symm
    · exact digit_tab ⟨c.toNat % 16, by omega⟩ hc.symm
theorem num_ok {n : Int} (h : I64 n) : atoiN (Lib.itoa n) = n ∧ numL (Lib.itoa n) = true := atoiN_itoa n h.1 h.2
theorem fill_0 (size : Int) (block : Int) (h0 : I64 size) (h1 : I64 block) : actTailL (formAt 0) 1 [Lib.itoa size, Lib.itoa block] = some ⟨1, 0, 0, 0, block, size, [], []⟩ := by
  unfold actTailL
  rw [show okPartsL (formAt 0) ([Lib.itoa size, Lib.itoa block] : List (List UInt8)).length = true from rfl, if_pos rfl]
  have s0 : ∀ a, partStepL (KSg.partAt (formAt 0).parts 0) (Lib.itoa size) a = ({ a with size := size }, true) := fun a => by
    show ({ a with size := atoiN (Lib.itoa size) }, numL (Lib.itoa size)) = _
    rw [(num_ok h0).1, (num_ok h0).2]
  have s1 : ∀ a, partStepL (KSg.partAt (formAt 0).parts 1) (Lib.itoa block) a = ({ a with block := block }, true) := fun a => by
    show ({ a with block := atoiN (Lib.itoa block) }, numL (Lib.itoa block)) = _
    rw [(num_ok h1).1, (num_ok h1).2]
  simp only [actLoopL, Nat.zero_add, s0, s1]
  rfl
theorem fill_1   : actTailL (formAt 1) 2 [] = some ⟨2, 0, 0, 0, 0, 0, [], []⟩ := by
  unfold actTailL
  rw [show okPartsL (formAt 1) ([] : List (List UInt8)).length = true from rfl, if_pos rfl]
  rfl
theorem fill_2 (n : Int) (h0 : I64 n) : actTailL (formAt 2) 4 [Lib.itoa n] = some ⟨4, n, 0, 0, 0, 0, [], []⟩ := by
  unfold actTailL
  rw [show okPartsL (formAt 2) ([Lib.itoa n] : List (List UInt8)).length = true from rfl, if_pos rfl]
  have s0 : ∀ a, partStepL (KSg.partAt (formAt 2).parts 0) (Lib.itoa n) a = ({ a with n := n }, true) := fun a => by
    show ({ a with n := atoiN (Lib.itoa n) }, numL (Lib.itoa n)) = _
    rw [(num_ok h0).1, (num_ok h0).2]
  simp only [actLoopL, s0]
  rfl
theorem fill_3 (n : Int) (h0 : I64 n) : actTailL (formAt 3) 6 [Lib.itoa n] = some ⟨6, n, 0, 0, 0, 0, [], []⟩ := by
  unfold actTailL
  rw [show okPartsL (formAt 3) ([Lib.itoa n] : List (List UInt8)).length = true from rfl, if_pos rfl]
  have s0 : ∀ a, partStepL (KSg.partAt (formAt 3).parts 0) (Lib.itoa n) a = ({ a with n := n }, true) := fun a => by
    show ({ a with n := atoiN (Lib.itoa n) }, numL (Lib.itoa n)) = _
    rw [(num_ok h0).1, (num_ok h0).2]
  simp only [actLoopL, s0]
  rfl
theorem fill_5 (kind : Int) (size : Int) (h0 : I64 size) : actTailL (formAt 5) kind [Lib.itoa size] = some ⟨kind, 0, 1, 0, 0, size, [], []⟩ := by
  unfold actTailL
  rw [show okPartsL (formAt 5) ([Lib.itoa size] : List (List UInt8)).length = true from rfl, if_pos rfl]
  have s0 : ∀ a, partStepL (KSg.partAt (formAt 5).parts 0) (Lib.itoa size) a = ({ a with size := size }, true) := fun a => by
    show ({ a with size := atoiN (Lib.itoa size) }, numL (Lib.itoa size)) = _
    rw [(num_ok h0).1, (num_ok h0).2]
  simp only [actLoopL, s0]
  rfl
theorem fill_6 (kind : Int) (vol : Int) (h0 : I64 vol) : actTailL (formAt 6) kind [Lib.itoa vol] = some ⟨kind, 0, 2, vol, 0, 0, [], []⟩ := by
  unfold actTailL
  rw [show okPartsL (formAt 6) ([Lib.itoa vol] : List (List UInt8)).length = true from rfl, if_pos rfl]
  have s0 : ∀ a, partStepL (KSg.partAt (formAt 6).parts 0) (Lib.itoa vol) a = ({ a with vol := vol }, true) := fun a => by
    show ({ a with vol := atoiN (Lib.itoa vol) }, numL (Lib.itoa vol)) = _
    rw [(num_ok h0).1, (num_ok h0).2]
  simp only [actLoopL, s0]
  rfl
theorem fill_7 (kind : Int) (vol : Int) (h0 : I64 vol) : actTailL (formAt 7) kind [Lib.itoa vol] = some ⟨kind, 0, 3, vol, 0, 0, [], []⟩ := by
  unfold actTailL
  rw [show okPartsL (formAt 7) ([Lib.itoa vol] : List (List UInt8)).length = true from rfl, if_pos rfl]
  have s0 : ∀ a, partStepL (KSg.partAt (formAt 7).parts 0) (Lib.itoa vol) a = ({ a with vol := vol }, true) := fun a => by
    show ({ a with vol := atoiN (Lib.itoa vol) }, numL (Lib.itoa vol)) = _
    rw [(num_ok h0).1, (num_ok h0).2]
  simp only [actLoopL, s0]
  rfl
theorem fill_8 (kind : Int) (vol : Int) (block : Int) (h0 : I64 vol) (h1 : I64 block) : actTailL (formAt 8) kind [Lib.itoa vol, Lib.itoa block] = some ⟨kind, 0, 4, vol, block, 0, [], []⟩ := by
  unfold actTailL
  rw [show okPartsL (formAt 8) ([Lib.itoa vol, Lib.itoa block] : List (List UInt8)).length = true from rfl, if_pos rfl]
  have s0 : ∀ a, partStepL (KSg.partAt (formAt 8).parts 0) (Lib.itoa vol) a = ({ a with vol := vol }, true) := fun a => by
    show ({ a with vol := atoiN (Lib.itoa vol) }, numL (Lib.itoa vol)) = _
    rw [(num_ok h0).1, (num_ok h0).2]
  have s1 : ∀ a, partStepL (KSg.partAt (formAt 8).parts 1) (Lib.itoa block) a = ({ a with block := block }, true) := fun a => by
    show ({ a with block := atoiN (Lib.itoa block) }, numL (Lib.itoa block)) = _
    rw [(num_ok h1).1, (num_ok h1).2]
  simp only [actLoopL, Nat.zero_add, s0, s1]
  rfl
theorem fill_9 (kind : Int) (vol : Int) (block : Int) (la : List UInt8) (h0 : I64 vol) (h1 : I64 block) : actTailL (formAt 9) kind [Lib.itoa vol, Lib.itoa block, 120 :: hexOf la] = some ⟨kind, 0, 5, vol, block, 0, la, []⟩ := by
  unfold actTailL
  rw [show okPartsL (formAt 9) ([Lib.itoa vol, Lib.itoa block, 120 :: hexOf la] : List (List UInt8)).length = true from rfl, if_pos rfl]
  have s0 : ∀ a, partStepL (KSg.partAt (formAt 9).parts 0) (Lib.itoa vol) a = ({ a with vol := vol }, true) := fun a => by
    show ({ a with vol := atoiN (Lib.itoa vol) }, numL (Lib.itoa vol)) = _
    rw [(num_ok h0).1, (num_ok h0).2]
  have s1 : ∀ a, partStepL (KSg.partAt (formAt 9).parts 1) (Lib.itoa block) a = ({ a with block := block }, true) := fun a => by
    show ({ a with block := atoiN (Lib.itoa block) }, numL (Lib.itoa block)) = _
    rw [(num_ok h1).1, (num_ok h1).2]
  have s2 : ∀ a, partStepL (KSg.partAt (formAt 9).parts 2) (120 :: hexOf la) a = ({ a with data := la }, true) := fun a => by
    show ({ a with data := (unhexL (120 :: hexOf la)).getD [] }, (unhexL (120 :: hexOf la)).isSome) = _
    rw [unhex_of]
    rfl
  simp only [actLoopL, Nat.zero_add, s0, s1, s2]
  rfl
theorem fill_10 (kind : Int) (vol : Int) (block : Int) (h0 : I64 vol) (h1 : I64 block) : actTailL (formAt 10) kind [Lib.itoa vol, Lib.itoa block] = some ⟨kind, 0, 6, vol, block, 0, [], []⟩ := by
  unfold actTailL
  rw [show okPartsL (formAt 10) ([Lib.itoa vol, Lib.itoa block] : List (List UInt8)).length = true from rfl, if_pos rfl]
  have s0 : ∀ a, partStepL (KSg.partAt (formAt 10).parts 0) (Lib.itoa vol) a = ({ a with vol := vol }, true) := fun a => by
    show ({ a with vol := atoiN (Lib.itoa vol) }, numL (Lib.itoa vol)) = _
    rw [(num_ok h0).1, (num_ok h0).2]
  have s1 : ∀ a, partStepL (KSg.partAt (formAt 10).parts 1) (Lib.itoa block) a = ({ a with block := block }, true) := fun a => by
    show ({ a with block := atoiN (Lib.itoa block) }, numL (Lib.itoa block)) = _
    rw [(num_ok h1).1, (num_ok h1).2]
  simp only [actLoopL, Nat.zero_add, s0, s1]
  rfl
theorem fill_11 (kind : Int)   : actTailL (formAt 11) kind [] = some ⟨kind, 0, 7, 0, 0, 0, [], []⟩ := by
  unfold actTailL
  rw [show okPartsL (formAt 11) ([] : List (List UInt8)).length = true from rfl, if_pos rfl]
  rfl
theorem fill_12 (kind : Int)   : actTailL (formAt 12) kind [] = some ⟨kind, 0, 8, 0, 0, 0, [], []⟩ := by
  unfold actTailL
  rw [show okPartsL (formAt 12) ([] : List (List UInt8)).length = true from rfl, if_pos rfl]
  rfl
theorem fill_13 (kind : Int) (vol : Int) (h0 : I64 vol) : actTailL (formAt 13) kind [Lib.itoa vol] = some ⟨kind, 0, 9, vol, 0, 0, [], []⟩ := by
  unfold actTailL
  rw [show okPartsL (formAt 13) ([Lib.itoa vol] : List (List UInt8)).length = true from rfl, if_pos rfl]
  have s0 : ∀ a, partStepL (KSg.partAt (formAt 13).parts 0) (Lib.itoa vol) a = ({ a with vol := vol }, true) := fun a => by
    show ({ a with vol := atoiN (Lib.itoa vol) }, numL (Lib.itoa vol)) = _
    rw [(num_ok h0).1, (num_ok h0).2]
  simp only [actLoopL, s0]
  rfl
theorem crash_fill : ∀ (lk : List Int) (i : Nat) (a : Acc), (∀ x ∈ lk, I64 x) → actLoopL (formAt 4).parts i (lk.map Lib.itoa) a = some { a with keep := a.keep ++ lk }
  | [], _, a, _ => by simp [actLoopL]
  | x :: r, i, a, h => by
    have hp : KSg.partAt (formAt 4).parts i = 107 := by
      unfold KSg.partAt
      rw [show (formAt 4).parts.size - 1 = 0 from rfl, Nat.min_zero]
      rfl
    have s : partStepL (KSg.partAt (formAt 4).parts i) (Lib.itoa x) a = ({ a with keep := a.keep ++ [x] }, true) := by
      rw [hp]
      show ({ a with keep := a.keep ++ [atoiN (Lib.itoa x)] }, numL (Lib.itoa x)) = _
      rw [(num_ok (h x (List.mem_cons_self ..))).1, (num_ok (h x (List.mem_cons_self ..))).2]
    rw [List.map_cons]
    simp only [actLoopL, s, if_true]
    rw [crash_fill r (i + 1) _ (fun y hy => h y (List.mem_cons_of_mem _ hy))]
    simp
theorem fill_4 (lk : List Int) (h : ∀ x ∈ lk, I64 x) : actTailL (formAt 4) 7 (lk.map Lib.itoa) = some ⟨7, 0, 0, 0, 0, 0, [], lk⟩ := by
  unfold actTailL
  rw [show okPartsL (formAt 4) (lk.map Lib.itoa).length = true from rfl, if_pos rfl, crash_fill lk 0 _ h]
  rfl
theorem keep_tl (lk : List Int) : keepL lk = tl (lk.map Lib.itoa) := by
  unfold keepL tl sp
  rw [List.flatMap_map]
theorem back_0 (size : Int) (block : Int) (h0 : I64 size) (h1 : I64 block) : actL ([102, 111, 114, 109, 97, 116] ++ tl [Lib.itoa size, Lib.itoa block]) = some ⟨1, 0, 0, 0, block, size, [], []⟩ := by
  unfold actL
  rw [words_tl [Lib.itoa size, Lib.itoa block] [102, 111, 114, 109, 97, 116] (by decide) (fun x hx => by
    simp only [List.mem_cons, List.mem_nil_iff, or_false] at hx
    rcases hx with rfl | rfl
    all_goals first | exact itoa_no32 _ | exact hex_no32 _)]
  exact fill_0 size block h0 h1
theorem back_1   : actL ([111, 112, 101, 110] ++ tl []) = some ⟨2, 0, 0, 0, 0, 0, [], []⟩ := by
  unfold actL
  rw [words_tl [] [111, 112, 101, 110] (by decide) (fun x hx => by cases hx)]
  exact fill_1
theorem back_2 (n : Int) (h0 : I64 n) : actL ([115, 116, 101, 112] ++ tl [Lib.itoa n]) = some ⟨4, n, 0, 0, 0, 0, [], []⟩ := by
  unfold actL
  rw [words_tl [Lib.itoa n] [115, 116, 101, 112] (by decide) (fun x hx => by
    simp only [List.mem_cons, List.mem_nil_iff, or_false] at hx
    rcases hx with rfl
    all_goals first | exact itoa_no32 _ | exact hex_no32 _)]
  exact fill_2 n h0
theorem back_3 (n : Int) (h0 : I64 n) : actL ([102, 97, 105, 108] ++ tl [Lib.itoa n]) = some ⟨6, n, 0, 0, 0, 0, [], []⟩ := by
  unfold actL
  rw [words_tl [Lib.itoa n] [102, 97, 105, 108] (by decide) (fun x hx => by
    simp only [List.mem_cons, List.mem_nil_iff, or_false] at hx
    rcases hx with rfl
    all_goals first | exact itoa_no32 _ | exact hex_no32 _)]
  exact fill_3 n h0
theorem back_4 (lk : List Int) (h : ∀ x ∈ lk, I64 x) : actL ([99, 114, 97, 115, 104] ++ tl (lk.map Lib.itoa)) = some ⟨7, 0, 0, 0, 0, 0, [], lk⟩ := by
  unfold actL
  rw [words_tl (lk.map Lib.itoa) [99, 114, 97, 115, 104] (by decide) (fun x hx => by obtain ⟨y, _, rfl⟩ := List.mem_map.1 hx; exact itoa_no32 y)]
  show actOfL ([99, 114, 97, 115, 104] :: lk.map Lib.itoa) 0 5 = _
  rw [show actOfL ([99, 114, 97, 115, 104] :: lk.map Lib.itoa) 0 5 = actTailL (formAt 4) 7 (lk.map Lib.itoa) from rfl, fill_4 lk h]
theorem back_5 (size : Int) (h0 : I64 size) : actL ([99, 114, 101, 97, 116, 101] ++ tl [Lib.itoa size]) = some ⟨5, 0, 1, 0, 0, size, [], []⟩ := by
  unfold actL
  rw [words_tl [Lib.itoa size] [99, 114, 101, 97, 116, 101] (by decide) (fun x hx => by
    simp only [List.mem_cons, List.mem_nil_iff, or_false] at hx
    rcases hx with rfl
    all_goals first | exact itoa_no32 _ | exact hex_no32 _)]
  exact fill_5 5 size h0
theorem backL_5 (size : Int) (h0 : I64 size) : actL (laterB ++ tl ([99, 114, 101, 97, 116, 101] :: [Lib.itoa size])) = some ⟨3, 0, 1, 0, 0, size, [], []⟩ := by
  unfold actL
  rw [words_tl ([99, 114, 101, 97, 116, 101] :: [Lib.itoa size]) laterB (by decide) (fun x hx => by
    simp only [List.mem_cons, List.mem_nil_iff, or_false] at hx
    rcases hx with rfl | rfl
    all_goals first | exact itoa_no32 _ | exact hex_no32 _ | decide)]
  exact fill_5 3 size h0
theorem back_6 (vol : Int) (h0 : I64 vol) : actL ([100, 101, 108, 101, 116, 101] ++ tl [Lib.itoa vol]) = some ⟨5, 0, 2, vol, 0, 0, [], []⟩ := by
  unfold actL
  rw [words_tl [Lib.itoa vol] [100, 101, 108, 101, 116, 101] (by decide) (fun x hx => by
    simp only [List.mem_cons, List.mem_nil_iff, or_false] at hx
    rcases hx with rfl
    all_goals first | exact itoa_no32 _ | exact hex_no32 _)]
  exact fill_6 5 vol h0
theorem backL_6 (vol : Int) (h0 : I64 vol) : actL (laterB ++ tl ([100, 101, 108, 101, 116, 101] :: [Lib.itoa vol])) = some ⟨3, 0, 2, vol, 0, 0, [], []⟩ := by
  unfold actL
  rw [words_tl ([100, 101, 108, 101, 116, 101] :: [Lib.itoa vol]) laterB (by decide) (fun x hx => by
    simp only [List.mem_cons, List.mem_nil_iff, or_false] at hx
    rcases hx with rfl | rfl
    all_goals first | exact itoa_no32 _ | exact hex_no32 _ | decide)]
  exact fill_6 3 vol h0
theorem back_7 (vol : Int) (h0 : I64 vol) : actL ([115, 110, 97, 112] ++ tl [Lib.itoa vol]) = some ⟨5, 0, 3, vol, 0, 0, [], []⟩ := by
  unfold actL
  rw [words_tl [Lib.itoa vol] [115, 110, 97, 112] (by decide) (fun x hx => by
    simp only [List.mem_cons, List.mem_nil_iff, or_false] at hx
    rcases hx with rfl
    all_goals first | exact itoa_no32 _ | exact hex_no32 _)]
  exact fill_7 5 vol h0
theorem backL_7 (vol : Int) (h0 : I64 vol) : actL (laterB ++ tl ([115, 110, 97, 112] :: [Lib.itoa vol])) = some ⟨3, 0, 3, vol, 0, 0, [], []⟩ := by
  unfold actL
  rw [words_tl ([115, 110, 97, 112] :: [Lib.itoa vol]) laterB (by decide) (fun x hx => by
    simp only [List.mem_cons, List.mem_nil_iff, or_false] at hx
    rcases hx with rfl | rfl
    all_goals first | exact itoa_no32 _ | exact hex_no32 _ | decide)]
  exact fill_7 3 vol h0
theorem back_8 (vol : Int) (block : Int) (h0 : I64 vol) (h1 : I64 block) : actL ([114, 101, 97, 100] ++ tl [Lib.itoa vol, Lib.itoa block]) = some ⟨5, 0, 4, vol, block, 0, [], []⟩ := by
  unfold actL
  rw [words_tl [Lib.itoa vol, Lib.itoa block] [114, 101, 97, 100] (by decide) (fun x hx => by
    simp only [List.mem_cons, List.mem_nil_iff, or_false] at hx
    rcases hx with rfl | rfl
    all_goals first | exact itoa_no32 _ | exact hex_no32 _)]
  exact fill_8 5 vol block h0 h1
theorem backL_8 (vol : Int) (block : Int) (h0 : I64 vol) (h1 : I64 block) : actL (laterB ++ tl ([114, 101, 97, 100] :: [Lib.itoa vol, Lib.itoa block])) = some ⟨3, 0, 4, vol, block, 0, [], []⟩ := by
  unfold actL
  rw [words_tl ([114, 101, 97, 100] :: [Lib.itoa vol, Lib.itoa block]) laterB (by decide) (fun x hx => by
    simp only [List.mem_cons, List.mem_nil_iff, or_false] at hx
    rcases hx with rfl | rfl | rfl
    all_goals first | exact itoa_no32 _ | exact hex_no32 _ | decide)]
  exact fill_8 3 vol block h0 h1
theorem back_9 (vol : Int) (block : Int) (la : List UInt8) (h0 : I64 vol) (h1 : I64 block) : actL ([119, 114, 105, 116, 101] ++ tl [Lib.itoa vol, Lib.itoa block, 120 :: hexOf la]) = some ⟨5, 0, 5, vol, block, 0, la, []⟩ := by
  unfold actL
  rw [words_tl [Lib.itoa vol, Lib.itoa block, 120 :: hexOf la] [119, 114, 105, 116, 101] (by decide) (fun x hx => by
    simp only [List.mem_cons, List.mem_nil_iff, or_false] at hx
    rcases hx with rfl | rfl | rfl
    all_goals first | exact itoa_no32 _ | exact hex_no32 _)]
  exact fill_9 5 vol block la h0 h1
theorem backL_9 (vol : Int) (block : Int) (la : List UInt8) (h0 : I64 vol) (h1 : I64 block) : actL (laterB ++ tl ([119, 114, 105, 116, 101] :: [Lib.itoa vol, Lib.itoa block, 120 :: hexOf la])) = some ⟨3, 0, 5, vol, block, 0, la, []⟩ := by
  unfold actL
  rw [words_tl ([119, 114, 105, 116, 101] :: [Lib.itoa vol, Lib.itoa block, 120 :: hexOf la]) laterB (by decide) (fun x hx => by
    simp only [List.mem_cons, List.mem_nil_iff, or_false] at hx
    rcases hx with rfl | rfl | rfl | rfl
    all_goals first | exact itoa_no32 _ | exact hex_no32 _ | decide)]
  exact fill_9 3 vol block la h0 h1
theorem back_10 (vol : Int) (block : Int) (h0 : I64 vol) (h1 : I64 block) : actL ([100, 105, 115, 99, 97, 114, 100] ++ tl [Lib.itoa vol, Lib.itoa block]) = some ⟨5, 0, 6, vol, block, 0, [], []⟩ := by
  unfold actL
  rw [words_tl [Lib.itoa vol, Lib.itoa block] [100, 105, 115, 99, 97, 114, 100] (by decide) (fun x hx => by
    simp only [List.mem_cons, List.mem_nil_iff, or_false] at hx
    rcases hx with rfl | rfl
    all_goals first | exact itoa_no32 _ | exact hex_no32 _)]
  exact fill_10 5 vol block h0 h1
theorem backL_10 (vol : Int) (block : Int) (h0 : I64 vol) (h1 : I64 block) : actL (laterB ++ tl ([100, 105, 115, 99, 97, 114, 100] :: [Lib.itoa vol, Lib.itoa block])) = some ⟨3, 0, 6, vol, block, 0, [], []⟩ := by
  unfold actL
  rw [words_tl ([100, 105, 115, 99, 97, 114, 100] :: [Lib.itoa vol, Lib.itoa block]) laterB (by decide) (fun x hx => by
    simp only [List.mem_cons, List.mem_nil_iff, or_false] at hx
    rcases hx with rfl | rfl | rfl
    all_goals first | exact itoa_no32 _ | exact hex_no32 _ | decide)]
  exact fill_10 3 vol block h0 h1
theorem back_11   : actL ([115, 121, 110, 99] ++ tl []) = some ⟨5, 0, 7, 0, 0, 0, [], []⟩ := by
  unfold actL
  rw [words_tl [] [115, 121, 110, 99] (by decide) (fun x hx => by cases hx)]
  exact fill_11 5
theorem backL_11   : actL (laterB ++ tl ([115, 121, 110, 99] :: [])) = some ⟨3, 0, 7, 0, 0, 0, [], []⟩ := by
  unfold actL
  rw [words_tl ([115, 121, 110, 99] :: []) laterB (by decide) (fun x hx => by
    simp only [List.mem_cons, List.mem_nil_iff, or_false] at hx
    rcases hx with rfl
    all_goals first | exact itoa_no32 _ | exact hex_no32 _ | decide)]
  exact fill_11 3
theorem back_12   : actL ([115, 116, 97, 116] ++ tl []) = some ⟨5, 0, 8, 0, 0, 0, [], []⟩ := by
  unfold actL
  rw [words_tl [] [115, 116, 97, 116] (by decide) (fun x hx => by cases hx)]
  exact fill_12 5
theorem backL_12   : actL (laterB ++ tl ([115, 116, 97, 116] :: [])) = some ⟨3, 0, 8, 0, 0, 0, [], []⟩ := by
  unfold actL
  rw [words_tl ([115, 116, 97, 116] :: []) laterB (by decide) (fun x hx => by
    simp only [List.mem_cons, List.mem_nil_iff, or_false] at hx
    rcases hx with rfl
    all_goals first | exact itoa_no32 _ | exact hex_no32 _ | decide)]
  exact fill_12 3
theorem back_13 (vol : Int) (h0 : I64 vol) : actL ([101, 110, 116, 114, 121] ++ tl [Lib.itoa vol]) = some ⟨5, 0, 9, vol, 0, 0, [], []⟩ := by
  unfold actL
  rw [words_tl [Lib.itoa vol] [101, 110, 116, 114, 121] (by decide) (fun x hx => by
    simp only [List.mem_cons, List.mem_nil_iff, or_false] at hx
    rcases hx with rfl
    all_goals first | exact itoa_no32 _ | exact hex_no32 _)]
  exact fill_13 5 vol h0
theorem backL_13 (vol : Int) (h0 : I64 vol) : actL (laterB ++ tl ([101, 110, 116, 114, 121] :: [Lib.itoa vol])) = some ⟨3, 0, 9, vol, 0, 0, [], []⟩ := by
  unfold actL
  rw [words_tl ([101, 110, 116, 114, 121] :: [Lib.itoa vol]) laterB (by decide) (fun x hx => by
    simp only [List.mem_cons, List.mem_nil_iff, or_false] at hx
    rcases hx with rfl | rfl
    all_goals first | exact itoa_no32 _ | exact hex_no32 _ | decide)]
  exact fill_13 3 vol h0
end Go.Proofs.YtjohhjdicbeojaaGreatDoor.KSt
