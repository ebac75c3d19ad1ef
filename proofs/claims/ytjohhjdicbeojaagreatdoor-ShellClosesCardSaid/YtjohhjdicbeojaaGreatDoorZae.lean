/- Texts joined: KSg. -/
import Derived.Deep.CutRange
import Derived.Deep.DeepCutAuto
import Derived.Deep.Light
import Derived.Outline
import Derived.Test.YtjohhjdicbeojaaGreatDoorZac
import Derived.Test.YtjohhjdicbeojaaGreatDoorZad
namespace Go.Proofs.YtjohhjdicbeojaaGreatDoor.KSg
open Go.RowKit Go.Proofs.YtjohhjdicbeojaaGreatDoor.KSa Go.Proofs.YtjohhjdicbeojaaGreatDoor.KSb Go.Proofs.YtjohhjdicbeojaaGreatDoor.KSd Go.Proofs.YtjohhjdicbeojaaGreatDoor.KSe Go.Proofs.YtjohhjdicbeojaaGreatDoor.KSf
/-- The words of a line. -/
def wordsB (s : ByteArray) : List ByteArray := Lib.splitB ⟨#[32]⟩ 0 (Lib.countB s ⟨#[32]⟩) s
theorem wordsB_length (s : ByteArray) : (wordsB s).length = Lib.countB s ⟨#[32]⟩ + 1 := Lib.splitB_all _ (by decide) _ _ _ rfl
/-- The words lie at block b. -/
structure WordsAt (w : World) (b : Nat) (ws : List ByteArray) : Prop where
  lt : b < w.heap.size
  cell : ∀ j x, ws[j]? = some x → w.cell? ⟨b, j, none⟩ = some (.string x)
theorem WordsAt.below {w w' : World} {b B : Nat} {ws : List ByteArray} (h : WordsAt w b ws) (hb : Below B w w') (hB : b < B) : WordsAt w' b ws :=
  ⟨Nat.lt_of_lt_of_le h.lt hb.size, fun j x hx => (hb.cell (p := ⟨b, j, none⟩) hB).trans (h.cell j x hx)⟩
theorem WordsAt.alloc {w : World} {b : Nat} {ws : List ByteArray} (h : WordsAt w b ws) (o : Obj) : WordsAt (w.alloc o) b ws :=
  h.below ((Below.refl w.heap.size w).alloc (Nat.le_refl _) o) h.lt
theorem WordsAt.set {w : World} {b : Nat} {ws : List ByteArray} (h : WordsAt w b ws) (a : Addr) (ha : b ≠ a.block) (u : Value) : WordsAt (w.setCell a u) b ws :=
  ⟨by rw [sz_set]; exact h.lt, fun j x hx => (World.cell?_of_block (w := w) (Below.heap_setCell w a u b ha)).trans (h.cell j x hx)⟩
theorem split_c (s : ByteArray) (hs : s.size < 4294967281) (w : World) (hE : Env w) :
    Calls Tryz.prog 86 #[.string s, .string ⟨#[32]⟩] w fun e w' => e = .returned (.slice (some ⟨w.heap.size, 0, none⟩) (wordsB s).length (wordsB s).length) ∧ WordsAt w' w.heap.size (wordsB s) ∧ w'.heap.size = w.heap.size + 1 ∧ Below w.heap.size w w' := by
  obtain ⟨m, hm⟩ := hE.len
  rw [wordsB_length]
  refine (Tryz.strings_Split s ⟨#[32]⟩ m w hs hm (by decide)).mono ?_
  rintro e w' ⟨rfl, rfl⟩
  refine ⟨rfl, ⟨by rw [sz_alloc]; omega, fun j x hx => ?_⟩, sz_alloc _ _, (Below.refl _ _).alloc (Nat.le_refl _) _⟩
  rw [blk_cell (blk_new _ _ _)]
  have hx2 : (Lib.splitB ⟨#[32]⟩ 0 (Lib.countB s ⟨#[32]⟩) s)[j]? = some x := hx
  simp [hx2]
def laterB : List UInt8 := [108, 97, 116, 101, 114]
/-- Does a first word say 'later'? How many words that takes; the kind. -/
def laterN (x : ByteArray) : Nat := if x.toList == laterB then 1 else 0
def laterK (x : ByteArray) : Int := if x.toList == laterB then 3 else 5
def zeroCells (kind : Int) : Array Value := #[.int .i64 kind, .int .i64 0, .int .i64 0, .int .i64 0, .int .i64 0, .int .i64 0, .slice none 0 0, .slice none 0 0]
/-- What lies where, ahead of the search. -/
structure St1 (w wx : World) (B : Nat) (ws : List ByteArray) (o : Nat) (kind : Int) : Prop where
  below : Below B w wx
  size : B + 4 ≤ wx.heap.size
  res : wx.heap[B]? = some (.cells (zeroCells 0) 34 (0, 0))
  words : WordsAt wx (B + 1) ws
  sl : ∃ p, wx.heap[B + 1 + 1]? = some (.cells #[.slice (some p) (ws.length - o) (ws.length - o)] 52 (0, 0)) ∧ (0 < ws.length - o → p = ⟨B + 1, o, none⟩)
  act : wx.heap[B + 1 + 1 + 1]? = some (.cells (zeroCells kind) 34 (0, 0))
theorem St1.drew {w wx : World} {B o : Nat} {ws : List ByteArray} {kind : Int} (h : St1 w wx B ws o kind) : St1 w wx.drew B ws o kind := ⟨h.below.drew, h.size, h.res, ⟨h.words.lt, h.words.cell⟩, h.sl, h.act⟩
theorem st1_of {w w1 : World} {ws : List ByteArray} (A1 : w1.heap[w.heap.size]? = some (.cells (zeroCells 0) 34 (0, 0))) (B1 : Below w.heap.size w w1) (HW : WordsAt w1 (w.heap.size + 1) ws) (hsz : w1.heap.size = w.heap.size + 1 + 1) (o : Nat) (kind : Int) (p : Addr) (m : Nat) (hm : m = ws.length - o) (hp : 0 < m → p = ⟨w.heap.size + 1, o, none⟩) :
    St1 w ((w1.alloc (.cells #[.slice (some p) m m] 52)).alloc (.cells (zeroCells kind) 34)) w.heap.size ws o kind := by
  subst hm
  refine ⟨((B1.alloc B1.size _).alloc (by rw [sz_alloc]; exact Nat.le_succ_of_le B1.size) _), by rw [sz_alloc, sz_alloc, hsz]; omega, blk_old (blk_old A1 _) _, (HW.alloc _).alloc _, ⟨p, ?_, hp⟩, ?_⟩
  · have h := blk_old (blk_new w1 #[Value.slice (some p) (ws.length - o) (ws.length - o)] 52) (.cells (zeroCells kind) 34)
    rw [hsz] at h
    exact h
  · have h := blk_new (w1.alloc (.cells #[Value.slice (some p) (ws.length - o) (ws.length - o)] 52)) (zeroCells kind) 34
    rw [sz_alloc, hsz] at h
    exact h
theorem St1.later {w wx wy : World} {B o : Nat} {ws : List ByteArray} {kind : Int} (h : St1 w wx B ws o kind) (hb : Below wx.heap.size wx wy) (_hB : B ≤ w.heap.size) : St1 w wy B ws o kind := by
  have hs := h.size
  obtain ⟨p, h1, h2⟩ := h.sl
  exact ⟨h.below.trans (hb.mono (by omega)), Nat.le_trans hs hb.size, blk_below h.res hb (by omega), h.words.below hb h.words.lt, ⟨p, blk_below h1 hb (by omega), h2⟩, blk_below h.act hb (by omega)⟩
theorem St1.word {w wx : World} {B o : Nat} {ws : List ByteArray} {kind : Int} (h : St1 w wx B ws o kind) : WordIs wx (B + 1 + 1) ws[o]? := by
  obtain ⟨p, h1, h2⟩ := h.sl
  cases hy : ws[o]? with
  | none =>
    have hl : ws.length - o = 0 := by have := List.getElem?_eq_none_iff.1 hy; omega
    rw [hl] at h1
    exact ⟨some p, 0, blk_cell h1 0⟩
  | some y =>
    have hlt : o < ws.length := by
      rcases Nat.lt_or_ge o ws.length with h | h
      · exact h
      · rw [List.getElem?_eq_none h] at hy
        cases hy
    have hp := h2 (by omega)
    subst hp
    exact ⟨⟨B + 1, o, none⟩, ws.length - o, ws.length - o, by omega, blk_cell h1 0, h.words.cell o y hy⟩
theorem firstFrom_cases (xo : Option ByteArray) : ∀ (g k : Nat), firstFrom xo g k = -1 ∨ ∃ j : Nat, j < k + g ∧ firstFrom xo g k = (j : Int) ∧ fits xo (formAt j) = true
  | 0, _ => Or.inl rfl
  | g + 1, k => by
    unfold firstFrom
    split
    · rename_i h
      exact Or.inr ⟨k, by omega, rfl, h⟩
    · rcases firstFrom_cases xo g (k + 1) with h | ⟨j, h1, h2⟩
      · exact Or.inl h
      · exact Or.inr ⟨j, by omega, h2⟩
/-- An act, as data. -/
structure ActM where
  kind : Int
  n : Int
  rk : Int
  vol : Int
  block : Int
  size : Int
  data : List UInt8
  keep : List Int
def ActM.val (m : ActM) (dv kv : Value) : Value := actVal m.kind m.n m.rk m.vol m.block m.size dv kv
def zeroM : ActM := ⟨0, 0, 0, 0, 0, 0, [], []⟩
def intVals (l : List Int) : List Value := l.map (Value.int .i64)
/-- An act that does not write has no bytes; one that is no crash keeps none. -/
structure NilOf (m : ActM) (dv kv : Value) : Prop where
  d : m.rk ≠ 5 → dv = .slice none 0 0
  k : m.kind ≠ 7 → kv = .slice none 0 0
/-- What Act leaves: the act, in rows of its own, or none. -/
def ActPost (w : World) (res : Option ActM) (e : Ending) (w' : World) : Prop :=
  ∃ dv kv, e = .returned (.tuple #[(res.getD zeroM).val dv kv, .int .i64 (if res.isSome then 0 else 14)]) ∧
    w'.ownsRow w.heap.size 5 1 dv (res.getD zeroM).data.length (byteVals (res.getD zeroM).data) ∧
    w'.ownsRow w.heap.size 3 1 kv (res.getD zeroM).keep.length (intVals (res.getD zeroM).keep) ∧ Below w.heap.size w w' ∧ NilOf (res.getD zeroM) dv kv
theorem actPost_none (w w' : World) (h : Below w.heap.size w w') : ActPost w none (.returned (.tuple #[.agg (zeroCells 0), .int .i64 14])) w' :=
  ⟨.slice none 0 0, .slice none 0 0, rfl, ⟨rfl, Or.inl ⟨rfl, rfl⟩⟩, ⟨rfl, Or.inl ⟨rfl, rfl⟩⟩, h, ⟨fun _ => rfl, fun _ => rfl⟩⟩
theorem below_set8 {B : Nat} {a w : World} (h : Below B a w) (p : Nat) (hp : B ≤ p) (u0 u1 u2 u3 u4 u5 u6 u7 : Value) :
    Below B a ((((((((w.setCell ⟨p, 0, none⟩ u0).setCell ⟨p, 1, none⟩ u1).setCell ⟨p, 2, none⟩ u2).setCell ⟨p, 3, none⟩ u3).setCell ⟨p, 4, none⟩ u4).setCell ⟨p, 5, none⟩ u5).setCell ⟨p, 6, none⟩ u6).setCell ⟨p, 7, none⟩ u7) :=
  (((((((h.setCell hp u0).setCell hp u1).setCell hp u2).setCell hp u3).setCell hp u4).setCell hp u5).setCell hp u6).setCell hp u7
theorem cells8 {w : World} {b : Nat} {u0 u1 u2 u3 u4 u5 u6 u7 : Value} {t : TypeId} (h : w.heap[b]? = some (.cells #[u0, u1, u2, u3, u4, u5, u6, u7] t (0, 0))) :
    (w.cell? ⟨b, 0, none⟩ = some u0 ∧ w.cell? ⟨b, 1, none⟩ = some u1 ∧ w.cell? ⟨b, 2, none⟩ = some u2 ∧ w.cell? ⟨b, 3, none⟩ = some u3 ∧ w.cell? ⟨b, 4, none⟩ = some u4 ∧ w.cell? ⟨b, 5, none⟩ = some u5 ∧ w.cell? ⟨b, 6, none⟩ = some u6 ∧ w.cell? ⟨b, 7, none⟩ = some u7) ∧
    (w.frozen? ⟨b, 0, none⟩ = false ∧ w.frozen? ⟨b, 1, none⟩ = false ∧ w.frozen? ⟨b, 2, none⟩ = false ∧ w.frozen? ⟨b, 3, none⟩ = false ∧ w.frozen? ⟨b, 4, none⟩ = false ∧ w.frozen? ⟨b, 5, none⟩ = false ∧ w.frozen? ⟨b, 6, none⟩ = false ∧ w.frozen? ⟨b, 7, none⟩ = false) :=
  ⟨⟨blk_cell h 0, blk_cell h 1, blk_cell h 2, blk_cell h 3, blk_cell h 4, blk_cell h 5, blk_cell h 6, blk_cell h 7⟩, blk_free h 0, blk_free h 1, blk_free h 2, blk_free h 3, blk_free h 4, blk_free h 5, blk_free h 6, blk_free h 7⟩
/-- The part of Act behind the words: what the model says. -/
structure Acc where
  n : Int
  vol : Int
  block : Int
  size : Int
  data : List UInt8
  keep : List Int
def partStep (p : UInt8) (x : ByteArray) (a : Acc) : Acc × Bool :=
  if p = 98 then ({ a with vol := atoiN x.data.toList }, numB x)
  else if p = 99 then ({ a with block := atoiN x.data.toList }, numB x)
  else if p = 100 then ({ a with size := atoiN x.data.toList }, numB x)
  else if p = 110 then ({ a with n := atoiN x.data.toList }, numB x)
  else if p = 120 then ({ a with data := (unhexL x.data.toList).getD [] }, (unhexL x.data.toList).isSome)
  else ({ a with keep := a.keep ++ [atoiN x.data.toList] }, numB x)
def partAt (parts : ByteArray) (i : Nat) : UInt8 := parts.data.toList.getD (min i (parts.size - 1)) 0
def actLoop (parts : ByteArray) : Nat → List ByteArray → Acc → Option Acc
  | _, [], a => some a
  | i, x :: r, a => if (partStep (partAt parts i) x a).2 then actLoop parts (i + 1) r (partStep (partAt parts i) x a).1 else none
def mkAct (kind rk : Int) (a : Acc) : ActM := ⟨kind, a.n, rk, a.vol, a.block, a.size, a.data, a.keep⟩
def okParts (f : FormD) (n : Nat) : Bool := f.parts.toList == [107] || n == f.parts.size
/-- The act of words behind the form's word. -/
def actTail (f : FormD) (kind : Int) (ws : List ByteArray) : Option ActM :=
  if okParts f ws.length then (actLoop f.parts 0 ws ⟨0, 0, 0, 0, [], []⟩).map (mkAct kind f.ask) else none
def actOf (ws : List ByteArray) (o : Nat) (kind : Int) : Option ActM :=
  if firstFrom ws[o]? 14 0 < 0 then none
  else if (formAt (firstFrom ws[o]? 14 0).toNat).act ≠ 0 then
    if kind = 3 then none else actTail (formAt (firstFrom ws[o]? 14 0).toNat) (formAt (firstFrom ws[o]? 14 0).toNat).act (ws.drop (o + 1))
  else actTail (formAt (firstFrom ws[o]? 14 0).toNat) kind (ws.drop (o + 1))
/-- The act that a line is. -/
def actM? (s : ByteArray) : Option ActM := match wordsB s with
  | [] => none
  | x :: r => actOf (x :: r) (laterN x) (laterK x)
/-- What lies where, behind the form. -/
structure St2 (w wx : World) (B b7 : Nat) (ws : List ByteArray) (o : Nat) (kind : Int) (f : FormD) : Prop where
  st : St1 w wx B ws o kind
  lo : B + 4 ≤ b7
  form : wx.heap[b7]? = some (.cells #[.string f.word, .string f.parts, .int .i64 f.act, .int .i64 f.ask] 49 (0, 0))
theorem st2_of {w w4 : World} {B o : Nat} {ws : List ByteArray} {kind : Int} (h : St1 w w4 B ws o kind) (f : FormD) (p : Addr) (m : Nat) (hm : m = ws.length - (o + 1)) (hp : 0 < m → p = ⟨B + 1, o + 1, none⟩) :
    St2 w ((w4.setCell ⟨B + 1 + 1, 0, none⟩ (.slice (some p) m m)).alloc (.cells #[.string f.word, .string f.parts, .int .i64 f.act, .int .i64 f.ask] 49)) B w4.heap.size ws (o + 1) kind f := by
  subst hm
  have hs := h.size
  obtain ⟨q, h1, h2⟩ := h.sl
  have e := blk_old (blk_set h1 0 (.slice (some p) (ws.length - (o + 1)) (ws.length - (o + 1)))) (.cells #[.string f.word, .string f.parts, .int .i64 f.act, .int .i64 f.ask] 49)
  have e2 := blk_new (w4.setCell ⟨B + 1 + 1, 0, none⟩ (.slice (some p) (ws.length - (o + 1)) (ws.length - (o + 1)))) #[.string f.word, .string f.parts, .int .i64 f.act, .int .i64 f.ask] 49
  rw [sz_set] at e2
  exact ⟨⟨(h.below.setCell (by show B ≤ B + 1 + 1; omega) _).alloc (by rw [sz_set]; omega) _, by rw [sz_alloc, sz_set]; omega, blk_old (blk_set_other h.res (by show B ≠ B + 1 + 1; omega) _) _, (h.words.set _ (by show B + 1 ≠ B + 1 + 1; omega) _).alloc _, ⟨p, e, hp⟩, blk_old (blk_set_other h.act (by show B + 1 + 1 + 1 ≠ B + 1 + 1; omega) _) _⟩, hs, e2⟩
theorem st2_kind {w w4 : World} {B b7 o : Nat} {ws : List ByteArray} {kind : Int} {f : FormD} (h : St2 w w4 B b7 ws o kind f) (k : Int) :
    St2 w (w4.setCell ⟨B + 1 + 1 + 1, 0, none⟩ (.int .i64 k)) B b7 ws o k f := by
  have hlo := h.lo
  obtain ⟨q, h1, h2⟩ := h.st.sl
  exact ⟨⟨h.st.below.setCell (by show B ≤ B + 1 + 1 + 1; omega) _, by rw [sz_set]; exact h.st.size, blk_set_other h.st.res (by show B ≠ B + 1 + 1 + 1; omega) _, h.st.words.set _ (by show B + 1 ≠ B + 1 + 1 + 1; omega) _, ⟨q, blk_set_other h1 (by show B + 1 + 1 ≠ B + 1 + 1 + 1; omega) _, h2⟩, blk_set h.st.act 0 _⟩, hlo, blk_set_other h.form (by show b7 ≠ B + 1 + 1 + 1; omega) _⟩
def actCells (kind rk : Int) (a : Acc) (dv kv : Value) : Array Value := #[.int .i64 kind, .int .i64 a.n, .int .i64 rk, .int .i64 a.vol, .int .i64 a.block, .int .i64 a.size, dv, kv]
/-- What lies where, in the loop: 'base': the heap's size ahead of it. -/
structure St3 (w wx : World) (B b7 base : Nat) (ws : List ByteArray) (o : Nat) (kind : Int) (f : FormD) (a : Acc) (dv kv : Value) : Prop where
  below : Below B w wx
  hB : B = w.heap.size
  lo : B + 4 ≤ b7
  mid : b7 < base
  size : base ≤ wx.heap.size
  res : wx.heap[B]? = some (.cells (zeroCells 0) 34 (0, 0))
  words : WordsAt wx (B + 1) ws
  sl : ∃ p, wx.heap[B + 1 + 1]? = some (.cells #[.slice (some p) (ws.length - o) (ws.length - o)] 52 (0, 0)) ∧ (0 < ws.length - o → p = ⟨B + 1, o, none⟩)
  act : wx.heap[B + 1 + 1 + 1]? = some (.cells (actCells kind f.ask a dv kv) 34 (0, 0))
  form : wx.heap[b7]? = some (.cells #[.string f.word, .string f.parts, .int .i64 f.act, .int .i64 f.ask] 49 (0, 0))
  rowD : wx.ownsRow base 5 1 dv a.data.length (byteVals a.data)
  rowK : wx.ownsRow base 3 1 kv a.keep.length (intVals a.keep)
  sep : dv.ownBlock = none ∨ dv.ownBlock ≠ kv.ownBlock
  nd : (120 : UInt8) ∉ f.parts.data.toList → dv = .slice none 0 0
  nk : (107 : UInt8) ∉ f.parts.data.toList → kv = .slice none 0 0
theorem row_below {wx wy : World} {base e size n : Nat} {v : Value} {xs : List Value} (h : wx.ownsRow base e size v n xs) (hb : Below wx.heap.size wx wy) : wy.ownsRow base e size v n xs := by
  refine ⟨h.1, ?_⟩
  rcases h.2 with hn | ⟨g, cap, cur, hv, hg, hh, r⟩
  · exact Or.inl hn
  · exact Or.inr ⟨g, cap, cur, hv, hg, blk_below hh hb (lt_of_block hh), r⟩
theorem St3.later {w wx wy : World} {B b7 base o : Nat} {ws : List ByteArray} {kind : Int} {f : FormD} {a : Acc} {dv kv : Value} (h : St3 w wx B b7 base ws o kind f a dv kv) (hb : Below wx.heap.size wx wy) : St3 w wy B b7 base ws o kind f a dv kv := by
  have h1 := h.lo
  have h2 := h.mid
  have h3 := h.size
  obtain ⟨p, q1, q2⟩ := h.sl
  exact ⟨h.below.trans (hb.mono (by omega)), h.hB, h1, h2, Nat.le_trans h3 hb.size, blk_below h.res hb (by omega), h.words.below hb h.words.lt, ⟨p, blk_below q1 hb (by omega), q2⟩, blk_below h.act hb (by omega), blk_below h.form hb (by omega), row_below h.rowD hb, row_below h.rowK hb, h.sep, h.nd, h.nk⟩
/-- A cell of the act is written; no row changes. -/
theorem St3.set {w wx : World} {B b7 base o : Nat} {ws : List ByteArray} {kind : Int} {f : FormD} {a : Acc} {dv kv : Value} (h : St3 w wx B b7 base ws o kind f a dv kv) (j : Nat) (u : Value) (a' : Acc) (dv' kv' : Value)
    (hc : (actCells kind f.ask a dv kv).setIfInBounds j u = actCells kind f.ask a' dv' kv') (hD : wx.ownsRow base 5 1 dv' a'.data.length (byteVals a'.data)) (hK : wx.ownsRow base 3 1 kv' a'.keep.length (intVals a'.keep)) (hs : dv'.ownBlock = none ∨ dv'.ownBlock ≠ kv'.ownBlock) (hnd : (120 : UInt8) ∉ f.parts.data.toList → dv' = .slice none 0 0) (hnk : (107 : UInt8) ∉ f.parts.data.toList → kv' = .slice none 0 0) :
    St3 w (wx.setCell ⟨B + 1 + 1 + 1, j, none⟩ u) B b7 base ws o kind f a' dv' kv' := by
  have h1 := h.lo
  have h2 := h.mid
  have h3 := h.size
  obtain ⟨p, q1, q2⟩ := h.sl
  have e := blk_set h.act j u
  rw [hc] at e
  refine ⟨h.below.setCell (by show B ≤ B + 1 + 1 + 1; omega) _, h.hB, h1, h2, by rw [sz_set]; exact h3, blk_set_other h.res (by show B ≠ B + 1 + 1 + 1; omega) _, h.words.set _ (by show B + 1 ≠ B + 1 + 1 + 1; omega) _, ⟨p, blk_set_other q1 (by show B + 1 + 1 ≠ B + 1 + 1 + 1; omega) _, q2⟩, e, blk_set_other h.form (by show b7 ≠ B + 1 + 1 + 1; omega) _, ownsRow_setCell_other hD ?_ _, ownsRow_setCell_other hK ?_ _, hs, hnd, hnk⟩
  · intro e
    have := (hD.lt _ e).1
    have h5 : (⟨B + 1 + 1 + 1, j, none⟩ : Addr).block = B + 1 + 1 + 1 := rfl
    omega
  · intro e
    have := (hK.lt _ e).1
    have h5 : (⟨B + 1 + 1 + 1, j, none⟩ : Addr).block = B + 1 + 1 + 1 := rfl
    omega
theorem st3_of {w wx : World} {b7 o : Nat} {ws : List ByteArray} {kind : Int} {f : FormD} (h : St2 w wx w.heap.size b7 ws o kind f) :
    St3 w (wx.setCell ⟨w.heap.size + 1 + 1 + 1, 2, none⟩ (.int .i64 f.ask)) w.heap.size b7 wx.heap.size ws o kind f ⟨0, 0, 0, 0, [], []⟩ (.slice none 0 0) (.slice none 0 0) := by
  have h1 := h.lo
  obtain ⟨p, q1, q2⟩ := h.st.sl
  exact ⟨h.st.below.setCell (by show w.heap.size ≤ w.heap.size + 1 + 1 + 1; omega) _, rfl, h1, lt_of_block h.form, by rw [sz_set]; exact Nat.le_refl _, blk_set_other h.st.res (by show w.heap.size ≠ w.heap.size + 1 + 1 + 1; omega) _, h.st.words.set _ (by show w.heap.size + 1 ≠ w.heap.size + 1 + 1 + 1; omega) _, ⟨p, blk_set_other q1 (by show w.heap.size + 1 + 1 ≠ w.heap.size + 1 + 1 + 1; omega) _, q2⟩, blk_set h.st.act 2 _, blk_set_other h.form (by show b7 ≠ w.heap.size + 1 + 1 + 1; omega) _, ⟨rfl, Or.inl ⟨rfl, rfl⟩⟩, ⟨rfl, Or.inl ⟨rfl, rfl⟩⟩, Or.inl rfl, fun _ => rfl, fun _ => rfl⟩
theorem splitB_size (sep : ByteArray) (save : Nat) : ∀ (k : Nat) (s x : ByteArray), x ∈ Lib.splitB sep save k s → x.size ≤ s.size
  | 0, s, x, h => by
    rw [Lib.splitB_zero] at h
    rw [List.mem_singleton.1 h]
    exact Nat.le_refl _
  | k + 1, s, x, h => by
    unfold Lib.splitB at h
    split at h
    · rw [List.mem_singleton.1 h]
      exact Nat.le_refl _
    · rcases List.mem_cons.1 h with h | h
      · rw [h, ByteArray.size_extract]
        omega
      · have := splitB_size sep save k _ x h
        rw [ByteArray.size_extract] at this
        omega
theorem wordsB_size (s x : ByteArray) (h : x ∈ wordsB s) : x.size ≤ s.size := splitB_size _ _ _ _ _ h
theorem row_set {w : World} {base e size n : Nat} {v : Value} {xs : List Value} (h : w.ownsRow base e size v n xs) {a : Addr} (hp : a.block < base) (u : Value) : (w.setCell a u).ownsRow base e size v n xs :=
  ownsRow_setCell_other h (fun e => by have := (h.lt _ e).1; omega) _
theorem row_set8 {w : World} {base e size n : Nat} {v : Value} {xs : List Value} (h : w.ownsRow base e size v n xs) (p : Nat) (hp : p < base) (u0 u1 u2 u3 u4 u5 u6 u7 : Value) :
    ((((((((w.setCell ⟨p, 0, none⟩ u0).setCell ⟨p, 1, none⟩ u1).setCell ⟨p, 2, none⟩ u2).setCell ⟨p, 3, none⟩ u3).setCell ⟨p, 4, none⟩ u4).setCell ⟨p, 5, none⟩ u5).setCell ⟨p, 6, none⟩ u6).setCell ⟨p, 7, none⟩ u7).ownsRow base e size v n xs :=
  row_set (row_set (row_set (row_set (row_set (row_set (row_set (row_set h hp u0) hp u1) hp u2) hp u3) hp u4) hp u5) hp u6) hp u7
theorem row_mono {w : World} {base base' e size n : Nat} {v : Value} {xs : List Value} (h : w.ownsRow base e size v n xs) (hb : base' ≤ base) : w.ownsRow base' e size v n xs := by
  refine ⟨h.1, ?_⟩
  rcases h.2 with hn | ⟨g, cap, cur, hv, hg, r⟩
  · exact Or.inl hn
  · exact Or.inr ⟨g, cap, cur, hv, Nat.le_trans hb hg, r⟩
theorem wordsB_len (s : ByteArray) : (wordsB s).length ≤ s.size + 1 := by
  rw [wordsB_length]
  have := Lib.countB_le ⟨#[32]⟩ (by decide) s.size s (Nat.le_refl _)
  omega
/-- The parts of the forms. -/
theorem forms_parts (i : Nat) (hi : i < 14) : ∀ c ∈ (formAt i).parts.data.toList, c = 98 ∨ c = 99 ∨ c = 100 ∨ c = 110 ∨ c = 120 ∨ c = 107 := by
  have : i = 0 ∨ i = 1 ∨ i = 2 ∨ i = 3 ∨ i = 4 ∨ i = 5 ∨ i = 6 ∨ i = 7 ∨ i = 8 ∨ i = 9 ∨ i = 10 ∨ i = 11 ∨ i = 12 ∨ i = 13 := by omega
  rcases this with rfl | rfl | rfl | rfl | rfl | rfl | rfl | rfl | rfl | rfl | rfl | rfl | rfl | rfl <;> decide
/-- Bytes: the form that writes; kept numbers: the form that crashes. -/
theorem forms_nil (i : Nat) (hi : i < 14) : ((120 : UInt8) ∈ (formAt i).parts.data.toList → (formAt i).ask = 5) ∧ ((107 : UInt8) ∈ (formAt i).parts.data.toList → (formAt i).act = 7) := by
  have : i = 0 ∨ i = 1 ∨ i = 2 ∨ i = 3 ∨ i = 4 ∨ i = 5 ∨ i = 6 ∨ i = 7 ∨ i = 8 ∨ i = 9 ∨ i = 10 ∨ i = 11 ∨ i = 12 ∨ i = 13 := by omega
  rcases this with rfl | rfl | rfl | rfl | rfl | rfl | rfl | rfl | rfl | rfl | rfl | rfl | rfl | rfl <;> decide
theorem okParts_pos {f : FormD} {m i : Nat} (h : okParts f m = true) (hi : i < m) : 1 ≤ f.parts.size := by
  unfold okParts at h
  rcases Bool.or_eq_true _ _ ▸ h with h | h
  · have e := beq_iff_eq.1 h
    rw [ByteArray.toList_eq] at e
    rw [Lib.size_eq, e]
    decide
  · have e := beq_iff_eq.1 h
    omega
theorem part_get (P : ByteArray) (i q : Nat) (hq : q < P.size) (hm : min i (P.size - 1) = q) : P[q]'hq = partAt P i := by
  unfold partAt
  rw [hm]
  have h2 : q < P.data.toList.length := by rw [Array.length_toList]; exact hq
  rw [List.getD_eq_getElem?_getD, List.getElem?_eq_getElem h2]
  rfl
theorem part_mem (P : ByteArray) (i : Nat) (h : 1 ≤ P.size) : partAt P i ∈ P.data.toList := by
  unfold partAt
  have h2 : min i (P.size - 1) < P.data.toList.length := by rw [Array.length_toList]; show _ < P.size; omega
  rw [List.getD_eq_getElem?_getD, List.getElem?_eq_getElem h2]
  exact List.getElem_mem h2
theorem act_step {res : Option ActM} {P : ByteArray} {ws : List ByteArray} {o i : Nat} {y : ByteArray} {a a' : Acc} {ok : Bool} {g : Acc → ActM} (hy : ws[o + i]? = some y) (h : res = if true then (actLoop P i (ws.drop (o + i)) a).map g else none) (hp : partStep (partAt P i) y a = (a', ok)) :
    res = if ok then (actLoop P (i + 1) (ws.drop (o + (i + 1))) a').map g else none := by
  rw [h, if_pos rfl]
  have hd : ws.drop (o + i) = y :: ws.drop (o + (i + 1)) := by
    obtain ⟨hlt, he⟩ := List.getElem?_eq_some_iff.1 hy
    rw [List.drop_eq_getElem_cons hlt, he]
    rfl
  rw [hd]
  simp only [actLoop, hp]
  cases ok <;> rfl
theorem info3 : (Tryz.prog.info? 3).map (fun i => (i.zero, i.size, i.bytes)) = some (some (.int .i64 0), 1, 8) := by kernel_rfl
/-- No more numbers are kept than words were read. -/
structure KeepLe (a : Acc) (i : Nat) : Prop where
  le : a.keep.length ≤ i
theorem grown_block {w5 w6 : World} {ob : Obj} {base e size n : Nat} {kv : Value} {xs : List Value} (hk : w5.ownsRow base e size kv n xs) (hg : (w5.alloc ob).grownBy w6 kv.ownBlock) (b : Nat) (hb : b < base) (hs : b < w5.heap.size) : w6.heap[b]? = w5.heap[b]? := by
  rw [hg.block b (by rw [sz_alloc]; omega) (fun e => by have := (hk.lt b (by first | exact e | exact e.symm)).1; omega)]
  exact Below.heap_alloc w5 ob b hs
theorem intVals_snoc (l : List Int) (n : Int) : intVals (l ++ [n]) = intVals l ++ [.int .i64 n] := by
  unfold intVals
  rw [List.map_append]
  rfl
theorem St3.grown_act {w w5 w6 : World} {B b7 base o : Nat} {ws : List ByteArray} {kind : Int} {f : FormD} {a : Acc} {dv kv : Value} (h : St3 w w5 B b7 base ws o kind f a dv kv) {ob : Obj} (hg : (w5.alloc ob).grownBy w6 kv.ownBlock) : w6.heap[B + 1 + 1 + 1]? = some (.cells (actCells kind f.ask a dv kv) 34 (0, 0)) := by
  have h1 := h.lo
  have h2 := h.mid
  have h3 := h.size
  exact (grown_block h.rowK hg _ (by omega) (by omega)).trans h.act
theorem St3.keep {w w5 w6 : World} {B b7 base o : Nat} {ws : List ByteArray} {kind : Int} {f : FormD} {a : Acc} {dv kv : Value} (h : St3 w w5 B b7 base ws o kind f a dv kv) {ob : Obj} (hg : (w5.alloc ob).grownBy w6 kv.ownBlock) (v' : Value) (nv : Int)
    (hown : w6.ownsRow base 3 1 v' (a.keep.length + 1) (intVals a.keep ++ [.int .i64 nv])) (hat : v'.ownBlock = kv.ownBlock ∨ v'.ownBlock = some (w5.heap.size + 1)) (h107 : (107 : UInt8) ∈ f.parts.data.toList) :
    St3 w (w6.setCell ⟨B + 1 + 1 + 1, 7, none⟩ v') B b7 base ws o kind f { a with keep := a.keep ++ [nv] } dv v' := by
  have h1 := h.lo
  have h2 := h.mid
  have h3 := h.size
  have hBw := h.hB
  have gb := fun b hb hs => grown_block h.rowK hg b hb hs
  have hd : w6.ownsRow base 5 1 dv a.data.length (byteVals a.data) := (h.rowD.alloc ob).kept hg h.sep
  have hs6 : w5.heap.size + 1 ≤ w6.heap.size := by rw [← sz_alloc w5 ob]; exact hg.size
  have hsep : dv.ownBlock = none ∨ dv.ownBlock ≠ v'.ownBlock := by
    rcases h.sep with e | e
    · exact Or.inl e
    · rcases hat with e2 | e2
      · exact Or.inr (by rw [e2]; exact e)
      · refine Or.inr (fun e3 => ?_)
        rw [e2] at e3
        have := (h.rowD.lt _ e3).2
        omega
  have hb6 : Below B w w6 := (h.below.alloc (by omega) ob).grown hg (by rw [sz_alloc]; omega) (fun q hq => by have := (h.rowK.lt q hq).1; omega)
  have hw6 : WordsAt w6 (B + 1) ws := ⟨by have := h.words.lt; omega, fun j x hx => (World.cell?_of_block (w := w5) (gb (B + 1) (by omega) (by omega))).trans (h.words.cell j x hx)⟩
  obtain ⟨p, q1, q2⟩ := h.sl
  have e := blk_set ((gb _ (by omega) (by omega)).trans h.act) 7 v'
  refine ⟨hb6.setCell (by show B ≤ B + 1 + 1 + 1; omega) _, hBw, h1, h2, by rw [sz_set]; omega, blk_set_other ((gb _ (by omega) (by omega)).trans h.res) (by show B ≠ B + 1 + 1 + 1; omega) _, hw6.set _ (by show B + 1 ≠ B + 1 + 1 + 1; omega) _, ⟨p, blk_set_other ((gb _ (by omega) (by omega)).trans q1) (by show B + 1 + 1 ≠ B + 1 + 1 + 1; omega) _, q2⟩, e, blk_set_other ((gb _ (by omega) (by omega)).trans h.form) (by show b7 ≠ B + 1 + 1 + 1; omega) _, row_set hd (by show B + 1 + 1 + 1 < base; omega) _, row_set ?_ (by show B + 1 + 1 + 1 < base; omega) _, hsep, h.nd, fun h => absurd h107 h⟩
  show w6.ownsRow base 3 1 v' (a.keep ++ [nv]).length (intVals (a.keep ++ [nv]))
  rw [intVals_snoc, List.length_append]
  exact hown
theorem own_slice {w : World} {base e size n : Nat} {v : Value} {xs : List Value} (h : w.ownsRow base e size v n xs) : ∃ p cap, v = .slice p n cap := by
  rcases h.2 with ⟨h1, h2⟩ | ⟨g, cap, cur, hv, _⟩
  · exact ⟨none, 0, by rw [h1, h2]⟩
  · exact ⟨_, _, hv⟩
theorem forms_size (i : Nat) (hi : i < 14) : (formAt i).parts.size ≤ 3 := by
  have : i = 0 ∨ i = 1 ∨ i = 2 ∨ i = 3 ∨ i = 4 ∨ i = 5 ∨ i = 6 ∨ i = 7 ∨ i = 8 ∨ i = 9 ∨ i = 10 ∨ i = 11 ∨ i = 12 ∨ i = 13 := by omega
  rcases this with rfl | rfl | rfl | rfl | rfl | rfl | rfl | rfl | rfl | rfl | rfl | rfl | rfl | rfl <;> decide
set_option maxHeartbeats 8000000 in
set_option maxRecDepth 100000 in
theorem act_c (s : ByteArray) (hs : s.size < 4294967281) (w : World) (hE : Env w) :
    Calls Tryz.prog 48 #[.string s] w fun e w' => ActPost w (actM? s) e w' := by
  obtain ⟨res, hres⟩ : ∃ res, res = actM? s := ⟨_, rfl⟩
  rw [← hres]
  have hsp := fun W (h : Below w.heap.size w W) => split_c s hs W (hE.below h)
  have HSP := Lib.hid hsp
  have HE := Lib.hid hE
  clear hsp hE
  have hne : ∃ x r, wordsB s = x :: r := by
    cases h : wordsB s with
    | nil => have := wordsB_length s; rw [h] at this; simp at this
    | cons x r => exact ⟨x, r, rfl⟩
  obtain ⟨x, r, hxr⟩ := hne
  have HRES : Hid (res = actOf (wordsB s) (laterN x) (laterK x)) := Lib.hid (by rw [hres, hxr]; unfold actM?; rw [hxr])
  clear hres
  have HX : Hid ((wordsB s)[0]? = some x) := Lib.hid (by rw [hxr]; rfl)
  have hN : 1 ≤ (wordsB s).length := by rw [hxr]; exact Nat.le_add_left 1 _
  clear hxr
  have HWS : Hid (∀ (y : ByteArray), y ∈ wordsB s → y.size ≤ 281474976710656) := Lib.hid (fun y hy => Nat.le_trans (wordsB_size s y hy) (by omega))
  have hwl : (wordsB s).length ≤ 4294967296 := by have := wordsB_len s; omega
  generalize wordsB s = ws at HSP HX hN HRES HWS hwl
  have hNi : (0 : Int) < (ws.length : Int) := by omega
  have hN2 : (1 : Int) ≤ (ws.length : Int) := by omega
  have A0 : Hid ((w.alloc (.cells (zeroCells 0) 34)).heap[w.heap.size]? = some (.cells (zeroCells 0) 34 (0, 0))) := Lib.hid (blk_new _ _ _)
  have S0 : Hid ((w.alloc (.cells (zeroCells 0) 34)).heap.size = w.heap.size + 1) := Lib.hid (sz_alloc _ _)
  have B0 : Hid (Below w.heap.size w (w.alloc (.cells (zeroCells 0) 34))) := Lib.hid ((Below.refl _ _).alloc (Nat.le_refl _) _)
  unfold zeroCells at A0 S0 B0
  go_enter Tryz.func48, Tryz.ntmps48
  go_upto_if 18 with (go_at_call 86; (with_reducible refine (HSP.out _ B0.out).mono ?_); rintro e w1 ⟨rfl, hW, hsz, hb⟩; rw [S0.out] at hW hsz hb; have HW := Lib.hid hW; have HB := Lib.hid hb; clear hW hb; have hx1 := HW.out.cell 0 x HX.out; have hl1 : w.heap.size + 1 < w1.heap.size := HW.out.lt)
  have A1 : Hid (w1.heap[w.heap.size]? = _) := Lib.hid (blk_below A0.out HB.out (Nat.lt_succ_self _))
  have B1 : Hid (Below w.heap.size w w1) := Lib.hid (B0.out.trans (HB.out.mono (Nat.le_succ _)))
  clear A0 S0 B0 HB
  go_cut [] (fun wx => Hid (St1 w wx w.heap.size ws (laterN x) (laterK x)))
  case first =>
    cases hlat : (x.toList == [108, 97, 116, 101, 114])
    · have hLN : laterN x = 0 := if_neg (by rw [show (x.toList == laterB) = false from hlat]; exact Bool.false_ne_true)
      have hLK : laterK x = 5 := if_neg (by rw [show (x.toList == laterB) = false from hlat]; exact Bool.false_ne_true)
      have HLN := Lib.hid hLN
      have HLK := Lib.hid hLK
      clear hLN hLK
      go_wp2_with fail
      go_meet
      case rel =>
        rw [HLN.out, HLK.out]
        exact Lib.hid (st1_of A1.out B1.out HW.out hsz 0 5 _ _ rfl (fun _ => rfl))
    · have hLN : laterN x = 1 := if_pos hlat
      have hLK : laterK x = 3 := if_pos hlat
      have HLN := Lib.hid hLN
      have HLK := Lib.hid hLK
      clear hLN hLK
      go_wp2_with fail
      go_region
      all_goals (go_wp2_with fail)
      all_goals go_meet
      all_goals (rw [HLN.out, HLK.out]; refine Lib.hid (St1.drew (st1_of A1.out B1.out HW.out hsz 1 3 _ _ ?_ ?_)) <;> (first | omega | (intro _; first | rfl | omega)))
  case rest =>
    have ho : laterN x ≤ 1 := by
      unfold laterN
      split <;> omega
    clear hx1 hl1 HW hsz A1 B1 HX HSP
    generalize laterN x = o at hcut HRES ho
    generalize laterK x = kind at hcut HRES
    have hwc := hcut.out.size
    go_upto_region 6 with (first | (go_at_call 30; (with_reducible refine (forms_c _).mono ?_); rintro e w2 ⟨rfl, hF, hb2⟩; have S2 := Lib.hid (hcut.out.later hb2 (Nat.le_refl _)); have HF := Lib.hid hF; have W2 := Lib.hid S2.out.word; clear hF hb2) | (go_at_call 87; (with_reducible refine (index_c _ _ _ _ HF.out W2.out).mono ?_); rintro e w3 ⟨rfl, hb3⟩; have S3 := Lib.hid (S2.out.later hb3 (Nat.le_refl _)); clear hb3))
    clear HF W2 S2 hcut hwc
    have HS3 := S3.out.size
    rcases firstFrom_cases ws[o]? 14 0 with hm | ⟨j, hj, hjj, hfit⟩
    · have hn : Hid (res = none) := Lib.hid (HRES.out.trans (if_pos (by rw [hm]; decide)))
      rw [hm]
      clear hm
      obtain ⟨⟨c0, c1, c2, c3, c4, c5, c6, c7⟩, d0, d1, d2, d3, d4, d5, d6, d7⟩ := cells8 S3.out.res
      go_wp2
      (try simp only [Exit.inBlock, Exit.then])
      refine bodyPost_ret (v := .tuple #[.agg #[.int .i64 0, .int .i64 0, .int .i64 0, .int .i64 0, .int .i64 0, .int .i64 0, .slice none 0 0, .slice none 0 0], .int .i64 14]) (by rw [results_cell_tmp rfl]; go_simp) rfl ?_
      rw [hn.out]
      exact actPost_none _ _ (below_set8 S3.out.below _ (Nat.le_refl _) _ _ _ _ _ _ _ _)
    · rw [hjj]
      have hj14 : j < 14 := by omega
      have hjl : (j : Int) < 14 := by omega
      have hj0 : ¬ ((j : Int) < 0) := by omega
      have hmm : o < ws.length := by
        by_cases hl : o < ws.length
        · exact hl
        · rw [List.getElem?_eq_none (by omega)] at hfit
          exact absurd hfit Bool.false_ne_true
      have HRES2 : Hid (res = if (formAt j).act ≠ 0 then if kind = 3 then none else actTail (formAt j) (formAt j).act (ws.drop (o + 1)) else actTail (formAt j) kind (ws.drop (o + 1))) := Lib.hid (HRES.out.trans (by unfold actOf; rw [if_neg (by rw [hjj]; exact hj0), hjj, Int.toNat_natCast]))
      clear HRES hjj hfit
      obtain ⟨m, hm⟩ : ∃ m, m = ws.length - o := ⟨_, rfl⟩
      have HM := Lib.hid hm
      have hm1 : (1 : Int) ≤ (m : Int) := by omega
      have hm0 : (0 : Int) ≤ (m : Int) := by omega
      have H3 : Hid (∀ wy, St1 w wy w.heap.size ws o kind → wy.cell? ⟨w.heap.size + 1 + 1, 0, none⟩ = some (.slice (some ⟨w.heap.size + 1, o, none⟩) m m) ∧ wy.frozen? ⟨w.heap.size + 1 + 1, 0, none⟩ = false) := Lib.hid (by
        intro wy h
        obtain ⟨p, h1, h2⟩ := h.sl
        rw [← hm] at h1 h2
        have := h2 (by omega)
        subst this
        exact ⟨blk_cell h1 0, blk_free h1 0⟩)
      clear hm
      go_upto_region 9 with (go_at_call 30; (with_reducible refine (forms_c _).mono ?_); rintro e w4 ⟨rfl, hF, hb4⟩; have S4 := Lib.hid (S3.out.later hb4 (Nat.le_refl _)); have fw := hF.word j hj14; have fp := hF.parts j hj14; have fa := hF.act j hj14; have fk := hF.ask j hj14; have hlt4 := hF.lt; have HS4 := S4.out.size; obtain ⟨g0, g1⟩ := H3.out _ S4.out; have L4 : w.heap.size + 1 + 1 < w4.heap.size := (by omega); clear hF hb4)
      clear S3 HS3 H3 hjl hj0
      have HPT : Hid (∀ c ∈ (formAt j).parts.data.toList, c = 98 ∨ c = 99 ∨ c = 100 ∨ c = 110 ∨ c = 120 ∨ c = 107) := Lib.hid (forms_parts j hj14)
      have HPS : Hid ((formAt j).parts.size ≤ 3) := Lib.hid (forms_size j hj14)
      have HPN : Hid (((120 : UInt8) ∈ (formAt j).parts.data.toList → (formAt j).ask = 5) ∧ ((107 : UInt8) ∈ (formAt j).parts.data.toList → (formAt j).act = 7)) := Lib.hid (forms_nil j hj14)
      generalize formAt j = f at HRES2 fw fp fa fk HPT HPS HPN ⊢
      go_cut [] (fun wx => Hid (St2 w wx w.heap.size w4.heap.size ws (o + 1) kind f))
      case first =>
        go_wp2_with fail
        all_goals go_meet
        all_goals first
          | exact Lib.hid (st2_of S4.out f _ _ (by have := HM.out; omega) (fun _ => rfl))
          | exact Lib.hid (st2_of S4.out f _ _ (by have := HM.out; omega) (fun h => absurd h (by decide)))
      case rest =>
        clear fw fp fa fk g0 g1 L4 S4 hlt4
        generalize w4.heap.size = b7 at hcut HS4 ⊢
        have F1 : wc.cell? ⟨b7, 2, none⟩ = some (.int .i64 f.act) := blk_cell hcut.out.form 2
        go_upto_if 36 with fail
        have S5 := hcut
        clear hcut
        go_cut [] (fun wx => ∃ kind', Hid (res = actTail f kind' (ws.drop (o + 1))) ∧ Hid (f.act ≠ 0 → kind' = f.act) ∧ Hid (St2 w wx w.heap.size b7 ws (o + 1) kind' f))
        case first =>
          obtain ⟨⟨c0, c1, c2, c3, c4, c5, c6, c7⟩, d0, d1, d2, d3, d4, d5, d6, d7⟩ := cells8 S5.out.st.res
          have K1 : wc.cell? ⟨w.heap.size + 1 + 1 + 1, 0, none⟩ = some (.int .i64 kind) := blk_cell S5.out.st.act 0
          have K2 : wc.frozen? ⟨w.heap.size + 1 + 1 + 1, 0, none⟩ = false := blk_free S5.out.st.act 0
          cases ha : (f.act != 0)
          · have HA : Hid (f.act = 0) := Lib.hid (by simpa using ha)
            go_wp2_with fail
            go_meet
            case rel => exact ⟨kind, Lib.hid (HRES2.out.trans (if_neg (fun h => h HA.out))), Lib.hid (fun h => absurd HA.out h), S5⟩
          · have HA : Hid (f.act ≠ 0) := Lib.hid (by simpa using ha)
            cases hk : (kind == 3)
            · have HK : Hid (kind ≠ 3) := Lib.hid (by simpa using hk)
              go_wp2_with fail
              go_meet
              case rel => exact ⟨f.act, Lib.hid (HRES2.out.trans ((if_pos HA.out).trans (if_neg HK.out))), Lib.hid (fun _ => rfl), Lib.hid (st2_kind S5.out f.act)⟩
            · have HK : Hid (kind = 3) := Lib.hid (by simpa using hk)
              have hn : Hid (res = none) := Lib.hid (HRES2.out.trans ((if_pos HA.out).trans (if_pos HK.out)))
              go_wp2
              (try simp only [Exit.inBlock, Exit.then])
              refine bodyPost_ret (v := .tuple #[.agg #[.int .i64 0, .int .i64 0, .int .i64 0, .int .i64 0, .int .i64 0, .int .i64 0, .slice none 0 0, .slice none 0 0], .int .i64 14]) (by rw [results_cell_tmp rfl]; go_simp) rfl ?_
              rw [hn.out]
              exact actPost_none _ _ (below_set8 S5.out.st.below _ (Nat.le_refl _) _ _ _ _ _ _ _ _)
        case rest =>
          obtain ⟨kind', HR, HKA, S6⟩ := hcut
          clear HRES2 F1 S5
          have F3 : wc.cell? ⟨b7, 3, none⟩ = some (.int .i64 f.ask) := blk_cell S6.out.form 3
          have K1 : wc.cell? ⟨w.heap.size + 1 + 1 + 1, 2, none⟩ = some (.int .i64 0) := blk_cell S6.out.st.act 2
          have K2 : wc.frozen? ⟨w.heap.size + 1 + 1 + 1, 2, none⟩ = false := blk_free S6.out.st.act 2
          go_upto_region 15 with fail
          have S7 := Lib.hid (st3_of S6.out)
          clear F3 K1 K2 S6
          generalize wc.setCell ⟨w.heap.size + 1 + 1 + 1, 2, none⟩ (.int .i64 f.ask) = wx at S7 ⊢
          generalize wc.heap.size = base at S7
          have hol : o + 1 ≤ ws.length := by omega
          clear HS4 HM hm1 hm0 hmm ho
          generalize o + 1 = o1 at *
          obtain ⟨m, hm⟩ : ∃ m, m = ws.length - o1 := ⟨_, rfl⟩
          have HM := Lib.hid hm
          have hmb : m ≤ 4294967296 := by omega
          have G1 : wx.cell? ⟨b7, 1, none⟩ = some (.string f.parts) := blk_cell S7.out.form 1
          obtain ⟨p, q1, q2⟩ := S7.out.sl
          rw [← hm] at q1 q2
          have G2 : wx.cell? ⟨w.heap.size + 1 + 1, 0, none⟩ = some (.slice (some p) m m) := blk_cell q1 0
          clear hm q1 q2
          go_cut [8] from 48 to 58 (fun s8 wy => s8 = .bool (okParts f m) ∧ wy = wx)
          case first =>
            cases hk : (f.parts.toList == [107])
            · have hok : Hid (okParts f m = (m == f.parts.size)) := Lib.hid (by unfold okParts; rw [hk, Bool.false_or])
              go_wp2_with fail
              go_meet
              case rel =>
                refine ⟨?_, rfl⟩
                rw [hok.out]
                congr 1
                by_cases h : m = f.parts.size
                · rw [h]; simp
                · rw [beq_eq_false_iff_ne.2 h]; simp; omega
            · have hok : Hid (okParts f m = true) := Lib.hid (by unfold okParts; rw [hk, Bool.true_or])
              go_wp2_with fail
              go_meet
              case rel => exact ⟨by rw [hok.out], rfl⟩
          case rest =>
            obtain ⟨rfl, hwx⟩ := hcut
            rw [hwx]
            clear G1 G2 hwx
            have HR2 : Hid (res = if okParts f m then (actLoop f.parts 0 (ws.drop o1) ⟨0, 0, 0, 0, [], []⟩).map (mkAct kind' f.ask) else none) := Lib.hid (HR.out.trans (by unfold actTail; rw [List.length_drop, HM.out]))
            clear HR
            obtain ⟨okb, hokb⟩ : ∃ okb, okb = okParts f m := ⟨_, rfl⟩
            have HOK : Hid (okb = true → okParts f m = true) := Lib.hid (fun h => by rw [← hokb, h])
            rw [← hokb] at HR2 ⊢
            clear hokb
            go_upto_region 17 with fail
            go_loopg [8, 9, 10, 11] (m + 1) (fun gg s8 s9 _ _ wr => ∃ (i : Nat) (a : Acc) (ok : Bool) (dv kv : Value), i ≤ m ∧ m - i < gg ∧ s8 = .bool ok ∧ s9 = .int .i64 (i : Int) ∧ Hid (ok = true → okParts f m = true) ∧ Hid (KeepLe a i) ∧ Hid (res = if ok then (actLoop f.parts i (ws.drop (o1 + i)) a).map (mkAct kind' f.ask) else none) ∧ Hid (St3 w wr w.heap.size b7 base ws o1 kind' f a dv kv))
            case atStart => exact ⟨0, _, okb, _, _, by omega, by omega, rfl, rfl, HOK, Lib.hid ⟨Nat.le_refl _⟩, HR2, S7⟩
            case round =>
              obtain ⟨i, a, ok, dv, kv, him, hgg, rfl, rfl, OK, KL, HR, SR⟩ := hrel
              clear HOK HR2 S7
              obtain ⟨pd, cd, rfl⟩ := own_slice SR.out.rowD
              obtain ⟨pk, ck, rfl⟩ := own_slice SR.out.rowK
              cases ok
              · have hn : Hid (res = none) := Lib.hid (HR.out.trans (if_neg Bool.false_ne_true))
                obtain ⟨p, q1, q2⟩ := SR.out.sl
                rw [← HM.out] at q1
                have c4 : wr.cell? ⟨w.heap.size + 1 + 1, 0, none⟩ = some (.slice (some p) m m) := blk_cell q1 0
                clear q1 q2
                obtain ⟨⟨c0, c1, c2, c3, c4', c5, c6, c7⟩, d0, d1, d2, d3, d4, d5, d6, d7⟩ := cells8 SR.out.res
                go_wp2
                all_goals (try simp only [Exit.inBlock, Exit.then])
                all_goals refine bodyPost_ret (v := .tuple #[.agg #[.int .i64 0, .int .i64 0, .int .i64 0, .int .i64 0, .int .i64 0, .int .i64 0, .slice none 0 0, .slice none 0 0], .int .i64 14]) (by rw [results_cell_tmp rfl]; go_simp) rfl ?_
                all_goals rw [hn.out]
                all_goals exact actPost_none _ _ (below_set8 SR.out.below _ (Nat.le_refl _) _ _ _ _ _ _ _ _)
              · obtain ⟨p, q1, q2⟩ := SR.out.sl
                rw [← HM.out] at q1 q2
                by_cases hi : i < m
                · obtain rfl := q2 (by omega)
                  have c4 : wr.cell? ⟨w.heap.size + 1 + 1, 0, none⟩ = some (.slice (some ⟨w.heap.size + 1, o1, none⟩) m m) := blk_cell q1 0
                  clear q1 q2
                  have hil : (i : Int) < (m : Int) := by omega
                  have hx : ∃ y, ws[o1 + i]? = some y := ⟨_, List.getElem?_eq_getElem (by have := HM.out; omega)⟩
                  obtain ⟨y, hy⟩ := hx
                  have HY := Lib.hid hy
                  have cx : wr.cell? ⟨w.heap.size + 1, o1 + i, none⟩ = some (.string y) := SR.out.words.cell _ _ hy
                  have hys : Hid (y.size ≤ 281474976710656) := Lib.hid (HWS.out y (List.mem_of_getElem? hy))
                  have HEr : Hid (Env wr) := Lib.hid (HE.out.below SR.out.below)
                  clear hy
                  have hnum := number_c y hys.out wr HEr.out
                  go_upto_region 20 with (go_at_call 89; (with_reducible refine hnum.mono ?_); rintro e w5 ⟨rfl, hb5⟩; have S5 := Lib.hid (SR.out.later hb5); have f1 : w5.cell? ⟨b7, 1, none⟩ = some (.string f.parts) := blk_cell S5.out.form 1; have HE5 := Lib.hid (HEr.out.below hb5); clear hb5)
                  clear c4 cx hnum
                  have hpos := okParts_pos (OK.out trivial) hi
                  have hp6 := HPT.out _ (part_mem f.parts i hpos)
                  have HP6 := Lib.hid hp6
                  clear hp6
                  go_cut [84] from 59 to 124 (fun s84 wx => s84 = .int .u8 ((partAt f.parts i).toNat : Int) ∧ wx = w5)
                  case first =>
                    obtain ⟨n1, hn1⟩ : ∃ n1 : Nat, f.parts.size = n1 + 1 := ⟨f.parts.size - 1, by omega⟩
                    have hn2 : (f.parts.size : Int) - 1 = (n1 : Int) := by omega
                    have hn3 : (n1 : Int) < (f.parts.size : Int) := by omega
                    have hn6 : (n1 : Int) ≤ 3 := by have := HPS.out; omega
                    by_cases hin : i ≤ n1
                    · have hn4 : (i : Int) < (f.parts.size : Int) := by omega
                      have hn5 : min (i : Int) (n1 : Int) = (i : Int) := by omega
                      have hg := part_get f.parts i i (by omega) (by omega)
                      have HG := Lib.hid hg
                      clear hg
                      go_wp2_with fail
                      go_meet
                      case rel => exact ⟨by rw [← HG.out], rfl⟩
                    · have hn5 : min (i : Int) (n1 : Int) = (n1 : Int) := by omega
                      have hg := part_get f.parts i n1 (by omega) (by omega)
                      have HG := Lib.hid hg
                      clear hg
                      go_wp2_with fail
                      go_meet
                      case rel => exact ⟨by rw [← HG.out], rfl⟩
                  case rest =>
                    obtain ⟨rfl, hwx⟩ := hcut
                    rw [hwx]
                    clear f1 hwx
                    obtain ⟨⟨k0, k1, k2, k3, k4, k5, k6, k7⟩, l0, l1, l2, l3, l4, l5, l6, l7⟩ := cells8 S5.out.act
                    rcases HP6.out with h | h | h | h | h | h
                    · have hps : Hid (partStep (partAt f.parts i) y a = ({ a with vol := atoiN y.data.toList }, numB y)) := Lib.hid (by rw [h]; rfl)
                      rw [h]
                      clear h
                      generalize atoiN y.data.toList = nv at hps ⊢
                      generalize numB y = nb at hps ⊢
                      go_wp2
                      go_roundg (m - (i + 1) + 1)
                      case measure => omega
                      case rel => exact ⟨i + 1, { a with vol := nv }, nb, _, _, by omega, by omega, rfl, by go_num, Lib.hid (fun _ => OK.out trivial), Lib.hid ⟨Nat.le_succ_of_le KL.out.le⟩, Lib.hid (act_step HY.out HR.out hps.out), Lib.hid (S5.out.set 3 _ _ _ _ rfl S5.out.rowD S5.out.rowK S5.out.sep S5.out.nd S5.out.nk)⟩
                    · have hps : Hid (partStep (partAt f.parts i) y a = ({ a with block := atoiN y.data.toList }, numB y)) := Lib.hid (by rw [h]; rfl)
                      rw [h]
                      clear h
                      generalize atoiN y.data.toList = nv at hps ⊢
                      generalize numB y = nb at hps ⊢
                      go_wp2
                      go_roundg (m - (i + 1) + 1)
                      case measure => omega
                      case rel => exact ⟨i + 1, { a with block := nv }, nb, _, _, by omega, by omega, rfl, by go_num, Lib.hid (fun _ => OK.out trivial), Lib.hid ⟨Nat.le_succ_of_le KL.out.le⟩, Lib.hid (act_step HY.out HR.out hps.out), Lib.hid (S5.out.set 4 _ _ _ _ rfl S5.out.rowD S5.out.rowK S5.out.sep S5.out.nd S5.out.nk)⟩
                    · have hps : Hid (partStep (partAt f.parts i) y a = ({ a with size := atoiN y.data.toList }, numB y)) := Lib.hid (by rw [h]; rfl)
                      rw [h]
                      clear h
                      generalize atoiN y.data.toList = nv at hps ⊢
                      generalize numB y = nb at hps ⊢
                      go_wp2
                      go_roundg (m - (i + 1) + 1)
                      case measure => omega
                      case rel => exact ⟨i + 1, { a with size := nv }, nb, _, _, by omega, by omega, rfl, by go_num, Lib.hid (fun _ => OK.out trivial), Lib.hid ⟨Nat.le_succ_of_le KL.out.le⟩, Lib.hid (act_step HY.out HR.out hps.out), Lib.hid (S5.out.set 5 _ _ _ _ rfl S5.out.rowD S5.out.rowK S5.out.sep S5.out.nd S5.out.nk)⟩
                    · have hps : Hid (partStep (partAt f.parts i) y a = ({ a with n := atoiN y.data.toList }, numB y)) := Lib.hid (by rw [h]; rfl)
                      rw [h]
                      clear h
                      generalize atoiN y.data.toList = nv at hps ⊢
                      generalize numB y = nb at hps ⊢
                      go_wp2
                      go_roundg (m - (i + 1) + 1)
                      case measure => omega
                      case rel => exact ⟨i + 1, { a with n := nv }, nb, _, _, by omega, by omega, rfl, by go_num, Lib.hid (fun _ => OK.out trivial), Lib.hid ⟨Nat.le_succ_of_le KL.out.le⟩, Lib.hid (act_step HY.out HR.out hps.out), Lib.hid (S5.out.set 1 _ _ _ _ rfl S5.out.rowD S5.out.rowK S5.out.sep S5.out.nd S5.out.nk)⟩
                    · rw [h]
                      have HP := Lib.hid h
                      clear h
                      have c4 : w5.cell? ⟨w.heap.size + 1 + 1, 0, none⟩ = some (.slice (some ⟨w.heap.size + 1, o1, none⟩) m m) := by
                        obtain ⟨p, q1, q2⟩ := S5.out.sl
                        rw [← HM.out] at q1 q2
                        have := q2 (by omega)
                        subst this
                        exact blk_cell q1 0
                      have cx : w5.cell? ⟨w.heap.size + 1, o1 + i, none⟩ = some (.string y) := S5.out.words.cell _ _ HY.out
                      have hun := unhex_c y hys.out w5
                      go_wp2_with (go_at_call 90; (with_reducible refine hun.mono ?_); rintro e w6 ⟨v, rfl, hv, hb6⟩; obtain ⟨pv, cv, rfl⟩ := own_slice hv; have HV := Lib.hid hv; have S6 := Lib.hid (S5.out.later hb6); have HB6 := Lib.hid hb6; obtain ⟨⟨e0, e1, e2, e3, e4, e5, e6, e7⟩, g0, g1, g2, g3, g4, g5, g6, g7⟩ := cells8 S6.out.act; clear hv hb6 k0 k1 k2 k3 k4 k5 k6 k7 l0 l1 l2 l3 l4 l5 l6 l7)
                      go_roundg (m - (i + 1) + 1)
                      case measure => omega
                      case rel =>
                        have hsep : (Value.slice pv ((unhexL y.data.toList).getD []).length cv).ownBlock = none ∨ (Value.slice pv ((unhexL y.data.toList).getD []).length cv).ownBlock ≠ (Value.slice pk a.keep.length ck).ownBlock := by
                          cases hvo : (Value.slice pv ((unhexL y.data.toList).getD []).length cv).ownBlock with
                          | none => exact Or.inl rfl
                          | some q =>
                            refine Or.inr (fun e => ?_)
                            have h1 := (HV.out.lt q hvo).1
                            have h2 := (S5.out.rowK.lt q e.symm).2
                            omega
                        exact ⟨i + 1, { a with data := (unhexL y.data.toList).getD [] }, (unhexL y.data.toList).isSome, _, _, by omega, by omega, rfl, by go_num, Lib.hid (fun _ => OK.out trivial), Lib.hid ⟨Nat.le_succ_of_le KL.out.le⟩, Lib.hid (act_step HY.out HR.out (by rw [HP.out]; rfl)), Lib.hid (S6.out.set 6 _ _ _ _ rfl (row_mono HV.out S5.out.size) S6.out.rowK hsep (fun hno => absurd (by rw [← HP.out]; exact part_mem f.parts i hpos) hno) S6.out.nk)⟩
                    · rw [h]
                      have HP := Lib.hid h
                      clear h
                      obtain ⟨i3, hi3, hz0, hz1, hz2⟩ := info_parts info3
                      have HI3 := Lib.hid hi3
                      have HZ0 := Lib.hid hz0
                      have HZ1 := Lib.hid hz1
                      have HZ2 := Lib.hid hz2
                      clear hi3 hz0 hz1 hz2
                      have hkl := KL.out.le
                      have hml : Hid (a.keep.length + 1 ≤ maxLen) := Lib.hid (by simp only [maxLen]; omega)
                      have hkb : Hid ((a.keep.length + 1) * 8 ≤ 140737488355328) := Lib.hid (by omega)
                      generalize hnv : atoiN y.data.toList = nv
                      have HNV := Lib.hid hnv
                      clear hnv hkl
                      go_wp2_with (at_builtin; go_loud (refine wpList_append_own_at _ rfl _ _ 25 rfl base 3 i3 (.int .i64 0) 1 8 Tryz.underlying25 HI3.out HZ0.out HZ1.out HZ2.out rfl (by decide) _ a.keep.length (intVals a.keep) rfl (S5.out.rowK.alloc _) ⟨w5.heap.size, 0, none⟩ 1 1 [.int .i64 nv] rfl rfl (cell_one_new _ _ _) (by simp [Value.oneCell']) hml.out hkb.out (by rw [sz_alloc]; exact Nat.le_succ_of_le S5.out.size) ?_))
                      intro kv' w6 hown hgrow _ hat
                      obtain ⟨pv, cv, rfl⟩ := own_slice hown
                      have HAT := Lib.hid hat
                      have HOWN := Lib.hid hown
                      have HGR := Lib.hid hgrow
                      obtain ⟨⟨e0, e1, e2, e3, e4, e5, e6, e7⟩, g0, g1, g2, g3, g4, g5, g6, g7⟩ := cells8 (S5.out.grown_act hgrow)
                      clear hat hown hgrow k0 k1 k2 k3 k4 k5 k6 k7 l0 l1 l2 l3 l4 l5 l6 l7
                      go_wp2
                      go_roundg (m - (i + 1) + 1)
                      case measure => omega
                      case rel => exact ⟨i + 1, { a with keep := a.keep ++ [nv] }, numB y, _, _, by omega, by omega, rfl, by go_num, Lib.hid (fun _ => OK.out trivial), Lib.hid ⟨by show (a.keep ++ [nv]).length ≤ i + 1; rw [List.length_append]; exact Nat.succ_le_succ KL.out.le⟩, Lib.hid (act_step HY.out HR.out (by rw [HP.out, ← HNV.out]; rfl)), Lib.hid (S5.out.keep HGR.out _ nv HOWN.out HAT.out (by rw [← HP.out]; exact part_mem f.parts i hpos))⟩
                · have hil : ¬ (i : Int) < (m : Int) := by omega
                  have hn : Hid (res = some (mkAct kind' f.ask a)) := Lib.hid (HR.out.trans ((if_pos rfl).trans (by rw [List.drop_eq_nil_of_le (by have := HM.out; omega)]; rfl)))
                  have c4 : wr.cell? ⟨w.heap.size + 1 + 1, 0, none⟩ = some (.slice (some p) m m) := blk_cell q1 0
                  clear q1 q2
                  obtain ⟨⟨c0, c1, c2, c3, c4', c5, c6, c7⟩, d0, d1, d2, d3, d4, d5, d6, d7⟩ := cells8 SR.out.res
                  obtain ⟨⟨r0, r1, r2, r3, r4, r5, r6, r7⟩, _, _, _, _, _, _, _, _⟩ := cells8 SR.out.act
                  go_wp2
                  (try simp only [Exit.inBlock, Exit.then])
                  refine bodyPost_ret (v := .tuple #[.agg #[.int .i64 kind', .int .i64 a.n, .int .i64 f.ask, .int .i64 a.vol, .int .i64 a.block, .int .i64 a.size, .slice pd a.data.length cd, .slice pk a.keep.length ck], .int .i64 0]) (by rw [results_cell_tmp rfl]; go_simp) rfl ?_
                  rw [hn.out]
                  have hlo := SR.out.lo
                  have hmid := SR.out.mid
                  have hbb : w.heap.size < base := by omega
                  exact ⟨_, _, rfl, row_mono (row_set8 SR.out.rowD _ hbb _ _ _ _ _ _ _ _) (by omega), row_mono (row_set8 SR.out.rowK _ hbb _ _ _ _ _ _ _ _) (by omega), below_set8 SR.out.below _ (Nat.le_refl _) _ _ _ _ _ _ _ _, ⟨fun hne => SR.out.nd (fun h => hne (HPN.out.1 h)), fun hne => SR.out.nk (fun h => hne ((HKA.out (by rw [HPN.out.2 h]; decide)).trans (HPN.out.2 h)))⟩⟩
end Go.Proofs.YtjohhjdicbeojaaGreatDoor.KSg
