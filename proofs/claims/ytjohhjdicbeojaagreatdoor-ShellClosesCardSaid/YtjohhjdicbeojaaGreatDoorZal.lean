/- Texts joined: Ra Rb. -/
import Derived.Test.YtjohhjdicbeojaaGreatDoorProg
import Derived.WalkKit
import Derived.WalkLawsBesides
import Derived.Lib.Hide
import Derived.Lib.SmallJoins
import Derived.Deep.LoopGhost
import Derived.Deep.QuietTactic
import Derived.BigQuiet
import Derived.Below
import Derived.Deep.Draws
import Derived.RegionTactic
import Derived.Deep.AppendLies
import Derived.Deep.Light
import Derived.Deep.DeepFit
import Derived.Laws.Closers25b
import Derived.Laws.CopyOwn
import Derived.Laws.AppendOwnNone
import Derived.Outline
import Derived.OneCell
namespace Go.Proofs.YtjohhjdicbeojaaGreatDoor.Ra
open Go.RowKit
/-! ### Blocks -/
theorem blk_cell {w : World} {b : Nat} {vs : Array Value} {t : TypeId} {fz : Nat × Nat} (h : w.heap[b]? = some (.cells vs t fz)) (j : Nat) : w.cell? ⟨b, j, none⟩ = vs[j]? := by simp [World.cell?, h]
theorem blk_free {w : World} {b : Nat} {vs : Array Value} {t : TypeId} (h : w.heap[b]? = some (.cells vs t (0, 0))) (j : Nat) : w.frozen? ⟨b, j, none⟩ = false := by simp [World.frozen?, h]
theorem blk_set {w : World} {b : Nat} {vs : Array Value} {t : TypeId} (h : w.heap[b]? = some (.cells vs t (0, 0))) (j : Nat) (u : Value) : (w.setCell ⟨b, j, none⟩ u).heap[b]? = some (.cells (vs.setIfInBounds j u) t (0, 0)) := by
  have hlt := lt_of_block h
  have h' : w.heap[b] = .cells vs t (0, 0) := by simpa [Array.getElem?_eq_getElem hlt] using h
  show (w.heap.modify b _)[b]? = _
  rw [Array.getElem?_eq_getElem (by simpa using hlt), Array.getElem_modify_self, h']
  rfl
theorem blk_set_other {w : World} {b : Nat} {o : Obj} (h : w.heap[b]? = some o) {a : Addr} (hne : b ≠ a.block) (u : Value) : (w.setCell a u).heap[b]? = some o := (Below.heap_setCell w a u b hne).trans h
theorem blk_new (w : World) (vs : Array Value) (t : TypeId) : (w.alloc (.cells vs t)).heap[w.heap.size]? = some (.cells vs t (0, 0)) := heap_alloc_new w _
theorem blk_old {w : World} {b : Nat} {o : Obj} (h : w.heap[b]? = some o) (o' : Obj) : (w.alloc o').heap[b]? = some o := (Below.heap_alloc w o' b (lt_of_block h)).trans h
theorem blk_below {w w' : World} {b B : Nat} {o : Obj} (h : w.heap[b]? = some o) (hb : Below B w w') (hB : b < B) : w'.heap[b]? = some o := (hb.block b hB).trans h
theorem sz_alloc (w : World) (o : Obj) : (w.alloc o).heap.size = w.heap.size + 1 := by simp
theorem sz_set (w : World) (a : Addr) (u : Value) : (w.setCell a u).heap.size = w.heap.size := by simp
theorem below_drewN {B : Nat} {a w : World} (h : Below B a w) (n : Nat) : Below B a (w.drewN n) := ⟨h.os, h.tape, h.output, h.size, h.block⟩
theorem row_below {wx wy : World} {base e size n : Nat} {v : Value} {xs : List Value} (h : wx.ownsRow base e size v n xs) (hb : Below wx.heap.size wx wy) : wy.ownsRow base e size v n xs := by
  refine ⟨h.1, ?_⟩
  rcases h.2 with hn | ⟨g, cap, cur, hv, hg, hh, r⟩
  · exact Or.inl hn
  · exact Or.inr ⟨g, cap, cur, hv, hg, blk_below hh hb (lt_of_block hh), r⟩
/-! ### The types of a device's blocks -/
def devT (t : TypeId) : Bool := t == 85 || t == 113 || t == 115
def plainObj : Obj → Bool
  | .cells _ t _ => !devT t
  | _ => true
/-- From one world to a later one: below B nothing has changed; and nothing that is no part of a device. -/
structure Step (B : Nat) (w w' : World) : Prop where
  below : Below B w w'
  kept : ∀ (b : Nat) (o : Obj), w.heap[b]? = some o → plainObj o = true → w'.heap[b]? = some o
theorem Step.refl (B : Nat) (w : World) : Step B w w := ⟨Below.refl _ _, fun _ _ h _ => h⟩
theorem Step.trans {B : Nat} {a b c : World} (h : Step B a b) (k : Step B b c) : Step B a c := ⟨h.below.trans k.below, fun x o hx hp => k.kept x o (h.kept x o hx hp) hp⟩
theorem Step.size {B : Nat} {a b : World} (h : Step B a b) : a.heap.size ≤ b.heap.size := h.below.size
theorem Step.of {B : Nat} {a b : World} (h : Below a.heap.size a b) (hB : B ≤ a.heap.size) : Step B a b := ⟨h.mono hB, fun _ _ hx _ => blk_below hx h (lt_of_block hx)⟩
theorem Step.drewN {B : Nat} {a b : World} (h : Step B a b) (n : Nat) : Step B a (b.drewN n) := ⟨below_drewN h.below n, h.kept⟩
theorem Step.alloc {B : Nat} {a b : World} (h : Step B a b) (hB : B ≤ b.heap.size) (o : Obj) : Step B a (b.alloc o) := h.trans (Step.of ((Below.refl _ _).alloc (Nat.le_refl _) _) hB)
/-- A block that no step changes. -/
def Safe (B : Nat) (w : World) (b : Nat) : Prop := b < B ∨ ∃ o, w.heap[b]? = some o ∧ plainObj o = true
theorem Safe.step {B : Nat} {w w' : World} {b : Nat} (h : Safe B w b) (hs : Step B w w') : Safe B w' b := by
  rcases h with h | ⟨o, h, hp⟩
  · exact Or.inl h
  · exact Or.inr ⟨o, hs.kept b o h hp, hp⟩
theorem Safe.block {B : Nat} {w w' : World} {b : Nat} (h : Safe B w b) (hs : Step B w w') : w'.heap[b]? = w.heap[b]? := by
  rcases h with h | ⟨o, h, hp⟩
  · exact hs.below.block b h
  · rw [h]; exact hs.kept b o h hp
theorem Safe.cell {B : Nat} {w w' : World} {b : Nat} (h : Safe B w b) (hs : Step B w w') (j : Nat) : w'.cell? ⟨b, j, none⟩ = w.cell? ⟨b, j, none⟩ := World.cell?_of_block (h.block hs)
/-! ### Bytes -/
def byteVals (l : List UInt8) : List Value := l.map fun b => .int .u8 (b.toNat : Int)
theorem byteVals_app (a b : List UInt8) : byteVals (a ++ b) = byteVals a ++ byteVals b := by unfold byteVals; rw [List.map_append]
theorem byteVals_len (a : List UInt8) : (byteVals a).length = a.length := by unfold byteVals; rw [List.length_map]
theorem byteVals_one (l : List UInt8) : ∀ u ∈ byteVals l, u.oneCell' = true := by
  intro u hu
  obtain ⟨b, _, rfl⟩ := List.mem_map.1 hu
  rfl
/-- The bytes that a slice value shows. -/
def BytesIn (B : Nat) (w : World) (v : Value) (l : List UInt8) : Prop :=
  ∃ p c, v = .slice p l.length c ∧ l.length ≤ c ∧ (l ≠ [] → ∃ b o, p = some ⟨b, o, none⟩ ∧ b < w.heap.size ∧ Safe B w b ∧ ∀ j x, l[j]? = some x → w.cell? ⟨b, o + j, none⟩ = some (.int .u8 (x.toNat : Int)))
theorem BytesIn.step {B : Nat} {w w' : World} {v : Value} {l : List UInt8} (h : BytesIn B w v l) (hs : Step B w w') : BytesIn B w' v l := by
  obtain ⟨p, c, hv, hcap, h⟩ := h
  refine ⟨p, c, hv, hcap, fun hl => ?_⟩
  obtain ⟨b, o, hp, hlt, hsf, hc⟩ := h hl
  exact ⟨b, o, hp, Nat.lt_of_lt_of_le hlt hs.size, hsf.step hs, fun j x hx => (hsf.cell hs _).trans (hc j x hx)⟩
theorem BytesIn.nil (B : Nat) (w : World) (p : Option Addr) (c : Nat) : BytesIn B w (.slice p 0 c) [] := ⟨p, c, rfl, Nat.zero_le _, fun h => absurd rfl h⟩
theorem BytesIn.form {B : Nat} {w : World} {v : Value} {l : List UInt8} (h : BytesIn B w v l) : ∃ p c, v = .slice p l.length c ∧ l.length ≤ c := by
  obtain ⟨p, c, hv, hc, _⟩ := h
  exact ⟨p, c, hv, hc⟩
/-- Bytes of a row that is one's own. -/
theorem bytes_of_row {B base : Nat} {w : World} {v : Value} {l : List UInt8} (h : w.ownsRow base 5 1 v l.length (byteVals l)) : BytesIn B w v l := by
  rcases h.2 with ⟨rfl, h0⟩ | ⟨g, cap, cur, rfl, hg, hh, hc, _, hs, ht⟩
  · obtain rfl : l = [] := List.eq_nil_of_length_eq_zero h0
    exact BytesIn.nil _ _ _ _
  · refine ⟨_, _, rfl, hc, fun _ => ⟨g, 0, rfl, lt_of_block hh, Or.inr ⟨_, hh, rfl⟩, fun j x hx => ?_⟩⟩
    have := h.cells (g := g) rfl j (.int .u8 (x.toNat : Int)) (by unfold byteVals; rw [List.getElem?_map, hx]; rfl)
    rw [Addr.add_lit] at this
    simpa using this
/-- A block of bytes, written out. -/
theorem bytes_of_blk {B : Nat} {w : World} {g : Nat} {cs : Array Value} {fz : Nat × Nat} {l : List UInt8} {n c : Nat} (h : w.heap[g]? = some (.cells cs 5 fz)) (hn : n = l.length) (hcap : n ≤ c) (hl : cs.toList.take l.length = byteVals l) : BytesIn B w (.slice (some ⟨g, 0, none⟩) n c) l := by
  subst hn
  refine ⟨_, _, rfl, hcap, fun _ => ⟨g, 0, rfl, lt_of_block h, Or.inr ⟨_, h, rfl⟩, fun j x hx => ?_⟩⟩
  have hj : j < l.length := (List.getElem?_eq_some_iff.1 hx).1
  rw [Nat.zero_add, blk_cell h]
  have e1 : (byteVals l)[j]? = some (.int .u8 (x.toNat : Int)) := by unfold byteVals; rw [List.getElem?_map, hx]; rfl
  rw [← hl, List.getElem?_take, if_pos hj] at e1
  rw [← Array.getElem?_toList]
  exact e1
/-- The cells that an append or a copy takes. -/
theorem BytesIn.news {B : Nat} {w : World} {a : Addr} {l : List UInt8} {n c : Nat} (h : BytesIn B w (.slice (some a) n c) l) : ∀ j u, (byteVals l)[j]? = some u → w.cell? (a.add j) = some u := by
  obtain ⟨p, c', hv, _, h⟩ := h
  intro j u hu
  unfold byteVals at hu
  rw [List.getElem?_map] at hu
  cases hx : l[j]? with
  | none => rw [hx] at hu; cases hu
  | some x =>
    rw [hx] at hu
    obtain rfl : Value.int .u8 (x.toNat : Int) = u := Option.some.inj hu
    obtain ⟨b, o, hp, _, _, hc⟩ := h (fun e => by rw [e] at hx; cases hx)
    obtain ⟨rfl, _, _⟩ : some a = p ∧ n = l.length ∧ c = c' := by simpa using hv
    obtain rfl := Option.some.inj hp
    have e : (⟨b, o, none⟩ : Addr).add j = ⟨b, o + j, none⟩ := by unfold Addr.add; split <;> simp_all
    rw [e]
    exact hc j x hx
/-- A part of the bytes. -/
theorem BytesIn.cut {B : Nat} {w : World} {p : Option Addr} {n c : Nat} {l : List UInt8} (h : BytesIn B w (.slice p n c) l) (i j : Nat) (hij : i ≤ j) (hj : j ≤ l.length) (q : Option Addr) (c' : Nat) (hc' : j - i ≤ c')
    (hq : ∀ b o, p = some ⟨b, o, none⟩ → i < j → q = some ⟨b, o + i, none⟩) : BytesIn B w (.slice q (j - i) c') ((l.drop i).take (j - i)) := by
  obtain ⟨p', c0, hv, _, h⟩ := h
  obtain ⟨rfl, _, _⟩ : p = p' ∧ n = l.length ∧ c = c0 := by simpa using hv
  have hl : ((l.drop i).take (j - i)).length = j - i := by rw [List.length_take, List.length_drop]; omega
  refine ⟨q, c', by rw [hl], by rw [hl]; exact hc', fun hne => ?_⟩
  have hlt : i < j := by
    rcases Nat.lt_or_ge i j with h' | h'
    · exact h'
    · exfalso
      apply hne
      apply List.eq_nil_of_length_eq_zero
      omega
  obtain ⟨b, o, hp, hbl, hsf, hc⟩ := h (fun e => by rw [e] at hj; simp at hj; omega)
  refine ⟨b, o + i, hq b o hp hlt, hbl, hsf, fun k x hx => ?_⟩
  have hk : k < j - i := by
    have := (List.getElem?_eq_some_iff.1 hx).1
    omega
  rw [List.getElem?_take, if_pos hk, List.getElem?_drop] at hx
  have := hc (i + k) x hx
  rw [← Nat.add_assoc] at this
  exact this
/-! ### Whole numbers -/
def intVals (l : List Int) : List Value := l.map (Value.int .i64)
def IntsIn (B : Nat) (w : World) (v : Value) (l : List Int) : Prop :=
  ∃ p c, v = .slice p l.length c ∧ (l ≠ [] → ∃ b o, p = some ⟨b, o, none⟩ ∧ b < w.heap.size ∧ Safe B w b ∧ ∀ j x, l[j]? = some x → w.cell? ⟨b, o + j, none⟩ = some (.int .i64 x))
theorem IntsIn.step {B : Nat} {w w' : World} {v : Value} {l : List Int} (h : IntsIn B w v l) (hs : Step B w w') : IntsIn B w' v l := by
  obtain ⟨p, c, hv, h⟩ := h
  refine ⟨p, c, hv, fun hl => ?_⟩
  obtain ⟨b, o, hp, hlt, hsf, hc⟩ := h hl
  exact ⟨b, o, hp, Nat.lt_of_lt_of_le hlt hs.size, hsf.step hs, fun j x hx => (hsf.cell hs _).trans (hc j x hx)⟩
theorem IntsIn.nil (B : Nat) (w : World) (p : Option Addr) (c : Nat) : IntsIn B w (.slice p 0 c) [] := ⟨p, c, rfl, fun h => absurd rfl h⟩
theorem ints_of_blk {B : Nat} {w : World} {g : Nat} {cs : Array Value} {fz : Nat × Nat} {l : List Int} {n c : Nat} (h : w.heap[g]? = some (.cells cs 3 fz)) (hn : n = l.length) (hl : cs.toList.take l.length = intVals l) : IntsIn B w (.slice (some ⟨g, 0, none⟩) n c) l := by
  subst hn
  refine ⟨_, _, rfl, fun _ => ⟨g, 0, rfl, lt_of_block h, Or.inr ⟨_, h, rfl⟩, fun j x hx => ?_⟩⟩
  have hj : j < l.length := (List.getElem?_eq_some_iff.1 hx).1
  rw [Nat.zero_add, blk_cell h]
  have e1 : (intVals l)[j]? = some (.int .i64 x) := by unfold intVals; rw [List.getElem?_map, hx]; rfl
  rw [← hl, List.getElem?_take, if_pos hj] at e1
  rw [← Array.getElem?_toList]
  exact e1
theorem info_u8 : (Tryz.prog.info? 5).map (fun i => (i.zero, i.size, i.bytes)) = some (some (.int .u8 0), 1, 1) := by kernel_rfl
end Go.Proofs.YtjohhjdicbeojaaGreatDoor.Ra
namespace Go.Proofs.YtjohhjdicbeojaaGreatDoor.Rb
open Go.RowKit Go.Proofs.YtjohhjdicbeojaaGreatDoor.Ra
/-- One bit's turn of the register. -/
def stp1 (x : Int) : Int := bits .xor .u32 (x * 2 % 4294967296) (79764919 * (x / 2147483648))
def iter : Nat → Int → Int
  | 0, x => x
  | n + 1, x => iter n (stp1 x)
def stp (x : Int) : Int := iter 8 x
/-- A byte more. -/
def byt (r : Int) (b : UInt8) : Int := stp (bits .xor .u32 r ((b.toNat : Int) * 16777216))
def moreR : Int → List UInt8 → Int
  | r, [] => r
  | r, b :: l => moreR (byt r b) l
def U32 (x : Int) : Prop := 0 ≤ x ∧ x < 4294967296
theorem stp1_u (x : Int) : U32 (stp1 x) := ⟨bits_lo_u32 _ _ _, by have := bits_hi_u32 .xor (x * 2 % 4294967296) (79764919 * (x / 2147483648)); unfold stp1; omega⟩
theorem iter_u : ∀ (n : Nat) (x : Int), U32 x → U32 (iter n x)
  | 0, _, h => h
  | n + 1, x, _ => iter_u n _ (stp1_u x)
theorem stp_u (x : Int) (h : U32 x) : U32 (stp x) := iter_u 8 x h
theorem xor_u (x y : Int) : U32 (bits .xor .u32 x y) := ⟨bits_lo_u32 _ _ _, by have := bits_hi_u32 .xor x y; omega⟩
theorem byt_u (r : Int) (b : UInt8) : U32 (byt r b) := stp_u _ (xor_u _ _)
theorem moreR_snoc : ∀ (l : List UInt8) (r : Int) (b : UInt8), moreR r (l ++ [b]) = byt (moreR r l) b
  | [], _, _ => rfl
  | a :: l, r, b => moreR_snoc l (byt r a) b
theorem iter_end (k : Nat) (x y : Int) (h : iter (8 - k) x = y) (hk : k < 8) : iter (8 - (k + 1)) (stp1 x) = y := by
  rw [← h, show 8 - k = (8 - (k + 1)) + 1 by omega]
  rfl
theorem step_c (r : Int) (w : World) (hr : U32 r) : Calls Tryz.prog 243 #[.int .u32 r] w fun e w' => e = .returned (.int .u32 (stp r)) ∧ w = w' := by
  obtain ⟨res, hres⟩ : ∃ res, iter (8 - 0) r = res := ⟨_, rfl⟩
  have hst : stp r = res := hres
  rw [hst]
  have HRES := Lib.hid hres
  clear hres hst
  have hr' := hr
  obtain ⟨hr1, hr2⟩ := hr
  go_enter Tryz.func243, Tryz.ntmps243
  go_wp2
  go_loopg [0, 4] 9 (fun gg s0 s4 wr => ∃ (k : Nat) (x : Int), k ≤ 8 ∧ 8 - k < gg ∧ U32 x ∧ s0 = .int .u32 x ∧ s4 = .int .i64 (k : Int) ∧ Hid (iter (8 - k) x = res) ∧ wr = w)
  case atStart => exact ⟨0, r, by omega, by omega, hr', rfl, rfl, HRES, rfl⟩
  case round =>
    obtain ⟨k, x, hk, hgg, ⟨hx1, hx2⟩, rfl, rfl, HI, rfl⟩ := hrel
    by_cases h : k < 8
    · have hil : (k : Int) < 8 := by omega
      have HN := Lib.hid (iter_end k x res HI.out h)
      have HU := Lib.hid (stp1_u x)
      unfold stp1 at HN HU
      go_wp2
      go_roundg (8 - (k + 1) + 1)
      case measure => omega
      case rel => exact ⟨k + 1, _, by omega, by omega, HU.out, rfl, by go_num, HN, rfl⟩
    · have hil : ¬ (k : Int) < 8 := by omega
      obtain rfl : k = 8 := by omega
      obtain rfl : x = res := HI.out
      go_wp2
      go_ret
      exact ⟨rfl, rfl⟩
/-- The sum behind others: what More answers. -/
def not32 (x : Int) : Int := bits .xor .u32 IntKind.u32.max x
def moreL (s : Int) (l : List UInt8) : Int := not32 (moreR (not32 s) l)
def sumL (l : List UInt8) : Int := moreL 0 l
theorem sumL_u (l : List UInt8) : U32 (sumL l) := xor_u _ _
set_option maxHeartbeats 1000000 in
theorem more_c (B : Nat) (s : Int) (v : Value) (l : List UInt8) (w : World) (hs : U32 s) (hv : BytesIn B w v l) (hl : l.length ≤ 140737488355328) :
    Calls Tryz.prog 210 #[.int .u32 s, v] w fun e w' => e = .returned (.int .u32 (moreL s l)) ∧ w = w' := by
  obtain ⟨p, c, rfl, hcap, hp⟩ := hv
  have HP := Lib.hid hp
  clear hp
  have hs' := hs
  obtain ⟨hs1, hs2⟩ := hs
  obtain ⟨N, hN⟩ : ∃ N, N = l.length := ⟨_, rfl⟩
  rw [← hN] at hl ⊢
  have HN := Lib.hid hN
  clear hN
  obtain ⟨res, hres⟩ : ∃ res, res = moreL s l := ⟨_, rfl⟩
  rw [← hres]
  have HRES := Lib.hid hres
  clear hres
  go_enter Tryz.func210, Tryz.ntmps210
  go_wp2
  go_loopg [5, 7, 12] (N + 1) (fun gg s5 _ s12 wr => ∃ (k : Nat) (x : Int), k ≤ N ∧ N - k < gg ∧ U32 x ∧ s5 = .int .u32 x ∧ s12 = .int .i64 (k : Int) ∧ Hid (x = moreR (not32 s) (l.take k)) ∧ wr = w)
  case atStart => exact ⟨0, _, by omega, by omega, xor_u _ _, rfl, rfl, Lib.hid rfl, rfl⟩
  case round =>
    obtain ⟨k, x, hk, hgg, ⟨hx1, hx2⟩, rfl, rfl, HX, rfl⟩ := hrel
    by_cases h : k < N
    · have hil : (k : Int) < (N : Int) := by omega
      obtain ⟨y, hy⟩ : ∃ y, l[k]? = some y := ⟨_, List.getElem?_eq_getElem (by rw [← HN.out]; exact h)⟩
      obtain ⟨b, o, rfl, _, _, hc⟩ := HP.out (fun e => by rw [e] at hy; cases hy)
      have cy := hc k y hy
      have HY : Hid (moreR (not32 s) (l.take (k + 1)) = byt x y) := Lib.hid (by rw [List.take_add_one, hy, HX.out]; exact moreR_snoc _ _ _)
      have hyl := y.toNat_lt
      have hy1 : (0 : Int) ≤ (y.toNat : Int) := by omega
      have hy2 : (y.toNat : Int) < 256 := by omega
      have kst := step_c (bits .xor .u32 x ((y.toNat : Int) * 16777216)) wr (xor_u _ _)
      have HU := Lib.hid (byt_u x y)
      unfold byt at HY HU
      clear hy hc hyl
      generalize (y.toNat : Int) = yy at *
      go_wp2_with (go_at_call 243; (with_reducible refine kst.mono ?_); rintro e w5 ⟨rfl, rfl⟩)
      go_roundg (N - (k + 1) + 1)
      case measure => omega
      case rel => exact ⟨k + 1, _, by omega, by omega, HU.out, rfl, by go_num, Lib.hid HY.out.symm, rfl⟩
    · have hil : ¬ (k : Int) < (N : Int) := by omega
      obtain rfl : k = N := by omega
      have HE : Hid (bits .xor .u32 IntKind.u32.max x = res) := Lib.hid (by
        rw [HRES.out, HX.out, List.take_of_length_le (by rw [HN.out]; exact Nat.le_refl _)]
        rfl)
      go_wp2
      go_ret
      rw [HE.out]
      exact ⟨rfl, rfl⟩
theorem sum_c (B : Nat) (v : Value) (l : List UInt8) (w : World) (hv : BytesIn B w v l) (hl : l.length ≤ 140737488355328) :
    Calls Tryz.prog 157 #[v] w fun e w' => e = .returned (.int .u32 (sumL l)) ∧ w = w' := by
  have k := more_c B 0 v l w ⟨by decide, by decide⟩ hv hl
  obtain ⟨p, c, rfl, -⟩ := hv
  have hs : moreL 0 l = sumL l := rfl
  rw [hs] at k
  clear hs
  generalize sumL l = x at *
  generalize l.length = n at *
  go_enter Tryz.func157, Tryz.ntmps157
  go_wp2_with (go_at_call 210; (with_reducible refine k.mono ?_); rintro e w5 ⟨rfl, rfl⟩)
  go_ret
  exact ⟨rfl, rfl⟩
end Go.Proofs.YtjohhjdicbeojaaGreatDoor.Rb
