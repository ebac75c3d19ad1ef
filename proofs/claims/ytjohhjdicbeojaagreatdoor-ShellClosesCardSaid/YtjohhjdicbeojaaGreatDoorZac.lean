/- Texts joined: KSb KSc KSe KSd. -/
import Derived.Lib.SmallJoins
import Derived.Lib.AppendIntMem
import Derived.Lib.AtoiAll
import Derived.Lib.AtoiAllCases
import Derived.Outline
import Derived.Lib.ConvBytes
import Derived.Lib.ItoaLen
import Derived.OneCell
import Derived.OwnWalk
import Derived.Maps.AppendAt
import Derived.Laws.OwnMore
import Derived.Test.YtjohhjdicbeojaaGreatDoorZaa
import Derived.Test.YtjohhjdicbeojaaGreatDoorZab
namespace Go.Proofs.YtjohhjdicbeojaaGreatDoor.KSb
open Go.RowKit Go.Proofs.YtjohhjdicbeojaaGreatDoor.KSa
theorem below_drewN {B : Nat} {a w : World} (h : Below B a w) (n : Nat) : Below B a (w.drewN n) := ⟨h.os, h.tape, h.output, h.size, h.block⟩
/-- The closure of Act: is the word the first one? -/
theorem closure_none (f : FormD) (b : Nat) (p : Option Addr) (cap : Nat) (w : World) (hc : w.cell? ⟨b, 0, none⟩ = some (.slice p 0 cap)) :
    Calls Tryz.prog 88 #[formVal f, .pointer (some ⟨b, 0, none⟩)] w fun e w' => e = .returned (.bool false) ∧ Below w.heap.size w w' := by
  have L := block_lt_of_cell hc
  unfold formVal
  go_enter Tryz.func88, Tryz.ntmps88
  go_wp2
  go_quiet (fail)
  go_wp2
  go_ret
  exact ⟨rfl, below_drewN ((Below.refl _ _).alloc (Nat.le_refl _) _) _⟩
theorem closure_some (f : FormD) (b : Nat) (a : Addr) (n cap : Nat) (x : ByteArray) (w : World) (hn : 0 < n) (hc : w.cell? ⟨b, 0, none⟩ = some (.slice (some a) n cap)) (hx : w.cell? a = some (.string x)) :
    Calls Tryz.prog 88 #[formVal f, .pointer (some ⟨b, 0, none⟩)] w fun e w' => e = .returned (.bool (f.word.toList == x.toList)) ∧ Below w.heap.size w w' := by
  have L := block_lt_of_cell hc
  have L2 := block_lt_of_cell hx
  have hn2 : (0 : Int) < n := by omega
  have hn3 : decide ((0 : Int) < n) = true := decide_eq_true hn2
  unfold formVal
  go_enter Tryz.func88, Tryz.ntmps88
  go_wp2
  go_quiet (fail)
  go_wp2
  go_ret
  exact ⟨rfl, below_drewN ((Below.refl _ _).alloc (Nat.le_refl _) _) _⟩
/-- What the search is for: the word, if there is one. -/
def WordIs (w : World) (b : Nat) (x : Option ByteArray) : Prop := match x with
  | none => ∃ p cap, w.cell? ⟨b, 0, none⟩ = some (.slice p 0 cap)
  | some x => ∃ a n cap, 0 < n ∧ w.cell? ⟨b, 0, none⟩ = some (.slice (some a) n cap) ∧ w.cell? a = some (.string x)
def fits (x : Option ByteArray) (f : FormD) : Bool := match x with
  | none => false
  | some x => f.word.toList == x.toList
theorem WordIs.below {w w' : World} {b : Nat} {x : Option ByteArray} (h : WordIs w b x) (hb : Below w.heap.size w w') : WordIs w' b x := by
  cases x with
  | none =>
    obtain ⟨p, cap, hc⟩ := h
    exact ⟨p, cap, (hb.cell (block_lt_of_cell hc)).trans hc⟩
  | some x =>
    obtain ⟨a, n, cap, hn, hc, hx⟩ := h
    exact ⟨a, n, cap, hn, (hb.cell (block_lt_of_cell hc)).trans hc, (hb.cell (block_lt_of_cell hx)).trans hx⟩
theorem closure_c (f : FormD) (b : Nat) (x : Option ByteArray) (w : World) (h : WordIs w b x) :
    Calls Tryz.prog 88 #[formVal f, .pointer (some ⟨b, 0, none⟩)] w fun e w' => e = .returned (.bool (fits x f)) ∧ Below w.heap.size w w' := by
  cases x with
  | none =>
    obtain ⟨p, cap, hc⟩ := h
    exact closure_none f b p cap w hc
  | some x =>
    obtain ⟨a, n, cap, hn, hc, hx⟩ := h
    exact closure_some f b a n cap x w hn hc hx
/-- The first form that fits, from form k on: its index; -1: none. -/
def firstFrom (x : Option ByteArray) : Nat → Nat → Int
  | 0, _ => -1
  | g + 1, k => if fits x (formAt k) then (k : Int) else firstFrom x g (k + 1)
theorem index_c (bf b : Nat) (x : Option ByteArray) (w : World) (hF : FormsAt w bf) (h : WordIs w b x) :
    Calls Tryz.prog 87 #[.slice (some ⟨bf, 0, none⟩) 14 14, .func (.func 88) #[] #[.pointer (some ⟨b, 0, none⟩)]] w fun e w' => e = .returned (.int .i64 (firstFrom x 14 0)) ∧ Below w.heap.size w w' := by
  have HF := Lib.hid hF
  have HW := Lib.hid h
  clear hF h
  go_enter Tryz.func87, Tryz.ntmps87
  go_wp2
  go_loopg [5, 8] 14 (fun gg _ s8 wr => ∃ kk : Nat, kk ≤ 14 ∧ 14 - kk ≤ gg ∧ s8 = .int .i64 kk ∧ firstFrom x 14 0 = firstFrom x (14 - kk) kk ∧ Hid (Below w.heap.size w wr))
  case atStart => exact ⟨0, by omega, by omega, rfl, rfl, Lib.hid (Below.refl _ _)⟩
  case round =>
    obtain ⟨kk, hkk, hgg, rfl, hfi, B⟩ := hrel
    by_cases e : kk < 14
    · have hlt : (kk : Int) < 14 := by omega
      have hF := HF.out.below B.out
      have c1 := hF.word kk e
      have c2 := hF.parts kk e
      have c3 := hF.act kk e
      have c4 := hF.ask kk e
      have L := hF.lt
      have hcl := closure_c (formAt kk) b x wr (HW.out.below B.out)
      unfold formVal at hcl
      have hstep : firstFrom x (14 - kk) kk = if fits x (formAt kk) then (kk : Int) else firstFrom x (14 - (kk + 1)) (kk + 1) := by
        obtain ⟨g, hg⟩ : ∃ g, 14 - kk = g + 1 := ⟨13 - kk, by omega⟩
        rw [hg, show 14 - (kk + 1) = g by omega]
        rfl
      clear hF
      have HFI := Lib.hid hfi
      have HST := Lib.hid hstep
      clear hfi hstep
      generalize hff : fits x (formAt kk) = ff at hcl HST
      generalize (formAt kk).word = fw at c1 hcl
      generalize (formAt kk).parts = fp at c2 hcl
      generalize (formAt kk).act = fa at c3 hcl
      generalize (formAt kk).ask = fk at c4 hcl
      have HFF := Lib.hid hff
      clear hff
      go_wp2_with (go_at_call 88; (with_reducible refine hcl.mono ?_); rintro e w2 ⟨rfl, hb⟩)
      · rename_i ht
        have h1 : (kk : Int) = firstFrom x 14 0 := by rw [HFI.out, HST.out, if_pos ht]
        go_ret
        exact ⟨congrArg (fun z => Ending.returned (Value.int .i64 z)) h1, B.out.trans (hb.mono B.out.size)⟩
      · rename_i ht
        have h1 : firstFrom x 14 0 = firstFrom x (14 - (kk + 1)) (kk + 1) := by rw [HFI.out, HST.out, if_neg (by rw [ht]; exact Bool.false_ne_true)]
        go_roundg (14 - (kk + 1))
        case measure => omega
        case rel => exact ⟨kk + 1, by omega, by omega, by go_num, h1, Lib.hid (B.out.trans (hb.mono B.out.size))⟩
    · have hlt : ¬ (kk : Int) < 14 := by omega
      obtain rfl : kk = 14 := by omega
      have h1 : Hid ((-1 : Int) = firstFrom x 14 0) := Lib.hid hfi.symm
      clear hfi
      go_wp2
      go_ret
      exact ⟨congrArg (fun z => Ending.returned (Value.int .i64 z)) h1.out, B.out⟩
/-- What the statement lists of the library's tables and errors, and what the world's shape gives. -/
structure Env (w : World) : Prop where
  len : ∃ m, w.cell? ⟨1, 0, none⟩ = some (.int .i64 m)
  pow : Lib.TabIs Tryz.prog w "internal/strconv.uint64pow10" .u64 Lib.pow10Tab
  syn : ∃ tp p, w.var? Tryz.prog "strconv.ErrSyntax" = some #[.iface tp p]
  rng : ∃ tp p, w.var? Tryz.prog "strconv.ErrRange" = some #[.iface tp p]
theorem g1 : (Tryz.prog.globalNamed "internal/strconv.uint64pow10").isSome = true := by kernel_rfl
theorem g2 : (Tryz.prog.globalNamed "strconv.ErrSyntax").isSome = true := by kernel_rfl
theorem g3 : (Tryz.prog.globalNamed "strconv.ErrRange").isSome = true := by kernel_rfl
theorem Env.below {w w' : World} (h : Env w) (hb : Below w.heap.size w w') : Env w' := by
  obtain ⟨m, hm⟩ := h.len
  obtain ⟨a1, e1⟩ := Option.isSome_iff_exists.1 g1
  obtain ⟨a2, e2⟩ := Option.isSome_iff_exists.1 g2
  obtain ⟨a3, e3⟩ := Option.isSome_iff_exists.1 g3
  obtain ⟨t1, p1, s1⟩ := h.syn
  obtain ⟨t2, p2, s2⟩ := h.rng
  exact ⟨⟨m, (hb.cell (block_lt_of_cell hm)).trans hm⟩, Joins.tab_stays e1 h.pow hb (Nat.le_refl _), ⟨t1, p1, Joins.var_stays e2 s1 hb (Nat.le_refl _)⟩, ⟨t2, p2, Joins.var_stays e3 s2 hb (Nat.le_refl _)⟩⟩
theorem itoa_c (n : Int) (h0 : -9223372036854775808 ≤ n) (h1 : n ≤ 9223372036854775807) (w : World) (h : Env w) :
    Calls Tryz.prog 15 #[.int .i64 n] w fun e w' => e = .returned (.string ⟨(Lib.itoa n).toArray⟩) ∧ Below w.heap.size w w' := by
  refine (Tryz.strconv_Itoa n h0 h1 w h.pow).mono ?_
  rintro e w' ⟨rfl, k, os, rfl⟩
  exact ⟨rfl, Lib.below_grow _ w (Nat.le_refl _) k os⟩
/-- What Atoi hands back: the number, and whether there is no error. -/
def atoiN (l : List UInt8) : Int := match Lib.atoiAll l with
  | .ok v => v
  | .range => Lib.atoiSat l
  | _ => 0
def atoiE (l : List UInt8) : Bool := match Lib.atoiAll l with
  | .ok _ => true
  | _ => false
/-- The error of Atoi. -/
def ErrIs (b : Bool) (v : Value) : Prop := match b with
  | true => v = .nilIface
  | false => ∃ t p, v = .iface t p
/-- Atoi: a number and an error that is nil just where the word is a numeral of an int. -/
theorem atoi_c (s : ByteArray) (hs : s.size ≤ 281474976710656) (w : World) (h : Env w) :
    Calls Tryz.prog 144 #[.string s] w fun e w' => ∃ v, e = .returned (.tuple #[.int .i64 (atoiN s.data.toList), v]) ∧ ErrIs (atoiE s.data.toList) v ∧ Below w.heap.size w w' := by
  cases hl : Lib.atoiAll s.data.toList
  · rename_i v
    refine (Tryz.strconv_Atoi_ok s (by omega) v hl w).mono ?_
    rintro e w' ⟨rfl, hw⟩
    have en : atoiN s.data.toList = v := by simp only [atoiN, hl]
    have ee : atoiE s.data.toList = true := by simp only [atoiE, hl]
    rw [en, ee]
    refine ⟨_, rfl, rfl, ?_⟩
    rcases hw with rfl | ⟨t, rfl⟩
    · exact Below.refl _ _
    · exact Lib.bytesWorld_below _ _ _
  · obtain ⟨t, p, hv⟩ := h.syn
    refine (Tryz.strconv_Atoi_syntax_var s hs hl t p w hv).mono ?_
    rintro e w' ⟨N, rfl, _, _, hb⟩
    have en : atoiN s.data.toList = 0 := by simp only [atoiN, hl]
    have ee : atoiE s.data.toList = false := by simp only [atoiE, hl]
    rw [en, ee]
    exact ⟨_, rfl, ⟨_, _, rfl⟩, hb⟩
  · obtain ⟨t, p, hv⟩ := h.rng
    refine (Tryz.strconv_Atoi_range_var s hs hl t p w hv).mono ?_
    rintro e w' ⟨N, rfl, _, _, hb⟩
    have en : atoiN s.data.toList = Lib.atoiSat s.data.toList := by simp only [atoiN, hl]
    have ee : atoiE s.data.toList = false := by simp only [atoiE, hl]
    rw [en, ee]
    exact ⟨_, rfl, ⟨_, _, rfl⟩, hb⟩
/-- Is the word the numeral of an int, written as number writes it? -/
def numB (s : ByteArray) : Bool := atoiE s.data.toList && (Lib.itoa (atoiN s.data.toList) == s.toList)
theorem numB_eq (s : ByteArray) : numB s = (atoiE s.data.toList && (Lib.itoa (atoiN s.data.toList) == s.toList)) := rfl
theorem atoiN_bounds (l : List UInt8) : -9223372036854775808 ≤ atoiN l ∧ atoiN l ≤ 9223372036854775807 := by
  unfold atoiN
  split
  · rename_i v hv
    exact Lib.atoiAll_bounds hv
  · unfold Lib.atoiSat
    split <;> omega
  · omega
theorem number_c (s : ByteArray) (hs : s.size ≤ 281474976710656) (w : World) (h : Env w) :
    Calls Tryz.prog 89 #[.string s] w fun e w' => e = .returned (.tuple #[.int .i64 (atoiN s.data.toList), .bool (numB s)]) ∧ Below w.heap.size w w' := by
  have c1 := atoi_c s hs w h
  have H := Lib.hid h
  have B := atoiN_bounds s.data.toList
  have HB := Lib.hid (numB_eq s)
  generalize numB s = nb at HB ⊢
  generalize atoiN s.data.toList = n at c1 B HB ⊢
  have c2 := fun w h => itoa_c n B.1 B.2 w h
  clear h B
  generalize atoiE s.data.toList = ok at c1 HB
  cases ok
  · have e0 := HB.out
    rw [Bool.false_and] at e0
    subst e0
    clear HB
    go_enter Tryz.func89, Tryz.ntmps89
    go_wp2_with (go_at_call 144; (with_reducible refine c1.mono ?_); rintro e w1 ⟨v, rfl, hv, hb⟩; obtain ⟨t, p, rfl⟩ := hv)
    go_ret2
    exact ⟨rfl, hb⟩
  · have e0 := HB.out
    rw [Bool.true_and] at e0
    clear HB
    have E0 := Lib.hid e0
    clear e0
    go_enter Tryz.func89, Tryz.ntmps89
    go_wp2_with (first | (go_at_call 144; (with_reducible refine c1.mono ?_); rintro e w1 ⟨v, rfl, hv, hb⟩; obtain rfl := hv; have H2 := Lib.hid (H.out.below hb); have HBB := Lib.hid hb; clear hb) | (go_at_call 15; (with_reducible refine (c2 _ H2.out).mono ?_); rintro e w2 ⟨rfl, hb2⟩))
    go_ret2
    rw [E0.out]
    exact ⟨rfl, HBB.out.trans (hb2.mono HBB.out.size)⟩
end Go.Proofs.YtjohhjdicbeojaaGreatDoor.KSb
namespace Go.Proofs.YtjohhjdicbeojaaGreatDoor.KSc
open Go.RowKit Go.Proofs.YtjohhjdicbeojaaGreatDoor.KSa Go.Proofs.YtjohhjdicbeojaaGreatDoor.KSb
/-- The digits ahead of the last one. -/
def pre (u : Nat) : List UInt8 := if u < 10 then [] else Lib.decDigits (u / 10)
theorem dec_len (u : Nat) (hu : u ≤ 9223372036854775808) : (Lib.decDigits u).length ≤ 21 := by
  by_cases h0 : u = 0
  · have h : Lib.decDigits u = [UInt8.ofNat (48 + u)] := Lib.decDigits_one (by omega)
    rw [h]
    exact Nat.le_add_left 1 20
  have h := Lib.itoa_length_le (-(u : Int)) (by omega) (by omega)
  rw [Lib.itoa_neg u (by omega), List.length_cons] at h
  omega
end Go.Proofs.YtjohhjdicbeojaaGreatDoor.KSc
namespace Go.Proofs.YtjohhjdicbeojaaGreatDoor.KSe
open Go.RowKit
theorem blk_cell {w : World} {b : Nat} {vs : Array Value} {t : TypeId} (h : w.heap[b]? = some (.cells vs t (0, 0))) (j : Nat) : w.cell? ⟨b, j, none⟩ = vs[j]? := by simp [World.cell?, h]
theorem blk_free {w : World} {b : Nat} {vs : Array Value} {t : TypeId} (h : w.heap[b]? = some (.cells vs t (0, 0))) (j : Nat) : w.frozen? ⟨b, j, none⟩ = false := by simp [World.frozen?, h]
theorem blk_set {w : World} {b : Nat} {vs : Array Value} {t : TypeId} (h : w.heap[b]? = some (.cells vs t (0, 0))) (j : Nat) (u : Value) : (w.setCell ⟨b, j, none⟩ u).heap[b]? = some (.cells (vs.setIfInBounds j u) t (0, 0)) := by
  have hlt := lt_of_block h
  have h' : w.heap[b] = .cells vs t (0, 0) := by simpa [Array.getElem?_eq_getElem hlt] using h
  show (w.heap.modify b _)[b]? = _
  rw [Array.getElem?_eq_getElem (by simpa using hlt), Array.getElem_modify_self, h']
  rfl
theorem blk_set_other {w : World} {b : Nat} {o : Obj} (h : w.heap[b]? = some o) {a : Addr} (hne : b ≠ a.block) (u : Value) : (w.setCell a u).heap[b]? = some o := (Below.heap_setCell w a u b hne).trans h
theorem blk_new (w : World) (vs : Array Value) (t : TypeId) : (w.alloc (.cells vs t)).heap[w.heap.size]? = some (.cells vs t (0, 0)) := heap_alloc_new w _
theorem blk_old {w : World} {b : Nat} {o : Obj} (h : w.heap[b]? = some o) (o' : Obj) : (w.alloc o').heap[b]? = some o := (Below.heap_alloc w o' b (lt_of_block h)).trans h
theorem blk_below {w w' : World} {b B : Nat} {o : Obj} (h : w.heap[b]? = some o) (hb : Below B w w') (hB : b < B) : w'.heap[b]? = some o := (hb.block b hB).trans h
theorem sz_alloc (w : World) (o : Obj) : (w.alloc o).heap.size = w.heap.size + 1 := by simp
theorem sz_set (w : World) (a : Addr) (u : Value) : (w.setCell a u).heap.size = w.heap.size := by simp
end Go.Proofs.YtjohhjdicbeojaaGreatDoor.KSe
namespace Go.Proofs.YtjohhjdicbeojaaGreatDoor.KSd
open Go.RowKit Go.Proofs.YtjohhjdicbeojaaGreatDoor.KSa Go.Proofs.YtjohhjdicbeojaaGreatDoor.KSb Go.Proofs.YtjohhjdicbeojaaGreatDoor.KSe
def hexDigits : ByteArray := ⟨#[48, 49, 50, 51, 52, 53, 54, 55, 56, 57, 97, 98, 99, 100, 101, 102]⟩
def hexIx (c : UInt8) : Int := Lib.indexByte hexDigits.data.toList c
def hexByte (a b : UInt8) : Option UInt8 := if hexIx a < 0 ∨ hexIx b < 0 then none else some (UInt8.ofNat ((hexIx a).toNat * 16 + (hexIx b).toNat))
/-- The bytes that pairs of digits are. -/
def hexL : List UInt8 → Option (List UInt8)
  | [] => some []
  | [_] => none
  | a :: b :: r => match hexByte a b with
    | none => none
    | some c => (hexL r).map (c :: ·)
def unhexL (l : List UInt8) : Option (List UInt8) := if Lib.hasPrefix l [120] then hexL (l.drop 1) else none
def byteVals (l : List UInt8) : List Value := l.map fun b => .int .u8 (b.toNat : Int)
theorem ix_c (c : Int) (w : World) :
    Calls Tryz.prog 146 #[.string hexDigits, .int .u8 c] w fun e w' => e = .returned (.int .i64 (hexIx c.toNat.toUInt8)) ∧ w' = w := Tryz.strings_IndexByte hexDigits c w
theorem hexIx_le (c : UInt8) : -1 ≤ hexIx c ∧ hexIx c < 16 := ⟨Lib.indexByte_ge _ _, by
  have key : ∀ l : List UInt8, Lib.indexByte l c < (l.length : Int) ∨ Lib.indexByte l c = -1 := by
    intro l
    induction l with
    | nil => exact Or.inr rfl
    | cons b l ih =>
      unfold Lib.indexByte
      split
      · left
        simp only [List.length_cons]
        omega
      · split
        · exact Or.inr rfl
        · simp only [List.length_cons]
          rename_i h2
          rcases ih with h | h
          · left
            omega
          · rw [h] at h2
            exact absurd rfl h2
  have h := key hexDigits.data.toList
  have e : (hexDigits.data.toList.length : Int) = 16 := rfl
  rw [e] at h
  unfold hexIx
  omega⟩
theorem or_fin : ∀ x : Fin 16, ∀ y : Fin 16, bits .or .i64 ((x.val : Int) * 16) (y.val : Int) % 256 = ((x.val * 16 + y.val : Nat) : Int) := by decide +kernel
theorem byteVals_snoc (l : List UInt8) (b : UInt8) : byteVals (l ++ [b]) = byteVals l ++ [.int .u8 (b.toNat : Int)] := by
  unfold byteVals
  rw [List.map_append]
  rfl
/-- Where the loop is: k pairs are read. -/
def HexAt (r done : List UInt8) (k : Nat) : Prop := hexL r = (hexL (r.drop (2 * k))).map (done ++ ·)
theorem hexAt_zero (r : List UInt8) : HexAt r [] 0 := by
  unfold HexAt
  rw [Nat.mul_zero, List.drop_zero]
  cases hexL r <;> rfl
theorem drop_two (r : List UInt8) (k : Nat) (h : 2 * k + 1 < r.length) : r.drop (2 * k) = r.getD (2 * k) 0 :: r.getD (2 * k + 1) 0 :: r.drop (2 * (k + 1)) := by
  rw [List.drop_eq_getElem_cons (by omega : 2 * k < r.length), List.drop_eq_getElem_cons (by omega : 2 * k + 1 < r.length)]
  simp [List.getD_eq_getElem?_getD, h, (by omega : 2 * k < r.length), Nat.mul_add]
theorem hex_bad {r done : List UInt8} {k : Nat} (h : HexAt r done k) (hk : 2 * k + 1 < r.length) (hb : hexByte (r.getD (2 * k) 0) (r.getD (2 * k + 1) 0) = none) : hexL r = none := by
  unfold HexAt at h
  rw [h, drop_two r k hk]
  unfold hexL
  rw [hb]
  rfl
theorem hex_next {r done : List UInt8} {k : Nat} {c : UInt8} (h : HexAt r done k) (hk : 2 * k + 1 < r.length) (hb : hexByte (r.getD (2 * k) 0) (r.getD (2 * k + 1) 0) = some c) : HexAt r (done ++ [c]) (k + 1) := by
  unfold HexAt at h ⊢
  rw [h, drop_two r k hk]
  rw [show hexL (r.getD (2 * k) 0 :: r.getD (2 * k + 1) 0 :: r.drop (2 * (k + 1))) = (hexL (r.drop (2 * (k + 1)))).map (c :: ·) by
    rw [hexL.eq_3, hb]]
  cases hexL (r.drop (2 * (k + 1))) with
  | none => rfl
  | some x => simp
theorem hex_end {r done : List UInt8} {k : Nat} (h : HexAt r done k) (hk : 2 * k = r.length) : hexL r = some done := by
  unfold HexAt at h
  rw [h, hk, List.drop_length]
  simp [hexL]
theorem hexL_odd : ∀ (n : Nat) (r : List UInt8), r.length ≤ n → r.length % 2 ≠ 0 → hexL r = none
  | 0, r, hn, h => absurd (by rw [Nat.le_zero.1 hn]) h
  | n + 1, [], _, h => absurd rfl h
  | n + 1, [_], _, _ => rfl
  | n + 1, a :: b :: r, hn, h => by
    have := hexL_odd n r (by simp at hn; omega) (by simp at h; omega)
    unfold hexL
    split
    · rfl
    · rw [this]; rfl
theorem byte_at (r : ByteArray) (i : Nat) (h : i < r.size) (b : UInt8) (hb : b = r.data.toList.getD i 0) : hexIx (((r[i]'h).toNat : Int).toNat.toUInt8) = hexIx b := by
  have e : r[i]'h = b := by
    rw [hb]
    have h2 : i < r.data.toList.length := by rw [Array.length_toList]; exact h
    rw [List.getD_eq_getElem?_getD, List.getElem?_eq_getElem h2]
    rfl
  rw [e, Int.toNat_natCast]
  congr 1
  exact UInt8.ofNat_toNat
theorem info5 : (Tryz.prog.info? 5).map (fun i => (i.zero, i.size, i.bytes)) = some (some (.int .u8 0), 1, 1) := by kernel_rfl
set_option maxRecDepth 100000 in
theorem unhex_c (s : ByteArray) (hs : s.size ≤ 281474976710656) (w : World) :
    Calls Tryz.prog 90 #[.string s] w fun e w' => ∃ v, e = .returned (.tuple #[v, .bool (unhexL s.data.toList).isSome]) ∧ w'.ownsRow w.heap.size 5 1 v ((unhexL s.data.toList).getD []).length (byteVals ((unhexL s.data.toList).getD [])) ∧ Below w.heap.size w w' := by
  have hcp := Tryz.strings_CutPrefix s ⟨#[120]⟩ w
  by_cases hp : Lib.hasPrefix s.data.toList [120] = true
  · obtain ⟨r, hr⟩ : ∃ r : ByteArray, r = ⟨(s.data.toList.drop 1).toArray⟩ := ⟨_, rfl⟩
    have hcp2 : Calls Tryz.prog 145 #[.string s, .string ⟨#[120]⟩] w fun e w' => e = .returned (.tuple #[.string r, .bool true]) ∧ w' = w := by
      have e1 : Lib.trimPrefix s.data.toList [120] = s.data.toList.drop 1 := by unfold Lib.trimPrefix; rw [if_pos hp]; rfl
      have e2 : ((⟨#[120]⟩ : ByteArray).data.toList) = [120] := rfl
      rw [e2, hp, e1, ← hr] at hcp
      exact hcp
    have hu : unhexL s.data.toList = hexL r.data.toList := by
      unfold unhexL
      rw [if_pos hp, hr]
    have hrs : r.size ≤ 281474976710656 := by
      rw [hr]
      have : (⟨(s.data.toList.drop 1).toArray⟩ : ByteArray).size = s.size - 1 := by
        show (s.data.toList.drop 1).toArray.size = s.size - 1
        simp
      omega
    have hrl : r.data.toList.length = r.size := by rw [Array.length_toList]; rfl
    rw [hu]
    clear hcp hr hu
    by_cases hodd : r.size % 2 = 0
    · have HODD := Lib.hid hodd
      have e0 : ¬ ((r.size : Int) % 2 ≠ 0) := by omega
      clear hodd
      go_enter Tryz.func90, Tryz.ntmps90
      go_wp2_with (go_at_call 145; (with_reducible refine hcp2.mono ?_); rintro e w1 ⟨rfl, rfl⟩)
      clear e0
      rename_i hpar _ _
      have HPAR := Lib.hid hpar
      clear hpar
      obtain ⟨i5, hi5, hz0, hz1, hz2⟩ := info_parts info5
      have HZ0 := Lib.hid hz0
      have HZ1 := Lib.hid hz1
      have HZ2 := Lib.hid hz2
      have HI5 := Lib.hid hi5
      clear hz0 hz1 hz2 hi5
      have O0 : Hid (w1.ownsRow w1.heap.size 5 1 (.slice none 0 0) 0 (byteVals [])) := Lib.hid ⟨rfl, Or.inl ⟨rfl, rfl⟩⟩
      go_loopg [5, 6] (r.size + 1) (fun gg s5 s6 wr => ∃ (k : Nat) (done : List UInt8), 2 * k ≤ r.size ∧ r.size - 2 * k < gg ∧ s6 = .int .i64 ((2 * k : Nat) : Int) ∧ Hid (HexAt r.data.toList done k) ∧ Hid (done.length = k) ∧ Hid (wr.ownsRow w1.heap.size 5 1 s5 k (byteVals done)) ∧ Hid (Below w1.heap.size w1 wr))
      case atStart => exact ⟨0, [], by omega, by omega, rfl, Lib.hid (hexAt_zero _), Lib.hid rfl, O0, Lib.hid (Below.refl _ _)⟩
      case round =>
        obtain ⟨k, done, hk, hgg, rfl, HA, HD, OW, BR⟩ := hrel
        by_cases e : 2 * k < r.size
        · obtain ⟨i, hi⟩ : ∃ i : Nat, i = 2 * k := ⟨_, rfl⟩
          obtain ⟨j, hj⟩ : ∃ j : Nat, j = 2 * k + 1 := ⟨_, rfl⟩
          have hk1 : 2 * k + 1 < r.data.toList.length := by have := HODD.out; omega
          have hlt : (i : Int) < (r.size : Int) := by omega
          have hlt2 : (j : Int) < (r.size : Int) := by omega
          have hadd : (i : Int) + 1 = (j : Int) := by omega
          rw [← hi]
          obtain ⟨ba, hba⟩ : ∃ ba : UInt8, ba = r.data.toList.getD i 0 := ⟨_, rfl⟩
          obtain ⟨bb, hbb⟩ : ∃ bb : UInt8, bb = r.data.toList.getD j 0 := ⟨_, rfl⟩
          have hba2 : r.data.toList.getD ((i : Int).toNat) 0 = ba := by rw [Int.toNat_natCast]; exact hba.symm
          have hbb2 : r.data.toList.getD ((j : Int).toNat) 0 = bb := by rw [Int.toNat_natCast]; exact hbb.symm
          have HBA := Lib.hid hba
          have HBB := Lib.hid hbb
          have HI := Lib.hid hi
          have HJ := Lib.hid hj
          clear hba hbb hi hj
          go_wp2
          go_quiet (first | (go_at_call 146; refine Calls.quiet_of_same (ix_c _ _)))
          rw [byte_at r i (by omega) ba HBA.out, byte_at r j (by omega) bb HBB.out]
          have hx := hexIx_le ba
          have hy := hexIx_le bb
          have hby : ∀ x, x = hexByte ba bb → x = if hexIx ba < 0 ∨ hexIx bb < 0 then none else some (UInt8.ofNat ((hexIx ba).toNat * 16 + (hexIx bb).toNat)) := fun x h => h
          have HBY := Lib.hid hby
          clear hby hba2 hbb2
          generalize hexIx ba = x at hx HBY ⊢
          generalize hexIx bb = y at hy HBY ⊢
          by_cases hx0 : x < 0
          · have hn : hexByte ba bb = none := (HBY.out _ rfl).trans (if_pos (Or.inl hx0))
            have hno := hex_bad HA.out hk1 (by rw [← HJ.out, ← HI.out, ← HBA.out, ← HBB.out]; exact hn)
            have HNO := Lib.hid hno
            clear hno hn
            go_wp2
            go_ret2
            rw [HNO.out]
            exact ⟨_, rfl, ⟨rfl, Or.inl ⟨rfl, rfl⟩⟩, below_drewN BR.out _⟩
          · by_cases hy0 : y < 0
            · have hn : hexByte ba bb = none := (HBY.out _ rfl).trans (if_pos (Or.inr hy0))
              have hno := hex_bad HA.out hk1 (by rw [← HJ.out, ← HI.out, ← HBA.out, ← HBB.out]; exact hn)
              have HNO := Lib.hid hno
              clear hno hn
              go_wp2
              go_ret2
              rw [HNO.out]
              exact ⟨_, rfl, ⟨rfl, Or.inl ⟨rfl, rfl⟩⟩, below_drewN BR.out _⟩
            · obtain ⟨xn, rfl⟩ : ∃ xn : Nat, x = (xn : Int) := ⟨x.toNat, by omega⟩
              obtain ⟨yn, rfl⟩ : ∃ yn : Nat, y = (yn : Int) := ⟨y.toNat, by omega⟩
              have hn : hexByte ba bb = some (UInt8.ofNat (xn * 16 + yn)) := (HBY.out _ rfl).trans (if_neg (by omega))
              clear HBY
              have hnx := hex_next HA.out hk1 (by rw [← HJ.out, ← HI.out, ← HBA.out, ← HBB.out]; exact hn)
              have HNX := Lib.hid hnx
              clear hnx hn
              have hxl : xn < 16 := by omega
              have hyl : yn < 16 := by omega
              have own2 : Hid ((wr.drewN nq).ownsRow w1.heap.size 5 1 u5 k (byteVals done)) := Lib.hid OW.out
              generalize hw2 : wr.drewN nq = w2 at own2 ⊢
              have HW2 := Lib.hid hw2
              clear hw2
              have hor : bits .or .i64 ((xn : Int) * 16) (yn : Int) % 256 = ((xn * 16 + yn : Nat) : Int) := or_fin ⟨xn, hxl⟩ ⟨yn, hyl⟩
              have hcb : ((UInt8.ofNat (xn * 16 + yn)).toNat) = xn * 16 + yn := by
                rw [UInt8.toNat_ofNat']
                omega
              have hbv := byteVals_snoc done (UInt8.ofNat (xn * 16 + yn))
              rw [hcb, Int.natCast_add, Int.natCast_mul] at hbv
              have HBV := Lib.hid hbv
              clear hbv hcb
              have hz0 := HZ0.out
              have hz1 := HZ1.out
              have hz2 := HZ2.out
              have hi5 := HI5.out
              have hB : Hid (w1.heap.size ≤ w2.heap.size) := Lib.hid (by have := HW2.out; subst this; exact BR.out.size)
              have hkk : (k + 1) * 1 ≤ 140737488355328 := by omega
              have hml : k + 1 ≤ maxLen := by simp only [maxLen]; omega
              clear hz0 hz1 hz2 hi5
              go_wp2_with (at_builtin; go_loud (refine wpList_append_own _ rfl _ _ 22 rfl w1.heap.size 5 i5 (.int .u8 0) 1 1 Tryz.underlying22 HI5.out HZ0.out HZ1.out HZ2.out rfl (by decide) _ k (byteVals done) rfl (own2.out.alloc _) ⟨w2.heap.size, 0, none⟩ 1 1 [.int .u8 ((xn : Int) * 16 + (yn : Int))] rfl rfl (cell_one_new _ _ _) (by simp [Value.oneCell']) hml hkk (by rw [sz_alloc]; exact Nat.le_succ_of_le hB.out) ?_))
              intro v' w3 hown' hgrow _; have HOW := Lib.hid hown'; have HGR := Lib.hid hgrow; clear hown' hgrow
              have BR3 : Hid (Below w1.heap.size w1 w3) := by
                have b2 : Below w1.heap.size w1 w2 := by have := HW2.out; subst this; exact below_drewN BR.out _
                have hr : ∀ q, u5.ownBlock = some q → w1.heap.size ≤ q := fun q hq => (own2.out.lt q hq).1
                exact Lib.hid ((b2.alloc hB.out _).grown HGR.out (by rw [sz_alloc]; exact Nat.le_succ_of_le hB.out) hr)
              have HOW2 : Hid (w3.ownsRow w1.heap.size 5 1 v' (k + 1) (byteVals (done ++ [UInt8.ofNat (xn * 16 + yn)]))) := Lib.hid (by rw [HBV.out]; exact HOW.out)
              go_wp2
              go_roundg (r.size - 2 * (k + 1) + 1)
              case measure => have := HODD.out; omega
              case rel => exact ⟨k + 1, done ++ [UInt8.ofNat (xn * 16 + yn)], by omega, by omega, by have := HI.out; congr 1; omega, HNX, Lib.hid (by rw [List.length_append, HD.out]; rfl), HOW2, BR3⟩
        · have hlt : ¬ (((2 * k : Nat) : Int) < (r.size : Int)) := by omega
          have hend := hex_end HA.out (by omega)
          have HE := Lib.hid hend
          clear hend
          go_wp2
          go_ret2
          rw [HE.out]
          exact ⟨_, rfl, by rw [Option.getD_some, HD.out]; exact OW.out, BR.out⟩
    · have hno : hexL r.data.toList = none := hexL_odd _ _ (Nat.le_refl _) (by rw [hrl]; exact hodd)
      rw [hno]
      have e0 : ((r.size : Int) % 2 ≠ 0) := by omega
      go_enter Tryz.func90, Tryz.ntmps90
      go_wp2_with (go_at_call 145; (with_reducible refine hcp2.mono ?_); rintro e w1 ⟨rfl, rfl⟩)
      go_ret2
      exact ⟨_, rfl, ⟨rfl, Or.inl ⟨rfl, rfl⟩⟩, Below.refl _ _⟩
  · have hn : unhexL s.data.toList = none := if_neg hp
    have hp2 := Bool.eq_false_iff.2 hp
    have e2 : ((⟨#[120]⟩ : ByteArray).data.toList) = [120] := rfl
    rw [e2, hp2] at hcp
    rw [hn]
    generalize (⟨(Lib.trimPrefix s.data.toList [120]).toArray⟩ : ByteArray) = tp at hcp
    go_enter Tryz.func90, Tryz.ntmps90
    go_wp2_with (go_at_call 145; (with_reducible refine hcp.mono ?_); rintro e w1 ⟨rfl, rfl⟩)
    go_ret2
    exact ⟨_, rfl, ⟨rfl, Or.inl ⟨rfl, rfl⟩⟩, Below.refl _ _⟩
end Go.Proofs.YtjohhjdicbeojaaGreatDoor.KSd
