/- The walks of the search for a word, of number, and of the law's own number. What is asked of the world: the tables and errors of the library that the statement lists. -/
import Derived.Test.YtbnbnccpoeopmaaDoorSa
import Derived.Test.YtbnbnccpoeopmaaDoorShelf
import Derived.Lib.SmallJoins
import Derived.Lib.AppendIntMem
import Derived.Lib.AtoiAll
import Derived.Lib.AtoiAllCases
import Derived.Outline
namespace Go.Proofs.YtbnbnccpoeopmaaDoor.Sb
open Go.RowKit Go.Proofs.YtbnbnccpoeopmaaDoor.Sa

theorem below_drewN {B : Nat} {a w : World} (h : Below B a w) (n : Nat) : Below B a (w.drewN n) := ⟨h.os, h.tape, h.output, h.size, h.block⟩

/-- The closure of Act: is the word the first one? -/
theorem closure_none (f : FormD) (b : Nat) (p : Option Addr) (cap : Nat) (w : World) (hc : w.cell? ⟨b, 0, none⟩ = some (.slice p 0 cap)) :
    Calls Tryd.prog 25 #[formVal f, .pointer (some ⟨b, 0, none⟩)] w fun e w' => e = .returned (.bool false) ∧ Below w.heap.size w w' := by
  have L := block_lt_of_cell hc
  unfold formVal
  go_enter Tryd.func25, Tryd.ntmps25
  go_wp2
  go_quiet (fail)
  go_wp2
  go_ret
  exact ⟨rfl, below_drewN ((Below.refl _ _).alloc (Nat.le_refl _) _) _⟩

theorem closure_some (f : FormD) (b : Nat) (a : Addr) (n cap : Nat) (x : ByteArray) (w : World) (hn : 0 < n) (hc : w.cell? ⟨b, 0, none⟩ = some (.slice (some a) n cap)) (hx : w.cell? a = some (.string x)) :
    Calls Tryd.prog 25 #[formVal f, .pointer (some ⟨b, 0, none⟩)] w fun e w' => e = .returned (.bool (f.word.toList == x.toList)) ∧ Below w.heap.size w w' := by
  have L := block_lt_of_cell hc
  have L2 := block_lt_of_cell hx
  have hn2 : (0 : Int) < n := by omega
  have hn3 : decide ((0 : Int) < n) = true := decide_eq_true hn2
  unfold formVal
  go_enter Tryd.func25, Tryd.ntmps25
  go_wp2
  go_quiet (fail)
  go_wp2
  go_ret
  exact ⟨rfl, below_drewN ((Below.refl _ _).alloc (Nat.le_refl _) _) _⟩

/-- What the search is for: the word, if there is one. -/
def WordIs (w : World) (b : Nat) (x : Option ByteArray) : Prop := match x with
  | none => ∃ p cap, w.cell? ⟨b, 0, none⟩ = some (.slice p 0 cap)
  | some x => ∃ a n cap, 0 < n ∧ w.cell? ⟨b, 0, none⟩ = some (.slice (some a) n cap) ∧ w.cell? a = some (.string x)

def fits (x : Option ByteArray) (f : FormD) : Bool := match x with
  | none => false
  | some x => f.word.toList == x.toList

theorem WordIs.below {w w' : World} {b : Nat} {x : Option ByteArray} (h : WordIs w b x) (hb : Below w.heap.size w w') : WordIs w' b x := by
  cases x with
  | none =>
    obtain ⟨p, cap, hc⟩ := h
    exact ⟨p, cap, (hb.cell (block_lt_of_cell hc)).trans hc⟩
  | some x =>
    obtain ⟨a, n, cap, hn, hc, hx⟩ := h
    exact ⟨a, n, cap, hn, (hb.cell (block_lt_of_cell hc)).trans hc, (hb.cell (block_lt_of_cell hx)).trans hx⟩

theorem closure_c (f : FormD) (b : Nat) (x : Option ByteArray) (w : World) (h : WordIs w b x) :
    Calls Tryd.prog 25 #[formVal f, .pointer (some ⟨b, 0, none⟩)] w fun e w' => e = .returned (.bool (fits x f)) ∧ Below w.heap.size w w' := by
  cases x with
  | none =>
    obtain ⟨p, cap, hc⟩ := h
    exact closure_none f b p cap w hc
  | some x =>
    obtain ⟨a, n, cap, hn, hc, hx⟩ := h
    exact closure_some f b a n cap x w hn hc hx

/-- The first form that fits, from form k on: its index; -1: none. -/
def firstFrom (x : Option ByteArray) : Nat → Nat → Int
  | 0, _ => -1
  | g + 1, k => if fits x (formAt k) then (k : Int) else firstFrom x g (k + 1)

theorem index_c (bf b : Nat) (x : Option ByteArray) (w : World) (hF : FormsAt w bf) (h : WordIs w b x) :
    Calls Tryd.prog 23 #[.slice (some ⟨bf, 0, none⟩) 14 14, .func (.func 25) #[] #[.pointer (some ⟨b, 0, none⟩)]] w fun e w' => e = .returned (.int .i64 (firstFrom x 14 0)) ∧ Below w.heap.size w w' := by
  have HF := Lib.hid hF
  have HW := Lib.hid h
  clear hF h
  go_enter Tryd.func23, Tryd.ntmps23
  go_wp2
  go_loopg [5, 8] 14 (fun gg _ s8 wr => ∃ kk : Nat, kk ≤ 14 ∧ 14 - kk ≤ gg ∧ s8 = .int .i64 kk ∧ firstFrom x 14 0 = firstFrom x (14 - kk) kk ∧ Hid (Below w.heap.size w wr))
  case atStart => exact ⟨0, by omega, by omega, rfl, rfl, Lib.hid (Below.refl _ _)⟩
  case round =>
    obtain ⟨kk, hkk, hgg, rfl, hfi, B⟩ := hrel
    by_cases e : kk < 14
    · have hlt : (kk : Int) < 14 := by omega
      have hF := HF.out.below B.out
      have c1 := hF.word kk e
      have c2 := hF.parts kk e
      have c3 := hF.act kk e
      have c4 := hF.ask kk e
      have L := hF.lt
      have hcl := closure_c (formAt kk) b x wr (HW.out.below B.out)
      unfold formVal at hcl
      have hstep : firstFrom x (14 - kk) kk = if fits x (formAt kk) then (kk : Int) else firstFrom x (14 - (kk + 1)) (kk + 1) := by
        obtain ⟨g, hg⟩ : ∃ g, 14 - kk = g + 1 := ⟨13 - kk, by omega⟩
        rw [hg, show 14 - (kk + 1) = g by omega]
        rfl
      clear hF
      have HFI := Lib.hid hfi
      have HST := Lib.hid hstep
      clear hfi hstep
      generalize hff : fits x (formAt kk) = ff at hcl HST
      generalize (formAt kk).word = fw at c1 hcl
      generalize (formAt kk).parts = fp at c2 hcl
      generalize (formAt kk).act = fa at c3 hcl
      generalize (formAt kk).ask = fk at c4 hcl
      have HFF := Lib.hid hff
      clear hff
      go_wp2_with (go_at_call 25; (with_reducible refine hcl.mono ?_); rintro e w2 ⟨rfl, hb⟩)
      · rename_i ht
        have h1 : (kk : Int) = firstFrom x 14 0 := by rw [HFI.out, HST.out, if_pos ht]
        go_ret
        exact ⟨congrArg (fun z => Ending.returned (Value.int .i64 z)) h1, B.out.trans (hb.mono B.out.size)⟩
      · rename_i ht
        have h1 : firstFrom x 14 0 = firstFrom x (14 - (kk + 1)) (kk + 1) := by rw [HFI.out, HST.out, if_neg (by rw [ht]; exact Bool.false_ne_true)]
        go_roundg (14 - (kk + 1))
        case measure => omega
        case rel => exact ⟨kk + 1, by omega, by omega, by go_num, h1, Lib.hid (B.out.trans (hb.mono B.out.size))⟩
    · have hlt : ¬ (kk : Int) < 14 := by omega
      obtain rfl : kk = 14 := by omega
      have h1 : Hid ((-1 : Int) = firstFrom x 14 0) := Lib.hid hfi.symm
      clear hfi
      go_wp2
      go_ret
      exact ⟨congrArg (fun z => Ending.returned (Value.int .i64 z)) h1.out, B.out⟩

/-- What the statement lists of the library's tables and errors, and what the world's shape gives. -/
structure Env (w : World) : Prop where
  len : ∃ m, w.cell? ⟨0, 0, none⟩ = some (.int .i64 m)
  pow : Lib.TabIs Tryd.prog w "internal/strconv.uint64pow10" .u64 Lib.pow10Tab
  syn : ∃ tp p, w.var? Tryd.prog "strconv.ErrSyntax" = some #[.iface tp p]
  rng : ∃ tp p, w.var? Tryd.prog "strconv.ErrRange" = some #[.iface tp p]

theorem g1 : (Tryd.prog.globalNamed "internal/strconv.uint64pow10").isSome = true := by kernel_rfl
theorem g2 : (Tryd.prog.globalNamed "strconv.ErrSyntax").isSome = true := by kernel_rfl
theorem g3 : (Tryd.prog.globalNamed "strconv.ErrRange").isSome = true := by kernel_rfl

theorem Env.below {w w' : World} (h : Env w) (hb : Below w.heap.size w w') : Env w' := by
  obtain ⟨m, hm⟩ := h.len
  obtain ⟨a1, e1⟩ := Option.isSome_iff_exists.1 g1
  obtain ⟨a2, e2⟩ := Option.isSome_iff_exists.1 g2
  obtain ⟨a3, e3⟩ := Option.isSome_iff_exists.1 g3
  obtain ⟨t1, p1, s1⟩ := h.syn
  obtain ⟨t2, p2, s2⟩ := h.rng
  exact ⟨⟨m, (hb.cell (block_lt_of_cell hm)).trans hm⟩, Joins.tab_stays e1 h.pow hb (Nat.le_refl _), ⟨t1, p1, Joins.var_stays e2 s1 hb (Nat.le_refl _)⟩, ⟨t2, p2, Joins.var_stays e3 s2 hb (Nat.le_refl _)⟩⟩

theorem itoa_c (n : Int) (h0 : -9223372036854775808 ≤ n) (h1 : n ≤ 9223372036854775807) (w : World) (h : Env w) :
    Calls Tryd.prog 18 #[.int .i64 n] w fun e w' => e = .returned (.string ⟨(Lib.itoa n).toArray⟩) ∧ Below w.heap.size w w' := by
  refine (Tryd.strconv_Itoa n h0 h1 w h.pow).mono ?_
  rintro e w' ⟨rfl, k, os, rfl⟩
  exact ⟨rfl, Lib.below_grow _ w (Nat.le_refl _) k os⟩

/-- What Atoi hands back: the number, and whether there is no error. -/
def atoiN (l : List UInt8) : Int := match Lib.atoiAll l with
  | .ok v => v
  | .range => Lib.atoiSat l
  | _ => 0
def atoiE (l : List UInt8) : Bool := match Lib.atoiAll l with
  | .ok _ => true
  | _ => false

/-- The error of Atoi. -/
def ErrIs (b : Bool) (v : Value) : Prop := match b with
  | true => v = .nilIface
  | false => ∃ t p, v = .iface t p

/-- Atoi: a number and an error that is nil just where the word is a numeral of an int. -/
theorem atoi_c (s : ByteArray) (hs : s.size ≤ 281474976710656) (w : World) (h : Env w) :
    Calls Tryd.prog 38 #[.string s] w fun e w' => ∃ v, e = .returned (.tuple #[.int .i64 (atoiN s.data.toList), v]) ∧ ErrIs (atoiE s.data.toList) v ∧ Below w.heap.size w w' := by
  cases hl : Lib.atoiAll s.data.toList
  · rename_i v
    refine (Tryd.strconv_Atoi_ok s (by omega) v hl w).mono ?_
    rintro e w' ⟨rfl, hw⟩
    have en : atoiN s.data.toList = v := by simp only [atoiN, hl]
    have ee : atoiE s.data.toList = true := by simp only [atoiE, hl]
    rw [en, ee]
    refine ⟨_, rfl, rfl, ?_⟩
    rcases hw with rfl | ⟨t, rfl⟩
    · exact Below.refl _ _
    · exact Lib.bytesWorld_below _ _ _
  · obtain ⟨t, p, hv⟩ := h.syn
    refine (Tryd.strconv_Atoi_syntax_var s hs hl t p w hv).mono ?_
    rintro e w' ⟨N, rfl, _, _, hb⟩
    have en : atoiN s.data.toList = 0 := by simp only [atoiN, hl]
    have ee : atoiE s.data.toList = false := by simp only [atoiE, hl]
    rw [en, ee]
    exact ⟨_, rfl, ⟨_, _, rfl⟩, hb⟩
  · obtain ⟨t, p, hv⟩ := h.rng
    refine (Tryd.strconv_Atoi_range_var s hs hl t p w hv).mono ?_
    rintro e w' ⟨N, rfl, _, _, hb⟩
    have en : atoiN s.data.toList = Lib.atoiSat s.data.toList := by simp only [atoiN, hl]
    have ee : atoiE s.data.toList = false := by simp only [atoiE, hl]
    rw [en, ee]
    exact ⟨_, rfl, ⟨_, _, rfl⟩, hb⟩

/-- Is the word the numeral of an int, written as number writes it? -/
def numB (s : ByteArray) : Bool := atoiE s.data.toList && (Lib.itoa (atoiN s.data.toList) == s.toList)

theorem numB_eq (s : ByteArray) : numB s = (atoiE s.data.toList && (Lib.itoa (atoiN s.data.toList) == s.toList)) := rfl

theorem atoiN_bounds (l : List UInt8) : -9223372036854775808 ≤ atoiN l ∧ atoiN l ≤ 9223372036854775807 := by
  unfold atoiN
  split
  · rename_i v hv
    exact Lib.atoiAll_bounds hv
  · unfold Lib.atoiSat
    split <;> omega
  · omega

theorem number_c (s : ByteArray) (hs : s.size ≤ 281474976710656) (w : World) (h : Env w) :
    Calls Tryd.prog 26 #[.string s] w fun e w' => e = .returned (.tuple #[.int .i64 (atoiN s.data.toList), .bool (numB s)]) ∧ Below w.heap.size w w' := by
  have c1 := atoi_c s hs w h
  have H := Lib.hid h
  have B := atoiN_bounds s.data.toList
  have HB := Lib.hid (numB_eq s)
  generalize numB s = nb at HB ⊢
  generalize atoiN s.data.toList = n at c1 B HB ⊢
  have c2 := fun w h => itoa_c n B.1 B.2 w h
  clear h B
  generalize atoiE s.data.toList = ok at c1 HB
  cases ok
  · have e0 := HB.out
    rw [Bool.false_and] at e0
    subst e0
    clear HB
    go_enter Tryd.func26, Tryd.ntmps26
    go_wp2_with (go_at_call 38; (with_reducible refine c1.mono ?_); rintro e w1 ⟨v, rfl, hv, hb⟩; obtain ⟨t, p, rfl⟩ := hv)
    go_ret2
    exact ⟨rfl, hb⟩
  · have e0 := HB.out
    rw [Bool.true_and] at e0
    clear HB
    have E0 := Lib.hid e0
    clear e0
    go_enter Tryd.func26, Tryd.ntmps26
    go_wp2_with (first | (go_at_call 38; (with_reducible refine c1.mono ?_); rintro e w1 ⟨v, rfl, hv, hb⟩; obtain rfl := hv; have H2 := Lib.hid (H.out.below hb); have HBB := Lib.hid hb; clear hb) | (go_at_call 18; (with_reducible refine (c2 _ H2.out).mono ?_); rintro e w2 ⟨rfl, hb2⟩))
    go_ret2
    rw [E0.out]
    exact ⟨rfl, HBB.out.trans (hb2.mono HBB.out.size)⟩

end Go.Proofs.YtbnbnccpoeopmaaDoor.Sb
