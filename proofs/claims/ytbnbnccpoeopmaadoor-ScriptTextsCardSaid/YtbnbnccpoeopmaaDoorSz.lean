/- The walk of ScriptFinds. -/
import Derived.Test.YtbnbnccpoeopmaaDoorSy
import Derived.Deep.CutBlock
import Derived.StillTailTactics
namespace Go.Proofs.YtbnbnccpoeopmaaDoor.Sz
open Go.RowKit Go.Proofs.YtbnbnccpoeopmaaDoor.Sa Go.Proofs.YtbnbnccpoeopmaaDoor.Sb Go.Proofs.YtbnbnccpoeopmaaDoor.Sc Go.Proofs.YtbnbnccpoeopmaaDoor.Sd Go.Proofs.YtbnbnccpoeopmaaDoor.Se Go.Proofs.YtbnbnccpoeopmaaDoor.Sf Go.Proofs.YtbnbnccpoeopmaaDoor.Sg Go.Proofs.YtbnbnccpoeopmaaDoor.Sh Go.Proofs.YtbnbnccpoeopmaaDoor.Sj Go.Proofs.YtbnbnccpoeopmaaDoor.Sk Go.Proofs.YtbnbnccpoeopmaaDoor.Sp Go.Proofs.YtbnbnccpoeopmaaDoor.Sq Go.Proofs.YtbnbnccpoeopmaaDoor.Sr Go.Proofs.YtbnbnccpoeopmaaDoor.Su Go.Proofs.YtbnbnccpoeopmaaDoor.Sw Go.Proofs.YtbnbnccpoeopmaaDoor.Sx Go.Proofs.YtbnbnccpoeopmaaDoor.Sy

theorem acts_big (s : ByteArray) (hs : 65536 < s.size) (w : World) :
    Calls Tryd.prog 16 #[.string s] w fun e w' => e = .returned (.tuple #[.slice none 0 0, .int .i64 0, .int .i64 7]) ∧ Below w.heap.size w w' := by
  have hl : (65536 : Int) < (s.size : Int) := by omega
  go_enter Tryd.func16, Tryd.ntmps16
  go_wp2
  go_ret3
  exact ⟨rfl, Below.refl _ _⟩

/-- No newline ahead of place e, from place k on: how the line is cut. -/
theorem cutL_pre : ∀ (a b : List UInt8), 10 ∉ a → cutL (a ++ b) = (a ++ (cutL b).1, (cutL b).2.1, (cutL b).2.2)
  | [], b, _ => rfl
  | c :: a, b, h => by
    have hc : ¬ c = 10 := fun e => h (by rw [e]; exact List.mem_cons_self ..)
    have ih := cutL_pre a b (fun e => h (List.mem_cons_of_mem _ e))
    show cutL (c :: (a ++ b)) = _
    rw [cutL.eq_2, if_neg hc, ih]
    rfl

/-- The piece from place k to place e. -/
def piece (T : List UInt8) (k e : Nat) : List UInt8 := (T.drop k).take (e - k)

theorem piece_cut (T : List UInt8) (k e : Nat) (h1 : k ≤ e) (_h2 : e ≤ T.length) (hp : 10 ∉ piece T k e) :
    cutL (T.drop k) = (piece T k e ++ (cutL (T.drop e)).1, (cutL (T.drop e)).2.1, (cutL (T.drop e)).2.2) := by
  have e1 : T.drop k = piece T k e ++ T.drop e := by
    unfold piece
    have := (List.take_append_drop (e - k) (T.drop k)).symm
    rw [List.drop_drop, show k + (e - k) = e by omega] at this
    exact this
  rw [e1, cutL_pre _ _ hp]

theorem piece_next (T : List UInt8) (k e : Nat) (h1 : k ≤ e) (h2 : e < T.length) (hp : 10 ∉ piece T k e) (hx : T.getD e 0 ≠ 10) : 10 ∉ piece T k (e + 1) := by
  have e1 : piece T k (e + 1) = piece T k e ++ [T.getD e 0] := by
    unfold piece
    rw [show e + 1 - k = (e - k) + 1 by omega, List.take_add_one]
    congr 1
    rw [List.getElem?_drop, show k + (e - k) = e by omega, List.getElem?_eq_getElem h2]
    simp [List.getD_eq_getElem?_getD, h2]
  rw [e1]
  intro h
  rcases List.mem_append.1 h with h | h
  · exact hp h
  · exact hx (List.mem_singleton.1 h).symm

theorem piece_nil (T : List UInt8) (k : Nat) : 10 ∉ piece T k k := by
  unfold piece
  rw [Nat.sub_self, List.take_zero]
  simp

theorem ext_piece (s : ByteArray) (k e : Nat) : (s.extract k e).data.toList = piece s.data.toList k e := by
  unfold piece
  simp [ByteArray.data_extract, List.extract_eq_take_drop]

theorem cut_end (T : List UInt8) (k : Nat) (h1 : k ≤ T.length) (hp : 10 ∉ piece T k T.length) : cutL (T.drop k) = (piece T k T.length, T.drop (T.length + 1), decide (T.length < T.length)) := by
  rw [piece_cut T k T.length h1 (Nat.le_refl _) hp, List.drop_length, List.drop_eq_nil_of_le (Nat.le_succ _)]
  simp [cutL]

theorem cut_at (T : List UInt8) (k e : Nat) (h1 : k ≤ e) (h2 : e < T.length) (hp : 10 ∉ piece T k e) (hx : T.getD e 0 = 10) : cutL (T.drop k) = (piece T k e, T.drop (e + 1), decide (e < T.length)) := by
  have e1 : T.drop e = 10 :: T.drop (e + 1) := by
    rw [List.drop_eq_getElem_cons h2]
    congr 1
    rw [List.getD_eq_getElem?_getD, List.getElem?_eq_getElem h2] at hx
    exact hx
  rw [piece_cut T k e h1 (by omega) hp, e1]
  rw [decide_eq_true h2]
  simp [cutL]

theorem get_at (s : ByteArray) (e : Nat) (h : e < s.size) : s[e]'h = s.data.toList.getD e 0 := by
  have h2 : e < s.data.toList.length := by rw [Array.length_toList]; exact h
  rw [List.getD_eq_getElem?_getD, List.getElem?_eq_getElem h2]
  rfl

theorem wrap_small (n : Nat) (h : n ≤ 65536) : IntKind.i64.wrap (n : Int) = (n : Int) := by
  first
    | (rw [IntKind.wrap_i64]; unfold wrap64; omega)
    | (rw [IntKind.wrap_i64]; omega)
    | (simp [IntKind.wrap]; omega)

/-- What Acts left, as the law reads it. -/
def ResOk (w : World) (fo : Option (List ActM)) (fn : Nat) (lp : Option Addr) (ll : Nat) (ni ei : Int) : Prop := match fo with
  | none => lp = none ∧ ll = 0 ∧ ni = (fn : Int) ∧ ei = 14
  | some L => ni = 0 ∧ ei = 0 ∧ ∃ es, L = es.map (·.m) ∧ ll = es.length ∧ ListIn w lp es

theorem acts_r (s : ByteArray) (hs : s.size ≤ 65536) (w : World) (hE : Env w) :
    Calls Tryd.prog 16 #[.string s] w fun e w' => ∃ lp ll ni ei, e = .returned (.tuple #[.slice lp ll ll, .int .i64 ni, .int .i64 ei]) ∧ ResOk w' (fin (s.size + 1) s.data.toList 0 []).1 (fin (s.size + 1) s.data.toList 0 []).2 lp ll ni ei ∧ Below w.heap.size w w' := by
  refine (acts_c s hs w hE).mono ?_
  rintro e w' h
  generalize fin (s.size + 1) s.data.toList 0 [] = R at h ⊢
  obtain ⟨fo, fn⟩ := R
  cases fo with
  | none =>
    obtain ⟨h1, h2⟩ : e = .returned (.tuple #[.slice none 0 0, .int .i64 (fn : Int), .int .i64 14]) ∧ Below w.heap.size w w' := h
    exact ⟨none, 0, fn, 14, h1, ⟨rfl, rfl, rfl, rfl⟩, h2⟩
  | some L =>
    obtain ⟨p, es, h1, h2, h3, h4⟩ : ∃ (p : Option Addr) (es : List Ent), L = es.map (·.m) ∧ e = .returned (.tuple #[.slice p es.length es.length, .int .i64 0, .int .i64 0]) ∧ ListIn w' p es ∧ Below w.heap.size w w' := h
    exact ⟨p, es.length, 0, 0, h2, ⟨rfl, rfl, es, h1, rfl, h3⟩, h4⟩

set_option maxHeartbeats 8000000 in
set_option maxRecDepth 100000 in
theorem finds_small (s : ByteArray) (hs : s.size ≤ 65536) (w : World) (hE : Env w) : Calls Tryd.prog 7 #[.string s] w fun e w' => e = .returned (.bool true) ∧ Below w.heap.size w w' := by
  have HW : Hid (∀ W, Below w.heap.size w W → Calls Tryd.prog 9 #[] W fun e w' => e = .returned (.bool true) ∧ Below W.heap.size W w') := Lib.hid (fun W h => awake_c W (hE.below h))
  have KACT : Hid (∀ (x : ByteArray) (W : World), x.size ≤ 65536 → Below w.heap.size w W → _) := Lib.hid (fun x W hx h => act_any x hx W (hE.below h))
  have kacts := acts_r s hs w hE
  clear hE
  have hl : ¬ (65536 : Int) < (s.size : Int) := by omega
  have hld : decide ((65536 : Int) < (s.size : Int)) = false := decide_eq_false hl
  have hsl : s.data.toList.length = s.size := by rw [Array.length_toList]; rfl
  obtain ⟨fo, hfo⟩ : ∃ fo, fo = (fin (s.size + 1) s.data.toList 0 []).1 := ⟨_, rfl⟩
  obtain ⟨fn, hfn⟩ : ∃ fn, fn = (fin (s.size + 1) s.data.toList 0 []).2 := ⟨_, rfl⟩
  rw [← hfo, ← hfn] at kacts
  have HF : Hid ((fo, fn) = fin (s.size + 1) (s.data.toList.drop 0) 0 []) := Lib.hid (by rw [hfo, hfn]; rfl)
  clear hfo hfn
  go_enter Tryd.func7, Tryd.ntmps7
  go_upto_region 5 with (go_at_call 16; (with_reducible refine kacts.mono ?_); rintro e w1 ⟨lp, ll, ni, ei, rfl, hr, hb⟩; have B1 := Lib.hid hb; have RS := Lib.hid hr; clear hb hr)
  go_loopg [6, 7, 8, 9, 10] (s.size + 1) (fun gg s6 s7 _ _ _ wr => ∃ (k cnt g : Nat) (acc : List ActM), k ≤ s.size ∧ s.size - k < gg ∧ s.size - k < g ∧ cnt ≤ k ∧ s6 = .int .i64 (k : Int) ∧ s7 = .int .i64 (cnt : Int) ∧ Hid (cnt = acc.length) ∧ Hid ((fo, fn) = fin g (s.data.toList.drop k) cnt acc) ∧ Hid (Below w1.heap.size w1 wr))
  case atStart => exact ⟨0, 0, s.size + 1, [], by omega, by omega, by omega, by omega, rfl, rfl, Lib.hid rfl, HF, Lib.hid (Below.refl _ _)⟩
  case round =>
    obtain ⟨k, cnt, g, acc, hk, hgg, hg, hck, rfl, rfl, HC, HR, BR⟩ := hrel
    clear HF
    obtain ⟨g, rfl⟩ : ∃ g', g = g' + 1 := ⟨g - 1, by omega⟩
    by_cases hi : k < s.size
    · have hil : (k : Int) < (s.size : Int) := by omega
      go_upto_block 2 with fail
      go_cut [8] from 34 to 107 (fun s8 wx => ∃ e : Nat, k ≤ e ∧ e ≤ s.size ∧ s8 = .int .i64 (e : Int) ∧ Hid (cutL (s.data.toList.drop k) = (piece s.data.toList k e, s.data.toList.drop (e + 1), decide (e < s.size))) ∧ wx = wr)
      case first =>
        go_wp2_with fail
        go_loopg [8] (s.size + 1 - k) (fun gg s8 wx => ∃ e : Nat, k ≤ e ∧ e ≤ s.size ∧ s.size - e < gg ∧ s8 = .int .i64 (e : Int) ∧ Hid (10 ∉ piece s.data.toList k e) ∧ wx = wr)
        case atStart => exact ⟨k, by omega, by omega, by omega, rfl, Lib.hid (piece_nil _ _), rfl⟩
        case round =>
          obtain ⟨e, he1, he2, he3, rfl, HP, hwx⟩ := hrel
          subst hwx
          by_cases hee : e < s.size
          · have hel : (e : Int) < (s.size : Int) := by omega
            have hge := get_at s e hee
            obtain ⟨c, hc⟩ : ∃ c, c = s.data.toList.getD e 0 := ⟨_, rfl⟩
            rw [← hc] at hge
            by_cases hx : c = 10
            · subst hx
              have HM : Hid (cutL (s.data.toList.drop k) = (piece s.data.toList k e, s.data.toList.drop (e + 1), decide (e < s.size))) := Lib.hid (by rw [← hsl]; exact cut_at _ k e he1 (by rw [hsl]; exact hee) HP.out hc.symm)
              clear hc
              go_wp2_with fail
              go_meet
              case rel => exact ⟨e, he1, he2, rfl, HM, rfl⟩
            · have HN : Hid (10 ∉ piece s.data.toList k (e + 1)) := Lib.hid (piece_next _ k e he1 (by rw [hsl]; exact hee) HP.out (by rw [← hc]; exact hx))
              have hcn : ¬ c.toNat = 10 := fun h => hx (UInt8.toNat_inj.1 h)
              have hc1 : (((c.toNat : Nat) : Int) == 10) = false := beq_eq_false_iff_ne.2 (by omega)
              have hc2 : (((c.toNat : Nat) : Int) != 10) = true := by rw [bne, hc1]; rfl
              clear hc
              go_wp2_with fail
              go_roundg (s.size - (e + 1) + 1)
              case measure => omega
              case rel => exact ⟨e + 1, by omega, by omega, by omega, by go_num, HN, rfl⟩
          · have hel : ¬ (e : Int) < (s.size : Int) := by omega
            obtain rfl : e = s.size := by omega
            have HM : Hid (cutL (s.data.toList.drop k) = (piece s.data.toList k s.size, s.data.toList.drop (s.size + 1), decide (s.size < s.size))) := Lib.hid (by
              have := cut_end s.data.toList k (by rw [hsl]; exact hk) (by rw [hsl]; exact HP.out)
              rw [hsl] at this
              exact this)
            go_wp2_with fail
            go_meet
            case rel => exact ⟨s.size, he1, he2, rfl, HM, rfl⟩
      case rest =>
        obtain ⟨e, he1, he2, rfl, HCUT, hwx⟩ := hcut
        rw [hwx]
        clear hwx
        have hne : ¬ s.data.toList.drop k = [] := fun h => by
          have := congrArg List.length h
          rw [List.length_drop, hsl] at this
          simp at this
          omega
        have hfin : (fo, fn) = match actL (piece s.data.toList k e), decide (e < s.size) with
          | some m, true => fin g (s.data.toList.drop (e + 1)) (cnt + 1) (acc ++ [m])
          | _, _ => (none, cnt + 1) := HR.out.trans (by
            conv => lhs; unfold fin
            rw [if_neg hne, HCUT.out]
            rfl)
        have hxs : (s.extract k e).size ≤ 65536 := by rw [ByteArray.size_extract]; omega
        have kact := fun W (h : Below w.heap.size w W) => KACT.out (s.extract k e) W hxs h
        rw [ext_piece] at kact
        have hkl : (k : Int) ≤ (e : Int) := by omega
        have hkl2 : (e : Int) ≤ (s.size : Int) := by omega
        have BW : Hid (Below w.heap.size w wr) := Lib.hid (B1.out.trans (BR.out.mono B1.out.size))
        clear hne hxs
        cases hm : actL (piece s.data.toList k e) with
        | none =>
          rw [hm] at kact hfin
          obtain ⟨rfl, rfl⟩ : fo = none ∧ fn = cnt + 1 := by simpa using hfin
          obtain ⟨rfl, rfl, rfl, rfl⟩ := RS.out
          have KA := Lib.hid kact
          clear kact hfin hm KACT
          go_wp2_with (first
            | (go_at_call 12; (with_reducible refine (KA.out _ BW.out).mono ?_); rintro e4 w4 ⟨pd, cd, pk, ck, rfl, hb⟩; have B4 := Lib.hid (BW.out.trans (hb.mono BW.out.size)); have BA := Lib.hid (B4.out.alloc B4.out.size (.cells #[.int .i64 0, .int .i64 0, .int .i64 0, .int .i64 0, .int .i64 0, .int .i64 0, .slice pd 0 cd, .slice pk 0 ck] 27)); clear hb)
            | (go_at_call 9; (with_reducible refine (HW.out _ (by exact BA.out)).mono ?_); rintro e9 w9 ⟨rfl, hb9⟩; have B9 := Lib.hid (BA.out.trans (hb9.mono BA.out.size)); clear hb9))
          go_ret
          exact ⟨rfl, B9.out⟩
        | some m =>
          rw [hm] at kact hfin
          have KA := Lib.hid kact
          clear kact
          by_cases hee : e < s.size
          · have hel : (e : Int) < (s.size : Int) := by omega
            have hel2 : ((e : Int) == (s.size : Int)) = false := beq_eq_false_iff_ne.2 (by omega)
            rw [decide_eq_true hee] at hfin
            have HFN : Hid ((fo, fn) = fin g (s.data.toList.drop (e + 1)) (cnt + 1) (acc ++ [m])) := Lib.hid hfin
            have HC2 : Hid (cnt + 1 = (acc ++ [m]).length) := Lib.hid (by rw [List.length_append, ← HC.out]; rfl)
            have hok := (act_ok _ _ hm).2
            have hpl : (piece s.data.toList k e).length ≤ 65536 := by
              unfold piece
              rw [List.length_take, List.length_drop, hsl]
              omega
            have hkeep : Hid (m.keep.length ≤ 1099511627776) := Lib.hid (by omega)
            clear hfin hm KACT HC HR HCUT hok hpl
            cases fo with
            | none =>
              obtain ⟨rfl, rfl, rfl, rfl⟩ := RS.out
              have hcp : (0 : Int) < (cnt : Int) + 1 := by omega
              go_upto_region 13 with (go_at_call 12; (with_reducible refine (KA.out _ BW.out).mono ?_); rintro e4 w4 ⟨pd, cd, pk, ck, rfl, -, hb⟩; have B4 := Lib.hid (BR.out.trans (hb.mono BR.out.size)); clear hb)
              go_quiet (fail)
              go_wp2
              go_roundg (s.size - (e + 1) + 1)
              case measure => omega
              case rel => exact ⟨e + 1, cnt + 1, g, acc ++ [m], by omega, by omega, by omega, by omega, by go_num, by go_num, HC2, HFN, Lib.hid (below_drewN (B4.out.alloc B4.out.size _) _)⟩
            | some L =>
              obtain ⟨rfl, rfl, es, hL, rfl, hLI⟩ := RS.out
              obtain ⟨-, t, ht⟩ := fin_some g _ _ _ L fn HFN.out.symm
              have hmap : es.map (·.m) = (acc ++ [m]) ++ t := by rw [← hL, ht]
              have hlen : cnt < es.length := by
                have := congrArg List.length hmap
                rw [List.length_map, List.length_append, ← HC2.out] at this
                omega
              obtain ⟨en, hen⟩ : ∃ en, es[cnt]? = some en := ⟨_, List.getElem?_eq_getElem hlen⟩
              have hem : en.m = m := by
                have h1 : (es.map (·.m))[cnt]? = some en.m := by rw [List.getElem?_map, hen]; rfl
                rw [hmap, List.getElem?_append_left (by rw [← HC2.out]; omega), List.getElem?_append_right (by have := HC2.out; rw [List.length_append] at this; simp at this; omega)] at h1
                have h2 : cnt - acc.length = 0 := by have := HC2.out; rw [List.length_append] at this; simp at this; omega
                rw [h2] at h1
                exact (Option.some.inj h1).symm
              obtain ⟨g1, rfl, hg1, hcells, hbd, hik⟩ := hLI.ent cnt en hen
              obtain ⟨m', dv', kv'⟩ := en
              have hem : m' = m := hem
              subst hem
              have hbd0 := hbd
              have hik0 := hik
              obtain ⟨pe, ce, hdv, -⟩ := hbd
              have hdv : dv' = .slice pe m'.data.length ce := hdv
              subst hdv
              obtain ⟨pf, cf, hkv, -⟩ := hik
              have hkv : kv' = .slice pf m'.keep.length cf := hkv
              subst hkv
              have HCELL := Lib.hid hcells
              have HBD := Lib.hid hbd0
              have HIK := Lib.hid hik0
              have hcl : (cnt : Int) < (es.length : Int) := by omega
              have hcl0 : (0 : Int) ≤ (cnt : Int) := by omega
              have hcl2 : (0 : Int) ≤ (cnt : Int) ∧ (cnt : Int) < (es.length : Int) := ⟨hcl0, hcl⟩
              have hcs : (cnt : Int) + 1 - 1 = (cnt : Int) := by omega
              have hcb : (cnt : Int) ≤ 65536 := by omega
              have hcn : ¬ (es.length : Int) < (cnt : Int) + 1 := by omega
              have hcd : decide ((es.length : Int) < (cnt : Int) + 1) = false := decide_eq_false hcn
              clear hLI ht hmap hL hen hcells hbd0 hik0
              go_upto_region 13 with (go_at_call 12; (with_reducible refine (KA.out _ BW.out).mono ?_); rintro e4 w4 ⟨pd, cd, pk, ck, rfl, hne, hb⟩; have B4 := Lib.hid (BR.out.trans (hb.mono BR.out.size)); have D4 := Lib.hid (bytes_of_row hne.d); have K4 := Lib.hid (ints_of_row hne.k); clear hb hne)
              have hlt4 : g1 < w4.heap.size := Nat.lt_of_lt_of_le hg1 B4.out.size
              have y0 : w4.cell? ⟨g1, cnt * 8, none⟩ = some (.int .i64 m'.kind) := (B4.out.cell (p := ⟨g1, cnt * 8 + 0, none⟩) hg1).trans (HCELL.out 0 _ rfl)
              have y1 : w4.cell? ⟨g1, cnt * 8 + 1, none⟩ = some (.int .i64 m'.n) := (B4.out.cell (p := ⟨g1, cnt * 8 + 1, none⟩) hg1).trans (HCELL.out 1 _ rfl)
              have y2 : w4.cell? ⟨g1, cnt * 8 + 2, none⟩ = some (.int .i64 m'.rk) := (B4.out.cell (p := ⟨g1, cnt * 8 + 2, none⟩) hg1).trans (HCELL.out 2 _ rfl)
              have y3 : w4.cell? ⟨g1, cnt * 8 + 3, none⟩ = some (.int .i64 m'.vol) := (B4.out.cell (p := ⟨g1, cnt * 8 + 3, none⟩) hg1).trans (HCELL.out 3 _ rfl)
              have y4 : w4.cell? ⟨g1, cnt * 8 + 4, none⟩ = some (.int .i64 m'.block) := (B4.out.cell (p := ⟨g1, cnt * 8 + 4, none⟩) hg1).trans (HCELL.out 4 _ rfl)
              have y5 : w4.cell? ⟨g1, cnt * 8 + 5, none⟩ = some (.int .i64 m'.size) := (B4.out.cell (p := ⟨g1, cnt * 8 + 5, none⟩) hg1).trans (HCELL.out 5 _ rfl)
              have y6 : w4.cell? ⟨g1, cnt * 8 + 6, none⟩ = some (.slice pe m'.data.length ce) := (B4.out.cell (p := ⟨g1, cnt * 8 + 6, none⟩) hg1).trans (HCELL.out 6 _ rfl)
              have y7 : w4.cell? ⟨g1, cnt * 8 + 7, none⟩ = some (.slice pf m'.keep.length cf) := (B4.out.cell (p := ⟨g1, cnt * 8 + 7, none⟩) hg1).trans (HCELL.out 7 _ rfl)
              have hba : Below w4.heap.size w4 (w4.alloc (.cells #[.int .i64 m'.kind, .int .i64 m'.n, .int .i64 m'.rk, .int .i64 m'.vol, .int .i64 m'.block, .int .i64 m'.size, .slice pd m'.data.length cd, .slice pk m'.keep.length ck] 27)) := (Below.refl _ _).alloc (Nat.le_refl _) _
              have KS : Hid (∀ W, Below w4.heap.size w4 W → Calls Tryd.prog 13 #[.agg #[.int .i64 m'.kind, .int .i64 m'.n, .int .i64 m'.rk, .int .i64 m'.vol, .int .i64 m'.block, .int .i64 m'.size, .slice pd m'.data.length cd, .slice pk m'.keep.length ck], .agg #[.int .i64 m'.kind, .int .i64 m'.n, .int .i64 m'.rk, .int .i64 m'.vol, .int .i64 m'.block, .int .i64 m'.size, .slice pe m'.data.length ce, .slice pf m'.keep.length cf]] W fun e w' => e = .returned (.bool true) ∧ Below W.heap.size W w') := Lib.hid (fun W h => same_c m'.kind m'.n m'.rk m'.vol m'.block m'.size (.slice pd m'.data.length cd) (.slice pe m'.data.length ce) (.slice pk m'.keep.length ck) (.slice pf m'.keep.length cf) m'.data m'.keep W (D4.out.below h) ((HBD.out.below B4.out).below h) (K4.out.below h) ((HIK.out.below B4.out).below h) hkeep.out)
              have HBA := Lib.hid hba
              clear hba HCELL HBD HIK D4 K4 KA
              obtain ⟨wA, hwA⟩ : ∃ wA, wA = (w4.alloc (.cells #[.int .i64 m'.kind, .int .i64 m'.n, .int .i64 m'.rk, .int .i64 m'.vol, .int .i64 m'.block, .int .i64 m'.size, .slice pd m'.data.length cd, .slice pk m'.keep.length ck] 27)) := ⟨_, rfl⟩
              rw [← hwA]
              have ot : ∀ j v, w4.cell? ⟨g1, j, none⟩ = some v → wA.drew.cell? ⟨g1, j, none⟩ = some v := fun j v h => by
                rw [World.cell?_drew, hwA]
                exact (((Below.refl w4.heap.size w4).alloc (Nat.le_refl _) _).cell (p := ⟨g1, j, none⟩) hlt4).trans h
              have v0 := ot _ _ y0
              have v1 := ot _ _ y1
              have v2 := ot _ _ y2
              have v3 := ot _ _ y3
              have v4 := ot _ _ y4
              have v5 := ot _ _ y5
              have v6 := ot _ _ y6
              have v7 := ot _ _ y7
              have hbk : wA.drew.heap[w4.heap.size]? = some (.cells #[.int .i64 m'.kind, .int .i64 m'.n, .int .i64 m'.rk, .int .i64 m'.vol, .int .i64 m'.block, .int .i64 m'.size, .slice pd m'.data.length cd, .slice pk m'.keep.length ck] 27 (0, 0)) := by
                rw [hwA]
                exact blk_new w4 _ 27
              obtain ⟨⟨u0, u1, u2', u3', u4, u5, u6, u7⟩, _, _, _, _, _, _, _, _⟩ := cells8 hbk
              have HDR := HBA.out.drew
              rw [← hwA] at HDR
              have HDRH := Lib.hid HDR
              clear hwA hbk ot y0 y1 y2 y3 y4 y5 y6 y7 HBA HDR
              have hwr : IntKind.i64.wrap (cnt : Int) = (cnt : Int) := wrap_small cnt (by omega)
              refine wp_region_still_tail 18 (by kernel_rfl) (by kernel_rfl) ?_
              rw [show ({ wA with drawn := wA.drawn + 1 } : World) = wA.drew from rfl]
              generalize wA.drew = wd at *
              simp only [List.take_succ_cons, List.take_zero, List.drop_succ_cons, List.drop_zero]
              repeat still_step
              clear hwr
              try refine wpStill_nil ?_
              go_wp2_with (go_at_call 13; (with_reducible refine (KS.out _ HDRH.out).mono ?_); rintro e5 w5 ⟨rfl, hb5⟩; have B5 := Lib.hid (B4.out.trans ((HDRH.out.trans (hb5.mono HDRH.out.size)).mono B4.out.size)); clear hb5)
              go_roundg (s.size - (e + 1) + 1)
              case measure => omega
              case rel => exact ⟨e + 1, cnt + 1, g, acc ++ [m'], by omega, by omega, by omega, by omega, by go_num, by go_num, HC2, HFN, B5⟩
          · obtain rfl : e = s.size := by omega
            rw [decide_eq_false hee] at hfin
            obtain ⟨rfl, rfl⟩ : fo = none ∧ fn = cnt + 1 := by simpa using hfin
            obtain ⟨rfl, rfl, rfl, rfl⟩ := RS.out
            clear hfin hm KACT
            go_wp2_with (first
              | (go_at_call 12; (with_reducible refine (KA.out _ BW.out).mono ?_); rintro e4 w4 ⟨pd, cd, pk, ck, rfl, -, hb⟩; have B4 := Lib.hid (BW.out.trans (hb.mono BW.out.size)); have BA := Lib.hid (B4.out.alloc B4.out.size (.cells #[.int .i64 m.kind, .int .i64 m.n, .int .i64 m.rk, .int .i64 m.vol, .int .i64 m.block, .int .i64 m.size, .slice pd m.data.length cd, .slice pk m.keep.length ck] 27)); clear hb)
              | (go_at_call 9; (with_reducible refine (HW.out _ (by exact BA.out)).mono ?_); rintro e9 w9 ⟨rfl, hb9⟩; have B9 := Lib.hid (BA.out.trans (hb9.mono BA.out.size)); clear hb9))
            go_ret
            exact ⟨rfl, B9.out⟩
    · have hil : ¬ (k : Int) < (s.size : Int) := by omega
      have hnil : s.data.toList.drop k = [] := List.drop_eq_nil_of_le (by rw [hsl]; omega)
      have hfin : (fo, fn) = (some acc, 0) := HR.out.trans (by rw [hnil]; rfl)
      obtain ⟨rfl, rfl⟩ : fo = some acc ∧ fn = 0 := by simpa using hfin
      obtain ⟨rfl, rfl, es, hL, rfl, -⟩ := RS.out
      have hcl : cnt = es.length := by rw [HC.out, hL, List.length_map]
      subst hcl
      have BA : Hid (Below w.heap.size w wr) := Lib.hid (B1.out.trans (BR.out.mono B1.out.size))
      clear hfin hL hnil HC HR KACT
      go_wp2_with (go_at_call 9; (with_reducible refine (HW.out _ (by exact BA.out)).mono ?_); rintro e9 w9 ⟨rfl, hb9⟩; have B9 := Lib.hid (BA.out.trans (hb9.mono BA.out.size)); clear hb9)
      go_ret
      exact ⟨rfl, B9.out⟩

set_option maxRecDepth 100000 in
theorem finds_c (s : ByteArray) (w : World) (hE : Env w) : Calls Tryd.prog 7 #[.string s] w fun e w' => e = .returned (.bool true) ∧ Below w.heap.size w w' := by
  by_cases hs : s.size ≤ 65536
  · exact finds_small s hs w hE
  · have hl : (65536 : Int) < (s.size : Int) := by omega
    have HW : Hid (∀ W, Below w.heap.size w W → Calls Tryd.prog 9 #[] W fun e w' => e = .returned (.bool true) ∧ Below W.heap.size W w') := Lib.hid (fun W h => awake_c W (hE.below h))
    have ka := acts_big s (by omega) w
    clear hE
    go_enter Tryd.func7, Tryd.ntmps7
    go_wp2_with (first
      | (go_at_call 16; (with_reducible refine ka.mono ?_); rintro e w1 ⟨rfl, hb⟩; have B1 := Lib.hid hb; clear hb)
      | (go_at_call 9; (with_reducible refine (HW.out _ B1.out).mono ?_); rintro e w2 ⟨rfl, hb⟩; have B2 := Lib.hid (B1.out.trans (hb.mono B1.out.size)); clear hb))
    go_ret
    exact ⟨rfl, B2.out⟩

end Go.Proofs.YtbnbnccpoeopmaaDoor.Sz
