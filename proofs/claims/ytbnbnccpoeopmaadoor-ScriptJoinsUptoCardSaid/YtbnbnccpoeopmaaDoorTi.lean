/- The walk of Script. -/
import Derived.Test.YtbnbnccpoeopmaaDoorTh
import Derived.Test.YtbnbnccpoeopmaaDoorSy
import Derived.Shelf.Strings.Builder1
namespace Go.Proofs.YtbnbnccpoeopmaaDoor.Ti
open Go.RowKit Go.Proofs.YtbnbnccpoeopmaaDoor.Sa Go.Proofs.YtbnbnccpoeopmaaDoor.Sb Go.Proofs.YtbnbnccpoeopmaaDoor.Sd Go.Proofs.YtbnbnccpoeopmaaDoor.Se Go.Proofs.YtbnbnccpoeopmaaDoor.Sf Go.Proofs.YtbnbnccpoeopmaaDoor.Sg Go.Proofs.YtbnbnccpoeopmaaDoor.Sh Go.Proofs.YtbnbnccpoeopmaaDoor.Sj Go.Proofs.YtbnbnccpoeopmaaDoor.Sk Go.Proofs.YtbnbnccpoeopmaaDoor.Sp Go.Proofs.YtbnbnccpoeopmaaDoor.Sq Go.Proofs.YtbnbnccpoeopmaaDoor.Sr Go.Proofs.YtbnbnccpoeopmaaDoor.Su Go.Proofs.YtbnbnccpoeopmaaDoor.Sv Go.Proofs.YtbnbnccpoeopmaaDoor.Sw Go.Proofs.YtbnbnccpoeopmaaDoor.Sx Go.Proofs.YtbnbnccpoeopmaaDoor.Tc Go.Proofs.YtbnbnccpoeopmaaDoor.Td Go.Proofs.YtbnbnccpoeopmaaDoor.Te Go.Proofs.YtbnbnccpoeopmaaDoor.Tf Go.Proofs.YtbnbnccpoeopmaaDoor.Tg Go.Proofs.YtbnbnccpoeopmaaDoor.Th

/-! ### What Script answers -/
def textL (ms : List ActM) : List UInt8 := ms.flatMap fun m => (lineL m).1 ++ [10]
def goodL (ms : List ActM) : Bool := ms.all fun m => (lineL m).2
def scriptOut (ms : List ActM) : ByteArray × Int := if goodL ms then (if 65536 < (textL ms).length then (⟨#[]⟩, 7) else (mkB (textL ms), 0)) else (⟨#[]⟩, 1)

theorem textL_snoc (ms : List ActM) (m : ActM) : textL (ms ++ [m]) = textL ms ++ ((lineL m).1 ++ [10]) := by
  unfold textL
  rw [List.flatMap_append]
  simp
theorem goodL_snoc (ms : List ActM) (m : ActM) : goodL (ms ++ [m]) = (goodL ms && (lineL m).2) := by
  unfold goodL
  rw [List.all_append]
  simp
theorem take_snoc {α : Type} (l : List α) (k : Nat) (x : α) (h : l[k]? = some x) : l.take (k + 1) = l.take k ++ [x] := by
  rw [List.take_add_one, h]
  rfl
theorem good_take (ms : List ActM) (k : Nat) (h : goodL ms = true) : goodL (ms.take k) = true := by
  unfold goodL at *
  rw [List.all_eq_true] at *
  exact fun x hx => h x (List.mem_of_mem_take hx)
theorem text_take (ms : List ActM) (k : Nat) : (textL (ms.take k)).length ≤ (textL ms).length := by
  have h : textL ms = textL (ms.take k) ++ textL (ms.drop k) := by
    unfold textL
    rw [← List.flatMap_append, List.take_append_drop]
  rw [h, List.length_append]
  exact Nat.le_add_right _ _
theorem out_bad (ms : List ActM) (k : Nat) (m : ActM) (h : ms[k]? = some m) (hm : (lineL m).2 = false) : scriptOut ms = (⟨#[]⟩, 1) := by
  unfold scriptOut
  rw [if_neg]
  intro hg
  have := good_take ms (k + 1) hg
  rw [take_snoc ms k m h, goodL_snoc, hm, Bool.and_false] at this
  cases this

/-! ### Acts that come in -/
structure InList (w : World) (p : Option Addr) (es : List Ent) : Prop where
  ent : ∀ j e, es[j]? = some e → ∃ g o, p = some ⟨g, o, none⟩ ∧ g < w.heap.size ∧ (∀ i u, e.cells[i]? = some u → w.cell? ⟨g, o + j * 8 + i, none⟩ = some u) ∧ ActIn w e.m e.dv e.kv

theorem InList.below {w w' : World} {p : Option Addr} {es : List Ent} (h : InList w p es) (hb : Below w.heap.size w w') : InList w' p es := by
  refine ⟨fun j e he => ?_⟩
  obtain ⟨g, o, h1, h2, h3, h4⟩ := h.ent j e he
  exact ⟨g, o, h1, Nat.lt_of_lt_of_le h2 hb.size, fun i u hu => (hb.cell (p := ⟨g, o + j * 8 + i, none⟩) h2).trans (h3 i u hu), h4.below hb⟩

/-- As far as Script looks, no act is too great. -/
def Small (N : Nat) (es : List Ent) : Prop := ∀ i e, es[i]? = some e → goodL ((es.map (·.m)).take i) = true → e.m.data.length ≤ N ∧ e.m.keep.length ≤ N

theorem IsBuilder_later {T e : TypeId} {B b : Nat} {bs : List Value} {w w' : World} (h : Lib.IsBuilder T e B b bs w) (hb : Below w.heap.size w w') : Lib.IsBuilder T e B b bs w' := by
  rcases h with h | h
  · have hl := h.lt
    obtain ⟨h1, v, h2, h3, h4⟩ := h
    exact Or.inl ⟨h1, v, blk_below h2 hb hl, row_below h3 hb, h4⟩
  · have hl := h.lt
    obtain ⟨h1, v, h2, h3, h4⟩ := h
    exact Or.inr ⟨h1, v, blk_below h2 hb hl, row_below h3 hb, h4⟩

theorem lays166 : Go.Proofs.Lays.n166 Tryd.prog Tryd.lays156_ren := by
  have L := Tryd.lays156
  exact { mixed := L.mixed, f166 := L.f166, f240 := L.f240, f276 := L.f276, t0 := L.t0, a0 := L.a0, z0 := L.z0, v0 := L.v0, t3 := L.t3, a3 := L.a3, z3 := L.z3, v3 := L.v3, t4 := L.t4, a4 := L.a4, z4 := L.z4, v4 := L.v4, t9 := L.t9, a9 := L.a9, z9 := L.z9, v9 := L.v9, t20 := L.t20, a20 := L.a20, z20 := L.z20, v20 := L.v20, t37 := L.t37, a37 := L.a37, z37 := L.z37, v37 := L.v37, t70 := L.t70, a70 := L.a70, z70 := L.z70, v70 := L.v70, t72 := L.t72, a72 := L.a72, z72 := L.z72, v72 := L.v72, t75 := L.t75, a75 := L.a75, z75 := L.z75, v75 := L.v75, t164 := L.t164, a164 := L.a164, z164 := L.z164, v164 := L.v164 }

theorem write_c (B b : Nat) (l : List UInt8) (s : ByteArray) (w : World) (h : Lib.IsBuilder 68 5 B b (Lib.byteCells l) w) (hlen : l.length + s.size ≤ 140737488355328) (hBw : B ≤ w.heap.size) :
    Calls Tryd.prog 30 #[.pointer (some ⟨b, 0, none⟩), .string s] w fun e w' => e = .returned (.tuple #[.int .i64 s.size, .nilIface]) ∧ Lib.IsBuilder 68 5 B b (Lib.byteCells (l ++ s.data.toList)) w' ∧ Below B w w' := by
  have hl : (Lib.byteCells l).length = l.length := by simp [Lib.byteCells]
  refine (Any.Builder_WriteString lays166 Tryd.Builder_Extra_156 B b (Lib.byteCells l) s w h (by rw [hl]; exact hlen) hBw).mono ?_
  rintro e w' ⟨rfl, hb, hbl⟩
  refine ⟨rfl, Or.inr ?_, hbl⟩
  have e2 : Lib.byteCells (l ++ s.data.toList) = Lib.byteCells l ++ Lib.strCells s := by
    simp [Lib.byteCells, Lib.strCells]
  rw [e2]
  exact hb

theorem len_c (B b : Nat) (l : List UInt8) (w : World) (h : Lib.IsBuilder 68 5 B b (Lib.byteCells l) w) :
    Calls Tryd.prog 29 #[.pointer (some ⟨b, 0, none⟩)] w fun e w' => e = .returned (.int .i64 l.length) ∧ w' = w := by
  have hl : (Lib.byteCells l).length = l.length := by simp [Lib.byteCells]
  have := Tryd.Builder_Len B b (Lib.byteCells l) w h
  rw [hl] at this
  exact this

/-- What Script leaves. -/
def ScriptPost (ms : List ActM) (w : World) (e : Ending) (w' : World) : Prop := e = .returned (.tuple #[.string (scriptOut ms).1, .int .i64 (scriptOut ms).2]) ∧ Below w.heap.size w w'

/-- Where the loop stands: k acts are done; the text; is it too long? -/
structure SSt (w wr : World) (B : Nat) (ms : List ActM) (k : Nat) (full : Bool) (l : List UInt8) : Prop where
  below : Below B w wr
  size : B < wr.heap.size
  bld : Lib.IsBuilder 68 5 B B (Lib.byteCells l) wr
  good : goodL (ms.take k) = true
  text : full = false → l = textL (ms.take k) ∧ l.length ≤ 65536
  long : full = true → 65536 < (textL (ms.take k)).length

theorem SSt.later {w wr wy : World} {B k : Nat} {ms : List ActM} {full : Bool} {l : List UInt8} (h : SSt w wr B ms k full l) (hb : Below wr.heap.size wr wy) : SSt w wy B ms k full l :=
  ⟨h.below.trans (hb.mono (Nat.le_of_lt h.size)), Nat.lt_of_lt_of_le h.size hb.size, IsBuilder_later h.bld hb, h.good, h.text, h.long⟩

theorem text_step (ms : List ActM) (k : Nat) (m : ActM) (h : ms[k]? = some m) : textL (ms.take (k + 1)) = textL (ms.take k) ++ ((lineL m).1 ++ [10]) := by
  rw [take_snoc ms k m h, textL_snoc]
theorem good_step (ms : List ActM) (k : Nat) (m : ActM) (h : ms[k]? = some m) (hg : goodL (ms.take k) = true) (hm : (lineL m).2 = true) : goodL (ms.take (k + 1)) = true := by
  rw [take_snoc ms k m h, goodL_snoc, hg, hm]
  rfl

/-- The text has been too long. -/
theorem SSt.skip {w wr : World} {B k : Nat} {ms : List ActM} {l : List UInt8} (h : SSt w wr B ms k true l) (m : ActM) (hk : ms[k]? = some m) (hm : (lineL m).2 = true) : SSt w wr B ms (k + 1) true l := by
  refine ⟨h.below, h.size, h.bld, good_step ms k m hk h.good hm, (fun e => by cases e), fun _ => ?_⟩
  have := h.long rfl
  rw [text_step ms k m hk, List.length_append]
  omega
/-- It is now. -/
theorem SSt.over {w wr : World} {B k : Nat} {ms : List ActM} {l : List UInt8} (h : SSt w wr B ms k false l) (m : ActM) (hk : ms[k]? = some m) (hm : (lineL m).2 = true) (hl : 65536 ≤ l.length + (lineL m).1.length) : SSt w wr B ms (k + 1) true l := by
  refine ⟨h.below, h.size, h.bld, good_step ms k m hk h.good hm, (fun e => by cases e), fun _ => ?_⟩
  have := (h.text rfl).1
  rw [text_step ms k m hk, ← this, List.length_append, List.length_append]
  show _ < _ + (_ + 1)
  omega
/-- It is not: a line more. -/
theorem SSt.more {w w5 wr : World} {B k : Nat} {ms : List ActM} {l : List UInt8} (h : SSt w w5 B ms k false l) (m : ActM) (hk : ms[k]? = some m) (hm : (lineL m).2 = true) (hl : ¬ 65536 ≤ l.length + (lineL m).1.length)
    (hb : Below B w5 wr) (hbl : Lib.IsBuilder 68 5 B B (Lib.byteCells (l ++ ((lineL m).1 ++ [10]))) wr) : SSt w wr B ms (k + 1) false (l ++ ((lineL m).1 ++ [10])) := by
  refine ⟨h.below.trans hb, Nat.lt_of_lt_of_le h.size hb.size, hbl, good_step ms k m hk h.good hm, fun _ => ⟨?_, ?_⟩, (fun e => by cases e)⟩
  · rw [text_step ms k m hk, ← (h.text rfl).1]
  · rw [List.length_append, List.length_append]
    show _ + (_ + 1) ≤ _
    omega

theorem SSt.start (w : World) (ms : List ActM) : SSt w (w.alloc (.cells #[.pointer none, .slice none 0 0] 68)) w.heap.size ms 0 false [] := by
  refine ⟨(Below.refl _ _).alloc (Nat.le_refl _) _, by rw [sz_alloc]; omega, Lib.fresh_isBuilder 68 5 w, rfl, fun _ => ⟨rfl, Nat.zero_le _⟩, (fun e => by cases e)⟩

theorem line_len (m : ActM) (hok : NumsOk m) : (lineL m).1.length ≤ 140737488355328 - 65538 := by
  have z0 := itoa_len m.n hok.n
  have z2 := itoa_len m.block hok.block
  have z3 := itoa_len m.size hok.size
  have z4 := keepL_len m.keep hok.keep
  have z5 := req_len m.rk m.vol m.block m.size m.data hok.vol hok.block hok.size
  have z6 := hok.data
  have z7 := hok.keeps
  unfold lineL laterB
  repeat' split
  all_goals simp only [List.length_append, List.length_cons, List.length_nil]
  all_goals omega

set_option maxHeartbeats 4000000 in
set_option maxRecDepth 100000 in
theorem script_c (p : Option Addr) (es : List Ent) (c : Nat) (w : World) (hE : Env w) (hL : InList w p es) (hn : es.length ≤ 140737488355328) (hS : Small 1099511627776 es) :
    Calls Tryd.prog 15 #[.slice p es.length c] w (ScriptPost (es.map (·.m)) w) := by
  obtain ⟨ms, hms⟩ : ∃ ms, ms = es.map (·.m) := ⟨_, rfl⟩
  rw [← hms]
  have HMS := Lib.hid hms
  have HL := Lib.hid hL
  have HE := Lib.hid hE
  have HS := Lib.hid hS
  clear hms hL hE hS
  obtain ⟨N, hN⟩ : ∃ N, N = es.length := ⟨_, rfl⟩
  rw [← hN] at hn ⊢
  have HN := Lib.hid hN
  clear hN
  have S0 := Lib.hid (SSt.start w ms)
  go_enter Tryd.func15, Tryd.ntmps15
  go_wp2
  generalize w.alloc (.cells #[.pointer none, .slice none 0 0] 68) = w1 at S0 ⊢
  go_loopg [5, 7, 8, 9, 12] (N + 1) (fun gg s5 _ _ _ s12 wr => ∃ (k : Nat) (full : Bool) (l : List UInt8), k ≤ N ∧ N - k < gg ∧ s5 = .bool full ∧ s12 = .int .i64 (k : Int) ∧ Hid (SSt w wr w.heap.size ms k full l))
  case atStart => exact ⟨0, false, [], by omega, by omega, rfl, rfl, S0⟩
  case round =>
    obtain ⟨k, full, l, hk, hgg, rfl, rfl, SR⟩ := hrel
    clear S0
    have hB := SR.out.size
    by_cases hkn : k < N
    · have hil : (k : Int) < (N : Int) := by omega
      obtain ⟨e, he⟩ : ∃ e, es[k]? = some e := ⟨_, List.getElem?_eq_getElem (by rw [← HN.out]; exact hkn)⟩
      have hmk : ms[k]? = some e.m := by rw [HMS.out, List.getElem?_map, he]; rfl
      obtain ⟨g, o, rfl, hg, hc, hin⟩ := (HL.out.below SR.out.below).ent k e he
      have hsm := HS.out k e he (by rw [← HMS.out]; exact SR.out.good)
      have q0 : wr.cell? ⟨g, o + k * 8, none⟩ = _ := hc 0 _ rfl
      have q1 := hc 1 _ rfl
      have q2 := hc 2 _ rfl
      have q3 := hc 3 _ rfl
      have q4 := hc 4 _ rfl
      have q5 := hc 5 _ rfl
      have q6 := hc 6 _ rfl
      have q7 := hc 7 _ rfl
      obtain ⟨m, dv, kv⟩ := e
      simp only at hmk hin hsm q0 q1 q2 q3 q4 q5 q6 q7
      have hd0 := hin.data
      have hk0 := hin.keep
      obtain ⟨pd, cd, rfl, -⟩ := hd0
      obtain ⟨pk, ck, rfl, -⟩ := hk0
      have B1 : Hid (Below wr.heap.size wr (wr.alloc (.cells #[.int .i64 m.kind, .int .i64 m.n, .int .i64 m.rk, .int .i64 m.vol, .int .i64 m.block, .int .i64 m.size, .slice pd m.data.length cd, .slice pk m.keep.length ck] 27))) := Lib.hid ((Below.refl _ _).alloc (Nat.le_refl _) _)
      have S1 := Lib.hid (SR.out.later B1.out)
      have hin1 := hin.below B1.out
      have HE1 := HE.out.below S1.out.below
      have HMK := Lib.hid hmk
      cases hl : (lineL m).2 with
      | false =>
        have K10 := Lib.hid (line_none m _ _ _ HE1 hin1 hsm.1 hsm.2 hl)
        have HO := Lib.hid (out_bad ms k m hmk hl)
        unfold actAgg at K10
        clear hl hmk hin hin1 HE1 hsm hc
        obtain ⟨kind, n, rk, vol, block, size, data, keep⟩ := m
        simp only at K10 q0 q1 q2 q3 q4 q5 q6 q7
        go_wp2_with (go_at_call 10; (with_reducible refine K10.out.mono ?_); rintro e w2 ⟨rfl, hb⟩; have S2 := Lib.hid (S1.out.later hb); clear hb)
        go_ret2
        unfold ScriptPost
        rw [HO.out]
        exact ⟨rfl, S2.out.below⟩
      | true =>
        have K10 := Lib.hid (line_good m _ _ _ HE1 hin1 hsm.1 hsm.2 hl)
        have HLG := Lib.hid hl
        have HLS : Hid ((mkB (lineL m).1).size = (lineL m).1.length) := Lib.hid (by show ((lineL m).1).toArray.size = _; simp)
        have hls : (mkB (lineL m).1).size ≤ 140737488355328 - 65538 := by
          rw [HLS.out]
          exact line_len m (hin1.ok hsm.1 hsm.2)
        unfold actAgg at K10
        clear hl hmk hin hin1 HE1 hsm hc
        cases full
        · have hl6 := (SR.out.text rfl).2
          by_cases hfull : 65536 ≤ l.length + (mkB (lineL m).1).size
          · have S2' := S1.out.over m HMK.out HLG.out (by rw [← HLS.out]; exact hfull)
            have hf1 : (65536 : Int) ≤ (l.length : Int) + ((mkB (lineL m).1).size : Int) := by omega
            have SF := Lib.hid (show SSt w _ w.heap.size ms k false l from S1.out)
            clear HLS
            generalize mkB (lineL m).1 = tx at *
            obtain ⟨kind, n, rk, vol, block, size, data, keep⟩ := m
            simp only at K10 q0 q1 q2 q3 q4 q5 q6 q7
            have S3 := Lib.hid S2'
            clear S2'
            go_wp2_with (first | (go_at_call 10; (with_reducible refine K10.out.mono ?_); rintro e w2 ⟨rfl, hb⟩; have S2 := Lib.hid (S3.out.later hb); have S4 := Lib.hid (SF.out.later hb); clear hb) | (go_at_call 29; (with_reducible refine (len_c _ _ l _ S4.out.bld).mono ?_); rintro e w3 ⟨rfl, rfl⟩))
            go_roundg (N - (k + 1) + 1)
            case measure => omega
            case rel => exact ⟨k + 1, true, l, by omega, by omega, rfl, by go_num, S2⟩
          · have hf1 : decide ((65536 : Int) ≤ (l.length : Int) + ((mkB (lineL m).1).size : Int)) = false := decide_eq_false (by omega)
            have HFL : Hid (¬ 65536 ≤ l.length + (lineL m).1.length) := Lib.hid (by rw [← HLS.out]; exact hfull)
            have HTX : Hid ((mkB (lineL m).1 ++ ⟨#[10]⟩).data.toList = (lineL m).1 ++ [10]) := Lib.hid (by rw [ByteArray.data_append]; simp [mkB])
            have hsz1 : ¬ 9223372036854775807 < (mkB (lineL m).1).size + 1 := by omega
            have hsz2 : (mkB (lineL m).1 ++ ⟨#[10]⟩).size ≤ 65537 := by
              rw [ByteArray.size_append]
              have : (⟨#[10]⟩ : ByteArray).size = 1 := rfl
              omega
            have HSZ2 := Lib.hid hsz2
            clear hsz2 HLS hfull
            have SF := Lib.hid (show SSt w _ w.heap.size ms k false l from S1.out)
            generalize mkB (lineL m).1 = tx at *
            obtain ⟨m0, hm0⟩ : ∃ m0, m0 = m := ⟨_, rfl⟩
            rw [← hm0] at HMK HLG HFL HTX
            have HM0 := Lib.hid hm0
            clear hm0
            obtain ⟨kind, n, rk, vol, block, size, data, keep⟩ := m
            simp only at K10 q0 q1 q2 q3 q4 q5 q6 q7
            go_wp2_with (first
              | (go_at_call 10; (with_reducible refine K10.out.mono ?_); rintro e w2 ⟨rfl, hb⟩; have S4 := Lib.hid (SF.out.later hb); clear hb)
              | (go_at_call 29; (with_reducible refine (len_c _ _ l _ S4.out.bld).mono ?_); rintro e w3 ⟨rfl, rfl⟩)
              | (go_at_call 30; (with_reducible refine (write_c _ _ l _ _ S4.out.bld (by have := HSZ2.out; omega) (Nat.le_of_lt S4.out.size)).mono ?_); rintro e w5 ⟨rfl, hbl, hb⟩; have S5 := Lib.hid (S4.out.more m0 HMK.out HLG.out HFL.out hb (by rw [← HTX.out]; exact hbl)); clear hbl hb))
            go_roundg (N - (k + 1) + 1)
            case measure => omega
            case rel => exact ⟨k + 1, false, _, by omega, by omega, rfl, by go_num, S5⟩
        · have S2' := S1.out.skip m HMK.out HLG.out
          generalize mkB (lineL m).1 = tx at *
          obtain ⟨kind, n, rk, vol, block, size, data, keep⟩ := m
          simp only at K10 q0 q1 q2 q3 q4 q5 q6 q7
          have S3 := Lib.hid S2'
          clear S2'
          go_wp2_with (go_at_call 10; (with_reducible refine K10.out.mono ?_); rintro e w2 ⟨rfl, hb⟩; have S2 := Lib.hid (S3.out.later hb); clear hb)
          go_roundg (N - (k + 1) + 1)
          case measure => omega
          case rel => exact ⟨k + 1, true, l, by omega, by omega, rfl, by go_num, S2⟩
    · have hil : ¬ (k : Int) < (N : Int) := by omega
      obtain rfl : k = N := by omega
      have hall : ms.take k = ms := List.take_of_length_le (by rw [HMS.out, List.length_map, ← HN.out]; exact Nat.le_refl _)
      have hgd := SR.out.good
      rw [hall] at hgd
      cases full
      · obtain ⟨ht, hl6⟩ := SR.out.text rfl
        rw [hall] at ht
        have HO : Hid (scriptOut ms = (⟨l.toArray⟩, 0)) := Lib.hid (by
          unfold scriptOut
          rw [if_pos hgd, ← ht, if_neg (by omega)]
          rfl)
        have K31 := Lib.hid (Tryd.Builder_String_any w.heap.size w.heap.size l wr SR.out.bld (Nat.le_of_lt SR.out.size))
        clear hall hgd ht hl6
        go_wp2_with (go_at_call 31; (with_reducible refine K31.out.mono ?_); rintro e w2 ⟨rfl, hb⟩; have B2 := Lib.hid (SR.out.below.trans hb); clear hb)
        go_ret2
        unfold ScriptPost
        rw [HO.out]
        exact ⟨rfl, B2.out⟩
      · have hlg := SR.out.long rfl
        rw [hall] at hlg
        have HO : Hid (scriptOut ms = (⟨#[]⟩, 7)) := Lib.hid (by
          unfold scriptOut
          rw [if_pos hgd, if_pos hlg])
        clear hall hgd hlg
        go_wp2_with fail
        go_ret2
        unfold ScriptPost
        rw [HO.out]
        exact ⟨rfl, SR.out.below⟩

end Go.Proofs.YtbnbnccpoeopmaaDoor.Ti
