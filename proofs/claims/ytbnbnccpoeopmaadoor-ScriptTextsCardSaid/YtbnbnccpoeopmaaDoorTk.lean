/- The walk of ScriptTexts. -/
import Derived.Test.YtbnbnccpoeopmaaDoorTj
import Derived.StillTailTactics
namespace Go.Proofs.YtbnbnccpoeopmaaDoor.Tk
open Go.RowKit Go.Proofs.YtbnbnccpoeopmaaDoor.Sa Go.Proofs.YtbnbnccpoeopmaaDoor.Sb Go.Proofs.YtbnbnccpoeopmaaDoor.Sd Go.Proofs.YtbnbnccpoeopmaaDoor.Se Go.Proofs.YtbnbnccpoeopmaaDoor.Sf Go.Proofs.YtbnbnccpoeopmaaDoor.Sg Go.Proofs.YtbnbnccpoeopmaaDoor.Sh Go.Proofs.YtbnbnccpoeopmaaDoor.Sj Go.Proofs.YtbnbnccpoeopmaaDoor.Sk Go.Proofs.YtbnbnccpoeopmaaDoor.Sl Go.Proofs.YtbnbnccpoeopmaaDoor.Sp Go.Proofs.YtbnbnccpoeopmaaDoor.Sq Go.Proofs.YtbnbnccpoeopmaaDoor.Sr Go.Proofs.YtbnbnccpoeopmaaDoor.Su Go.Proofs.YtbnbnccpoeopmaaDoor.Sv Go.Proofs.YtbnbnccpoeopmaaDoor.Sw Go.Proofs.YtbnbnccpoeopmaaDoor.Sx Go.Proofs.YtbnbnccpoeopmaaDoor.Sy Go.Proofs.YtbnbnccpoeopmaaDoor.Sz Go.Proofs.YtbnbnccpoeopmaaDoor.Tc Go.Proofs.YtbnbnccpoeopmaaDoor.Td Go.Proofs.YtbnbnccpoeopmaaDoor.Te Go.Proofs.YtbnbnccpoeopmaaDoor.Tf Go.Proofs.YtbnbnccpoeopmaaDoor.Tg Go.Proofs.YtbnbnccpoeopmaaDoor.Th Go.Proofs.YtbnbnccpoeopmaaDoor.Ti Go.Proofs.YtbnbnccpoeopmaaDoor.Tj

/-- How far the law has come: i acts have lines, and are small. -/
structure TSt (w wr : World) (ms : List ActM) (i : Nat) : Prop where
  below : Below w.heap.size w wr
  good : goodL (ms.take i) = true
  small : ∀ (j : Nat) (m : ActM), j < i → ms[j]? = some m → m.data.length ≤ 40000 ∧ m.keep.length ≤ 500
  size : (textL (ms.take i)).length ≤ i * 200000

theorem line_len2 (m : ActM) (hok : NumsOk m) (h1 : m.data.length ≤ 40000) (h2 : m.keep.length ≤ 500) : (lineL m).1.length ≤ 150000 := by
  have z0 := itoa_len m.n hok.n
  have z2 := itoa_len m.block hok.block
  have z3 := itoa_len m.size hok.size
  have z4 := keepL_len m.keep hok.keep
  have z5 := req_len m.rk m.vol m.block m.size m.data hok.vol hok.block hok.size
  unfold lineL laterB
  repeat' split
  all_goals simp only [List.length_append, List.length_cons, List.length_nil]
  all_goals omega

theorem TSt.next {w wr wy : World} {ms : List ActM} {i : Nat} (h : TSt w wr ms i) (hb : Below wr.heap.size wr wy) (m : ActM) (hk : ms[i]? = some m) (hm : (lineL m).2 = true) (hok : NumsOk m) (h1 : m.data.length ≤ 40000) (h2 : m.keep.length ≤ 500) : TSt w wy ms (i + 1) := by
  refine ⟨h.below.trans (hb.mono h.below.size), good_step ms i m hk h.good hm, fun j m' hj hm' => ?_, ?_⟩
  · by_cases e : j = i
    · subst e
      rw [hk] at hm'
      obtain rfl := Option.some.inj hm'
      exact ⟨h1, h2⟩
    · exact h.small j m' (by omega) hm'
  · have := h.size
    have hl := line_len2 m hok h1 h2
    rw [text_step ms i m hk, List.length_append, List.length_append, Nat.succ_mul]
    show _ + (_ + 1) ≤ _
    omega

/-- Small as far as Script looks: where the i-th has no line. -/
theorem small_bad {w wr : World} {es : List Ent} {i : Nat} (h : TSt w wr (es.map (·.m)) i) (e : Ent) (he : es[i]? = some e) (hm : (lineL e.m).2 = false) (h1 : e.m.data.length ≤ 40000) (h2 : e.m.keep.length ≤ 500) : Small 1099511627776 es := by
  intro j e' hj hg
  rcases Nat.lt_trichotomy j i with hlt | rfl | hgt
  · have := h.small j e'.m hlt (by rw [List.getElem?_map, hj]; rfl)
    omega
  · rw [he] at hj
    obtain rfl := Option.some.inj hj
    omega
  · exfalso
    have h3 : goodL (((es.map (·.m)).take j).take (i + 1)) = true := good_take _ _ hg
    rw [List.take_take, Nat.min_eq_left (by omega), take_snoc _ i e.m (by rw [List.getElem?_map, he]; rfl), goodL_snoc, hm, Bool.and_false] at h3
    cases h3
theorem small_all {w wr : World} {es : List Ent} (h : TSt w wr (es.map (·.m)) es.length) : Small 1099511627776 es := by
  intro j e' hj _
  have hlt : j < es.length := (List.getElem?_eq_some_iff.1 hj).1
  have := h.small j e'.m hlt (by rw [List.getElem?_map, hj]; rfl)
  omega

theorem InList.take {w : World} {p : Option Addr} {es : List Ent} (h : InList w p es) (n : Nat) : InList w p (es.take n) := by
  refine ⟨fun j e he => h.ent j e ?_⟩
  rw [List.getElem?_take] at he
  split at he
  · exact he
  · cases he

set_option maxHeartbeats 8000000 in
set_option maxRecDepth 100000 in
theorem texts_c (p : Option Addr) (es : List Ent) (c : Nat) (w : World) (hE : Env w) (hL : InList w p es) (hc : es.length ≤ c) :
    Calls Tryd.prog 8 #[.slice p es.length c] w fun e w' => e = .returned (.bool true) ∧ Below w.heap.size w w' := by
  have HW : Hid (∀ W, Below w.heap.size w W → Calls Tryd.prog 9 #[] W fun e w' => e = .returned (.bool true) ∧ Below W.heap.size W w') := Lib.hid (fun W h => awake_c W (hE.below h))
  obtain ⟨L, hLd⟩ : ∃ L, L = (es.take 40).length := ⟨_, rfl⟩
  obtain ⟨N, hN⟩ : ∃ N, N = es.length := ⟨_, rfl⟩
  have hL40 : L = min 40 N := by rw [hLd, hN, List.length_take]
  have HL := Lib.hid (InList.take hL 40)
  rw [← hN] at hc ⊢
  have HLD := Lib.hid hLd
  clear hL hLd hN
  generalize es.take 40 = fs at HL HLD
  have HE := Lib.hid hE
  clear hE
  go_enter Tryd.func8, Tryd.ntmps8
  go_upto_if 17 with fail
  go_cut [0] from 18 to 19 (fun s0 wx => s0 = .slice p L c ∧ wx = w)
  case first =>
    by_cases h40 : 40 < N
    · have g1 : (40 : Int) < (N : Int) := by omega
      have g2 : (40 : Int) ≤ (c : Int) := by omega
      have hl2 : L = 40 := by omega
      clear hL40
      subst hl2
      go_wp2_with fail
      all_goals go_meet
      all_goals exact ⟨rfl, rfl⟩
    · have g1 : ¬ (40 : Int) < (N : Int) := by omega
      have hl2 : N = L := by omega
      clear hL40
      subst hl2
      go_wp2_with fail
      all_goals go_meet
      all_goals exact ⟨rfl, rfl⟩
  case rest =>
    obtain ⟨rfl, hwx⟩ := hcut
    rw [hwx]
    clear hwx
    have hL4 : L ≤ 40 := by omega
    clear hL40 hc
    obtain ⟨ms, hms⟩ : ∃ ms, ms = fs.map (·.m) := ⟨_, rfl⟩
    have HMS := Lib.hid hms
    clear hms
    have HLM : Hid (L = ms.length) := Lib.hid (by rw [HMS.out, List.length_map]; exact HLD.out)
    have T0 : Hid (TSt w w ms 0) := Lib.hid ⟨Below.refl _ _, rfl, (fun j m hj => absurd hj (Nat.not_lt_zero j)), Nat.zero_le _⟩
    go_wp2_with fail
    go_loopg [3, 4] (L + 1) (fun gg s3 s4 wr => ∃ (i : Nat) (tx : ByteArray), i ≤ L ∧ L - i < gg ∧ s4 = .int .i64 (i : Int) ∧ s3 = .string tx ∧ Hid (tx = mkB (textL (ms.take i))) ∧ Hid (TSt w wr ms i))
    case atStart => exact ⟨0, _, by omega, by omega, rfl, rfl, Lib.hid rfl, T0⟩
    case round =>
      obtain ⟨i, tx, hi, hgg, rfl, rfl, HTX, TR⟩ := hrel
      clear T0
      by_cases hil0 : i < L
      · have hil : (i : Int) < (L : Int) := by omega
        obtain ⟨e, he⟩ : ∃ e, fs[i]? = some e := ⟨_, List.getElem?_eq_getElem (by rw [← HLD.out]; exact hil0)⟩
        have hmk : ms[i]? = some e.m := by rw [HMS.out, List.getElem?_map, he]; rfl
        obtain ⟨g, o, rfl, hg, hcc, hin⟩ := (HL.out.below TR.out.below).ent i e he
        have HEE := Lib.hid he
        have hd0 := hin.data
        have hk0 := hin.keep
        obtain ⟨m, dv, kv⟩ := e
        simp only at hmk hin hd0 hk0
        obtain ⟨pd, cd, rfl, -⟩ := hd0
        obtain ⟨pk, ck, rfl, -⟩ := hk0
        have q0 : wr.cell? ⟨g, o + i * 8, none⟩ = _ := hcc 0 _ rfl
        have q1 := hcc 1 _ rfl
        have q2 := hcc 2 _ rfl
        have q3 := hcc 3 _ rfl
        have q4 := hcc 4 _ rfl
        have q5 := hcc 5 _ rfl
        have q6 := hcc 6 _ rfl
        have q7 := hcc 7 _ rfl
        simp only at q0 q1 q2 q3 q4 q5 q6 q7
        have HIN := Lib.hid hin
        have HMK := Lib.hid hmk
        clear hin hmk he hcc
        obtain ⟨l1, hl1⟩ : ∃ l1, l1 = m.data.length := ⟨_, rfl⟩
        obtain ⟨l3, hl3⟩ : ∃ l3, l3 = m.keep.length := ⟨_, rfl⟩
        rw [← hl1] at q6
        rw [← hl3] at q7
        rw [← hl1, ← hl3] at HIN HEE
        have HL1 := Lib.hid hl1
        have HL3 := Lib.hid hl3
        clear hl1 hl3
        by_cases hb3 : l3 ≤ 500
        · have g3 : ¬ (500 : Int) < (l3 : Int) := by omega
          by_cases hb1 : l1 ≤ 40000
          · have g1 : ¬ (40000 : Int) < (l1 : Int) := by omega
            have e1 : m.data.length ≤ 1099511627776 := by rw [← HL1.out]; omega
            have e3 : m.keep.length ≤ 1099511627776 := by rw [← HL3.out]; omega
            cases hl : (lineL m).2 with
            | false =>
              have K11 := Lib.hid (law_none m _ _ wr HIN.out e1 e3 hl)
              have HO := out_bad ms i m HMK.out hl
              have HSM := Lib.hid (small_bad (by rw [← HMS.out]; exact TR.out) ⟨m, _, _⟩ HEE.out hl (by rw [← HL1.out]; exact hb1) (by rw [← HL3.out]; exact hb3))
              have K15 : Hid (∀ W, Below w.heap.size w W → Calls Tryd.prog 15 #[.slice (some ⟨g, o, none⟩) L c] W fun e w' => e = .returned (.tuple #[.string ⟨#[]⟩, .int .i64 1]) ∧ Below W.heap.size W w') := Lib.hid (fun W hW => by
                have h := script_c (some ⟨g, o, none⟩) fs c W (HE.out.below hW) (HL.out.below hW) (by rw [← HLD.out]; omega) HSM.out
                rw [← HMS.out, ← HLD.out] at h
                refine h.mono ?_
                rintro e w' ⟨h1, h2⟩
                rw [HO] at h1
                exact ⟨h1, h2⟩)
              unfold actAgg at K11
              clear hl HO e1 e3
              obtain ⟨kind, n, rk, vol, block, size, data, keep⟩ := m
              simp only at K11 q0 q1 q2 q3 q4 q5 q6 q7
              go_wp2_with (first
                | (go_at_call 11; (with_reducible refine K11.out.mono ?_); rintro e w2 ⟨⟨sx, rfl⟩, hb⟩; have B2 := Lib.hid (TR.out.below.trans (hb.mono TR.out.below.size)); clear hb)
                | (go_at_call 15; (with_reducible refine (K15.out _ B2.out).mono ?_); rintro e w3 ⟨rfl, hb⟩; have B3 := Lib.hid (B2.out.trans (hb.mono B2.out.size)); clear hb)
                | (go_at_call 9; (with_reducible refine (HW.out _ B3.out).mono ?_); rintro e w4 ⟨rfl, hb⟩; have B4 := Lib.hid (B3.out.trans (hb.mono B3.out.size)); clear hb))
              go_ret
              exact ⟨rfl, B4.out⟩
            | true =>
              have K11 := Lib.hid (law_good m _ _ wr HIN.out e1 e3 hl)
              have HNX : Hid (∀ W, Below wr.heap.size wr W → TSt w W ms (i + 1)) := Lib.hid (fun W hW => TR.out.next hW m HMK.out hl (HIN.out.ok e1 e3) (by rw [← HL1.out]; exact hb1) (by rw [← HL3.out]; exact hb3))
              have hls : (mkB (lineL m).1).size ≤ 150000 := by
                show ((lineL m).1).toArray.size ≤ _
                rw [List.size_toArray]
                exact line_len2 m (HIN.out.ok e1 e3) (by rw [← HL1.out]; exact hb1) (by rw [← HL3.out]; exact hb3)
              have htx : tx.size ≤ 40 * 200000 := by
                rw [HTX.out]
                show (textL (ms.take i)).toArray.size ≤ _
                rw [List.size_toArray]
                exact Nat.le_trans TR.out.size (Nat.mul_le_mul_right _ (by omega))
              have hs1 : ¬ 9223372036854775807 < (mkB (lineL m).1).size + 1 := by omega
              have hs2 : ¬ 9223372036854775807 < tx.size + ((mkB (lineL m).1).size + 1) := by omega
              have HTN : Hid (tx ++ (mkB (lineL m).1 ++ ⟨#[10]⟩) = mkB (textL (ms.take (i + 1)))) := Lib.hid (by
                rw [text_step ms i m HMK.out, HTX.out]
                apply ByteArray.ext
                simp only [ByteArray.data_append]
                simp [mkB])
              unfold actAgg at K11
              clear hl e1 e3
              generalize mkB (lineL m).1 = sx at *
              obtain ⟨kind, n, rk, vol, block, size, data, keep⟩ := m
              simp only at K11 q0 q1 q2 q3 q4 q5 q6 q7
              go_wp2_with (go_at_call 11; (with_reducible refine K11.out.mono ?_); rintro e w2 ⟨rfl, hb⟩; have T2 := Lib.hid (HNX.out _ hb); clear hb)
              go_roundg (L - (i + 1) + 1)
              case measure => omega
              case rel => exact ⟨i + 1, _, by omega, by omega, by go_num, rfl, HTN, T2⟩
          · have g1 : (40000 : Int) < (l1 : Int) := by omega
            obtain ⟨kind, n, rk, vol, block, size, data, keep⟩ := m
            simp only at q0 q1 q2 q3 q4 q5 q6 q7
            go_wp2_with (go_at_call 9; (with_reducible refine (HW.out _ TR.out.below).mono ?_); rintro e w4 ⟨rfl, hb⟩; have B4 := Lib.hid (TR.out.below.trans (hb.mono TR.out.below.size)); clear hb)
            go_ret
            exact ⟨rfl, B4.out⟩
        · have g3 : (500 : Int) < (l3 : Int) := by omega
          obtain ⟨kind, n, rk, vol, block, size, data, keep⟩ := m
          simp only at q0 q1 q2 q3 q4 q5 q6 q7
          go_wp2_with (go_at_call 9; (with_reducible refine (HW.out _ TR.out.below).mono ?_); rintro e w4 ⟨rfl, hb⟩; have B4 := Lib.hid (TR.out.below.trans (hb.mono TR.out.below.size)); clear hb)
          go_ret
          exact ⟨rfl, B4.out⟩
      · have hil : ¬ (i : Int) < (L : Int) := by omega
        obtain rfl : i = L := by omega
        have hall : ms.take i = ms := List.take_of_length_le (by rw [← HLM.out]; exact Nat.le_refl _)
        have hTR := TR.out
        have hgd := hTR.good
        rw [hall] at hgd
        have hokm : ∀ m ∈ ms, NumsOk m := by
          intro m hm
          obtain ⟨j, hj, hjm⟩ := List.mem_iff_getElem.1 hm
          have hjm2 : ms[j]? = some m := by rw [List.getElem?_eq_getElem hj, hjm]
          have hs2 := hTR.small j m (by rw [HLM.out]; exact hj) hjm2
          rw [HMS.out, List.getElem?_map] at hjm2
          cases hf : fs[j]? with
          | none => rw [hf] at hjm2; cases hjm2
          | some e =>
            rw [hf] at hjm2
            have hm2 : e.m = m := Option.some.inj hjm2
            subst hm2
            obtain ⟨_, _, _, _, _, ha⟩ := HL.out.ent j e hf
            exact ha.ok (by omega) (by omega)
        have HSM := Lib.hid (small_all (es := fs) (by rw [← HMS.out, ← HLD.out]; exact hTR))
        have HTX2 : Hid (tx = mkB (textL ms)) := Lib.hid (by rw [← hall]; exact HTX.out)
        have hsz : tx.size = (textL ms).length := by
          rw [HTX2.out]
          show (textL ms).toArray.size = _
          rw [List.size_toArray]
        have K15 : Hid (Calls Tryd.prog 15 #[.slice p i c] wr fun e w' => e = .returned (.tuple #[.string (scriptOut ms).1, .int .i64 (scriptOut ms).2]) ∧ Below wr.heap.size wr w') := Lib.hid (by
          have h := script_c p fs c wr (HE.out.below hTR.below) (HL.out.below hTR.below) (by rw [← HLD.out]; omega) HSM.out
          rw [← HMS.out, ← HLD.out] at h
          exact h)
        have BR := Lib.hid hTR.below
        have hTS := Lib.hid hTR.small
        clear hTR hall
        by_cases hbig : 65536 < tx.size
        · have g1 : decide ((65536 : Int) < (tx.size : Int)) = true := decide_eq_true (by omega)
          have g2 : (65536 : Int) < (tx.size : Int) := by omega
          have HO : scriptOut ms = (⟨#[]⟩, 7) := by
            unfold scriptOut
            rw [if_pos hgd, if_pos (by omega)]
          rw [HO] at K15
          clear HO hgd hokm hsz
          go_wp2_with (first
            | (go_at_call 15; (with_reducible refine K15.out.mono ?_); rintro e w3 ⟨rfl, hb⟩; have B3 := Lib.hid (BR.out.trans (hb.mono BR.out.size)); clear hb)
            | (go_at_call 9; (with_reducible refine (HW.out _ B3.out).mono ?_); rintro e w4 ⟨rfl, hb⟩; have B4 := Lib.hid (B3.out.trans (hb.mono B3.out.size)); clear hb))
          go_ret
          exact ⟨rfl, B4.out⟩
        · have g1 : decide ((65536 : Int) < (tx.size : Int)) = false := decide_eq_false (by omega)
          have g2 : ¬ (65536 : Int) < (tx.size : Int) := by omega
          have HO : scriptOut ms = (tx, 0) := by
            unfold scriptOut
            rw [if_pos hgd, if_neg (by omega), HTX2.out]
          rw [HO] at K15
          have K16 : Hid (∀ W, Below w.heap.size w W → Calls Tryd.prog 16 #[.string tx] W fun e w' => ∃ lp es2, e = .returned (.tuple #[.slice lp i i, .int .i64 0, .int .i64 0]) ∧ Hid (ms = es2.map (·.m)) ∧ Hid (ListIn w' lp es2) ∧ Below W.heap.size W w') := Lib.hid (fun W hW => by
            refine (acts_r tx (by omega) W (HE.out.below hW)).mono ?_
            rintro e w' ⟨lp, ll, ni, ei, he, hr, hb⟩
            have htl : tx.data.toList = textL ms := by rw [HTX2.out]; simp [mkB]
            rw [htl, fin_text ms (tx.size + 1) 0 [] hokm hgd (by have := textL_ge ms; omega)] at hr
            obtain ⟨rfl, rfl, es2, h1, h2, h3⟩ := hr
            have h1 : ms = es2.map (·.m) := h1
            refine ⟨lp, es2, ?_, Lib.hid h1, Lib.hid h3, hb⟩
            rw [he, h2, HLM.out, h1, List.length_map])
          have htt : (tx.toList != tx.toList) = false := by simp
          clear HO hgd hokm hsz
          go_wp2_with (first
            | (go_at_call 15; (with_reducible refine K15.out.mono ?_); rintro e w3 ⟨rfl, hb⟩; have B3 := Lib.hid (BR.out.trans (hb.mono BR.out.size)); clear hb)
            | (go_at_call 16; (with_reducible refine (K16.out _ B3.out).mono ?_); rintro e w4 ⟨lp, es2, rfl, HM2, LI0, hb⟩; have B4 := Lib.hid (B3.out.trans (hb.mono B3.out.size)); clear hb)
            | (go_at_call 9; (with_reducible refine (HW.out _ B4.out).mono ?_); rintro e w5 ⟨rfl, hb⟩; have B5 := Lib.hid (B4.out.trans (hb.mono B4.out.size)); have LI := Lib.hid (LI0.out.below hb); clear hb))
          clear K15 K16 htt g1 g2 B3 B4 LI0 HSM HTX HTX2 TR BR
          go_loopg [14] (i + 1) (fun gg s14 wq => ∃ k : Nat, k ≤ i ∧ i - k < gg ∧ s14 = .int .i64 (k : Int) ∧ Hid (Below w5.heap.size w5 wq))
          case atStart => exact ⟨0, by omega, by omega, rfl, Lib.hid (Below.refl _ _)⟩
          case round =>
            obtain ⟨k, hk, hgg2, rfl, BQ⟩ := hrel
            by_cases hki : k < i
            · have hil2 : (k : Int) < (i : Int) := by omega
              obtain ⟨e, he⟩ : ∃ e, fs[k]? = some e := ⟨_, List.getElem?_eq_getElem (by rw [← HLD.out]; exact hki)⟩
              obtain ⟨e2, he2⟩ : ∃ e2, es2[k]? = some e2 := ⟨_, List.getElem?_eq_getElem (by have h := congrArg List.length HM2.out; rw [List.length_map] at h; rw [← h, ← HLM.out]; exact hki)⟩
              have hmm : e2.m = e.m := by
                have h1 : ms[k]? = some e.m := by rw [HMS.out, List.getElem?_map, he]; rfl
                have h2 : ms[k]? = some e2.m := by rw [HM2.out, List.getElem?_map, he2]; rfl
                exact Option.some.inj (h2.symm.trans h1)
              have BD : Below w5.heap.size w5 wr.drew := BQ.out.drew
              have BW : Below w.heap.size w wr.drew := B5.out.trans (BD.mono B5.out.size)
              obtain ⟨g, o, rfl, hg, hcc, hin⟩ := (HL.out.below BW).ent k e he
              obtain ⟨g2, rfl, hg2, hcc2, hd2, hk2⟩ := (LI.out.below BD).ent k e2 he2
              have hd0 := hin.data
              have hk0 := hin.keep
              have hd3 := hd2
              have hk3 := hk2
              obtain ⟨m, dv, kv⟩ := e
              obtain ⟨m2, dv2, kv2⟩ := e2
              simp only at hmm hd0 hk0 hin hd2 hk2 hd3 hk3
              subst hmm
              obtain ⟨pd, cd, rfl, -⟩ := hd0
              obtain ⟨pk, ck, rfl, -⟩ := hk0
              obtain ⟨pd2, cd2, rfl, -⟩ := hd3
              obtain ⟨pk2, ck2, rfl, -⟩ := hk3
              have q0 : wr.drew.cell? ⟨g, o + k * 8, none⟩ = _ := hcc 0 _ rfl
              have q1 := hcc 1 _ rfl
              have q2 := hcc 2 _ rfl
              have q3 := hcc 3 _ rfl
              have q4 := hcc 4 _ rfl
              have q5 := hcc 5 _ rfl
              have q6 := hcc 6 _ rfl
              have q7 := hcc 7 _ rfl
              have r0 : wr.drew.cell? ⟨g2, k * 8, none⟩ = _ := hcc2 0 _ rfl
              have r1 := hcc2 1 _ rfl
              have r2 := hcc2 2 _ rfl
              have r3 := hcc2 3 _ rfl
              have r4 := hcc2 4 _ rfl
              have r5 := hcc2 5 _ rfl
              have r6 := hcc2 6 _ rfl
              have r7 := hcc2 7 _ rfl
              simp only at q0 q1 q2 q3 q4 q5 q6 q7 r0 r1 r2 r3 r4 r5 r6 r7
              have hkl : m2.keep.length ≤ 1099511627776 := by
                have := hTS.out k m2 hki (by rw [HMS.out, List.getElem?_map, he]; rfl)
                omega
              have K13 := Lib.hid (same_c m2.kind m2.n m2.rk m2.vol m2.block m2.size _ _ _ _ m2.data m2.keep wr.drew hd2 hin.data hk2 hin.keep hkl)
              unfold actVal at K13
              have HBD := Lib.hid BD
              clear hin hd2 hk2 hcc hcc2 he he2 BD BW hkl
              obtain ⟨kind, n, rk, vol, block, size, data, keep⟩ := m2
              simp only at K13 q0 q1 q2 q3 q4 q5 q6 q7 r0 r1 r2 r3 r4 r5 r6 r7
              go_upto_region 23 with fail
              refine wp_region_still_tail 8 (by kernel_rfl) (by kernel_rfl) ?_
              rw [show ({ wr with drawn := wr.drawn + 1 } : World) = wr.drew from rfl]
              generalize wr.drew = wd at *
              simp only [List.take_succ_cons, List.take_zero, List.drop_succ_cons, List.drop_zero]
              repeat still_step
              try refine wpStill_nil ?_
              go_wp2_with (go_at_call 13; (with_reducible refine K13.out.mono ?_); rintro e w6 ⟨rfl, hb⟩; have B6 := Lib.hid (HBD.out.trans (hb.mono HBD.out.size)); clear hb)
              go_roundg (i - (k + 1) + 1)
              case measure => omega
              case rel => exact ⟨k + 1, by omega, by omega, by go_num, B6⟩
            · have hil2 : ¬ (k : Int) < (i : Int) := by omega
              obtain rfl : k = i := by omega
              go_wp2_with fail
              go_ret
              exact ⟨rfl, B5.out.trans (BQ.out.mono B5.out.size)⟩

end Go.Proofs.YtbnbnccpoeopmaaDoor.Tk
