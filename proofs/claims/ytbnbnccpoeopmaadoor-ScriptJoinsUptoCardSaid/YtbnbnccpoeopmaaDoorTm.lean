/- The walk of ScriptJoins, where no act is too great for memory. -/
import Derived.Test.YtbnbnccpoeopmaaDoorTl
import Derived.Laws.AppendOwnNone
namespace Go.Proofs.YtbnbnccpoeopmaaDoor.Tm
open Go.RowKit Go.Proofs.YtbnbnccpoeopmaaDoor.Sa Go.Proofs.YtbnbnccpoeopmaaDoor.Sb Go.Proofs.YtbnbnccpoeopmaaDoor.Sd Go.Proofs.YtbnbnccpoeopmaaDoor.Se Go.Proofs.YtbnbnccpoeopmaaDoor.Sf Go.Proofs.YtbnbnccpoeopmaaDoor.Sg Go.Proofs.YtbnbnccpoeopmaaDoor.Sh Go.Proofs.YtbnbnccpoeopmaaDoor.Sj Go.Proofs.YtbnbnccpoeopmaaDoor.Sk Go.Proofs.YtbnbnccpoeopmaaDoor.Sp Go.Proofs.YtbnbnccpoeopmaaDoor.Sr Go.Proofs.YtbnbnccpoeopmaaDoor.Su Go.Proofs.YtbnbnccpoeopmaaDoor.Sx Go.Proofs.YtbnbnccpoeopmaaDoor.Sy Go.Proofs.YtbnbnccpoeopmaaDoor.Td Go.Proofs.YtbnbnccpoeopmaaDoor.Tg Go.Proofs.YtbnbnccpoeopmaaDoor.Th Go.Proofs.YtbnbnccpoeopmaaDoor.Ti

theorem entCells_length (es : List Ent) : (entCells es).length = es.length * 8 := by
  induction es with
  | nil => rfl
  | cons e es ih =>
    show (e.cells ++ entCells es).length = _
    rw [List.length_append, ih, List.length_cons]
    show 8 + _ = _
    omega
theorem entCells_get : ∀ (es : List Ent) (j : Nat) (u : Value), (entCells es)[j]? = some u → ∃ i r e, j = i * 8 + r ∧ es[i]? = some e ∧ e.cells[r]? = some u
  | [], j, u, h => by cases h
  | e :: es, j, u, h => by
    have h : (e.cells ++ entCells es)[j]? = some u := h
    have h8 : e.cells.length = 8 := rfl
    rcases Nat.lt_or_ge j 8 with hj | hj
    · rw [List.getElem?_append_left (by omega)] at h
      exact ⟨0, j, e, by omega, rfl, h⟩
    · rw [List.getElem?_append_right (by omega), h8] at h
      obtain ⟨i, r, e', h1, h2, h3⟩ := entCells_get es (j - 8) u h
      exact ⟨i + 1, r, e', by omega, h2, h3⟩

theorem in_news {w : World} {a : Addr} {es : List Ent} (h : InList w (some a) es) : ∀ j u, (entCells es)[j]? = some u → w.cell? (a.add j) = some u := by
  intro j u hu
  obtain ⟨i, r, e, rfl, he, hr⟩ := entCells_get es j u hu
  obtain ⟨g, o, ha, _, hc, _⟩ := h.ent i e he
  obtain rfl := Option.some.inj ha
  rw [Lib.add_plain, ← Nat.add_assoc]
  exact hc r u hr

theorem in_one {w : World} {p : Option Addr} {es : List Ent} (h : InList w p es) : ∀ u ∈ entCells es, u.oneCell' = true := by
  intro u hu
  obtain ⟨j, hj⟩ := List.mem_iff_getElem?.1 hu
  obtain ⟨i, r, e, _, he, hr⟩ := entCells_get es j u hj
  obtain ⟨_, _, _, _, _, ha⟩ := h.ent i e he
  have hd := ha.data
  have hk := ha.keep
  obtain ⟨m, dv, kv⟩ := e
  obtain ⟨p1, c1, hd, -⟩ := hd
  obtain ⟨p3, c3, hk, -⟩ := hk
  simp only at hd hk
  subst hd
  subst hk
  have hm := List.mem_of_getElem? hr
  unfold Ent.cells at hm
  simp only [List.mem_cons, List.mem_nil_iff, or_false] at hm
  rcases hm with rfl | rfl | rfl | rfl | rfl | rfl | rfl | rfl <;> rfl

theorem InList.app {w : World} {base : Nat} {v : Value} {es1 es2 : List Ent} {p1 p2 : Option Addr} (h1 : InList w p1 es1) (h2 : InList w p2 es2) (hr : w.ownsRow base 27 8 v (es1.length + es2.length) (entCells es1 ++ entCells es2)) :
    ∃ p c, v = .slice p (es1 ++ es2).length c ∧ InList w p (es1 ++ es2) := by
  have he : entCells es1 ++ entCells es2 = entCells (es1 ++ es2) := by
    unfold entCells
    rw [List.flatMap_append]
  rw [he] at hr
  have hl : es1.length + es2.length = (es1 ++ es2).length := (List.length_append).symm
  rw [hl] at hr
  have ha : ∀ (j : Nat) (e : Ent), (es1 ++ es2)[j]? = some e → ActIn w e.m e.dv e.kv := by
    intro j e hj
    rcases List.mem_append.1 (List.mem_of_getElem? hj) with hm | hm
    · obtain ⟨i, hi⟩ := List.mem_iff_getElem?.1 hm
      obtain ⟨_, _, _, _, _, h⟩ := h1.ent i e hi
      exact h
    · obtain ⟨i, hi⟩ := List.mem_iff_getElem?.1 hm
      obtain ⟨_, _, _, _, _, h⟩ := h2.ent i e hi
      exact h
  rcases Nat.eq_zero_or_pos (es1 ++ es2).length with h0 | h0
  · have hnil : es1 ++ es2 = [] := List.eq_nil_of_length_eq_zero h0
    obtain ⟨p, c, hv⟩ : ∃ p c, v = .slice p (es1 ++ es2).length c := by
      rcases hr.2 with ⟨hv, _⟩ | ⟨g, cap, cur, hv, _⟩
      · exact ⟨none, 0, by rw [hv, h0]⟩
      · exact ⟨_, _, hv⟩
    refine ⟨p, c, hv, ⟨fun j e hj => ?_⟩⟩
    rw [hnil] at hj
    cases hj
  · obtain ⟨g, cap, hv, _, hg⟩ := hr.form h0
    refine ⟨_, _, hv, ⟨fun j e hj => ⟨g, 0, rfl, hg, fun i u hu => ?_, ha j e hj⟩⟩⟩
    subst hv
    have := hr.cells (g := g) rfl (j * 8 + i) u (entCells_at _ j e i u hj hu)
    rw [Lib.add_plain] at this
    rw [Nat.add_assoc]
    exact this

theorem out_ok {ms : List ActM} (h : (scriptOut ms).2 = 0) : goodL ms = true ∧ (textL ms).length ≤ 65536 ∧ scriptOut ms = (mkB (textL ms), 0) := by
  unfold scriptOut at h ⊢
  split at h
  · rename_i hg
    split at h
    · cases h
    · rename_i hl
      rw [if_pos hg, if_neg hl]
      exact ⟨hg, by omega, rfl⟩
  · cases h
theorem out_both {ms1 ms2 : List ActM} (h1 : (scriptOut ms1).2 = 0) (h2 : (scriptOut ms2).2 = 0) (hs : (textL ms1).length + (textL ms2).length ≤ 65536) : scriptOut (ms1 ++ ms2) = (mkB (textL ms1) ++ mkB (textL ms2), 0) := by
  obtain ⟨g1, _, _⟩ := out_ok h1
  obtain ⟨g2, _, _⟩ := out_ok h2
  have ht : textL (ms1 ++ ms2) = textL ms1 ++ textL ms2 := by
    unfold textL
    rw [List.flatMap_append]
  have hg : goodL (ms1 ++ ms2) = true := by
    unfold goodL at *
    rw [List.all_append, g1, g2]
    rfl
  unfold scriptOut
  rw [if_pos hg, ht, if_neg (by rw [List.length_append]; omega), mk_cat]

-- WALK
set_option maxHeartbeats 4000000 in
set_option maxRecDepth 100000 in
theorem joins_c (p1 p2 : Option Addr) (es1 es2 : List Ent) (c1 c2 : Nat) (w : World) (hE : Env w) (hL1 : InList w p1 es1) (hL2 : InList w p2 es2) (hn1 : p1 = none → es1 = [] ∧ c1 = 0) (hn2 : p2 = none → es2 = [] ∧ c2 = 0)
    (hl1 : es1.length ≤ 1048576) (hl2 : es2.length ≤ 1048576) (hs1 : Small 1099511627776 es1) (hs2 : Small 1099511627776 es2) (hs3 : Small 1099511627776 (es1 ++ es2)) :
    Calls Tryd.prog 6 #[.slice p1 es1.length c1, .slice p2 es2.length c2] w fun e w' => e = .returned (.bool true) ∧ Below w.heap.size w w' := by
  have HW : Hid (∀ W, Below w.heap.size w W → Calls Tryd.prog 9 #[] W fun e w' => e = .returned (.bool true) ∧ Below W.heap.size W w') := Lib.hid (fun W h => awake_c W (hE.below h))
  obtain ⟨x1, hx1⟩ : ∃ x, x = scriptOut (es1.map (·.m)) := ⟨_, rfl⟩
  obtain ⟨x2, hx2⟩ : ∃ x, x = scriptOut (es2.map (·.m)) := ⟨_, rfl⟩
  have K1 : Hid (∀ W, Below w.heap.size w W → Calls Tryd.prog 15 #[.slice p1 es1.length c1] W fun e w' => e = .returned (.tuple #[.string x1.1, .int .i64 x1.2]) ∧ Below W.heap.size W w') := Lib.hid (fun W hW => by
    rw [hx1]
    exact script_c p1 es1 c1 W (hE.below hW) (hL1.below hW) (by omega) hs1)
  have K2 : Hid (∀ W, Below w.heap.size w W → Calls Tryd.prog 15 #[.slice p2 es2.length c2] W fun e w' => e = .returned (.tuple #[.string x2.1, .int .i64 x2.2]) ∧ Below W.heap.size W w') := Lib.hid (fun W hW => by
    rw [hx2]
    exact script_c p2 es2 c2 W (hE.below hW) (hL2.below hW) (by omega) hs2)
  have hxs : ∀ ms : List ActM, (scriptOut ms).1.size ≤ 65536 := fun ms => by
    unfold scriptOut
    split
    · split
      · exact Nat.zero_le _
      · show (textL ms).toArray.size ≤ _
        rw [List.size_toArray]
        omega
    · exact Nat.zero_le _
  have z1 : x1.1.size ≤ 65536 := by rw [hx1]; exact hxs _
  have z2 : x2.1.size ≤ 65536 := by rw [hx2]; exact hxs _
  have K3 : Hid (x1.2 = 0 → x2.2 = 0 → x1.1.size + x2.1.size ≤ 65536 → ∀ (p : Option Addr) (c : Nat) (W : World), Below w.heap.size w W → InList W p (es1 ++ es2) → Calls Tryd.prog 15 #[.slice p (es1 ++ es2).length c] W fun e w' => e = .returned (.tuple #[.string (x1.1 ++ x2.1), .int .i64 0]) ∧ Below W.heap.size W w') := Lib.hid (fun h1 h2 h3 p c W hW hin => by
    have h := script_c p (es1 ++ es2) c W (hE.below hW) hin (by rw [List.length_append]; omega) hs3
    rw [hx1] at h1
    rw [hx2] at h2
    have o1 := (out_ok h1).2.2
    have o2 := (out_ok h2).2.2
    have q1 : x1.1 = mkB (textL (es1.map (·.m))) := by rw [hx1, o1]
    have q2 : x2.1 = mkB (textL (es2.map (·.m))) := by rw [hx2, o2]
    have hsz : ∀ l : List UInt8, (mkB l).size = l.length := fun l => by
      show l.toArray.size = _
      simp
    rw [q1, q2, hsz, hsz] at h3
    have hb := out_both h1 h2 h3
    rw [List.map_append] at h
    refine h.mono ?_
    rintro e w' ⟨he, hbl⟩
    rw [hb] at he
    rw [q1, q2]
    exact ⟨he, hbl⟩)
  have HL1 := Lib.hid hL1
  have HL2 := Lib.hid hL2
  clear hx1 hx2 hxs hE hL1 hL2 hs1 hs2 hs3
  obtain ⟨t1, e1⟩ := x1
  obtain ⟨t2, e2⟩ := x2
  simp only at K1 K2 K3 z1 z2
  by_cases h1 : e1 = 0
  · by_cases h2 : e2 = 0
    · by_cases h3 : t1.size + t2.size ≤ 65536
      · have K4 := Lib.hid (K3.out h1 h2 h3)
        subst h1
        subst h2
        have g3 : decide ((65536 : Int) < (t1.size : Int) + (t2.size : Int)) = false := decide_eq_false (by omega)
        have g4 : ¬ 9223372036854775807 < t1.size + t2.size := by omega
        cases p1 with
        | none =>
          cases p2 with
          | none =>
            obtain ⟨rfl, rfl⟩ := hn1 rfl
            obtain ⟨rfl, rfl⟩ := hn2 rfl
            clear hn1 hn2
            simp only [List.length_nil] at K1 ⊢
            simp only [List.length_nil] at K2 ⊢
            obtain ⟨i27, hi27, hz0, hz1, hz2⟩ := info_parts info27
            have HZ0 := Lib.hid hz0
            have HZ1 := Lib.hid hz1
            have HZ2 := Lib.hid hz2
            have HI := Lib.hid hi27
            clear hz0 hz1 hz2 hi27
            go_enter Tryd.func6, Tryd.ntmps6
            go_upto_region 2 with (go_at_call 15; (with_reducible refine (K1.out _ (Below.refl _ _)).mono ?_); rintro e w1 ⟨rfl, hb⟩; have B1 := Lib.hid hb; clear hb)
            go_upto_region 3 with (go_at_call 15; (with_reducible refine (K2.out _ B1.out).mono ?_); rintro e w2 ⟨rfl, hb⟩; have B2 := Lib.hid (B1.out.trans (hb.mono B1.out.size)); clear hb)
            go_upto_region 5 with (go_at_call 9; (with_reducible refine (HW.out _ B2.out).mono ?_); rintro e w4 ⟨rfl, hb⟩; have B4 := Lib.hid (B2.out.trans (hb.mono B2.out.size)); clear hb)
            have BA : Hid (Below w4.heap.size w4 (w4.alloc (.cells #[] 27))) := Lib.hid ((Below.refl _ _).alloc (Nat.le_refl _) _)
            have OW : Hid ((w4.alloc (.cells #[] 27)).ownsRow w4.heap.size 27 8 (.slice (some ⟨w4.heap.size, 0, none⟩) 0 0) 0 []) := Lib.hid ⟨rfl, Or.inr ⟨_, _, _, rfl, Nat.le_refl _, blk_new _ _ _, Nat.le_refl _, Nat.zero_le _, rfl, rfl⟩⟩
            have LA1 := Lib.hid ((HL1.out.below B4.out).below BA.out)
            have LA2 := Lib.hid ((HL2.out.below B4.out).below BA.out)
            have hbs : w4.heap.size ≤ (w4.alloc (.cells #[] 27)).heap.size := BA.out.size
            go_wp2_with (first | (at_builtin; go_loud (refine wpList_append_own_none rfl _ _ 42 rfl w4.heap.size 27 i27 8 Tryd.underlying42 HI.out _ 0 [] rfl OW.out rfl ?_)))
            obtain ⟨pq, cq, hv, hin⟩ := InList.app LA1.out LA2.out OW.out
            obtain ⟨rfl, rfl⟩ : some ⟨w4.heap.size, 0, none⟩ = pq ∧ 0 = cq := by simpa using hv
            have B7 := Lib.hid (B4.out.trans (BA.out.mono B4.out.size))
            have HIN := Lib.hid hin
            clear hv hin
            have K7 : Hid (∀ W, W = (w4.alloc (.cells #[] 27)) → Calls Tryd.prog 15 #[.slice (some ⟨w4.heap.size, 0, none⟩) 0 0] W fun e w' => e = .returned (.tuple #[.string (t1 ++ t2), .int .i64 0]) ∧ Below W.heap.size W w') := Lib.hid (fun W hW => by
              subst hW
              have h := K4.out _ 0 _ B7.out HIN.out
              have e4 : (([] : List Ent) ++ ([] : List Ent)).length = 0 := by rfl
              rw [e4] at h
              exact h)
            (with_reducible refine (K7.out _ rfl).mono ?_)
            rintro e w8 ⟨rfl, hb⟩
            have B8 := Lib.hid (B7.out.trans (hb.mono B7.out.size))
            clear hb
            go_wp2_with fail
            go_ret
            exact ⟨rfl, B8.out⟩
          | some a2 =>
            obtain ⟨rfl, rfl⟩ := hn1 rfl
            clear hn1 hn2
            simp only [List.length_nil] at K1 ⊢
            obtain ⟨i27, hi27, hz0, hz1, hz2⟩ := info_parts info27
            have HZ0 := Lib.hid hz0
            have HZ1 := Lib.hid hz1
            have HZ2 := Lib.hid hz2
            have HI := Lib.hid hi27
            clear hz0 hz1 hz2 hi27
            obtain ⟨n2, hn2⟩ : ∃ n, n = es2.length := ⟨_, rfl⟩
            have N2 := Lib.hid hn2
            rw [← hn2] at K2 hl2 ⊢
            clear hn2
            have k3 : 0 + n2 ≤ maxLen := by unfold maxLen; omega
            have k4 : (0 + n2) * 96 ≤ 140737488355328 := by omega
            go_enter Tryd.func6, Tryd.ntmps6
            go_upto_region 2 with (go_at_call 15; (with_reducible refine (K1.out _ (Below.refl _ _)).mono ?_); rintro e w1 ⟨rfl, hb⟩; have B1 := Lib.hid hb; clear hb)
            go_upto_region 3 with (go_at_call 15; (with_reducible refine (K2.out _ B1.out).mono ?_); rintro e w2 ⟨rfl, hb⟩; have B2 := Lib.hid (B1.out.trans (hb.mono B1.out.size)); clear hb)
            go_upto_region 5 with (go_at_call 9; (with_reducible refine (HW.out _ B2.out).mono ?_); rintro e w4 ⟨rfl, hb⟩; have B4 := Lib.hid (B2.out.trans (hb.mono B2.out.size)); clear hb)
            have BA : Hid (Below w4.heap.size w4 (w4.alloc (.cells #[] 27))) := Lib.hid ((Below.refl _ _).alloc (Nat.le_refl _) _)
            have OW : Hid ((w4.alloc (.cells #[] 27)).ownsRow w4.heap.size 27 8 (.slice (some ⟨w4.heap.size, 0, none⟩) 0 0) 0 []) := Lib.hid ⟨rfl, Or.inr ⟨_, _, _, rfl, Nat.le_refl _, blk_new _ _ _, Nat.le_refl _, Nat.zero_le _, rfl, rfl⟩⟩
            have LA1 := Lib.hid ((HL1.out.below B4.out).below BA.out)
            have LA2 := Lib.hid ((HL2.out.below B4.out).below BA.out)
            have hbs : w4.heap.size ≤ (w4.alloc (.cells #[] 27)).heap.size := BA.out.size
            go_wp2_with (first | (at_builtin; go_loud (refine wpList_append_own_none rfl _ _ 42 rfl w4.heap.size 27 i27 8 Tryd.underlying42 HI.out _ 0 [] rfl OW.out rfl ?_)) | (at_builtin; go_loud (refine wpList_append_own _ rfl _ _ 42 rfl w4.heap.size 27 i27 _ 8 96 Tryd.underlying42 HI.out HZ0.out HZ1.out HZ2.out rfl (by decide) _ 0 [] rfl OW.out a2 n2 c2 (entCells es2) rfl (by rw [N2.out]; exact entCells_length es2) (in_news LA2.out) (in_one LA2.out) k3 k4 hbs ?_)))
            intro v2 w6 hown hgrow _
            have B6 : Hid (Below w4.heap.size w4 w6) := Lib.hid (BA.out.grown hgrow hbs (fun q hq => Nat.le_of_eq (Option.some.inj hq)))
            have hR : w6.ownsRow w4.heap.size 27 8 v2 (([] : List Ent).length + es2.length) (entCells ([] : List Ent) ++ entCells es2) := by
              have e0 : ([] : List Ent).length + es2.length = n2 := by rw [N2.out]; simp
              rw [e0]
              exact hown
            obtain ⟨pq, cq, hv, hin⟩ := InList.app ((HL1.out.below B4.out).below B6.out) ((HL2.out.below B4.out).below B6.out) hR
            have e3 : (([] : List Ent) ++ es2).length = n2 := by rw [List.length_append, N2.out]; simp
            rw [e3] at hv
            subst hv
            have HIN := Lib.hid hin
            have B7 := Lib.hid (B4.out.trans (B6.out.mono B4.out.size))
            clear hR hin e3 hown hgrow
            have K7 : Hid (∀ W, W = w6 → Calls Tryd.prog 15 #[.slice pq n2 cq] W fun e w' => e = .returned (.tuple #[.string (t1 ++ t2), .int .i64 0]) ∧ Below W.heap.size W w') := Lib.hid (fun W hW => by
              subst hW
              have h := K4.out _ cq _ B7.out HIN.out
              have e4 : (([] : List Ent) ++ es2).length = n2 := by rw [N2.out]; simp
              rw [e4] at h
              exact h)
            go_wp2_with (go_at_call 15; (with_reducible refine (K7.out _ rfl).mono ?_); rintro e w8 ⟨rfl, hb⟩; have B8 := Lib.hid (B7.out.trans (hb.mono B7.out.size)); clear hb)
            go_ret
            exact ⟨rfl, B8.out⟩
        | some a1 =>
          cases p2 with
          | none =>
            obtain ⟨rfl, rfl⟩ := hn2 rfl
            clear hn1 hn2
            simp only [List.length_nil] at K2 ⊢
            obtain ⟨i27, hi27, hz0, hz1, hz2⟩ := info_parts info27
            have HZ0 := Lib.hid hz0
            have HZ1 := Lib.hid hz1
            have HZ2 := Lib.hid hz2
            have HI := Lib.hid hi27
            clear hz0 hz1 hz2 hi27
            obtain ⟨n1, hn1⟩ : ∃ n, n = es1.length := ⟨_, rfl⟩
            have N1 := Lib.hid hn1
            rw [← hn1] at K1 hl1 ⊢
            clear hn1
            have k1 : 0 + n1 ≤ maxLen := by unfold maxLen; omega
            have k2 : (0 + n1) * 96 ≤ 140737488355328 := by omega
            go_enter Tryd.func6, Tryd.ntmps6
            go_upto_region 2 with (go_at_call 15; (with_reducible refine (K1.out _ (Below.refl _ _)).mono ?_); rintro e w1 ⟨rfl, hb⟩; have B1 := Lib.hid hb; clear hb)
            go_upto_region 3 with (go_at_call 15; (with_reducible refine (K2.out _ B1.out).mono ?_); rintro e w2 ⟨rfl, hb⟩; have B2 := Lib.hid (B1.out.trans (hb.mono B1.out.size)); clear hb)
            go_upto_region 5 with (go_at_call 9; (with_reducible refine (HW.out _ B2.out).mono ?_); rintro e w4 ⟨rfl, hb⟩; have B4 := Lib.hid (B2.out.trans (hb.mono B2.out.size)); clear hb)
            have BA : Hid (Below w4.heap.size w4 (w4.alloc (.cells #[] 27))) := Lib.hid ((Below.refl _ _).alloc (Nat.le_refl _) _)
            have OW : Hid ((w4.alloc (.cells #[] 27)).ownsRow w4.heap.size 27 8 (.slice (some ⟨w4.heap.size, 0, none⟩) 0 0) 0 []) := Lib.hid ⟨rfl, Or.inr ⟨_, _, _, rfl, Nat.le_refl _, blk_new _ _ _, Nat.le_refl _, Nat.zero_le _, rfl, rfl⟩⟩
            have LA1 := Lib.hid ((HL1.out.below B4.out).below BA.out)
            have LA2 := Lib.hid ((HL2.out.below B4.out).below BA.out)
            have hbs : w4.heap.size ≤ (w4.alloc (.cells #[] 27)).heap.size := BA.out.size
            go_wp2_with (first | (at_builtin; go_loud (refine wpList_append_own _ rfl _ _ 42 rfl w4.heap.size 27 i27 _ 8 96 Tryd.underlying42 HI.out HZ0.out HZ1.out HZ2.out rfl (by decide) _ 0 [] rfl OW.out a1 n1 c1 (entCells es1) rfl (by rw [N1.out]; exact entCells_length es1) (in_news LA1.out) (in_one LA1.out) k1 k2 hbs ?_)))
            intro v1 w5 hown hgrow _
            have B5 : Hid (Below w4.heap.size w4 w5) := Lib.hid (BA.out.grown hgrow hbs (fun q hq => Nat.le_of_eq (Option.some.inj hq)))
            have OW5 := Lib.hid hown
            have LB1 := Lib.hid ((HL1.out.below B4.out).below B5.out)
            have LB2 := Lib.hid ((HL2.out.below B4.out).below B5.out)
            have hb5 : w4.heap.size ≤ w5.heap.size := B5.out.size
            clear hown hgrow
            have hR : w5.ownsRow w4.heap.size 27 8 v1 (es1.length + ([] : List Ent).length) (entCells es1 ++ entCells []) := by
              have e0 : es1.length + ([] : List Ent).length = n1 := by rw [N1.out]; simp
              have e2 : entCells es1 ++ entCells [] = entCells es1 := List.append_nil _
              rw [e0, e2]
              exact OW5.out
            obtain ⟨pq, cq, hv, hin⟩ := InList.app LB1.out LB2.out hR
            have e3 : (es1 ++ ([] : List Ent)).length = n1 := by rw [N1.out]; simp
            rw [e3] at hv
            subst hv
            have HIN := Lib.hid hin
            clear hR hin e3
            go_wp2_with (first | (at_builtin; go_loud (refine wpList_append_own_none rfl _ _ 42 rfl w4.heap.size 27 i27 8 Tryd.underlying42 HI.out _ n1 (entCells es1) rfl OW5.out rfl ?_)))
            have B7 := Lib.hid (B4.out.trans (B5.out.mono B4.out.size))
            have K7 : Hid (∀ W, W = w5 → Calls Tryd.prog 15 #[.slice pq n1 cq] W fun e w' => e = .returned (.tuple #[.string (t1 ++ t2), .int .i64 0]) ∧ Below W.heap.size W w') := Lib.hid (fun W hW => by
              subst hW
              have h := K4.out _ cq _ B7.out HIN.out
              have e4 : (es1 ++ ([] : List Ent)).length = n1 := by rw [N1.out]; simp
              rw [e4] at h
              exact h)
            (with_reducible refine (K7.out _ rfl).mono ?_)
            rintro e w8 ⟨rfl, hb⟩
            have B8 := Lib.hid (B7.out.trans (hb.mono B7.out.size))
            clear hb
            go_wp2_with fail
            go_ret
            exact ⟨rfl, B8.out⟩
          | some a2 =>
            clear hn1 hn2
            obtain ⟨i27, hi27, hz0, hz1, hz2⟩ := info_parts info27
            have HZ0 := Lib.hid hz0
            have HZ1 := Lib.hid hz1
            have HZ2 := Lib.hid hz2
            have HI := Lib.hid hi27
            clear hz0 hz1 hz2 hi27
            obtain ⟨n1, hn1⟩ : ∃ n, n = es1.length := ⟨_, rfl⟩
            have N1 := Lib.hid hn1
            rw [← hn1] at K1 hl1 ⊢
            clear hn1
            have k1 : 0 + n1 ≤ maxLen := by unfold maxLen; omega
            have k2 : (0 + n1) * 96 ≤ 140737488355328 := by omega
            obtain ⟨n2, hn2⟩ : ∃ n, n = es2.length := ⟨_, rfl⟩
            have N2 := Lib.hid hn2
            rw [← hn2] at K2 hl2 ⊢
            clear hn2
            have k3 : n1 + n2 ≤ maxLen := by unfold maxLen; omega
            have k4 : (n1 + n2) * 96 ≤ 140737488355328 := by omega
            go_enter Tryd.func6, Tryd.ntmps6
            go_upto_region 2 with (go_at_call 15; (with_reducible refine (K1.out _ (Below.refl _ _)).mono ?_); rintro e w1 ⟨rfl, hb⟩; have B1 := Lib.hid hb; clear hb)
            go_upto_region 3 with (go_at_call 15; (with_reducible refine (K2.out _ B1.out).mono ?_); rintro e w2 ⟨rfl, hb⟩; have B2 := Lib.hid (B1.out.trans (hb.mono B1.out.size)); clear hb)
            go_upto_region 5 with (go_at_call 9; (with_reducible refine (HW.out _ B2.out).mono ?_); rintro e w4 ⟨rfl, hb⟩; have B4 := Lib.hid (B2.out.trans (hb.mono B2.out.size)); clear hb)
            have BA : Hid (Below w4.heap.size w4 (w4.alloc (.cells #[] 27))) := Lib.hid ((Below.refl _ _).alloc (Nat.le_refl _) _)
            have OW : Hid ((w4.alloc (.cells #[] 27)).ownsRow w4.heap.size 27 8 (.slice (some ⟨w4.heap.size, 0, none⟩) 0 0) 0 []) := Lib.hid ⟨rfl, Or.inr ⟨_, _, _, rfl, Nat.le_refl _, blk_new _ _ _, Nat.le_refl _, Nat.zero_le _, rfl, rfl⟩⟩
            have LA1 := Lib.hid ((HL1.out.below B4.out).below BA.out)
            have LA2 := Lib.hid ((HL2.out.below B4.out).below BA.out)
            have hbs : w4.heap.size ≤ (w4.alloc (.cells #[] 27)).heap.size := BA.out.size
            go_wp2_with (first | (at_builtin; go_loud (refine wpList_append_own _ rfl _ _ 42 rfl w4.heap.size 27 i27 _ 8 96 Tryd.underlying42 HI.out HZ0.out HZ1.out HZ2.out rfl (by decide) _ 0 [] rfl OW.out a1 n1 c1 (entCells es1) rfl (by rw [N1.out]; exact entCells_length es1) (in_news LA1.out) (in_one LA1.out) k1 k2 hbs ?_)))
            intro v1 w5 hown hgrow _
            have B5 : Hid (Below w4.heap.size w4 w5) := Lib.hid (BA.out.grown hgrow hbs (fun q hq => Nat.le_of_eq (Option.some.inj hq)))
            have OW5 := Lib.hid hown
            have LB1 := Lib.hid ((HL1.out.below B4.out).below B5.out)
            have LB2 := Lib.hid ((HL2.out.below B4.out).below B5.out)
            have hb5 : w4.heap.size ≤ w5.heap.size := B5.out.size
            clear hown hgrow
            go_wp2_with (first | (at_builtin; go_loud (refine wpList_append_own _ rfl _ _ 42 rfl w4.heap.size 27 i27 _ 8 96 Tryd.underlying42 HI.out HZ0.out HZ1.out HZ2.out rfl (by decide) _ n1 (entCells es1) rfl OW5.out a2 n2 c2 (entCells es2) rfl (by rw [N2.out]; exact entCells_length es2) (in_news LB2.out) (in_one LB2.out) k3 k4 hb5 ?_)))
            intro v2 w6 hown hgrow _
            have B6 : Hid (Below w4.heap.size w4 w6) := Lib.hid (B5.out.grown hgrow hb5 (fun q hq => (OW5.out.lt q hq).1))
            have hR : w6.ownsRow w4.heap.size 27 8 v2 (es1.length + es2.length) (entCells es1 ++ entCells es2) := by
              have e0 : es1.length + es2.length = (n1 + n2) := by rw [N1.out, N2.out]
              rw [e0]
              exact hown
            obtain ⟨pq, cq, hv, hin⟩ := InList.app ((HL1.out.below B4.out).below B6.out) ((HL2.out.below B4.out).below B6.out) hR
            have e3 : (es1 ++ es2).length = (n1 + n2) := by rw [List.length_append, N1.out, N2.out]
            rw [e3] at hv
            subst hv
            have HIN := Lib.hid hin
            have B7 := Lib.hid (B4.out.trans (B6.out.mono B4.out.size))
            clear hR hin e3 hown hgrow
            have K7 : Hid (∀ W, W = w6 → Calls Tryd.prog 15 #[.slice pq (n1 + n2) cq] W fun e w' => e = .returned (.tuple #[.string (t1 ++ t2), .int .i64 0]) ∧ Below W.heap.size W w') := Lib.hid (fun W hW => by
              subst hW
              have h := K4.out _ cq _ B7.out HIN.out
              have e4 : (es1 ++ es2).length = (n1 + n2) := by rw [List.length_append, N1.out, N2.out]
              rw [e4] at h
              exact h)
            go_wp2_with (go_at_call 15; (with_reducible refine (K7.out _ rfl).mono ?_); rintro e w8 ⟨rfl, hb⟩; have B8 := Lib.hid (B7.out.trans (hb.mono B7.out.size)); clear hb)
            go_ret
            exact ⟨rfl, B8.out⟩
      · subst h1
        subst h2
        have g3 : decide ((65536 : Int) < (t1.size : Int) + (t2.size : Int)) = true := decide_eq_true (by omega)
        have g5 : (65536 : Int) < (t1.size : Int) + (t2.size : Int) := by omega
        clear K3 HL1 HL2
        generalize es1.length = n1 at *
        generalize es2.length = n2 at *
        go_enter Tryd.func6, Tryd.ntmps6
        go_upto_region 2 with (go_at_call 15; (with_reducible refine (K1.out _ (Below.refl _ _)).mono ?_); rintro e w1 ⟨rfl, hb⟩; have B1 := Lib.hid hb; clear hb)
        go_upto_region 3 with (go_at_call 15; (with_reducible refine (K2.out _ B1.out).mono ?_); rintro e w2 ⟨rfl, hb⟩; have B2 := Lib.hid (B1.out.trans (hb.mono B1.out.size)); clear hb)
        go_upto_region 4 with (go_at_call 9; (with_reducible refine (HW.out _ B2.out).mono ?_); rintro e w4 ⟨rfl, hb⟩; have B4 := Lib.hid (B2.out.trans (hb.mono B2.out.size)); clear hb)
        go_wp2_with (go_at_call 9; (with_reducible refine (HW.out _ B4.out).mono ?_); rintro e w6 ⟨rfl, hb⟩; have B6 := Lib.hid (B4.out.trans (hb.mono B4.out.size)); clear hb)
        go_ret
        exact ⟨rfl, B6.out⟩
    · have g3 : (e2 == 0) = false := beq_eq_false_iff_ne.2 h2
      have g4 : (e2 != 0) = true := bne_iff_ne.2 h2
      subst h1
      clear K3 HL1 HL2
      generalize es1.length = n1 at *
      generalize es2.length = n2 at *
      go_enter Tryd.func6, Tryd.ntmps6
      go_upto_region 2 with (go_at_call 15; (with_reducible refine (K1.out _ (Below.refl _ _)).mono ?_); rintro e w1 ⟨rfl, hb⟩; have B1 := Lib.hid hb; clear hb)
      go_upto_region 3 with (go_at_call 15; (with_reducible refine (K2.out _ B1.out).mono ?_); rintro e w2 ⟨rfl, hb⟩; have B2 := Lib.hid (B1.out.trans (hb.mono B1.out.size)); clear hb)
      go_upto_region 4 with (go_at_call 9; (with_reducible refine (HW.out _ B2.out).mono ?_); rintro e w4 ⟨rfl, hb⟩; have B4 := Lib.hid (B2.out.trans (hb.mono B2.out.size)); clear hb)
      go_wp2_with (go_at_call 9; (with_reducible refine (HW.out _ B4.out).mono ?_); rintro e w6 ⟨rfl, hb⟩; have B6 := Lib.hid (B4.out.trans (hb.mono B4.out.size)); clear hb)
      go_ret
      exact ⟨rfl, B6.out⟩
  · have g3 : (e1 == 0) = false := beq_eq_false_iff_ne.2 h1
    have g4 : (e1 != 0) = true := bne_iff_ne.2 h1
    clear K3 HL1 HL2
    generalize es1.length = n1 at *
    generalize es2.length = n2 at *
    go_enter Tryd.func6, Tryd.ntmps6
    go_upto_region 2 with (go_at_call 15; (with_reducible refine (K1.out _ (Below.refl _ _)).mono ?_); rintro e w1 ⟨rfl, hb⟩; have B1 := Lib.hid hb; clear hb)
    go_upto_region 3 with (go_at_call 15; (with_reducible refine (K2.out _ B1.out).mono ?_); rintro e w2 ⟨rfl, hb⟩; have B2 := Lib.hid (B1.out.trans (hb.mono B1.out.size)); clear hb)
    go_upto_region 4 with (go_at_call 9; (with_reducible refine (HW.out _ B2.out).mono ?_); rintro e w4 ⟨rfl, hb⟩; have B4 := Lib.hid (B2.out.trans (hb.mono B2.out.size)); clear hb)
    go_wp2_with (go_at_call 9; (with_reducible refine (HW.out _ B4.out).mono ?_); rintro e w6 ⟨rfl, hb⟩; have B6 := Lib.hid (B4.out.trans (hb.mono B4.out.size)); clear hb)
    go_ret
    exact ⟨rfl, B6.out⟩

end Go.Proofs.YtbnbnccpoeopmaaDoor.Tm
