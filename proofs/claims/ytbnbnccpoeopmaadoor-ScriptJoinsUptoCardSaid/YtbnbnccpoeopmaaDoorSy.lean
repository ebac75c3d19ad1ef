/- The walks of Clip and of Acts. -/
import Derived.Test.YtbnbnccpoeopmaaDoorSx
import Derived.Outline
namespace Go.Proofs.YtbnbnccpoeopmaaDoor.Sy
open Go.RowKit Go.Proofs.YtbnbnccpoeopmaaDoor.Sa Go.Proofs.YtbnbnccpoeopmaaDoor.Sb Go.Proofs.YtbnbnccpoeopmaaDoor.Sc Go.Proofs.YtbnbnccpoeopmaaDoor.Sd Go.Proofs.YtbnbnccpoeopmaaDoor.Se Go.Proofs.YtbnbnccpoeopmaaDoor.Sf Go.Proofs.YtbnbnccpoeopmaaDoor.Sg Go.Proofs.YtbnbnccpoeopmaaDoor.Sh Go.Proofs.YtbnbnccpoeopmaaDoor.Sj Go.Proofs.YtbnbnccpoeopmaaDoor.Sp Go.Proofs.YtbnbnccpoeopmaaDoor.Sr Go.Proofs.YtbnbnccpoeopmaaDoor.Su Go.Proofs.YtbnbnccpoeopmaaDoor.Sw Go.Proofs.YtbnbnccpoeopmaaDoor.Sx

theorem clip_c (p : Option Addr) (n c : Nat) (w : World) (h : n ≤ c) (hc : c ≤ maxLen) (hp : p = none → c = 0) :
    Calls Tryd.prog 33 #[.slice p n c] w fun e w' => e = .returned (.slice p n n) ∧ Below w.heap.size w w' := by
  have hc2 : c ≤ 9223372036854775807 := by simpa [maxLen] using hc
  have h1 : (n : Int) ≤ (c : Int) := by omega
  have h2 : (0 : Int) ≤ (n : Int) := by omega
  cases p with
  | none =>
    obtain rfl := hp rfl
    obtain rfl : n = 0 := by omega
    go_enter Tryd.func33, Tryd.ntmps33
    go_wp2
    go_ret
    exact ⟨rfl, Below.refl _ _⟩
  | some a =>
    go_enter Tryd.func33, Tryd.ntmps33
    go_wp2
    go_ret
    exact ⟨rfl, Below.refl _ _⟩

theorem cut_c (r : ByteArray) (hr : r.size ≤ 65536) (w : World) (hE : Env w) :
    Calls Tryd.prog 32 #[.string r, .string ⟨#[10]⟩] w fun e w' => e = .returned (.tuple #[.string (mkB (cutL r.data.toList).1), .string (mkB (cutL r.data.toList).2.1), .bool (cutL r.data.toList).2.2]) ∧ Below w.heap.size w w' := by
  obtain ⟨m, hm⟩ := hE.len
  refine (Tryd.strings_Cut r ⟨#[10]⟩ m w (by omega) hm).mono ?_
  rintro e w' ⟨rfl, n, rfl⟩
  have e10 : ((⟨#[10]⟩ : ByteArray).data.toList) = [10] := rfl
  rw [e10, cut_L]
  exact ⟨rfl, below_drewN (Below.refl _ _) n⟩

/-- The acts that a row of memory shows. -/
structure ListIn (w : World) (p : Option Addr) (es : List Ent) : Prop where
  ent : ∀ j e, es[j]? = some e → ∃ g, p = some ⟨g, 0, none⟩ ∧ g < w.heap.size ∧ (∀ i u, e.cells[i]? = some u → w.cell? ⟨g, j * 8 + i, none⟩ = some u) ∧ BytesIn w e.dv e.m.data ∧ IntsIn w e.kv e.m.keep

theorem ListIn.below {w w' : World} {p : Option Addr} {es : List Ent} (h : ListIn w p es) (hb : Below w.heap.size w w') : ListIn w' p es := by
  refine ⟨fun j e he => ?_⟩
  obtain ⟨g, h1, h2, h3, h4, h5⟩ := h.ent j e he
  exact ⟨g, h1, Nat.lt_of_lt_of_le h2 hb.size, fun i u hu => (hb.cell (p := ⟨g, j * 8 + i, none⟩) h2).trans (h3 i u hu), h4.below hb, h5.below hb⟩

theorem entCells_at : ∀ (es : List Ent) (j : Nat) (e : Ent) (i : Nat) (u : Value), es[j]? = some e → e.cells[i]? = some u → (entCells es)[j * 8 + i]? = some u
  | [], j, e, i, u, h, _ => by cases h
  | a :: t, 0, e, i, u, h, hu => by
    have : a = e := Option.some.inj h
    subst this
    have hi : i < a.cells.length := (List.getElem?_eq_some_iff.1 hu).1
    show (a.cells ++ entCells t)[0 * 8 + i]? = some u
    rw [List.getElem?_append_left (by simpa using hi)]
    simpa using hu
  | a :: t, j + 1, e, i, u, h, hu => by
    have h2 : t[j]? = some e := h
    have ih := entCells_at t j e i u h2 hu
    show (a.cells ++ entCells t)[(j + 1) * 8 + i]? = some u
    have h8 : a.cells.length = 8 := rfl
    rw [List.getElem?_append_right (by rw [h8]; omega), h8]
    rw [show (j + 1) * 8 + i - 8 = j * 8 + i by omega]
    exact ih

theorem list_of_row {w : World} {base n : Nat} {p : Option Addr} {c : Nat} {es : List Ent} (h : w.ownsRow base 27 8 (.slice p n c) n (entCells es)) (hn : n = es.length) (hok : ∀ e ∈ es, EntOk w base e) : ListIn w p es := by
  refine ⟨fun j e he => ?_⟩
  have hpos : 0 < n := by
    have := (List.getElem?_eq_some_iff.1 he).1
    omega
  obtain ⟨g, cap, hv, _, hg⟩ := h.form hpos
  obtain ⟨rfl, _⟩ : p = some ⟨g, 0, none⟩ ∧ c = cap := by simpa using hv
  have ho := hok e (List.mem_of_getElem? he)
  refine ⟨g, rfl, hg, fun i u hu => ?_, bytes_of_row ho.d, ints_of_row ho.k⟩
  have := h.cells (g := g) rfl (j * 8 + i) u (entCells_at es j e i u he hu)
  rw [Lib.add_plain, Nat.zero_add] at this
  exact this

/-- What Acts leaves. -/
def ActsPost (R : Option (List ActM) × Nat) (w : World) (e : Ending) (w' : World) : Prop := match R with
  | (none, n) => e = .returned (.tuple #[.slice none 0 0, .int .i64 (n : Int), .int .i64 14]) ∧ Below w.heap.size w w'
  | (some L, _) => ∃ p es, L = es.map (·.m) ∧ e = .returned (.tuple #[.slice p es.length es.length, .int .i64 0, .int .i64 0]) ∧ ListIn w' p es ∧ Below w.heap.size w w'

theorem act_any (s : ByteArray) (hs : s.size ≤ 65536) (w : World) (hE : Env w) :
    Calls Tryd.prog 12 #[.string s] w fun e w' =>
      match actL s.data.toList with
      | none => ∃ pd cd pk ck, e = .returned (.tuple #[.agg #[.int .i64 0, .int .i64 0, .int .i64 0, .int .i64 0, .int .i64 0, .int .i64 0, .slice pd 0 cd, .slice pk 0 ck], .int .i64 14]) ∧ Below w.heap.size w w'
      | some m => ∃ pd cd pk ck, e = .returned (.tuple #[.agg #[.int .i64 m.kind, .int .i64 m.n, .int .i64 m.rk, .int .i64 m.vol, .int .i64 m.block, .int .i64 m.size, .slice pd m.data.length cd, .slice pk m.keep.length ck], .int .i64 0]) ∧ EntOk w' w.heap.size ⟨m, .slice pd m.data.length cd, .slice pk m.keep.length ck⟩ ∧ Below w.heap.size w w' := by
  refine (act_c s (by omega) w hE).mono ?_
  rintro e w' ⟨dv, kv, he, hd, hk, hb⟩
  rw [actM_L] at he hd hk
  cases hm : actL s.data.toList with
  | none =>
    rw [hm] at he hd hk
    obtain ⟨pd, cd, rfl⟩ := own_slice hd
    obtain ⟨pk, ck, rfl⟩ := own_slice hk
    exact ⟨pd, cd, pk, ck, he, hb⟩
  | some m =>
    rw [hm] at he hd hk
    obtain ⟨pd, cd, rfl⟩ := own_slice hd
    obtain ⟨pk, ck, rfl⟩ := own_slice hk
    exact ⟨pd, cd, pk, ck, he, ⟨hd, hk⟩, hb⟩

set_option maxHeartbeats 8000000 in
set_option maxRecDepth 100000 in
theorem acts_c (s : ByteArray) (hs : s.size ≤ 65536) (w : World) (hE : Env w) :
    Calls Tryd.prog 16 #[.string s] w fun e w' => ActsPost (fin (s.size + 1) s.data.toList 0 []) w e w' := by
  obtain ⟨FIN, hF⟩ : ∃ FIN, FIN = fin (s.size + 1) s.data.toList 0 [] := ⟨_, rfl⟩
  rw [← hF]
  have HF := Lib.hid hF
  clear hF
  have HE := Lib.hid hE
  clear hE
  have hl : ¬ (65536 : Int) < (s.size : Int) := by omega
  obtain ⟨i27, hi27, hz0, hz1, hz2⟩ := info_parts info27
  have HZ0 := Lib.hid hz0
  have HZ1 := Lib.hid hz1
  have HZ2 := Lib.hid hz2
  have HI := Lib.hid hi27
  clear hz0 hz1 hz2 hi27
  have O0 : Hid (w.ownsRow w.heap.size 27 8 (.slice none 0 0) 0 (entCells [])) := Lib.hid ⟨rfl, Or.inl ⟨rfl, rfl⟩⟩
  go_enter Tryd.func16, Tryd.ntmps16
  go_upto_region 5 with fail
  go_loopg [0, 5, 6, 7, 8, 9, 10, 11] (s.size + 1) (fun gg s0 s5 s6 _ _ _ _ _ wr => ∃ (r : ByteArray) (cnt g : Nat) (es : List Ent), r.size < gg ∧ r.size < g ∧ cnt + r.size ≤ 65536 ∧ s0 = .string r ∧ s6 = .int .i64 ((cnt : Int) + 1) ∧ Hid (cnt = es.length) ∧ Hid (FIN = fin g r.data.toList cnt (es.map (·.m))) ∧ Hid (wr.ownsRow w.heap.size 27 8 s5 cnt (entCells es)) ∧ Hid (∀ e ∈ es, EntOk wr w.heap.size e) ∧ Hid (Below w.heap.size w wr))
  case atStart => exact ⟨s, 0, s.size + 1, [], by omega, by omega, by omega, rfl, rfl, Lib.hid rfl, HF, O0, Lib.hid (fun e he => by cases he), Lib.hid (Below.refl _ _)⟩
  case round =>
    obtain ⟨r, cnt, g, es, hg, hrg, hcn, rfl, rfl, HC, HR, OW, EO, BR⟩ := hrel
    clear HF O0
    obtain ⟨p5, c5, rfl⟩ := own_slice OW.out
    have hrl : r.data.toList.length = r.size := by rw [Array.length_toList]; rfl
    obtain ⟨g, rfl⟩ : ∃ g', g = g' + 1 := ⟨g - 1, by omega⟩
    cases hnil : (r.toList == []) with
    | true =>
      have hr0 : r.data.toList = [] := by rw [ByteArray.toList_eq] at hnil; exact beq_iff_eq.1 hnil
      have HFN : Hid (FIN = (some (es.map (·.m)), 0)) := Lib.hid (HR.out.trans (by unfold fin; rw [if_pos hr0]))
      have hcap : cnt ≤ c5 ∧ c5 ≤ maxLen ∧ (p5 = none → c5 = 0) := by
        rcases OW.out.2 with ⟨h1, _⟩ | ⟨q, cap, cur, hv, _, _, h1, h2, _⟩
        · cases h1
          exact ⟨Nat.le_refl _, by decide, fun _ => rfl⟩
        · cases hv
          exact ⟨h1, h2, fun h => by cases h⟩
      have kc := clip_c p5 cnt c5 wr hcap.1 hcap.2.1 hcap.2.2
      clear hcap hrg
      go_wp2_with (go_at_call 33; (with_reducible refine kc.mono ?_); rintro e w9 ⟨rfl, hb9⟩)
      go_ret3
      rw [HFN.out]
      refine ⟨p5, es, rfl, (by rw [← HC.out]; rfl), (list_of_row OW.out HC.out EO.out).below hb9, BR.out.trans (hb9.mono BR.out.size)⟩
    | false =>
      have hr0 : ¬ r.data.toList = [] := fun e => by rw [ByteArray.toList_eq, e] at hnil; cases hnil
      obtain ⟨hl1, hl2⟩ := cutL_len r.data.toList
      have kcut := cut_c r (by omega) wr (HE.out.below BR.out)
      have hfin : FIN = match actL (cutL r.data.toList).1, (cutL r.data.toList).2.2 with
        | some m, true => fin g (cutL r.data.toList).2.1 (cnt + 1) (es.map (·.m) ++ [m])
        | _, _ => (none, cnt + 1) := HR.out.trans (by
          conv => lhs; unfold fin
          rw [if_neg hr0]
          rfl)
      generalize (cutL r.data.toList).1 = l1 at *
      generalize (cutL r.data.toList).2.1 = l2 at *
      generalize (cutL r.data.toList).2.2 = fd at *
      have z1 : (mkB l1).size = l1.length := by show l1.toArray.size = _; simp
      have z2 : (mkB l2).size = l2.length := by show l2.toArray.size = _; simp
      have kact := fun W h => act_any (mkB l1) (by omega) W h
      have e1 : (mkB l1).data.toList = l1 := rfl
      rw [e1] at kact
      cases hm : actL l1 with
      | none =>
        rw [hm] at kact hfin
        have HFN : Hid (FIN = (none, cnt + 1)) := Lib.hid hfin
        clear hfin hm hr0 hl1 hl2 hrg
        have KA := Lib.hid kact
        clear kact
        go_wp2_with (first
          | (go_at_call 32; (with_reducible refine kcut.mono ?_); rintro e w3 ⟨rfl, hb⟩; have B3 := Lib.hid (BR.out.trans (hb.mono BR.out.size)); clear hb)
          | (go_at_call 12; (with_reducible refine (KA.out _ (HE.out.below B3.out)).mono ?_); rintro e w4 ⟨pd, cd, pk, ck, rfl, hb⟩; have B4 := Lib.hid (B3.out.trans (hb.mono B3.out.size)); clear hb))
        go_ret3
        rw [HFN.out]
        exact ⟨rfl, B4.out.alloc B4.out.size _⟩
      | some m =>
        rw [hm] at kact hfin
        have KA := Lib.hid kact
        clear kact
        cases fd with
        | false =>
          have HFN : Hid (FIN = (none, cnt + 1)) := Lib.hid hfin
          clear hfin hm hr0 hl1 hl2 hrg
          go_wp2_with (first
            | (go_at_call 32; (with_reducible refine kcut.mono ?_); rintro e w3 ⟨rfl, hb⟩; have B3 := Lib.hid (BR.out.trans (hb.mono BR.out.size)); clear hb)
            | (go_at_call 12; (with_reducible refine (KA.out _ (HE.out.below B3.out)).mono ?_); rintro e w4 ⟨pd, cd, pk, ck, rfl, -, hb⟩; have B4 := Lib.hid (B3.out.trans (hb.mono B3.out.size)); clear hb))
          go_ret3
          rw [HFN.out]
          exact ⟨rfl, B4.out.alloc B4.out.size _⟩
        | true =>
          have HFN : Hid (FIN = fin g l2 (cnt + 1) (es.map (·.m) ++ [m])) := Lib.hid hfin
          have hlt : l2.length < r.size := by have := hl2 rfl; omega
          clear hfin hm hr0 hl1 hl2
          have hml : Hid (cnt + 1 ≤ maxLen) := Lib.hid (by simp only [maxLen]; omega)
          have hbs : Hid ((cnt + 1) * 96 ≤ 140737488355328) := Lib.hid (by omega)
          go_wp2_with (first
            | (go_at_call 32; (with_reducible refine kcut.mono ?_); rintro e w3 ⟨rfl, hb⟩; have B3 := Lib.hid (BR.out.trans (hb.mono BR.out.size)); have O3 := Lib.hid (row_below OW.out hb); have E3 := Lib.hid (fun e (he : e ∈ es) => (EO.out e he).below hb); clear hb)
            | (go_at_call 12; (with_reducible refine (KA.out _ (HE.out.below B3.out)).mono ?_); rintro e w4 ⟨pd, cd, pk, ck, rfl, hne, hb⟩; have B4 := Lib.hid (B3.out.trans (hb.mono B3.out.size)); have O4 := Lib.hid (row_below O3.out hb); have E4 := Lib.hid (fun e (he : e ∈ es) => (E3.out e he).below hb); have N4 := Lib.hid (show EntOk w4 w.heap.size ⟨m, .slice pd m.data.length cd, .slice pk m.keep.length ck⟩ from ⟨row_mono hne.d B3.out.size, row_mono hne.k B3.out.size⟩); have hnews := cells_new (w4.alloc (.cells #[.int .i64 m.kind, .int .i64 m.n, .int .i64 m.rk, .int .i64 m.vol, .int .i64 m.block, .int .i64 m.size, .slice pd m.data.length cd, .slice pk m.keep.length ck] 27)) #[.int .i64 m.kind, .int .i64 m.n, .int .i64 m.rk, .int .i64 m.vol, .int .i64 m.block, .int .i64 m.size, .slice pd m.data.length cd, .slice pk m.keep.length ck] 27; rw [sz_alloc] at hnews; have HNW := Lib.hid hnews; clear hb hne hnews)
            | (at_builtin; go_loud (refine wpList_append_own_at _ rfl _ _ 42 rfl w.heap.size 27 i27 _ 8 96 Tryd.underlying42 HI.out HZ0.out HZ1.out HZ2.out rfl (by decide) _ cnt (entCells es) rfl ((O4.out.alloc _).alloc _) ⟨w4.heap.size + 1, 0, none⟩ 1 1 (Ent.cells ⟨m, .slice pd m.data.length cd, .slice pk m.keep.length ck⟩) rfl rfl HNW.out (by intro u hu; simp [Ent.cells] at hu; rcases hu with rfl | rfl | rfl | rfl | rfl | rfl | rfl | rfl <;> rfl) hml.out hbs.out (by rw [sz_alloc, sz_alloc]; exact Nat.le_succ_of_le (Nat.le_succ_of_le B4.out.size)) ?_)))
          intro v' w6 hown hgrow _ _
          have HOWN := Lib.hid hown
          have HGR := Lib.hid hgrow
          clear hown hgrow
          go_wp2
          go_roundg r.size
          case measure => omega
          case rel =>
            refine ⟨mkB l2, cnt + 1, g, es ++ [⟨m, .slice pd m.data.length cd, .slice pk m.keep.length ck⟩], by omega, by omega, by omega, rfl, by go_num, Lib.hid ?_, Lib.hid ?_, Lib.hid ?_, Lib.hid ?_, Lib.hid ?_⟩
            · rw [List.length_append, ← HC.out]; rfl
            · rw [List.map_append]; exact HFN.out
            · have : entCells (es ++ [⟨m, .slice pd m.data.length cd, .slice pk m.keep.length ck⟩]) = entCells es ++ Ent.cells ⟨m, .slice pd m.data.length cd, .slice pk m.keep.length ck⟩ := by
                unfold entCells
                rw [List.flatMap_append]
                simp
              rw [this]
              exact HOWN.out
            · intro e he
              have ba : Below w4.heap.size w4 (w4.alloc (.cells #[.int .i64 m.kind, .int .i64 m.n, .int .i64 m.rk, .int .i64 m.vol, .int .i64 m.block, .int .i64 m.size, .slice pd m.data.length cd, .slice pk m.keep.length ck] 27)) := (Below.refl _ _).alloc (Nat.le_refl _) _
              rcases List.mem_append.1 he with he | he
              · exact ((E4.out e he).below ba).grown (O4.out.alloc _) HGR.out
              · rw [List.mem_singleton.1 he]
                exact (N4.out.below ba).grown (O4.out.alloc _) HGR.out
            · exact ((B4.out.alloc B4.out.size _).alloc (by rw [sz_alloc]; exact Nat.le_succ_of_le B4.out.size) _).grown HGR.out (by rw [sz_alloc, sz_alloc]; exact Nat.le_succ_of_le (Nat.le_succ_of_le B4.out.size)) (fun q hq => (O4.out.lt q hq).1)

end Go.Proofs.YtbnbnccpoeopmaaDoor.Sy
