/- Texts joined: KSy KTi KSz KTj. -/
import Derived.Outline
import Derived.Shelf.Strings.Builder1
import Derived.Deep.CutBlock
import Derived.StillTailTactics
import Derived.Test.YtjohhjdicbeojaaGreatDoorZaj
namespace Go.Proofs.YtjohhjdicbeojaaGreatDoor.KSy
open Go.RowKit Go.Proofs.YtjohhjdicbeojaaGreatDoor.KSa Go.Proofs.YtjohhjdicbeojaaGreatDoor.KSb Go.Proofs.YtjohhjdicbeojaaGreatDoor.KSc Go.Proofs.YtjohhjdicbeojaaGreatDoor.KSd Go.Proofs.YtjohhjdicbeojaaGreatDoor.KSe Go.Proofs.YtjohhjdicbeojaaGreatDoor.KSf Go.Proofs.YtjohhjdicbeojaaGreatDoor.KSg Go.Proofs.YtjohhjdicbeojaaGreatDoor.KSh Go.Proofs.YtjohhjdicbeojaaGreatDoor.KSj Go.Proofs.YtjohhjdicbeojaaGreatDoor.KSp Go.Proofs.YtjohhjdicbeojaaGreatDoor.KSr Go.Proofs.YtjohhjdicbeojaaGreatDoor.KSu Go.Proofs.YtjohhjdicbeojaaGreatDoor.KSw Go.Proofs.YtjohhjdicbeojaaGreatDoor.KSx
theorem clip_c (p : Option Addr) (n c : Nat) (w : World) (h : n ≤ c) (hc : c ≤ maxLen) (hp : p = none → c = 0) :
    Calls Tryz.prog 49 #[.slice p n c] w fun e w' => e = .returned (.slice p n n) ∧ Below w.heap.size w w' := by
  have hc2 : c ≤ 9223372036854775807 := by simpa [maxLen] using hc
  have h1 : (n : Int) ≤ (c : Int) := by omega
  have h2 : (0 : Int) ≤ (n : Int) := by omega
  cases p with
  | none =>
    obtain rfl := hp rfl
    obtain rfl : n = 0 := by omega
    go_enter Tryz.func49, Tryz.ntmps49
    go_wp2
    go_ret
    exact ⟨rfl, Below.refl _ _⟩
  | some a =>
    go_enter Tryz.func49, Tryz.ntmps49
    go_wp2
    go_ret
    exact ⟨rfl, Below.refl _ _⟩
theorem cut_c (r : ByteArray) (hr : r.size ≤ 65536) (w : World) (hE : Env w) :
    Calls Tryz.prog 47 #[.string r, .string ⟨#[10]⟩] w fun e w' => e = .returned (.tuple #[.string (mkB (cutL r.data.toList).1), .string (mkB (cutL r.data.toList).2.1), .bool (cutL r.data.toList).2.2]) ∧ Below w.heap.size w w' := by
  obtain ⟨m, hm⟩ := hE.len
  refine (Tryz.strings_Cut r ⟨#[10]⟩ m w (by omega) hm).mono ?_
  rintro e w' ⟨rfl, n, rfl⟩
  have e10 : ((⟨#[10]⟩ : ByteArray).data.toList) = [10] := rfl
  rw [e10, cut_L]
  exact ⟨rfl, below_drewN (Below.refl _ _) n⟩
/-- The acts that a row of memory shows. -/
structure ListIn (w : World) (p : Option Addr) (es : List Ent) : Prop where
  ent : ∀ j e, es[j]? = some e → ∃ g, p = some ⟨g, 0, none⟩ ∧ g < w.heap.size ∧ (∀ i u, e.cells[i]? = some u → w.cell? ⟨g, j * 8 + i, none⟩ = some u) ∧ BytesIn w e.dv e.m.data ∧ IntsIn w e.kv e.m.keep
  nil : ∀ (j : Nat) (e : Ent), es[j]? = some e → NilOf e.m e.dv e.kv
  typ : es ≠ [] → ∃ g cs, p = some ⟨g, 0, none⟩ ∧ w.heap[g]? = some (.cells cs 34 (0, 0))
theorem ListIn.below {w w' : World} {p : Option Addr} {es : List Ent} (h : ListIn w p es) (hb : Below w.heap.size w w') : ListIn w' p es := by
  refine ⟨fun j e he => ?_, h.nil, fun hne => by
    obtain ⟨g, cs, h1, h2⟩ := h.typ hne
    exact ⟨g, cs, h1, blk_below h2 hb (lt_of_block h2)⟩⟩
  obtain ⟨g, h1, h2, h3, h4, h5⟩ := h.ent j e he
  exact ⟨g, h1, Nat.lt_of_lt_of_le h2 hb.size, fun i u hu => (hb.cell (p := ⟨g, j * 8 + i, none⟩) h2).trans (h3 i u hu), h4.below hb, h5.below hb⟩
theorem entCells_at : ∀ (es : List Ent) (j : Nat) (e : Ent) (i : Nat) (u : Value), es[j]? = some e → e.cells[i]? = some u → (entCells es)[j * 8 + i]? = some u
  | [], j, e, i, u, h, _ => by cases h
  | a :: t, 0, e, i, u, h, hu => by
    have : a = e := Option.some.inj h
    subst this
    have hi : i < a.cells.length := (List.getElem?_eq_some_iff.1 hu).1
    show (a.cells ++ entCells t)[0 * 8 + i]? = some u
    rw [List.getElem?_append_left (by simpa using hi)]
    simpa using hu
  | a :: t, j + 1, e, i, u, h, hu => by
    have h2 : t[j]? = some e := h
    have ih := entCells_at t j e i u h2 hu
    show (a.cells ++ entCells t)[(j + 1) * 8 + i]? = some u
    have h8 : a.cells.length = 8 := rfl
    rw [List.getElem?_append_right (by rw [h8]; omega), h8]
    rw [show (j + 1) * 8 + i - 8 = j * 8 + i by omega]
    exact ih
theorem list_of_row {w : World} {base n : Nat} {p : Option Addr} {c : Nat} {es : List Ent} (h : w.ownsRow base 34 8 (.slice p n c) n (entCells es)) (hn : n = es.length) (hok : ∀ e ∈ es, EntOk w base e) : ListIn w p es := by
  refine ⟨fun j e he => ?_, fun j e he => (hok e (List.mem_of_getElem? he)).nil, fun hne => by
    rcases h.2 with ⟨_, h0⟩ | ⟨g, cap, cur, hv, _, hh, _⟩
    · exact absurd (List.eq_nil_of_length_eq_zero (by omega)) hne
    · obtain ⟨rfl, _⟩ : p = some ⟨g, 0, none⟩ ∧ c = cap := by simpa using hv
      exact ⟨g, cur, rfl, hh⟩⟩
  have hpos : 0 < n := by
    have := (List.getElem?_eq_some_iff.1 he).1
    omega
  obtain ⟨g, cap, hv, _, hg⟩ := h.form hpos
  obtain ⟨rfl, _⟩ : p = some ⟨g, 0, none⟩ ∧ c = cap := by simpa using hv
  have ho := hok e (List.mem_of_getElem? he)
  refine ⟨g, rfl, hg, fun i u hu => ?_, bytes_of_row ho.d, ints_of_row ho.k⟩
  have := h.cells (g := g) rfl (j * 8 + i) u (entCells_at es j e i u he hu)
  rw [Lib.add_plain, Nat.zero_add] at this
  exact this
/-- What Acts leaves. -/
def ActsPost (R : Option (List ActM) × Nat) (w : World) (e : Ending) (w' : World) : Prop := match R with
  | (none, n) => e = .returned (.tuple #[.slice none 0 0, .int .i64 (n : Int), .int .i64 14]) ∧ Below w.heap.size w w'
  | (some L, _) => ∃ p es, L = es.map (·.m) ∧ e = .returned (.tuple #[.slice p es.length es.length, .int .i64 0, .int .i64 0]) ∧ ListIn w' p es ∧ Below w.heap.size w w'
theorem act_any (s : ByteArray) (hs : s.size ≤ 65536) (w : World) (hE : Env w) :
    Calls Tryz.prog 48 #[.string s] w fun e w' =>
      match actL s.data.toList with
      | none => ∃ pd cd pk ck, e = .returned (.tuple #[.agg #[.int .i64 0, .int .i64 0, .int .i64 0, .int .i64 0, .int .i64 0, .int .i64 0, .slice pd 0 cd, .slice pk 0 ck], .int .i64 14]) ∧ Below w.heap.size w w'
      | some m => ∃ pd cd pk ck, e = .returned (.tuple #[.agg #[.int .i64 m.kind, .int .i64 m.n, .int .i64 m.rk, .int .i64 m.vol, .int .i64 m.block, .int .i64 m.size, .slice pd m.data.length cd, .slice pk m.keep.length ck], .int .i64 0]) ∧ EntOk w' w.heap.size ⟨m, .slice pd m.data.length cd, .slice pk m.keep.length ck⟩ ∧ Below w.heap.size w w' := by
  refine (act_c s (by omega) w hE).mono ?_
  rintro e w' ⟨dv, kv, he, hd, hk, hb, hnil⟩
  rw [actM_L] at he hd hk hnil
  cases hm : actL s.data.toList with
  | none =>
    rw [hm] at he hd hk hnil
    obtain ⟨pd, cd, rfl⟩ := own_slice hd
    obtain ⟨pk, ck, rfl⟩ := own_slice hk
    exact ⟨pd, cd, pk, ck, he, hb⟩
  | some m =>
    rw [hm] at he hd hk hnil
    obtain ⟨pd, cd, rfl⟩ := own_slice hd
    obtain ⟨pk, ck, rfl⟩ := own_slice hk
    exact ⟨pd, cd, pk, ck, he, ⟨hd, hk, hnil⟩, hb⟩
set_option maxHeartbeats 8000000 in
set_option maxRecDepth 100000 in
theorem acts_c (s : ByteArray) (hs : s.size ≤ 65536) (w : World) (hE : Env w) :
    Calls Tryz.prog 27 #[.string s] w fun e w' => ActsPost (fin (s.size + 1) s.data.toList 0 []) w e w' := by
  obtain ⟨FIN, hF⟩ : ∃ FIN, FIN = fin (s.size + 1) s.data.toList 0 [] := ⟨_, rfl⟩
  rw [← hF]
  have HF := Lib.hid hF
  clear hF
  have HE := Lib.hid hE
  clear hE
  have hl : ¬ (65536 : Int) < (s.size : Int) := by omega
  obtain ⟨i27, hi27, hz0, hz1, hz2⟩ := info_parts info27
  have HZ0 := Lib.hid hz0
  have HZ1 := Lib.hid hz1
  have HZ2 := Lib.hid hz2
  have HI := Lib.hid hi27
  clear hz0 hz1 hz2 hi27
  have O0 : Hid (w.ownsRow w.heap.size 34 8 (.slice none 0 0) 0 (entCells [])) := Lib.hid ⟨rfl, Or.inl ⟨rfl, rfl⟩⟩
  go_enter Tryz.func27, Tryz.ntmps27
  go_upto_region 5 with fail
  go_loopg [0, 5, 6, 7, 8, 9, 10, 11] (s.size + 1) (fun gg s0 s5 s6 _ _ _ _ _ wr => ∃ (r : ByteArray) (cnt g : Nat) (es : List Ent), r.size < gg ∧ r.size < g ∧ cnt + r.size ≤ 65536 ∧ s0 = .string r ∧ s6 = .int .i64 ((cnt : Int) + 1) ∧ Hid (cnt = es.length) ∧ Hid (FIN = fin g r.data.toList cnt (es.map (·.m))) ∧ Hid (wr.ownsRow w.heap.size 34 8 s5 cnt (entCells es)) ∧ Hid (∀ e ∈ es, EntOk wr w.heap.size e) ∧ Hid (Below w.heap.size w wr))
  case atStart => exact ⟨s, 0, s.size + 1, [], by omega, by omega, by omega, rfl, rfl, Lib.hid rfl, HF, O0, Lib.hid (fun e he => by cases he), Lib.hid (Below.refl _ _)⟩
  case round =>
    obtain ⟨r, cnt, g, es, hg, hrg, hcn, rfl, rfl, HC, HR, OW, EO, BR⟩ := hrel
    clear HF O0
    obtain ⟨p5, c5, rfl⟩ := own_slice OW.out
    have hrl : r.data.toList.length = r.size := by rw [Array.length_toList]; rfl
    obtain ⟨g, rfl⟩ : ∃ g', g = g' + 1 := ⟨g - 1, by omega⟩
    cases hnil : (r.toList == []) with
    | true =>
      have hr0 : r.data.toList = [] := by rw [ByteArray.toList_eq] at hnil; exact beq_iff_eq.1 hnil
      have HFN : Hid (FIN = (some (es.map (·.m)), 0)) := Lib.hid (HR.out.trans (by unfold fin; rw [if_pos hr0]))
      have hcap : cnt ≤ c5 ∧ c5 ≤ maxLen ∧ (p5 = none → c5 = 0) := by
        rcases OW.out.2 with ⟨h1, _⟩ | ⟨q, cap, cur, hv, _, _, h1, h2, _⟩
        · cases h1
          exact ⟨Nat.le_refl _, by decide, fun _ => rfl⟩
        · cases hv
          exact ⟨h1, h2, fun h => by cases h⟩
      have kc := clip_c p5 cnt c5 wr hcap.1 hcap.2.1 hcap.2.2
      clear hcap hrg
      go_wp2_with (go_at_call 49; (with_reducible refine kc.mono ?_); rintro e w9 ⟨rfl, hb9⟩)
      go_ret3
      rw [HFN.out]
      refine ⟨p5, es, rfl, (by rw [← HC.out]; rfl), (list_of_row OW.out HC.out EO.out).below hb9, BR.out.trans (hb9.mono BR.out.size)⟩
    | false =>
      have hr0 : ¬ r.data.toList = [] := fun e => by rw [ByteArray.toList_eq, e] at hnil; cases hnil
      obtain ⟨hl1, hl2⟩ := cutL_len r.data.toList
      have kcut := cut_c r (by omega) wr (HE.out.below BR.out)
      have hfin : FIN = match actL (cutL r.data.toList).1, (cutL r.data.toList).2.2 with
        | some m, true => fin g (cutL r.data.toList).2.1 (cnt + 1) (es.map (·.m) ++ [m])
        | _, _ => (none, cnt + 1) := HR.out.trans (by
          conv => lhs; unfold fin
          rw [if_neg hr0]
          rfl)
      generalize (cutL r.data.toList).1 = l1 at *
      generalize (cutL r.data.toList).2.1 = l2 at *
      generalize (cutL r.data.toList).2.2 = fd at *
      have z1 : (mkB l1).size = l1.length := by show l1.toArray.size = _; simp
      have z2 : (mkB l2).size = l2.length := by show l2.toArray.size = _; simp
      have kact := fun W h => act_any (mkB l1) (by omega) W h
      have e1 : (mkB l1).data.toList = l1 := rfl
      rw [e1] at kact
      cases hm : actL l1 with
      | none =>
        rw [hm] at kact hfin
        have HFN : Hid (FIN = (none, cnt + 1)) := Lib.hid hfin
        clear hfin hm hr0 hl1 hl2 hrg
        have KA := Lib.hid kact
        clear kact
        go_wp2_with (first
          | (go_at_call 47; (with_reducible refine kcut.mono ?_); rintro e w3 ⟨rfl, hb⟩; have B3 := Lib.hid (BR.out.trans (hb.mono BR.out.size)); clear hb)
          | (go_at_call 48; (with_reducible refine (KA.out _ (HE.out.below B3.out)).mono ?_); rintro e w4 ⟨pd, cd, pk, ck, rfl, hb⟩; have B4 := Lib.hid (B3.out.trans (hb.mono B3.out.size)); clear hb))
        go_ret3
        rw [HFN.out]
        exact ⟨rfl, B4.out.alloc B4.out.size _⟩
      | some m =>
        rw [hm] at kact hfin
        have KA := Lib.hid kact
        clear kact
        cases fd with
        | false =>
          have HFN : Hid (FIN = (none, cnt + 1)) := Lib.hid hfin
          clear hfin hm hr0 hl1 hl2 hrg
          go_wp2_with (first
            | (go_at_call 47; (with_reducible refine kcut.mono ?_); rintro e w3 ⟨rfl, hb⟩; have B3 := Lib.hid (BR.out.trans (hb.mono BR.out.size)); clear hb)
            | (go_at_call 48; (with_reducible refine (KA.out _ (HE.out.below B3.out)).mono ?_); rintro e w4 ⟨pd, cd, pk, ck, rfl, -, hb⟩; have B4 := Lib.hid (B3.out.trans (hb.mono B3.out.size)); clear hb))
          go_ret3
          rw [HFN.out]
          exact ⟨rfl, B4.out.alloc B4.out.size _⟩
        | true =>
          have HFN : Hid (FIN = fin g l2 (cnt + 1) (es.map (·.m) ++ [m])) := Lib.hid hfin
          have hlt : l2.length < r.size := by have := hl2 rfl; omega
          clear hfin hm hr0 hl1 hl2
          have hml : Hid (cnt + 1 ≤ maxLen) := Lib.hid (by simp only [maxLen]; omega)
          have hbs : Hid ((cnt + 1) * 96 ≤ 140737488355328) := Lib.hid (by omega)
          go_wp2_with (first
            | (go_at_call 47; (with_reducible refine kcut.mono ?_); rintro e w3 ⟨rfl, hb⟩; have B3 := Lib.hid (BR.out.trans (hb.mono BR.out.size)); have O3 := Lib.hid (row_below OW.out hb); have E3 := Lib.hid (fun e (he : e ∈ es) => (EO.out e he).below hb); clear hb)
            | (go_at_call 48; (with_reducible refine (KA.out _ (HE.out.below B3.out)).mono ?_); rintro e w4 ⟨pd, cd, pk, ck, rfl, hne, hb⟩; have B4 := Lib.hid (B3.out.trans (hb.mono B3.out.size)); have O4 := Lib.hid (row_below O3.out hb); have E4 := Lib.hid (fun e (he : e ∈ es) => (E3.out e he).below hb); have N4 := Lib.hid (show EntOk w4 w.heap.size ⟨m, .slice pd m.data.length cd, .slice pk m.keep.length ck⟩ from ⟨row_mono hne.d B3.out.size, row_mono hne.k B3.out.size, hne.nil⟩); have hnews := cells_new (w4.alloc (.cells #[.int .i64 m.kind, .int .i64 m.n, .int .i64 m.rk, .int .i64 m.vol, .int .i64 m.block, .int .i64 m.size, .slice pd m.data.length cd, .slice pk m.keep.length ck] 34)) #[.int .i64 m.kind, .int .i64 m.n, .int .i64 m.rk, .int .i64 m.vol, .int .i64 m.block, .int .i64 m.size, .slice pd m.data.length cd, .slice pk m.keep.length ck] 34; rw [sz_alloc] at hnews; have HNW := Lib.hid hnews; clear hb hne hnews)
            | (at_builtin; go_loud (refine wpList_append_own_at _ rfl _ _ 72 rfl w.heap.size 34 i27 _ 8 96 Tryz.underlying72 HI.out HZ0.out HZ1.out HZ2.out rfl (by decide) _ cnt (entCells es) rfl ((O4.out.alloc _).alloc _) ⟨w4.heap.size + 1, 0, none⟩ 1 1 (Ent.cells ⟨m, .slice pd m.data.length cd, .slice pk m.keep.length ck⟩) rfl rfl HNW.out (by intro u hu; simp [Ent.cells] at hu; rcases hu with rfl | rfl | rfl | rfl | rfl | rfl | rfl | rfl <;> rfl) hml.out hbs.out (by rw [sz_alloc, sz_alloc]; exact Nat.le_succ_of_le (Nat.le_succ_of_le B4.out.size)) ?_)))
          intro v' w6 hown hgrow _ _
          have HOWN := Lib.hid hown
          have HGR := Lib.hid hgrow
          clear hown hgrow
          go_wp2
          go_roundg r.size
          case measure => omega
          case rel =>
            refine ⟨mkB l2, cnt + 1, g, es ++ [⟨m, .slice pd m.data.length cd, .slice pk m.keep.length ck⟩], by omega, by omega, by omega, rfl, by go_num, Lib.hid ?_, Lib.hid ?_, Lib.hid ?_, Lib.hid ?_, Lib.hid ?_⟩
            · rw [List.length_append, ← HC.out]; rfl
            · rw [List.map_append]; exact HFN.out
            · have : entCells (es ++ [⟨m, .slice pd m.data.length cd, .slice pk m.keep.length ck⟩]) = entCells es ++ Ent.cells ⟨m, .slice pd m.data.length cd, .slice pk m.keep.length ck⟩ := by
                unfold entCells
                rw [List.flatMap_append]
                simp
              rw [this]
              exact HOWN.out
            · intro e he
              have ba : Below w4.heap.size w4 (w4.alloc (.cells #[.int .i64 m.kind, .int .i64 m.n, .int .i64 m.rk, .int .i64 m.vol, .int .i64 m.block, .int .i64 m.size, .slice pd m.data.length cd, .slice pk m.keep.length ck] 34)) := (Below.refl _ _).alloc (Nat.le_refl _) _
              rcases List.mem_append.1 he with he | he
              · exact ((E4.out e he).below ba).grown (O4.out.alloc _) HGR.out
              · rw [List.mem_singleton.1 he]
                exact (N4.out.below ba).grown (O4.out.alloc _) HGR.out
            · exact ((B4.out.alloc B4.out.size _).alloc (by rw [sz_alloc]; exact Nat.le_succ_of_le B4.out.size) _).grown HGR.out (by rw [sz_alloc, sz_alloc]; exact Nat.le_succ_of_le (Nat.le_succ_of_le B4.out.size)) (fun q hq => (O4.out.lt q hq).1)
end Go.Proofs.YtjohhjdicbeojaaGreatDoor.KSy
namespace Go.Proofs.YtjohhjdicbeojaaGreatDoor.KTi
open Go.RowKit Go.Proofs.YtjohhjdicbeojaaGreatDoor.KSa Go.Proofs.YtjohhjdicbeojaaGreatDoor.KSb Go.Proofs.YtjohhjdicbeojaaGreatDoor.KSd Go.Proofs.YtjohhjdicbeojaaGreatDoor.KSe Go.Proofs.YtjohhjdicbeojaaGreatDoor.KSf Go.Proofs.YtjohhjdicbeojaaGreatDoor.KSg Go.Proofs.YtjohhjdicbeojaaGreatDoor.KSh Go.Proofs.YtjohhjdicbeojaaGreatDoor.KSj Go.Proofs.YtjohhjdicbeojaaGreatDoor.KSp Go.Proofs.YtjohhjdicbeojaaGreatDoor.KSq Go.Proofs.YtjohhjdicbeojaaGreatDoor.KSr Go.Proofs.YtjohhjdicbeojaaGreatDoor.KSu Go.Proofs.YtjohhjdicbeojaaGreatDoor.KSv Go.Proofs.YtjohhjdicbeojaaGreatDoor.KSw Go.Proofs.YtjohhjdicbeojaaGreatDoor.KSx Go.Proofs.YtjohhjdicbeojaaGreatDoor.KTc Go.Proofs.YtjohhjdicbeojaaGreatDoor.KTd Go.Proofs.YtjohhjdicbeojaaGreatDoor.KTe Go.Proofs.YtjohhjdicbeojaaGreatDoor.KTg Go.Proofs.YtjohhjdicbeojaaGreatDoor.KTh
/-! ### What Script answers -/
def textL (ms : List ActM) : List UInt8 := ms.flatMap fun m => (lineL m).1 ++ [10]
def goodL (ms : List ActM) : Bool := ms.all fun m => (lineL m).2
def scriptOut (ms : List ActM) : ByteArray × Int := if goodL ms then (if 65536 < (textL ms).length then (⟨#[]⟩, 7) else (mkB (textL ms), 0)) else (⟨#[]⟩, 1)
theorem textL_snoc (ms : List ActM) (m : ActM) : textL (ms ++ [m]) = textL ms ++ ((lineL m).1 ++ [10]) := by
  unfold textL
  rw [List.flatMap_append]
  simp
theorem goodL_snoc (ms : List ActM) (m : ActM) : goodL (ms ++ [m]) = (goodL ms && (lineL m).2) := by
  unfold goodL
  rw [List.all_append]
  simp
theorem take_snoc {α : Type} (l : List α) (k : Nat) (x : α) (h : l[k]? = some x) : l.take (k + 1) = l.take k ++ [x] := by
  rw [List.take_add_one, h]
  rfl
theorem good_take (ms : List ActM) (k : Nat) (h : goodL ms = true) : goodL (ms.take k) = true := by
  unfold goodL at *
  rw [List.all_eq_true] at *
  exact fun x hx => h x (List.mem_of_mem_take hx)
theorem text_take (ms : List ActM) (k : Nat) : (textL (ms.take k)).length ≤ (textL ms).length := by
  have h : textL ms = textL (ms.take k) ++ textL (ms.drop k) := by
    unfold textL
    rw [← List.flatMap_append, List.take_append_drop]
  rw [h, List.length_append]
  exact Nat.le_add_right _ _
theorem out_bad (ms : List ActM) (k : Nat) (m : ActM) (h : ms[k]? = some m) (hm : (lineL m).2 = false) : scriptOut ms = (⟨#[]⟩, 1) := by
  unfold scriptOut
  rw [if_neg]
  intro hg
  have := good_take ms (k + 1) hg
  rw [take_snoc ms k m h, goodL_snoc, hm, Bool.and_false] at this
  cases this
/-! ### Acts that come in -/
structure InList (w : World) (p : Option Addr) (es : List Ent) : Prop where
  ent : ∀ j e, es[j]? = some e → ∃ g o, p = some ⟨g, o, none⟩ ∧ g < w.heap.size ∧ (∀ i u, e.cells[i]? = some u → w.cell? ⟨g, o + j * 8 + i, none⟩ = some u) ∧ ActIn w e.m e.dv e.kv
theorem InList.below {w w' : World} {p : Option Addr} {es : List Ent} (h : InList w p es) (hb : Below w.heap.size w w') : InList w' p es := by
  refine ⟨fun j e he => ?_⟩
  obtain ⟨g, o, h1, h2, h3, h4⟩ := h.ent j e he
  exact ⟨g, o, h1, Nat.lt_of_lt_of_le h2 hb.size, fun i u hu => (hb.cell (p := ⟨g, o + j * 8 + i, none⟩) h2).trans (h3 i u hu), h4.below hb⟩
/-- As far as Script looks, no act is too great. -/
def Small (N : Nat) (es : List Ent) : Prop := ∀ i e, es[i]? = some e → goodL ((es.map (·.m)).take i) = true → e.m.data.length ≤ N ∧ e.m.keep.length ≤ N
theorem IsBuilder_later {T e : TypeId} {B b : Nat} {bs : List Value} {w w' : World} (h : Lib.IsBuilder T e B b bs w) (hb : Below w.heap.size w w') : Lib.IsBuilder T e B b bs w' := by
  rcases h with h | h
  · have hl := h.lt
    obtain ⟨h1, v, h2, h3, h4⟩ := h
    exact Or.inl ⟨h1, v, blk_below h2 hb hl, row_below h3 hb, h4⟩
  · have hl := h.lt
    obtain ⟨h1, v, h2, h3, h4⟩ := h
    exact Or.inr ⟨h1, v, blk_below h2 hb hl, row_below h3 hb, h4⟩
theorem lays166 : Go.Proofs.Lays.n166 Tryz.prog Tryz.lays156_ren := by
  have L := Tryz.lays156
  exact { mixed := L.mixed, f166 := L.f166, f240 := L.f240, f276 := L.f276, t0 := L.t0, a0 := L.a0, z0 := L.z0, v0 := L.v0, t3 := L.t3, a3 := L.a3, z3 := L.z3, v3 := L.v3, t4 := L.t4, a4 := L.a4, z4 := L.z4, v4 := L.v4, t9 := L.t9, a9 := L.a9, z9 := L.z9, v9 := L.v9, t20 := L.t20, a20 := L.a20, z20 := L.z20, v20 := L.v20, t37 := L.t37, a37 := L.a37, z37 := L.z37, v37 := L.v37, t70 := L.t70, a70 := L.a70, z70 := L.z70, v70 := L.v70, t72 := L.t72, a72 := L.a72, z72 := L.z72, v72 := L.v72, t75 := L.t75, a75 := L.a75, z75 := L.z75, v75 := L.v75, t164 := L.t164, a164 := L.a164, z164 := L.z164, v164 := L.v164 }
theorem write_c (B b : Nat) (l : List UInt8) (s : ByteArray) (w : World) (h : Lib.IsBuilder 77 5 B b (Lib.byteCells l) w) (hlen : l.length + s.size ≤ 140737488355328) (hBw : B ≤ w.heap.size) :
    Calls Tryz.prog 28 #[.pointer (some ⟨b, 0, none⟩), .string s] w fun e w' => e = .returned (.tuple #[.int .i64 s.size, .nilIface]) ∧ Lib.IsBuilder 77 5 B b (Lib.byteCells (l ++ s.data.toList)) w' ∧ Below B w w' := by
  have hl : (Lib.byteCells l).length = l.length := by simp [Lib.byteCells]
  refine (Any.Builder_WriteString lays166 Tryz.Builder_Extra_156 B b (Lib.byteCells l) s w h (by rw [hl]; exact hlen) hBw).mono ?_
  rintro e w' ⟨rfl, hb, hbl⟩
  refine ⟨rfl, Or.inr ?_, hbl⟩
  have e2 : Lib.byteCells (l ++ s.data.toList) = Lib.byteCells l ++ Lib.strCells s := by
    simp [Lib.byteCells, Lib.strCells]
  rw [e2]
  exact hb
/-- What Script leaves. -/
def ScriptPost (ms : List ActM) (w : World) (e : Ending) (w' : World) : Prop := e = .returned (.tuple #[.string (scriptOut ms).1, .int .i64 (scriptOut ms).2]) ∧ Below w.heap.size w w'
/-- Where the loop stands: k acts are done; the text; is it too long? -/
structure SSt (w wr : World) (B : Nat) (ms : List ActM) (k : Nat) (full : Bool) (l : List UInt8) : Prop where
  below : Below B w wr
  size : B < wr.heap.size
  bld : Lib.IsBuilder 77 5 B B (Lib.byteCells l) wr
  good : goodL (ms.take k) = true
  text : full = false → l = textL (ms.take k) ∧ l.length ≤ 65536
  long : full = true → 65536 < (textL (ms.take k)).length
theorem SSt.later {w wr wy : World} {B k : Nat} {ms : List ActM} {full : Bool} {l : List UInt8} (h : SSt w wr B ms k full l) (hb : Below wr.heap.size wr wy) : SSt w wy B ms k full l :=
  ⟨h.below.trans (hb.mono (Nat.le_of_lt h.size)), Nat.lt_of_lt_of_le h.size hb.size, IsBuilder_later h.bld hb, h.good, h.text, h.long⟩
theorem text_step (ms : List ActM) (k : Nat) (m : ActM) (h : ms[k]? = some m) : textL (ms.take (k + 1)) = textL (ms.take k) ++ ((lineL m).1 ++ [10]) := by
  rw [take_snoc ms k m h, textL_snoc]
theorem good_step (ms : List ActM) (k : Nat) (m : ActM) (h : ms[k]? = some m) (hg : goodL (ms.take k) = true) (hm : (lineL m).2 = true) : goodL (ms.take (k + 1)) = true := by
  rw [take_snoc ms k m h, goodL_snoc, hg, hm]
  rfl
/-- The text has been too long. -/
theorem SSt.skip {w wr : World} {B k : Nat} {ms : List ActM} {l : List UInt8} (h : SSt w wr B ms k true l) (m : ActM) (hk : ms[k]? = some m) (hm : (lineL m).2 = true) : SSt w wr B ms (k + 1) true l := by
  refine ⟨h.below, h.size, h.bld, good_step ms k m hk h.good hm, (fun e => by cases e), fun _ => ?_⟩
  have := h.long rfl
  rw [text_step ms k m hk, List.length_append]
  omega
/-- It is now. -/
theorem SSt.over {w wr : World} {B k : Nat} {ms : List ActM} {l : List UInt8} (h : SSt w wr B ms k false l) (m : ActM) (hk : ms[k]? = some m) (hm : (lineL m).2 = true) (hl : 65536 ≤ l.length + (lineL m).1.length) : SSt w wr B ms (k + 1) true l := by
  refine ⟨h.below, h.size, h.bld, good_step ms k m hk h.good hm, (fun e => by cases e), fun _ => ?_⟩
  have := (h.text rfl).1
  rw [text_step ms k m hk, ← this, List.length_append, List.length_append]
  show _ < _ + (_ + 1)
  omega
/-- It is not: a line more. -/
theorem SSt.more {w w5 wr : World} {B k : Nat} {ms : List ActM} {l : List UInt8} (h : SSt w w5 B ms k false l) (m : ActM) (hk : ms[k]? = some m) (hm : (lineL m).2 = true) (hl : ¬ 65536 ≤ l.length + (lineL m).1.length)
    (hb : Below B w5 wr) (hbl : Lib.IsBuilder 77 5 B B (Lib.byteCells (l ++ ((lineL m).1 ++ [10]))) wr) : SSt w wr B ms (k + 1) false (l ++ ((lineL m).1 ++ [10])) := by
  refine ⟨h.below.trans hb, Nat.lt_of_lt_of_le h.size hb.size, hbl, good_step ms k m hk h.good hm, fun _ => ⟨?_, ?_⟩, (fun e => by cases e)⟩
  · rw [text_step ms k m hk, ← (h.text rfl).1]
  · rw [List.length_append, List.length_append]
    show _ + (_ + 1) ≤ _
    omega
theorem SSt.start (w : World) (ms : List ActM) : SSt w (w.alloc (.cells #[.pointer none, .slice none 0 0] 77)) w.heap.size ms 0 false [] := by
  refine ⟨(Below.refl _ _).alloc (Nat.le_refl _) _, by rw [sz_alloc]; omega, Lib.fresh_isBuilder 77 5 w, rfl, fun _ => ⟨rfl, Nat.zero_le _⟩, (fun e => by cases e)⟩
theorem line_len (m : ActM) (hok : NumsOk m) : (lineL m).1.length ≤ 140737488355328 - 65538 := by
  have z0 := itoa_len m.n hok.n
  have z2 := itoa_len m.block hok.block
  have z3 := itoa_len m.size hok.size
  have z4 := keepL_len m.keep hok.keep
  have z5 := req_len m.rk m.vol m.block m.size m.data hok.vol hok.block hok.size
  have z6 := hok.data
  have z7 := hok.keeps
  unfold lineL laterB
  repeat' split
  all_goals simp only [List.length_append, List.length_cons, List.length_nil]
  all_goals omega
end Go.Proofs.YtjohhjdicbeojaaGreatDoor.KTi
namespace Go.Proofs.YtjohhjdicbeojaaGreatDoor.KSz
open Go.RowKit Go.Proofs.YtjohhjdicbeojaaGreatDoor.KSa Go.Proofs.YtjohhjdicbeojaaGreatDoor.KSb Go.Proofs.YtjohhjdicbeojaaGreatDoor.KSc Go.Proofs.YtjohhjdicbeojaaGreatDoor.KSd Go.Proofs.YtjohhjdicbeojaaGreatDoor.KSe Go.Proofs.YtjohhjdicbeojaaGreatDoor.KSf Go.Proofs.YtjohhjdicbeojaaGreatDoor.KSg Go.Proofs.YtjohhjdicbeojaaGreatDoor.KSh Go.Proofs.YtjohhjdicbeojaaGreatDoor.KSj Go.Proofs.YtjohhjdicbeojaaGreatDoor.KSp Go.Proofs.YtjohhjdicbeojaaGreatDoor.KSq Go.Proofs.YtjohhjdicbeojaaGreatDoor.KSr Go.Proofs.YtjohhjdicbeojaaGreatDoor.KSu Go.Proofs.YtjohhjdicbeojaaGreatDoor.KSw Go.Proofs.YtjohhjdicbeojaaGreatDoor.KSx Go.Proofs.YtjohhjdicbeojaaGreatDoor.KSy
/-- No newline ahead of place e, from place k on: how the line is cut. -/
theorem cutL_pre : ∀ (a b : List UInt8), 10 ∉ a → cutL (a ++ b) = (a ++ (cutL b).1, (cutL b).2.1, (cutL b).2.2)
  | [], b, _ => rfl
  | c :: a, b, h => by
    have hc : ¬ c = 10 := fun e => h (by rw [e]; exact List.mem_cons_self ..)
    have ih := cutL_pre a b (fun e => h (List.mem_cons_of_mem _ e))
    show cutL (c :: (a ++ b)) = _
    rw [cutL.eq_2, if_neg hc, ih]
    rfl
end Go.Proofs.YtjohhjdicbeojaaGreatDoor.KSz
namespace Go.Proofs.YtjohhjdicbeojaaGreatDoor.KTj
open Go.RowKit Go.Proofs.YtjohhjdicbeojaaGreatDoor.KSa Go.Proofs.YtjohhjdicbeojaaGreatDoor.KSb Go.Proofs.YtjohhjdicbeojaaGreatDoor.KSd Go.Proofs.YtjohhjdicbeojaaGreatDoor.KSe Go.Proofs.YtjohhjdicbeojaaGreatDoor.KSf Go.Proofs.YtjohhjdicbeojaaGreatDoor.KSg Go.Proofs.YtjohhjdicbeojaaGreatDoor.KSh Go.Proofs.YtjohhjdicbeojaaGreatDoor.KSj Go.Proofs.YtjohhjdicbeojaaGreatDoor.KSl Go.Proofs.YtjohhjdicbeojaaGreatDoor.KSp Go.Proofs.YtjohhjdicbeojaaGreatDoor.KSq Go.Proofs.YtjohhjdicbeojaaGreatDoor.KSr Go.Proofs.YtjohhjdicbeojaaGreatDoor.KSu Go.Proofs.YtjohhjdicbeojaaGreatDoor.KSv Go.Proofs.YtjohhjdicbeojaaGreatDoor.KSw Go.Proofs.YtjohhjdicbeojaaGreatDoor.KSx Go.Proofs.YtjohhjdicbeojaaGreatDoor.KSy Go.Proofs.YtjohhjdicbeojaaGreatDoor.KSz Go.Proofs.YtjohhjdicbeojaaGreatDoor.KTc Go.Proofs.YtjohhjdicbeojaaGreatDoor.KTd Go.Proofs.YtjohhjdicbeojaaGreatDoor.KTe Go.Proofs.YtjohhjdicbeojaaGreatDoor.KTg Go.Proofs.YtjohhjdicbeojaaGreatDoor.KTh Go.Proofs.YtjohhjdicbeojaaGreatDoor.KTi
theorem itoa_no10 (n : Int) : (10 : UInt8) ∉ Lib.itoa n := fun h => by
  have := itoa_mem n 10 h
  revert this
  decide
theorem sp_no10 (n : Int) : (10 : UInt8) ∉ sp n := by
  unfold sp
  intro h
  rcases List.mem_cons.1 h with h | h
  · revert h; decide
  · exact itoa_no10 n h
theorem digit_no10 : ∀ n : Fin 16, digit n.val ≠ 10 := by decide +kernel
theorem hex_no10 (d : List UInt8) : (10 : UInt8) ∉ 120 :: hexOf d := by
  intro h
  rcases List.mem_cons.1 h with h | h
  · revert h
    decide
  · unfold hexOf at h
    obtain ⟨c, _, hc⟩ := List.mem_flatMap.1 h
    have hl := c.toNat_lt
    simp only [List.mem_cons, List.mem_nil_iff, or_false] at hc
    rcases hc with hc | hc
    · exact digit_no10 ⟨c.toNat / 16, by omega⟩ hc.symm
    · exact digit_no10 ⟨c.toNat % 16, by omega⟩ hc.symm
theorem no10_app {a b : List UInt8} (h1 : (10 : UInt8) ∉ a) (h2 : (10 : UInt8) ∉ b) : (10 : UInt8) ∉ a ++ b := fun h => (List.mem_append.1 h).elim h1 h2
theorem keep_no10 (l : List Int) : (10 : UInt8) ∉ keepL l := by
  unfold keepL
  intro h
  obtain ⟨x, _, hx⟩ := List.mem_flatMap.1 h
  exact sp_no10 x hx
theorem req_no10 (rk vol block size : Int) (la : List UInt8) : (10 : UInt8) ∉ (reqL rk vol block size la).1 := by
  have n1 := sp_no10 vol
  have n2 := sp_no10 block
  have n3 := sp_no10 size
  have n4 := hex_no10 la
  unfold reqL
  repeat' split
  all_goals first | decide | skip
  all_goals (try simp only)
  all_goals repeat' (first | assumption | exact (by decide) | refine no10_app ?_ ?_)
theorem line_no10 (m : ActM) : (10 : UInt8) ∉ (lineL m).1 := by
  have n1 := itoa_no10 m.n
  have n2 := itoa_no10 m.block
  have n3 := itoa_no10 m.size
  have n4 := keep_no10 m.keep
  have n5 := req_no10 m.rk m.vol m.block m.size m.data
  unfold lineL laterB
  repeat' split
  all_goals first | decide | skip
  all_goals (try simp only)
  all_goals repeat' (first | assumption | exact (by decide) | refine no10_app ?_ ?_)
theorem cut_line (a b : List UInt8) (h : (10 : UInt8) ∉ a) : cutL (a ++ ([10] ++ b)) = (a, b, true) := by
  rw [cutL_pre a _ h]
  have e : cutL ([10] ++ b) = ([], b, true) := by
    show cutL (10 :: b) = _
    rw [cutL, if_pos rfl]
  rw [e, List.append_nil]
theorem fin_text : ∀ (ms : List ActM) (g cnt : Nat) (acc : List ActM), (∀ m ∈ ms, NumsOk m) → goodL ms = true → ms.length < g → fin g (textL ms) cnt acc = (some (acc ++ ms), 0)
  | [], g, cnt, acc, _, _, hg => by
    obtain ⟨k, rfl⟩ : ∃ k, g = k + 1 := ⟨g - 1, by simp at hg; omega⟩
    rw [fin, if_pos (show textL [] = [] from rfl), List.append_nil]
  | m :: ms, g, cnt, acc, hok, hgd, hg => by
    obtain ⟨k, rfl⟩ : ∃ k, g = k + 1 := ⟨g - 1, by simp at hg; omega⟩
    have hm : (lineL m).2 = true ∧ goodL ms = true := by
      unfold goodL at *
      rw [List.all_cons, Bool.and_eq_true] at hgd
      exact hgd
    have e : textL (m :: ms) = (lineL m).1 ++ ([10] ++ textL ms) := by
      unfold textL
      rw [List.flatMap_cons, List.append_assoc]
    have hc : cutL (textL (m :: ms)) = ((lineL m).1, textL ms, true) := by rw [e, cut_line _ _ (line_no10 m)]
    have hne : textL (m :: ms) ≠ [] := by
      rw [e]
      simp
    rw [fin, if_neg hne, hc]
    simp only [line_forth m (hok m (List.mem_cons_self ..)) hm.1]
    rw [fin_text ms k (cnt + 1) (acc ++ [m]) (fun x hx => hok x (List.mem_cons_of_mem _ hx)) hm.2 (by rw [List.length_cons] at hg; omega), List.append_assoc]
    rfl
theorem textL_ge (ms : List ActM) : ms.length ≤ (textL ms).length := by
  induction ms with
  | nil => exact Nat.zero_le _
  | cons m ms ih =>
    unfold textL at *
    rw [List.flatMap_cons, List.length_append, List.length_append, List.length_cons]
    show _ ≤ _ + 1 + _
    omega
end Go.Proofs.YtjohhjdicbeojaaGreatDoor.KTj
