/- The walks of package table's functions at one small table, and what roll's awake comes to. No conditions. -/
import Derived.Test.YtkoiimldfnbdiaaRa
import Derived.Lib.SliceRun
import Derived.Laws.AppendOwn
import Derived.Laws.OwnMore
import Derived.Deep.RegionWith
namespace Go.Proofs.Ytkoiimldfnbdiaa.Rb
open Go.RowKit Go.Proofs.Ytkoiimldfnbdiaa.Ra

theorem run_store_complex (P : Program) (w : World) (a : Addr) (m : Mode) (k : FloatKind) (x y : Nat) : (store a (.complex k x y) m).run P w = stored P w a (.complex k x y) m := run_store P w a _ m rfl
attribute [local go_sem] run_store_complex

/-- A table of three blocks at t: one page, whose pointer is v, in the row at g. -/
structure Tab (w : World) (t g cap : Nat) (v : Value) : Prop where
  tl : t < w.heap.size
  gl : g < w.heap.size
  size : w.cell? ⟨t, 0, none⟩ = some (.int .i64 3)
  row : w.cell? ⟨t, 1, none⟩ = some (.slice (some ⟨g, 0, none⟩) 1 cap)
  page : w.cell? ⟨g, 0, none⟩ = some v

theorem at_none {w : World} {t g cap : Nat} (h : Tab w t g cap (.pointer none)) : Calls Try.prog 23 #[.pointer (some ⟨t, 0, none⟩), .int .i64 1] w fun e w' => e = .returned (.complex .f64 13830554455654793216 0) ∧ w = w' := by
  have c1 := h.row
  have c2 := h.page
  have l1 := h.tl
  have l2 := h.gl
  clear h
  go_enter Try.func23, Try.ntmps23
  go_wp2
  go_ret
  exact ⟨rfl, rfl⟩

theorem at_some {w : World} {t g cap q : Nat} {v : Value} (h : Tab w t g cap (.pointer (some ⟨q, 0, none⟩))) (hv : w.cell? ⟨q, 1, none⟩ = some v) : Calls Try.prog 23 #[.pointer (some ⟨t, 0, none⟩), .int .i64 1] w fun e w' => e = .returned v ∧ w = w' := by
  have c1 := h.row
  have c2 := h.page
  have l1 := h.tl
  have l2 := h.gl
  clear h
  go_enter Try.func23, Try.ntmps23
  go_wp2
  go_ret
  exact ⟨rfl, rfl⟩

theorem there {w : World} {t g cap : Nat} {v : Value} (h : Tab w t g cap v) : Calls Try.prog 21 #[.pointer (some ⟨t, 0, none⟩), .int .i64 1] w fun e w' => e = .returned (.int .i64 0) ∧ w = w' := by
  have c1 := h.size
  have l1 := h.tl
  clear h
  go_enter Try.func21, Try.ntmps21
  go_wp2
  go_ret
  exact ⟨rfl, rfl⟩

theorem info62 : (Try.prog.info? 62).map (fun i => (i.zero, i.size, i.bytes)) = some (some (.pointer none), 1, 8) := by kernel_rfl

/-- What Clone hands back: a row of its own with the one element. -/
def Cloned (w : World) (v : Value) (e : Ending) (w' : World) : Prop := ∃ c cap : Nat, e = .returned (.slice (some ⟨c, 0, none⟩) 1 cap) ∧ Below w.heap.size w w' ∧ w.heap.size ≤ c ∧ c < w'.heap.size ∧ w'.cell? ⟨c, 0, none⟩ = some v ∧ w'.frozen? ⟨c, 0, none⟩ = false ∧ 1 ≤ cap

theorem cloned_mk {w w' : World} {v v' : Value} (hown : w'.ownsRow w.heap.size 62 1 v' (0 + 1) ([] ++ [v])) (hg : (w.alloc (.cells #[] 62)).grownBy w' (some w.heap.size)) : Cloned w v (.returned v') w' := by
  have hown' := hown
  rcases hown.2 with ⟨_, h0⟩ | ⟨g, cap, cur, rfl, hb, hgg, h2, _⟩
  · omega
  · exact ⟨g, cap, rfl, ((Below.refl _ _).alloc (Nat.le_refl _) _).grown hg (by simp) (fun k hk => by cases hk; exact Nat.le_refl _), hb, (Array.getElem?_eq_some_iff.1 hgg).1, hown'.cells (g := g) rfl 0 v rfl, hown'.frozenAt 0, h2⟩

theorem news_one {w : World} {g : Nat} {v : Value} (hc : w.cell? ⟨g, 0, none⟩ = some v) : ∀ j u, [v][j]? = some u → (w.alloc (.cells #[] 62)).cell? ((⟨g, 0, none⟩ : Addr).add j) = some u := by
  intro j u hu
  cases j with
  | zero =>
    simp at hu
    subst hu
    exact (World.grownBy_alloc w _ none).cell hc (by simp)
  | succ j => simp at hu
theorem one_cell {v : Value} (h : v.oneCell' = true) : ∀ u ∈ [v], u.oneCell' = true := by
  intro u hu
  simp at hu
  subst hu
  exact h

theorem clone {w : World} {g cap : Nat} {v : Value} (hc : w.cell? ⟨g, 0, none⟩ = some v) (h1 : v.oneCell' = true) :
    Calls Try.prog 24 #[.slice (some ⟨g, 0, none⟩) 1 cap] w (Cloned w v) := by
  have he := fun w : World => Go.Lib.run_eql_slice_nil (P := Try.prog) w 51 62 (some ⟨g, 0, none⟩) 1 cap 0 0 Try.underlying51
  obtain ⟨i0, hi, hz0, hz1, hz2⟩ := info_parts info62
  have H1 := Lib.hid h1
  have own := World.ownsRow_made (base := w.heap.size) (e := 62) (size := 1) w #[] 0 (Nat.le_refl _) (Nat.zero_le _) rfl
  have OWN := Lib.hid own
  clear h1 own
  have N := Lib.hid (news_one hc)
  have O := Lib.hid (one_cell H1.out)
  clear hc H1
  go_enter Try.func24, Try.ntmps24
  go_wp2_with (at_builtin; go_loud (refine wpList_append_own _ rfl _ _ 51 rfl w.heap.size 62 i0 (.pointer none) 1 8 Try.underlying51 hi hz0 hz1 hz2 rfl (by decide) _ 0 [] rfl OWN.out ⟨g, 0, none⟩ 1 cap [v] rfl rfl N.out O.out ?c3 ?c4 ?c5 ?_; (case c3 => unfold maxLen; omega); (case c4 => omega); (case c5 => simp); intro v' w' hown' hgrow _; have HO := Lib.hid hown'; have HG := Lib.hid hgrow; clear hown' hgrow))
  go_ret
  exact cloned_mk HO.out HG.out

theorem mm : (FloatKind.f64.format.order 13830554455654793216 13830554455654793216 == some .eq) = true := by decide +kernel
theorem zm : (FloatKind.f64.format.order 4611686018427387904 13830554455654793216 == some .eq) = false := by decide +kernel
theorem mz : (FloatKind.f64.format.order 13830554455654793216 4611686018427387904 == some .eq) = false := by decide +kernel
theorem oo : (FloatKind.f64.format.order 0 0 == some .eq) = true := by decide +kernel
theorem zz : (FloatKind.f64.format.order 4611686018427387904 4611686018427387904 == some .eq) = true := by decide +kernel

theorem some_no (w : World) : Calls Try.prog 26 #[.complex .f64 13830554455654793216 0] w fun e w' => e = .returned (.bool false) ∧ w = w' := by
  have g1 := mm
  have g2 := oo
  go_enter Try.func26, Try.ntmps26
  go_wp2
  go_ret
  exact ⟨rfl, rfl⟩

theorem some_yes (w : World) : Calls Try.prog 26 #[.complex .f64 4611686018427387904 4611686018427387904] w fun e w' => e = .returned (.bool true) ∧ w = w' := by
  have g1 := zm
  go_enter Try.func26, Try.ntmps26
  go_wp2
  go_ret
  exact ⟨rfl, rfl⟩

theorem index2 {w : World} {q : Nat} (h0 : w.cell? ⟨q, 0, none⟩ = some (.complex .f64 13830554455654793216 0)) (h1 : w.cell? ⟨q, 1, none⟩ = some (.complex .f64 4611686018427387904 4611686018427387904)) :
    Calls Try.prog 27 #[.slice (some ⟨q, 0, none⟩) 8 8, .func (.func 26) #[] #[]] w fun e w' => e = .returned (.int .i64 1) ∧ w = w' := by
  go_enter Try.func27, Try.ntmps27
  go_wp2
  go_loopg [5, 8] 8 (fun gg _ s8 wr => ∃ kk : Nat, kk ≤ 1 ∧ 8 - kk ≤ gg ∧ s8 = .int .i64 kk ∧ wr = w)
  case atStart => exact ⟨0, by omega, by omega, rfl, rfl⟩
  case round =>
    obtain ⟨kk, hkk, hg, rfl, rfl⟩ := hrel
    by_cases e : kk = 0
    · subst e
      have hcl := some_no wr
      go_wp2_with (go_at_call 26; (with_reducible refine hcl.mono ?_); rintro e w' ⟨rfl, rfl⟩)
      go_roundg (8 - 1)
      case measure => omega
      case rel => exact ⟨1, by omega, by omega, rfl, rfl⟩
    · obtain rfl : kk = 1 := by omega
      have hcl := some_yes wr
      go_wp2_with (go_at_call 26; (with_reducible refine hcl.mono ?_); rintro e w' ⟨rfl, rfl⟩)
      go_ret
      exact ⟨rfl, rfl⟩

theorem contains2 {w : World} {q : Nat} (h0 : w.cell? ⟨q, 0, none⟩ = some (.complex .f64 13830554455654793216 0)) (h1 : w.cell? ⟨q, 1, none⟩ = some (.complex .f64 4611686018427387904 4611686018427387904)) :
    Calls Try.prog 25 #[.slice (some ⟨q, 0, none⟩) 8 8, .func (.func 26) #[] #[]] w fun e w' => e = .returned (.bool true) ∧ w = w' := by
  have c := index2 h0 h1
  clear h0 h1
  go_enter Try.func25, Try.ntmps25
  go_wp2_with (go_at_call 27; (with_reducible refine c.mono ?_); rintro e w' ⟨rfl, rfl⟩)
  go_ret
  exact ⟨rfl, rfl⟩

/-- The page that is being filled: its first kk cells are -1. -/
def PageAt (w wr : World) (kk : Nat) : Prop := Below w.heap.size w wr ∧ w.heap.size < wr.heap.size ∧ (∀ j, j < 8 → ∃ v, wr.cell? ⟨w.heap.size, j, none⟩ = some v ∧ (j < kk → v = .complex .f64 13830554455654793216 0)) ∧ ∀ j, wr.frozen? ⟨w.heap.size, j, none⟩ = false

theorem page_step {w wr : World} {kk : Nat} (h : PageAt w wr kk) (hk : kk < 8) : PageAt w (wr.setCell ⟨w.heap.size, kk, none⟩ (.complex .f64 13830554455654793216 0)) (kk + 1) := by
  obtain ⟨h1, h2, h3, h4⟩ := h
  refine ⟨h1.setCell (Nat.le_refl _) _, by simpa using h2, fun j hj => ?_, fun j => by simpa using h4 j⟩
  obtain ⟨v, hv, hj'⟩ := h3 j hj
  by_cases e : j = kk
  · subst e
    exact ⟨_, World.cell?_setCell_same _ _ _ hv, fun _ => rfl⟩
  · refine ⟨v, ?_, fun hlt => hj' (by omega)⟩
    rw [World.cell?_setCell_other (h := fun e' => e (by injection e' with _ e2 _; exact e2.symm))]
    exact hv

theorem page_start (w : World) : PageAt w (w.alloc (.cells #[.complex .f64 0 0, .complex .f64 0 0, .complex .f64 0 0, .complex .f64 0 0, .complex .f64 0 0, .complex .f64 0 0, .complex .f64 0 0, .complex .f64 0 0] 64)) 0 := by
  refine ⟨(Below.refl _ _).alloc (Nat.le_refl _) _, by simp, fun j hj => ?_, fun j => by simp⟩
  have : j = 0 ∨ j = 1 ∨ j = 2 ∨ j = 3 ∨ j = 4 ∨ j = 5 ∨ j = 6 ∨ j = 7 := by omega
  rcases this with rfl | rfl | rfl | rfl | rfl | rfl | rfl | rfl <;> simp

/-- What set leaves: a table whose page has the place at block 1. -/
def SetDone (w : World) (e : Ending) (w' : World) : Prop := ∃ t2 c cap2 q : Nat, e = .returned (.pointer (some ⟨t2, 0, none⟩)) ∧ Tab w' t2 c cap2 (.pointer (some ⟨q, 0, none⟩)) ∧ w'.cell? ⟨q, 1, none⟩ = some (.complex .f64 4611686018427387904 4611686018427387904) ∧ Below w.heap.size w w' ∧ w.heap.size ≤ t2 ∧ w.heap.size ≤ c ∧ w.heap.size ≤ q ∧ q < w'.heap.size

theorem alloc_cell {w : World} {a : Addr} {v : Value} (o : Obj) (h : w.cell? a = some v) : (w.alloc o).cell? a = some v := (World.grownBy_alloc w o none).cell h (by simp)

theorem other_block {w : World} {c q o : Nat} {u v : Value} (hne : q ≠ c) (h : w.cell? ⟨q, o, none⟩ = some v) (x : Obj) : ((w.setCell ⟨c, 0, none⟩ u).alloc x).cell? ⟨q, o, none⟩ = some v := by
  refine alloc_cell x ?_
  rw [World.cell?_setCell_other (h := fun e' => by injection e' with e2 _ _; exact hne e2.symm)]
  exact h

theorem new_cell (w : World) {b : Nat} (hb : b = w.heap.size) (j : Nat) {cs : Array Value} {t : TypeId} {v : Value} (hv : cs[j]? = some v) : (w.alloc (.cells cs t)).cell? ⟨b, j, none⟩ = some v := by
  subst hb
  exact (World.cell?_alloc_new w cs t j).trans hv

theorem set_done {w wz w2 : World} {c cap2 : Nat} (B : Below w.heap.size w wz) (hz : w.heap.size < wz.heap.size) (hb : Below wz.heap.size wz w2) (h1 : wz.heap.size ≤ c) (h2 : c < w2.heap.size) (h3 : w2.cell? ⟨c, 0, none⟩ = some (.pointer none))
    (s1 : wz.cell? ⟨w.heap.size, 1, none⟩ = some (.complex .f64 4611686018427387904 4611686018427387904)) :
    SetDone w (.returned (.pointer (some ⟨w2.heap.size, 0, none⟩))) ((w2.setCell ⟨c, 0, none⟩ (.pointer (some ⟨w.heap.size, 0, none⟩))).alloc (.cells #[.int .i64 3, .slice (some ⟨c, 0, none⟩) 1 cap2] 53)) := by
  have p1 : w2.cell? ⟨w.heap.size, 1, none⟩ = some (.complex .f64 4611686018427387904 4611686018427387904) := (hb.cell (p := ⟨w.heap.size, 1, none⟩) hz).trans s1
  refine ⟨_, c, cap2, w.heap.size, rfl, ⟨by simp, by simp; omega, new_cell _ (by simp) _ rfl, new_cell _ (by simp) _ rfl, ?_⟩, other_block (by omega) p1 _, ?_, by have := B.size; have := hb.size; omega, by omega, Nat.le_refl _, by simp; have := hb.size; omega⟩
  · exact alloc_cell _ (World.cell?_setCell_same _ _ _ h3)
  · exact ((B.trans (hb.mono (by omega))).setCell (p := ⟨c, 0, none⟩) (by show w.heap.size ≤ c; omega) _).alloc (by simp; have := B.size; have := hb.size; omega) _

theorem SetDone.drew {w w' : World} {e : Ending} (h : SetDone w e w') : SetDone w e w'.drew := by
  obtain ⟨t2, c, cap2, q, h1, h2, h3, h4, h5⟩ := h
  exact ⟨t2, c, cap2, q, h1, ⟨h2.tl, h2.gl, h2.size, h2.row, h2.page⟩, h3, h4.drew, h5⟩

theorem set_ {w : World} {t g cap : Nat} (h : Tab w t g cap (.pointer none)) : Calls Try.prog 22 #[.pointer (some ⟨t, 0, none⟩), .int .i64 1, .complex .f64 4611686018427387904 4611686018427387904] w (SetDone w) := by
  have c0 := at_none h
  have g1 := mz
  have H := Lib.hid h
  have PS := Lib.hid (page_start w)
  clear h
  go_enter Try.func22, Try.ntmps22
  go_wp2_with (go_at_call 23; (with_reducible refine c0.mono ?_); rintro e w' ⟨rfl, rfl⟩)
  go_loopg [8, 29] 8 (fun gg _ s29 wr => ∃ kk : Nat, kk ≤ 8 ∧ 8 - kk ≤ gg ∧ s29 = .int .i64 kk ∧ Hid (PageAt w wr kk))
  case atStart => exact ⟨0, by omega, by omega, rfl, PS⟩
  case round =>
    obtain ⟨kk, hkk, hg, rfl, P⟩ := hrel
    by_cases e : kk < 8
    · have hlt : (kk : Int) < 8 := by omega
      obtain ⟨v, hv, _⟩ := P.out.2.2.1 kk e
      have f1 := P.out.2.2.2 kk
      have z1 := P.out.2.1
      go_wp2
      go_roundg (8 - (kk + 1))
      case measure => omega
      case rel => exact ⟨kk + 1, by omega, by omega, by go_num, Lib.hid (page_step P.out e)⟩
    · have hlt : ¬ (kk : Int) < 8 := by omega
      obtain rfl : kk = 8 := by omega
      obtain ⟨B, z1, hc, hf⟩ := P.out
      obtain ⟨v0, c0', e0⟩ := hc 0 (by omega)
      obtain ⟨v1, c1', _⟩ := hc 1 (by omega)
      obtain rfl := e0 (by omega)
      have f1 := hf 1
      have H0 := H.out
      have k1 : wr.cell? ⟨t, 0, none⟩ = some (.int .i64 3) := (B.cell (p := ⟨t, 0, none⟩) H0.tl).trans H0.size
      have k2 : wr.cell? ⟨t, 1, none⟩ = some (.slice (some ⟨g, 0, none⟩) 1 cap) := (B.cell (p := ⟨t, 1, none⟩) H0.tl).trans H0.row
      have k3 : wr.cell? ⟨g, 0, none⟩ = some (.pointer none) := (B.cell (p := ⟨g, 0, none⟩) H0.gl).trans H0.page
      have n1 : t ≠ w.heap.size := by have := H0.tl; omega
      have n2 : g ≠ w.heap.size := by have := H0.gl; omega
      have s1 : (wr.setCell ⟨w.heap.size, 1, none⟩ (.complex .f64 4611686018427387904 4611686018427387904)).cell? ⟨w.heap.size, 1, none⟩ = some (.complex .f64 4611686018427387904 4611686018427387904) := World.cell?_setCell_same _ _ _ c1'
      have s0 : (wr.setCell ⟨w.heap.size, 1, none⟩ (.complex .f64 4611686018427387904 4611686018427387904)).cell? ⟨w.heap.size, 0, none⟩ = some (.complex .f64 13830554455654793216 0) := by
        rw [World.cell?_setCell_other (h := fun e' => by injection e' with _ e2 _; omega)]
        exact c0'
      have r1 : (wr.setCell ⟨w.heap.size, 1, none⟩ (.complex .f64 4611686018427387904 4611686018427387904)).cell? ⟨t, 0, none⟩ = some (.int .i64 3) := by
        rw [World.cell?_setCell_other (h := fun e' => by injection e' with e2 _ _; exact n1 e2.symm)]
        exact k1
      have r2 : (wr.setCell ⟨w.heap.size, 1, none⟩ (.complex .f64 4611686018427387904 4611686018427387904)).cell? ⟨t, 1, none⟩ = some (.slice (some ⟨g, 0, none⟩) 1 cap) := by
        rw [World.cell?_setCell_other (h := fun e' => by injection e' with e2 _ _; exact n1 e2.symm)]
        exact k2
      have r3 : (wr.setCell ⟨w.heap.size, 1, none⟩ (.complex .f64 4611686018427387904 4611686018427387904)).cell? ⟨g, 0, none⟩ = some (.pointer none) := by
        rw [World.cell?_setCell_other (h := fun e' => by injection e' with e2 _ _; exact n2 e2.symm)]
        exact k3
      have z2 : w.heap.size < (wr.setCell ⟨w.heap.size, 1, none⟩ (.complex .f64 4611686018427387904 4611686018427387904)).heap.size := by simpa using z1
      have B2 : Hid (Below w.heap.size w (wr.setCell ⟨w.heap.size, 1, none⟩ (.complex .f64 4611686018427387904 4611686018427387904))) := Lib.hid (B.setCell (Nat.le_refl _) _)
      have t1 : t < w.heap.size := H0.tl
      have t2 : g < w.heap.size := H0.gl
      clear hc hf H0 B P
      go_wp2
      generalize wr.setCell ⟨w.heap.size, 1, none⟩ (.complex .f64 4611686018427387904 4611686018427387904) = wz at s0 s1 r1 r2 r3 z2 B2 ⊢
      clear k1 k2 k3 c0' c1' n1 n2 f1 z1
      have hcl := fun (W : World) (h0 : W.cell? ⟨g, 0, none⟩ = some (.pointer none)) => clone (cap := cap) h0 rfl
      have hct := fun (W : World) h0 h1 => contains2 (w := W) (q := w.heap.size) h0 h1
      go_region_with (go_at_call 24; refine (hcl _ (by first | exact r3 | simpa using r3)).mono ?_; rintro e w2 ⟨c, cap2, rfl, hb, hc1, hc2, hc3, hc4, hc5⟩; have q1 : w2.cell? ⟨t, 0, none⟩ = some (.int .i64 3) := (hb.cell (p := ⟨t, 0, none⟩) (by simp; omega)).trans (by first | exact r1 | simpa using r1); have q2 : w2.cell? ⟨t, 1, none⟩ = some (.slice (some ⟨g, 0, none⟩) 1 cap) := (hb.cell (p := ⟨t, 1, none⟩) (by simp; omega)).trans (by first | exact r2 | simpa using r2))
      all_goals
        have hb' : Below wz.heap.size wz w2 := ⟨hb.os, hb.tape, hb.output, hb.size, hb.block⟩
        have p0 : w2.cell? ⟨w.heap.size, 0, none⟩ = some (.complex .f64 13830554455654793216 0) := (hb'.cell (p := ⟨w.heap.size, 0, none⟩) z2).trans s0
        have p1 : w2.cell? ⟨w.heap.size, 1, none⟩ = some (.complex .f64 4611686018427387904 4611686018427387904) := (hb'.cell (p := ⟨w.heap.size, 1, none⟩) z2).trans s1
        have hc1' : wz.heap.size ≤ c := hc1
        have ne : w.heap.size ≠ c := by omega
        have D := Lib.hid (set_done (cap2 := cap2) B2.out z2 hb' hc1' hc2 hc3 s1)
        go_wp2_with (go_at_call 25; refine (hct _ (by first | exact other_block ne p0 _ | exact (other_block ne p0 _)) (by exact other_block ne p1 _)).mono ?_; rintro e w3 ⟨rfl, rfl⟩)
        go_ret
        first | exact D.out | exact D.out.drew

end Go.Proofs.Ytkoiimldfnbdiaa.Rb
