/- The walk of leaf.Decode, where there are no pages. -/
import Derived.Test.YthhgageghkbjjaaGreatRz
namespace Go.Proofs.YthhgageghkbjjaaGreat.Sm
open Go.RowKit Go.Proofs.YthhgageghkbjjaaGreat.Ra
theorem put_plat {W : World} {c : Nat} {x y : Value} (h : W.heap[c]? = some (.cells #[x, y] 23 (0, 0))) (u v : Value) : (W.setCells c 0 [u, v]).heap[c]? = some (.cells #[u, v] 23 (0, 0)) ∧ W.there c 0 2 := by
  refine ⟨?_, fun k hk => ?_⟩
  · have := blk_set (blk_set h 0 u) 1 v
    simpa [World.setCells] using this
  · rw [blk_cell h, blk_free h]
    match k, hk with
    | 0, _ => exact ⟨rfl, rfl⟩
    | 1, _ => exact ⟨rfl, rfl⟩

end Go.Proofs.YthhgageghkbjjaaGreat.Sm
namespace Go.Proofs.YthhgageghkbjjaaGreat.Sp
open Go.RowKit Go.Proofs.YthhgageghkbjjaaGreat.Ra Go.Proofs.YthhgageghkbjjaaGreat.Ri Go.Proofs.YthhgageghkbjjaaGreat.Rn Go.Proofs.YthhgageghkbjjaaGreat.Ro Go.Proofs.YthhgageghkbjjaaGreat.Rp Go.Proofs.YthhgageghkbjjaaGreat.Rq Go.Proofs.YthhgageghkbjjaaGreat.Sm

/-- The boxes of an answer: the empty state, a geometry. -/
structure AB (A : Nat) (x y : Value) (w W : World) : Prop where
  st : W.heap[A]? = some (.cells emptyCells 30 (0, 0))
  pl : W.heap[A + 1]? = some (.cells #[x, y] 23 (0, 0))
  below : Below w.heap.size w W
theorem AB.later {A : Nat} {x y : Value} {w W W' : World} (h : AB A x y w W) (hb : Below W.heap.size W W') : AB A x y w W' :=
  ⟨blk_below h.st hb (lt_of_block h.st), blk_below h.pl hb (lt_of_block h.pl), h.below.trans (hb.mono h.below.size)⟩
theorem AB.of {A : Nat} {s b : Int} {w W : World} (h : Boxes A (A + 1) s b w W) : AB A (.int .i64 s) (.int .i64 b) w W := ⟨h.1, h.2.1, h.2.2⟩
theorem AB.setSt {A : Nat} {x y : Value} {w W : World} (h : AB A x y w W) (hA : w.heap.size ≤ A) : AB A x y w (W.setCells A 0 emptyCells.toList) :=
  ⟨setE' h.st, setOther h.pl (by omega) _, belowSet h.below (Nat.le_refl _) hA _⟩
theorem AB.setPl {A : Nat} {x y : Value} {w W : World} (h : AB A x y w W) (hA : w.heap.size ≤ A) (u v : Value) : AB A u v w (W.setCells (A + 1) 0 [u, v]) :=
  ⟨setOther h.st (by omega) _, (put_plat h.pl u v).1, belowSet h.below (Nat.le_refl _) (by omega) _⟩
end Go.Proofs.YthhgageghkbjjaaGreat.Sp
namespace Go.Proofs.YthhgageghkbjjaaGreat.Sa
open Go.RowKit Go.Proofs.YthhgageghkbjjaaGreat.Ra Go.Proofs.YthhgageghkbjjaaGreat.Ri Go.Proofs.YthhgageghkbjjaaGreat.Rj Go.Proofs.YthhgageghkbjjaaGreat.Rl Go.Proofs.YthhgageghkbjjaaGreat.Rn Go.Proofs.YthhgageghkbjjaaGreat.Ro Go.Proofs.YthhgageghkbjjaaGreat.Rp Go.Proofs.YthhgageghkbjjaaGreat.Rq Go.Proofs.YthhgageghkbjjaaGreat.Sd Go.Proofs.YthhgageghkbjjaaGreat.Se Go.Proofs.YthhgageghkbjjaaGreat.Sm Go.Proofs.YthhgageghkbjjaaGreat.Sp
set_option maxRecDepth 8000

theorem results_cells_four {P : Program} {fn : Func} {p q u v : Tmp} {ty uy : TypeId} (h : fn.results = #[.cell p ty, .cell q uy, .tmp u, .tmp v]) (tmps : Array Value) (w : World) (g k : Nat) (t t2 : TypeId) (cs ds : Array Value) (fr fr2 : Nat × Nat) (d d2 : TypeDesc)
    (hp : tmps.getD p undef = .pointer (some ⟨g, 0, none⟩)) (hq : tmps.getD q undef = .pointer (some ⟨k, 0, none⟩)) (hg : w.heap[g]? = some (.cells cs t fr)) (hk : w.heap[k]? = some (.cells ds t2 fr2))
    (hu : P.underlying ty = some d) (hd : (match d with | .struct _ | .array _ _ => true | _ => false) = true) (hi : (P.info? ty).map (·.size) = some cs.size)
    (hu2 : P.underlying uy = some d2) (hd2 : (match d2 with | .struct _ | .array _ _ => true | _ => false) = true) (hi2 : (P.info? uy).map (·.size) = some ds.size) :
    (results fn tmps).run P w = .ok (.tuple #[.agg cs, .agg ds, tmps.getD u undef, tmps.getD v undef]) w := by
  have hp' : tmps[p]?.getD undef = .pointer (some ⟨g, 0, none⟩) := by simpa using hp
  have hq' : tmps[q]?.getD undef = .pointer (some ⟨k, 0, none⟩) := by simpa using hq
  simp [results, h, hp', hq', asAddr, run_loadVar_row w g t ty cs fr d hg hu hd hi, run_loadVar_row w k t2 uy ds fr2 d2 hk hu2 hd2 hi2]

noncomputable def rD2 : Array Oper := funcOps Tryz.f39 2
def VD2 (x y : Value) : Nat → Value → Prop
  | 0, v => v = .agg emptyCells
  | 1, v => v = .agg #[x, y]
  | 4, v => v = .int .i64 0
  | 5, v => v = .int .i64 11
  | _, _ => True
def TD2 (x y : Value) (_ : Nat → Prop) (j : Nat) (v : Value) (_ : World) : Prop := VD2 x y j v
set_option maxHeartbeats 4000000 in
theorem owesD2 {Q : Exit → Act → World → Prop} (A : Nat) (x y : Value) (hx1 : x.oneCell' = true) (hy1 : y.oneCell' = true) (w0 : World) (hA : w0.heap.size ≤ A) (a0 : Act) (e2 : a0.tmps[2]? = some (.pointer (some ⟨A, 0, none⟩))) (e3 : a0.tmps[3]? = some (.pointer (some ⟨A + 1, 0, none⟩))) :
    ∀ (i : Nat) (o : Oper), rD2[i]? = some o → Owes Tryz.prog rD2 Q (TD2 x y) (fun _ w => AB A x y w0 w) a0 i o := by
  intro i o ho L a w P hsh hnl haf hF hS hT hK
  have hi : i < 6 := by
    have h1 := (Array.getElem?_eq_some_iff.1 ho).1
    rwa [show rD2.size = 6 from by kernel_rfl] at h1
  have plain : ∀ v, TD2 x y (fun k => L k ∨ k = i) i v w → P (a.put o.dst v) w := fun v hv => hK v w hv hS fun j u _ _ h => h
  obtain rfl | rfl | rfl | rfl | rfl | rfl : i = 0 ∨ i = 1 ∨ i = 2 ∨ i = 3 ∨ i = 4 ∨ i = 5 := by omega
  · exact wp_load_row 30 (.tmp 2) (op_is ho (by kernel_rfl)) A (slot hF (by kernel_rfl) e2) _ emptyCells _ _ hS.st Tryz.underlying30 rfl sizeE' (plain _ rfl)
  · exact wp_load_row 23 (.tmp 3) (op_is ho (by kernel_rfl)) (A + 1) (slot hF (by kernel_rfl) e3) _ _ _ _ hS.pl Tryz.underlying23 rfl (by kernel_rfl) (plain _ rfl)
  · obtain ⟨v, q1, p1⟩ := has (a := a) hT (haf 0 (on_is ho (by kernel_rfl))) (d := 24) (by kernel_rfl)
    obtain rfl : v = .agg emptyCells := p1
    exact wp_store_mid 30 (.tmp 2) (.tmp 24) (op_is ho (by kernel_rfl)) A 0 emptyCells (slot hF (by kernel_rfl) e2) q1 (thereE' hS.st) sizeE' (by kernel_rfl) (hK _ _ trivial (hS.setSt hA) fun j u _ _ h => h)
  · obtain ⟨v, q1, p1⟩ := has (a := a) hT (haf 1 (on_is ho (by kernel_rfl))) (d := 25) (by kernel_rfl)
    obtain rfl : v = .agg #[x, y] := p1
    exact wp_store_mid 23 (.tmp 3) (.tmp 25) (op_is ho (by kernel_rfl)) (A + 1) 0 #[x, y] (slot hF (by kernel_rfl) e3) q1 (put_plat hS.pl x y).2 (by kernel_rfl) (by simp [hx1, hy1]) (hK _ _ trivial (hS.setPl hA x y) fun j u _ _ h => h)
  · exact wp_assign (x := .const (.int .i64 0)) (op_is ho (by kernel_rfl)) (plain _ rfl)
  · exact wp_assign (x := .const (.int .i64 11)) (op_is ho (by kernel_rfl)) (plain _ rfl)


set_option maxHeartbeats 4000000 in
theorem decode_nil (w : World) : Calls Tryz.prog 39 #[.slice none 0 0] w fun e w' => e = .returned (.tuple #[.agg emptyCells, .agg #[.int .i64 0, .int .i64 0], .int .i64 0, .int .i64 11]) ∧ Below w.heap.size w w' := by
  have H0 := Lib.hid (AB.of (Boxes.start 0 0 w))
  go_enter Tryz.func39, Tryz.ntmps39
  go_upto_region 1 with fail
  rw [show ((w.alloc (.cells #[.int .i64 0, .int .i64 0, .int .i64 0, .int .i64 0, .int .i64 0, .int .i64 0, .int .i64 0, .int .i64 0, .int .i64 0, .int .i64 0, .int .i64 0, .int .i64 0, .int .i64 0, .int .i64 0, .int .i64 0, .int .i64 0, .slice none 0 0, .slice none 0 0, .slice none 0 0, .slice none 0 0, .slice none 0 0, .slice none 0 0, .slice none 0 0, .slice none 0 0] 30)).alloc (.cells #[.int .i64 0, .int .i64 0] 23)) = ((w.alloc (.cells emptyCells 30)).alloc (.cells #[.int .i64 0, .int .i64 0] 23)) from rfl]
  generalize ((w.alloc (.cells emptyCells 30)).alloc (.cells #[.int .i64 0, .int .i64 0] 23)) = w0 at *
  go_wp2_with (fail)
  refine region_eq0 (ops := rD2) (by kernel_rfl) ?_
  refine wp_region_each (TD2 (.int .i64 0) (.int .i64 0)) (fun _ W => AB w.heap.size (.int .i64 0) (.int .i64 0) w W) (by kernel_rfl) (by kernel_rfl) (H0.out.later (Below.refl _ _).drew)
    (owesD2 w.heap.size (.int .i64 0) (.int .i64 0) rfl rfl w (Nat.le_refl _) _ rfl rfl) ?_
  intro P a1 w1 hall hF hS hT
  obtain ⟨v4, q4, t4⟩ := hT 4 _ (Array.getElem?_eq_getElem (by rw [show rD2.size = 6 from by kernel_rfl]; decide))
  obtain ⟨v5, q5, t5⟩ := hT 5 _ (Array.getElem?_eq_getElem (by rw [show rD2.size = 6 from by kernel_rfl]; decide))
  have t4' : v4 = .int .i64 0 := t4
  have t5' : v5 = .int .i64 11 := t5
  subst t4' t5'
  have q4' : a1.tmps.getD 4 undef = .int .i64 0 := eval_at q4
  have q5' : a1.tmps.getD 5 undef = .int .i64 11 := eval_at q5
  have s2 := slot (k := 2) hF (by kernel_rfl) rfl
  have s3 := slot (k := 3) hF (by kernel_rfl) rfl
  have hd := hF.defers
  go_wp2_with (fail)
  refine bodyPost_ret (results_cells_four rfl _ w1 w.heap.size (w.heap.size + 1) _ _ _ _ _ _ _ _ s2 s3 hS.st hS.pl Tryz.underlying30 rfl sizeE' Tryz.underlying23 rfl (by kernel_rfl)) hd ?_
  rw [q4', q5']
  exact ⟨rfl, hS.below⟩
end Go.Proofs.YthhgageghkbjjaaGreat.Sa
