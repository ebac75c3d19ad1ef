/- Texts joined: Ry Rz Sa Sb Sc Sd. -/
import Derived.RangeFuncNested
import Derived.RangeFuncCalls
import Derived.OrdersIn
import Derived.Deep.RegionHeld
import Derived.RangeFuncBound
import Derived.RangeFuncLeaves
import Derived.RangeFuncKeeps
import Derived.Shelf.Abstract
import Derived.Shelf.RegionOpen
import Derived.OwnWalkIn
import Derived.TacticsInMore
import Derived.LoopNIn
import Derived.LoopIn
import Derived.Test.YtjohhjdicbeojaaGreatDoorZap
import Derived.Test.YtjohhjdicbeojaaGreatDoorZax
namespace Go.Proofs.YtjohhjdicbeojaaGreatDoor.Ry
open Go.RowKit Go.Proofs.YtjohhjdicbeojaaGreatDoor.Ra Go.Proofs.YtjohhjdicbeojaaGreatDoor.Rc Go.Proofs.YtjohhjdicbeojaaGreatDoor.Re Go.Proofs.YtjohhjdicbeojaaGreatDoor.Rf Go.Proofs.YtjohhjdicbeojaaGreatDoor.Rg Go.Proofs.YtjohhjdicbeojaaGreatDoor.Rj Go.Proofs.YtjohhjdicbeojaaGreatDoor.Rp Go.Proofs.YtjohhjdicbeojaaGreatDoor.Rv Go.Proofs.YtjohhjdicbeojaaGreatDoor.Rw Go.Proofs.YtjohhjdicbeojaaGreatDoor.Rx
set_option maxRecDepth 8000
set_option maxHeartbeats 1000000 in
theorem sread_bad (B : Nat) (v : Value) (l : List UInt8) (s n : Int) (w : World) (hB : B ≤ w.heap.size) (hv : BytesIn B w v l) (h64 : l.length = 64) (heq : closeL (l.take 60) ≠ l) :
    Calls Tryz.prog 106 #[v, .int .i64 s, .int .i64 n] w fun e w' => e = .returned (.tuple #[.slice none 0 0, .bool false]) ∧ Below w.heap.size w w' := by
  have K := Lib.hid (open_bad B v l w hB hv h64 heq)
  obtain ⟨p, c, rfl, _⟩ := hv.form
  clear hv
  rw [h64] at K ⊢
  clear heq h64
  go_enter Tryz.func106, Tryz.ntmps106
  go_wp2_with (first
    | (go_at_call 160; (with_reducible refine K.out.mono ?_); rintro e w1 ⟨rfl, hb1⟩; have HB1 := Lib.hid hb1; clear hb1)
    | go_quiet (fail))
  go_ret2
  exact ⟨rfl, HB1.out⟩
set_option maxHeartbeats 2000000 in
theorem sload_c {B : Nat} {w : World} {D S N : Nat} {lv : Value} {d : Dev} (h : DevAt B w D S N lv d) (hd : d.off = false) (hn : 24 < d.n) (hz : secL d.now 24 = List.replicate 64 0) :
    Calls Tryz.prog 59 #[.pointer (some ⟨D, 0, none⟩), .int .i64 1] w fun e w' => e = .returned (.tuple #[.slice none 0 0, .int .i64 0, .int .i64 0]) ∧ Below w.heap.size w w' := by
  have hg := get_c h hd 24 hn
  rw [hz, show ((24 : Nat) : Int) = 24 from rfl] at hg
  have KG := Lib.hid hg
  have KR := Lib.hid (fun (W : World) (u : Value) (hu : BytesIn 0 W u (List.replicate 64 (0 : UInt8))) => sread_bad 0 u _ 1 0 W (Nat.zero_le _) hu (List.length_replicate) zeros_bad)
  clear hg h hd hn hz
  go_enter Tryz.func59, Tryz.ntmps59
  go_wp2
  go_loopg [7, 8, 23] (1) (fun gg s7 _ s23 wr => s7 = .slice none 0 0 ∧ s23 = .int .i64 0 ∧ gg = 1 ∧ wr = w)
  case atStart => exact ⟨rfl, rfl, rfl, rfl⟩
  case round =>
    obtain ⟨rfl, rfl, _, rfl⟩ := hrel
    go_wp2_with (first
      | (go_at_call 82; (with_reducible refine KG.out.mono ?_); rintro e w1 ⟨v1, rfl, hn1⟩; have HN1 := Lib.hid hn1; clear hn1)
      | (go_at_call 106; (with_reducible refine (KR.out _ _ HN1.out.bytes).mono ?_); rintro e w2 ⟨rfl, hb2⟩; have HB2 := Lib.hid (HN1.out.below.trans (hb2.mono HN1.out.below.size)); clear hb2))
    refine bodyPost_ret (v := .tuple #[.slice none 0 0, .int .i64 0, .int .i64 0]) (by simp [results, Tryz.results59, go_sem]) rfl ⟨rfl, HB2.out⟩
end Go.Proofs.YtjohhjdicbeojaaGreatDoor.Ry
namespace Go.Proofs.YtjohhjdicbeojaaGreatDoor.Rz
open Go.RowKit Go.Proofs.YtjohhjdicbeojaaGreatDoor.Ra Go.Proofs.YtjohhjdicbeojaaGreatDoor.Rc Go.Proofs.YtjohhjdicbeojaaGreatDoor.Re Go.Proofs.YtjohhjdicbeojaaGreatDoor.Rf Go.Proofs.YtjohhjdicbeojaaGreatDoor.Rg Go.Proofs.YtjohhjdicbeojaaGreatDoor.Rj Go.Proofs.YtjohhjdicbeojaaGreatDoor.Rp Go.Proofs.YtjohhjdicbeojaaGreatDoor.Rv Go.Proofs.YtjohhjdicbeojaaGreatDoor.Rw Go.Proofs.YtjohhjdicbeojaaGreatDoor.Rx Go.Proofs.YtjohhjdicbeojaaGreatDoor.Ry
set_option maxRecDepth 8000
theorem area_0 (w : World) : Calls Tryz.prog 103 #[.int .i64 0] w fun e w' => e = .returned (.int .i64 0) ∧ w = w' := by
  go_enter Tryz.func103, Tryz.ntmps103
  go_wp2
  go_ret
  exact ⟨rfl, rfl⟩
theorem area_1 (w : World) : Calls Tryz.prog 103 #[.int .i64 1] w fun e w' => e = .returned (.int .i64 12) ∧ w = w' := by
  go_enter Tryz.func103, Tryz.ntmps103
  go_wp2
  go_ret
  exact ⟨rfl, rfl⟩
set_option maxHeartbeats 2000000 in
theorem pages_bad {B : Nat} {w : World} {D S N : Nat} {lv : Value} {d : Dev} (h : DevAt B w D S N lv d) (hd : d.off = false) (hz : secL d.now 0 = List.replicate 64 0) :
    Calls Tryz.prog 104 #[.pointer (some ⟨D, 0, none⟩), .int .i64 0] w fun e w' => e = .returned (.tuple #[.slice none 0 0, .int .i64 0]) ∧ Below w.heap.size w w' := by
  have hg := get_c h hd 0 (Nat.lt_of_lt_of_le Nat.zero_lt_one h.n1)
  rw [hz, show ((0 : Nat) : Int) = 0 from rfl] at hg
  have KG := Lib.hid hg
  have KR := Lib.hid (fun (W : World) (u : Value) (hu : BytesIn 0 W u (List.replicate 64 (0 : UInt8))) => count_bad 0 u _ W (Nat.zero_le _) hu (List.length_replicate) zeros_bad)
  clear hg h hd hz
  go_enter Tryz.func104, Tryz.ntmps104
  go_wp2_with (first
    | (go_at_call 82; (with_reducible refine KG.out.mono ?_); rintro e w1 ⟨v1, rfl, hn1⟩; have HN1 := Lib.hid hn1; clear hn1)
    | (go_at_call 158; (with_reducible refine (KR.out _ _ HN1.out.bytes).mono ?_); rintro e w2 ⟨rfl, hb2⟩; have HB2 := Lib.hid (HN1.out.below.trans (hb2.mono HN1.out.below.size)); clear hb2)
    | go_quiet (fail))
  refine bodyPost_ret (v := .tuple #[.slice none 0 0, .int .i64 0]) (by simp [results, Tryz.results104, go_sem]) rfl ⟨rfl, HB2.out⟩
end Go.Proofs.YtjohhjdicbeojaaGreatDoor.Rz
namespace Go.Proofs.YtjohhjdicbeojaaGreatDoor.Sm
open Go.RowKit Go.Proofs.YtjohhjdicbeojaaGreatDoor.Ra
theorem put_plat {W : World} {c : Nat} {x y : Value} (h : W.heap[c]? = some (.cells #[x, y] 58 (0, 0))) (u v : Value) : (W.setCells c 0 [u, v]).heap[c]? = some (.cells #[u, v] 58 (0, 0)) ∧ W.there c 0 2 := by
  refine ⟨?_, fun k hk => ?_⟩
  · have := blk_set (blk_set h 0 u) 1 v
    simpa [World.setCells] using this
  · rw [blk_cell h, blk_free h]
    match k, hk with
    | 0, _ => exact ⟨rfl, rfl⟩
    | 1, _ => exact ⟨rfl, rfl⟩
end Go.Proofs.YtjohhjdicbeojaaGreatDoor.Sm
namespace Go.Proofs.YtjohhjdicbeojaaGreatDoor.Sp
open Go.RowKit Go.Proofs.YtjohhjdicbeojaaGreatDoor.Ra Go.Proofs.YtjohhjdicbeojaaGreatDoor.Ri Go.Proofs.YtjohhjdicbeojaaGreatDoor.Rn Go.Proofs.YtjohhjdicbeojaaGreatDoor.Ro Go.Proofs.YtjohhjdicbeojaaGreatDoor.Rp Go.Proofs.YtjohhjdicbeojaaGreatDoor.Rq Go.Proofs.YtjohhjdicbeojaaGreatDoor.Sm
/-- The boxes of an answer: the empty state, a geometry. -/
structure AB (A : Nat) (x y : Value) (w W : World) : Prop where
  st : W.heap[A]? = some (.cells emptyCells 96 (0, 0))
  pl : W.heap[A + 1]? = some (.cells #[x, y] 58 (0, 0))
  below : Below w.heap.size w W
theorem AB.later {A : Nat} {x y : Value} {w W W' : World} (h : AB A x y w W) (hb : Below W.heap.size W W') : AB A x y w W' :=
  ⟨blk_below h.st hb (lt_of_block h.st), blk_below h.pl hb (lt_of_block h.pl), h.below.trans (hb.mono h.below.size)⟩
theorem AB.of {A : Nat} {s b : Int} {w W : World} (h : Boxes A (A + 1) s b w W) : AB A (.int .i64 s) (.int .i64 b) w W := ⟨h.1, h.2.1, h.2.2⟩
theorem AB.setSt {A : Nat} {x y : Value} {w W : World} (h : AB A x y w W) (hA : w.heap.size ≤ A) : AB A x y w (W.setCells A 0 emptyCells.toList) :=
  ⟨setE' h.st, setOther h.pl (by omega) _, belowSet h.below (Nat.le_refl _) hA _⟩
theorem AB.setPl {A : Nat} {x y : Value} {w W : World} (h : AB A x y w W) (hA : w.heap.size ≤ A) (u v : Value) : AB A u v w (W.setCells (A + 1) 0 [u, v]) :=
  ⟨setOther h.st (by omega) _, (put_plat h.pl u v).1, belowSet h.below (Nat.le_refl _) (by omega) _⟩
end Go.Proofs.YtjohhjdicbeojaaGreatDoor.Sp
namespace Go.Proofs.YtjohhjdicbeojaaGreatDoor.Sa
open Go.RowKit Go.Proofs.YtjohhjdicbeojaaGreatDoor.Ra Go.Proofs.YtjohhjdicbeojaaGreatDoor.Ri Go.Proofs.YtjohhjdicbeojaaGreatDoor.Rj Go.Proofs.YtjohhjdicbeojaaGreatDoor.Rl Go.Proofs.YtjohhjdicbeojaaGreatDoor.Rn Go.Proofs.YtjohhjdicbeojaaGreatDoor.Ro Go.Proofs.YtjohhjdicbeojaaGreatDoor.Rp Go.Proofs.YtjohhjdicbeojaaGreatDoor.Rq Go.Proofs.YtjohhjdicbeojaaGreatDoor.Sd Go.Proofs.YtjohhjdicbeojaaGreatDoor.Se Go.Proofs.YtjohhjdicbeojaaGreatDoor.Sm Go.Proofs.YtjohhjdicbeojaaGreatDoor.Sp
set_option maxRecDepth 8000
theorem results_cells_four {P : Program} {fn : Func} {p q u v : Tmp} {ty uy : TypeId} (h : fn.results = #[.cell p ty, .cell q uy, .tmp u, .tmp v]) (tmps : Array Value) (w : World) (g k : Nat) (t t2 : TypeId) (cs ds : Array Value) (fr fr2 : Nat × Nat) (d d2 : TypeDesc)
    (hp : tmps.getD p undef = .pointer (some ⟨g, 0, none⟩)) (hq : tmps.getD q undef = .pointer (some ⟨k, 0, none⟩)) (hg : w.heap[g]? = some (.cells cs t fr)) (hk : w.heap[k]? = some (.cells ds t2 fr2))
    (hu : P.underlying ty = some d) (hd : (match d with | .struct _ | .array _ _ => true | _ => false) = true) (hi : (P.info? ty).map (·.size) = some cs.size)
    (hu2 : P.underlying uy = some d2) (hd2 : (match d2 with | .struct _ | .array _ _ => true | _ => false) = true) (hi2 : (P.info? uy).map (·.size) = some ds.size) :
    (results fn tmps).run P w = .ok (.tuple #[.agg cs, .agg ds, tmps.getD u undef, tmps.getD v undef]) w := by
  have hp' : tmps[p]?.getD undef = .pointer (some ⟨g, 0, none⟩) := by simpa using hp
  have hq' : tmps[q]?.getD undef = .pointer (some ⟨k, 0, none⟩) := by simpa using hq
  simp [results, h, hp', hq', asAddr, run_loadVar_row w g t ty cs fr d hg hu hd hi, run_loadVar_row w k t2 uy ds fr2 d2 hk hu2 hd2 hi2]
noncomputable def rD2 : Array Oper := funcOps Tryz.f105 2
def VD2 (x y : Value) : Nat → Value → Prop
  | 0, v => v = .agg emptyCells
  | 1, v => v = .agg #[x, y]
  | 4, v => v = .int .i64 0
  | 5, v => v = .int .i64 11
  | _, _ => True
def TD2 (x y : Value) (_ : Nat → Prop) (j : Nat) (v : Value) (_ : World) : Prop := VD2 x y j v
set_option maxHeartbeats 4000000 in
theorem owesD2 {Q : Exit → Act → World → Prop} (A : Nat) (x y : Value) (hx1 : x.oneCell' = true) (hy1 : y.oneCell' = true) (w0 : World) (hA : w0.heap.size ≤ A) (a0 : Act) (e2 : a0.tmps[2]? = some (.pointer (some ⟨A, 0, none⟩))) (e3 : a0.tmps[3]? = some (.pointer (some ⟨A + 1, 0, none⟩))) :
    ∀ (i : Nat) (o : Oper), rD2[i]? = some o → Owes Tryz.prog rD2 Q (TD2 x y) (fun _ w => AB A x y w0 w) a0 i o := by
  intro i o ho L a w P hsh hnl haf hF hS hT hK
  have hi : i < 6 := by
    have h1 := (Array.getElem?_eq_some_iff.1 ho).1
    rwa [show rD2.size = 6 from by kernel_rfl] at h1
  have plain : ∀ v, TD2 x y (fun k => L k ∨ k = i) i v w → P (a.put o.dst v) w := fun v hv => hK v w hv hS fun j u _ _ h => h
  obtain rfl | rfl | rfl | rfl | rfl | rfl : i = 0 ∨ i = 1 ∨ i = 2 ∨ i = 3 ∨ i = 4 ∨ i = 5 := by omega
  · exact wp_load_row 96 (.tmp 2) (op_is ho (by kernel_rfl)) A (slot hF (by kernel_rfl) e2) _ emptyCells _ _ hS.st Tryz.underlying96 rfl sizeE' (plain _ rfl)
  · exact wp_load_row 58 (.tmp 3) (op_is ho (by kernel_rfl)) (A + 1) (slot hF (by kernel_rfl) e3) _ _ _ _ hS.pl Tryz.underlying58 rfl (by kernel_rfl) (plain _ rfl)
  · obtain ⟨v, q1, p1⟩ := has (a := a) hT (haf 0 (on_is ho (by kernel_rfl))) (d := 24) (by kernel_rfl)
    obtain rfl : v = .agg emptyCells := p1
    exact wp_store_mid 96 (.tmp 2) (.tmp 24) (op_is ho (by kernel_rfl)) A 0 emptyCells (slot hF (by kernel_rfl) e2) q1 (thereE' hS.st) sizeE' (by kernel_rfl) (hK _ _ trivial (hS.setSt hA) fun j u _ _ h => h)
  · obtain ⟨v, q1, p1⟩ := has (a := a) hT (haf 1 (on_is ho (by kernel_rfl))) (d := 25) (by kernel_rfl)
    obtain rfl : v = .agg #[x, y] := p1
    exact wp_store_mid 58 (.tmp 3) (.tmp 25) (op_is ho (by kernel_rfl)) (A + 1) 0 #[x, y] (slot hF (by kernel_rfl) e3) q1 (put_plat hS.pl x y).2 (by kernel_rfl) (by simp [hx1, hy1]) (hK _ _ trivial (hS.setPl hA x y) fun j u _ _ h => h)
  · exact wp_assign (x := .const (.int .i64 0)) (op_is ho (by kernel_rfl)) (plain _ rfl)
  · exact wp_assign (x := .const (.int .i64 11)) (op_is ho (by kernel_rfl)) (plain _ rfl)
set_option maxHeartbeats 4000000 in
theorem decode_nil (w : World) : Calls Tryz.prog 105 #[.slice none 0 0] w fun e w' => e = .returned (.tuple #[.agg emptyCells, .agg #[.int .i64 0, .int .i64 0], .int .i64 0, .int .i64 11]) ∧ Below w.heap.size w w' := by
  have H0 := Lib.hid (AB.of (Boxes.start 0 0 w))
  go_enter Tryz.func105, Tryz.ntmps105
  go_upto_region 1 with fail
  rw [show ((w.alloc (.cells #[.int .i64 0, .int .i64 0, .int .i64 0, .int .i64 0, .int .i64 0, .int .i64 0, .int .i64 0, .int .i64 0, .int .i64 0, .int .i64 0, .int .i64 0, .int .i64 0, .int .i64 0, .int .i64 0, .int .i64 0, .int .i64 0, .slice none 0 0, .slice none 0 0, .slice none 0 0, .slice none 0 0, .slice none 0 0, .slice none 0 0, .slice none 0 0, .slice none 0 0] 96)).alloc (.cells #[.int .i64 0, .int .i64 0] 58)) = ((w.alloc (.cells emptyCells 96)).alloc (.cells #[.int .i64 0, .int .i64 0] 58)) from rfl]
  generalize ((w.alloc (.cells emptyCells 96)).alloc (.cells #[.int .i64 0, .int .i64 0] 58)) = w0 at *
  go_wp2_with (fail)
  refine region_eq0 (ops := rD2) (by kernel_rfl) ?_
  refine wp_region_each (TD2 (.int .i64 0) (.int .i64 0)) (fun _ W => AB w.heap.size (.int .i64 0) (.int .i64 0) w W) (by kernel_rfl) (by kernel_rfl) (H0.out.later (Below.refl _ _).drew)
    (owesD2 w.heap.size (.int .i64 0) (.int .i64 0) rfl rfl w (Nat.le_refl _) _ rfl rfl) ?_
  intro P a1 w1 hall hF hS hT
  obtain ⟨v4, q4, t4⟩ := hT 4 _ (Array.getElem?_eq_getElem (by rw [show rD2.size = 6 from by kernel_rfl]; decide))
  obtain ⟨v5, q5, t5⟩ := hT 5 _ (Array.getElem?_eq_getElem (by rw [show rD2.size = 6 from by kernel_rfl]; decide))
  have t4' : v4 = .int .i64 0 := t4
  have t5' : v5 = .int .i64 11 := t5
  subst t4' t5'
  have q4' : a1.tmps.getD 4 undef = .int .i64 0 := eval_at q4
  have q5' : a1.tmps.getD 5 undef = .int .i64 11 := eval_at q5
  have s2 := slot (k := 2) hF (by kernel_rfl) rfl
  have s3 := slot (k := 3) hF (by kernel_rfl) rfl
  have hd := hF.defers
  go_wp2_with (fail)
  refine bodyPost_ret (results_cells_four rfl _ w1 w.heap.size (w.heap.size + 1) _ _ _ _ _ _ _ _ s2 s3 hS.st hS.pl Tryz.underlying96 rfl sizeE' Tryz.underlying58 rfl (by kernel_rfl)) hd ?_
  rw [q4', q5']
  exact ⟨rfl, hS.below⟩
end Go.Proofs.YtjohhjdicbeojaaGreatDoor.Sa
namespace Go.Proofs.YtjohhjdicbeojaaGreatDoor.Sb
open Go
theorem wpIn_of_wp {l n : Nat} {P : Program} {o : Oper} {a : Act} {w : World} {K : Act → World → Prop} {Q : Exit → Act → World → Prop} (hsem : o.semAt (some l) a.eval = execOp a.eval o) (h : o.wp P a w K Q) : o.wpIn (Fence.wide.inRound l) n P a w K Q := by
  unfold Oper.wp at h
  refine ⟨fun _ _ => trivial, ?_⟩
  rw [show (Fence.wide.inRound l).round = some l from rfl, hsem]
  generalize (execOp a.eval o).run P w = r at *
  cases r with
  | ok x w' =>
    cases x
    case value => exact h
    case skip => exact h
    case defer => exact h
    case enter => exact ⟨(fun h' => by cases h'), CallsIn.inRound l (callsIn_wide.2 h)⟩
    case row => exact ⟨(fun h' => by cases h'), fun c cs _ => let ⟨v, w'', r, s⟩ := h c cs; ⟨v, w'', r, stepsIn_wide.2 s⟩⟩
    all_goals exact h.elim
  | halt x w' => cases x <;> exact h
theorem wpOpIn_of_wpOp {l n : Nat} {P : Program} {ops : Array Oper} {i : Nat} {a : Act} {w : World} {K : Act → World → Prop} {Q : Exit → Act → World → Prop} (hQ : ¬ LetsOut Q) (hd : ∀ o ∈ ops.toList, ∀ c, o.op ≠ .defer c) (h : wpOp P ops Q i K a w) : wpOpIn (Fence.wide.inRound l) n P ops Q i K a w := by
  unfold wpOp at h
  unfold wpOpIn
  cases ho : ops[i]? with
  | none => rw [ho] at h; exact h
  | some o =>
    rw [ho] at h
    dsimp only at h ⊢
    have hm : o ∈ ops.toList := by
      have := Array.mem_of_getElem? ho
      exact Array.mem_toList_iff.2 this
    split
    · rename_i hw
      rw [if_pos hw] at h
      rcases h with h | ⟨_, h⟩
      · exact wpIn_of_wp (Oper.semAt_some l _ o (hd o hm)) h
      · exact absurd h hQ
    · rename_i hw
      rw [if_neg hw] at h
      exact ⟨fun _ _ => trivial, h⟩
theorem wpAnyIn_of_wpAny {l n : Nat} {P : Program} {md : Region.Mode} {ops : Array Oper} {Q : Exit → Act → World → Prop} (hQ : ¬ LetsOut Q) (hd : ∀ o ∈ ops.toList, ∀ c, o.op ≠ .defer c) :
    ∀ (fuel : Nat) (listed : Array Bool) (a : Act) (w : World), wpAny P md ops Q fuel listed a w → wpAnyIn (Fence.wide.inRound l) n P md ops Q fuel listed a w
  | 0, _, _, _, h => h
  | fuel + 1, _, _, _, h => ⟨h.1, fun i hi => wpOpIn_mono (fun a' w' h' => wpAnyIn_of_wpAny hQ hd fuel _ a' w' h') (wpOpIn_of_wpOp hQ hd (h.2 i hi))⟩
end Go.Proofs.YtjohhjdicbeojaaGreatDoor.Sb
namespace Go.Proofs.YtjohhjdicbeojaaGreatDoor.Sc
open Go.RowKit Go.Shelf Go.Proofs.YtjohhjdicbeojaaGreatDoor.Ra Go.Proofs.YtjohhjdicbeojaaGreatDoor.Re Go.Proofs.YtjohhjdicbeojaaGreatDoor.Sb
set_option maxRecDepth 8000
theorem chunk_c (p : Option Addr) (n c : Nat) (w : World) : Calls Tryz.prog 154 #[.slice p n c, .int .i64 52] w fun e w' => e = .returned (.func (.func 207) #[] #[.pointer (some ⟨w.heap.size, 0, none⟩), .pointer (some ⟨w.heap.size + 1, 0, none⟩)]) ∧ w' = (w.alloc (.cells #[.slice p n c] 22)).alloc (.cells #[.int .i64 52] 3) := by
  go_enter Tryz.func154, Tryz.ntmps154
  go_wp2
  go_ret
  exact ⟨rfl, rfl⟩
/-- What a round keeps: the two boxes of the iterator. -/
def Kp2 (Bs Bn : Nat) (W W' : World) : Prop := W'.heap[Bs]? = W.heap[Bs]? ∧ W'.heap[Bn]? = W.heap[Bn]?
theorem Kp2.trans {Bs Bn : Nat} {A B C : World} (h : Kp2 Bs Bn A B) (k : Kp2 Bs Bn B C) : Kp2 Bs Bn A C := ⟨k.1.trans h.1, k.2.trans h.2⟩
theorem Kp2.below {Bs Bn : Nat} {A B : World} (h : Below A.heap.size A B) (h1 : Bs < A.heap.size) (h2 : Bn < A.heap.size) : Kp2 Bs Bn A B := ⟨h.block Bs h1, h.block Bn h2⟩
set_option maxHeartbeats 2000000 in
theorem chunk1_in (F : Fence) (n : Nat) (h7 : F.fn 207) (hro : F.round = none) (hn : 1 ≤ n) (l Bs Bn g c : Nat) (hc : 16 ≤ c) (J Jx : List Unit → World → Prop)
    (hJ : ∀ pre W, J pre W → J pre W.drew)
    (hY : ∀ pre x W, J pre W → pre.length < 1 → YieldAt F (n - 1) Tryz.prog l #[.slice (some ⟨g, 0, none⟩) 16 16] W fun e W' =>
      (e = .returned (.bool true) ∧ J (pre ++ [x]) W' ∧ Kp2 Bs Bn W W') ∨ (e = .returned (.bool false) ∧ Jx (pre ++ [x]) W'))
    (W : World) (hBs : W.cell? ⟨Bs, 0, none⟩ = some (.slice (some ⟨g, 0, none⟩) 16 c)) (hBn : W.cell? ⟨Bn, 0, none⟩ = some (.int .i64 52)) (h0 : J [] W) :
    CallsIn F n Tryz.prog 207 #[.func (.yield l) #[] #[], .pointer (some ⟨Bs, 0, none⟩), .pointer (some ⟨Bn, 0, none⟩)] W fun e W' => (∃ v, e = .returned v) ∧
      ((∃ ys, ys = [()] ∧ J ys W') ∨ (∃ pre, Jx pre W')) := by
  refine callsIn_of_wp Tryz.func207 rfl h7 ?_ hro
  simp only [Tryz.ntmps207, List.size_toArray, List.length_cons, List.length_nil, Nat.reduceAdd, Nat.reduceSub, Array.replicate_succ, Array.replicate_zero, List.push_toArray, List.append_toArray, List.nil_append, List.cons_append]
  have hc0 : (16 : Int) ≤ (c : Int) := by omega
  gi_wp2
  gi_loopw [4] (fun i wr => ∃ k : Nat, k ≤ 1 ∧ i = .int .i64 ((52 * k : Nat) : Int) ∧ J (List.replicate k ()) wr ∧ Kp2 Bs Bn W wr) (fun i _ => 100 - (intOf i).toNat)
  case atStart => exact ⟨0, Nat.zero_le _, rfl, h0, rfl, rfl⟩
  case round =>
    obtain ⟨k, hk, rfl, hJs, hnx⟩ := hrel
    have c1 : wr.cell? ⟨Bs, 0, none⟩ = some (.slice (some ⟨g, 0, none⟩) 16 c) := (World.cell?_of_block hnx.1).trans hBs
    have c2 : wr.cell? ⟨Bn, 0, none⟩ = some (.int .i64 52) := (World.cell?_of_block hnx.2).trans hBn
    by_cases hlt : k = 0
    · subst hlt
      obtain ⟨fn, tmps, assign, body, hy, hR⟩ := hY [] () wr.drew (hJ _ _ hJs) (by decide)
      gi_wp2
      gi_region
      all_goals
        gi_wp2
        refine hR.mono ?_
        rintro e W3 (⟨rfl, hJ3, hk3⟩ | ⟨rfl, hJx3⟩)
        · have c3 : W3.cell? ⟨Bn, 0, none⟩ = some (.int .i64 52) := (World.cell?_of_block hk3.2).trans c2
          gi_wp2
          go_roundw
          case rel => exact ⟨1, by omega, rfl, hJ3, hnx.trans hk3⟩
          case measure => decide
        · gi_wp2
          refine bodyPost_ret (results_none rfl _ _ _) rfl ?_
          exact ⟨⟨_, rfl⟩, .inr ⟨_, hJx3⟩⟩
    · obtain rfl : k = 1 := by omega
      gi_wp2
      go_end0
      exact ⟨⟨_, rfl⟩, .inl ⟨_, rfl, hJs⟩⟩
theorem chunk_stops (n : Nat) (hn : 1 ≤ n) (Bs Bn g c : Nat) (hc : 16 ≤ c) (w : World) (hBs : w.cell? ⟨Bs, 0, none⟩ = some (.slice (some ⟨g, 0, none⟩) 16 c)) (hBn : w.cell? ⟨Bn, 0, none⟩ = some (.int .i64 52)) :
    SeqStopsK Fence.wide n Tryz.prog 207 #[.pointer (some ⟨Bs, 0, none⟩), .pointer (some ⟨Bn, 0, none⟩)] (fun _ : Unit => #[Value.slice (some ⟨g, 0, none⟩) 16 16]) (Kp2 Bs Bn) (fun ys => ys = [()]) (fun _ => True) 1 w := fun l J Jx W hW hJ _ hY h0 => by
  have h1 := World.block_lt_of_cell? w ⟨Bs, 0, none⟩ hBs
  have h2 := World.block_lt_of_cell? w ⟨Bn, 0, none⟩ hBn
  refine (chunk1_in Fence.wide n trivial rfl hn l Bs Bn g c hc J Jx (fun pre W1 h => hJ pre W1 W1.drew none h ⟨rfl, rfl, rfl, Nat.le_refl _, fun _ _ _ => rfl⟩ (fun _ e => by cases e)) hY W ((hW.cell (p := ⟨Bs, 0, none⟩) h1).trans hBs) ((hW.cell (p := ⟨Bn, 0, none⟩) h2).trans hBn) h0).mono ?_
  rintro e W' ⟨he, ⟨ys, rfl, hj⟩ | ⟨pre, hj⟩⟩
  · exact ⟨he, .inl ⟨_, rfl, hj⟩⟩
  · exact ⟨he, .inr ⟨_, trivial, hj⟩⟩
end Go.Proofs.YtjohhjdicbeojaaGreatDoor.Sc
namespace Go.Proofs.YtjohhjdicbeojaaGreatDoor.Sd
open Go
variable {P : Program} {ops : Array Oper} {Q : Exit → Act → World → Prop}
theorem wpIn_region_each {l n : Nat} (T : (Nat → Prop) → Nat → Value → World → Prop) (S : (Nat → Prop) → World → Prop) {a0 : Act} {w : World} {id : Nat} (hm : P.follows .mixedOrders = true) (hQ : ¬ LetsOut Q) (hd : ops.toList.all (fun o => match o.op with | .defer _ => false | _ => true) = true) (ht : tidy ops a0.tmps.size = true)
    (hS : S (fun _ => False) w.drew) (hstep : ∀ (i : Nat) (o : Oper), ops[i]? = some o → Owes P ops Q T S a0 i o)
    (hend : ∀ L a w, (∀ i, i < ops.size → L i) → Fr ops L a0 a → S L w → (∀ (i : Nat) (o : Oper), ops[i]? = some o → ∃ v, At a o.dst v ∧ T L i v w) → Q .normal a w) : (Code.region id ops true).wpIn (Fence.wide.inRound l) n P Q a0 w := by
  refine wpIn_region_any hm (Sb.wpAnyIn_of_wpAny hQ (fun o ho c hc => ?_) _ _ _ _ (wpAny_each T S ht hS hstep hend))
  have := List.all_eq_true.1 hd o ho
  rw [hc] at this
  cases this
end Go.Proofs.YtjohhjdicbeojaaGreatDoor.Sd
