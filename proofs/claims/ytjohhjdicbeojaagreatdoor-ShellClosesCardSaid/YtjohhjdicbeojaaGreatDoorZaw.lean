/- Texts joined: Rv Rw Ve. -/
import Derived.Laws.BitsAllLaws
import Derived.Test.YtjohhjdicbeojaaGreatDoorZav
namespace Go.Proofs.YtjohhjdicbeojaaGreatDoor.Rv
open Go.RowKit Go.Proofs.YtjohhjdicbeojaaGreatDoor.Ra Go.Proofs.YtjohhjdicbeojaaGreatDoor.Rc Go.Proofs.YtjohhjdicbeojaaGreatDoor.Re
set_option maxRecDepth 8000
theorem or_byte (a : Int) (x : UInt8) (h0 : 0 ≤ a) (h1 : a ≤ 1099511627776) : bits .or .i64 (a * 256) (x.toNat : Int) = a * 256 + (x.toNat : Int) := by
  obtain ⟨A, rfl⟩ := Int.eq_ofNat_of_zero_le h0
  have hx := x.toNat_lt
  have hA : A ≤ 1099511627776 := by omega
  have e1 : ((A : Int) * 256) = ((A * 256 : Nat) : Int) := by omega
  rw [e1]
  have ho : (A * 256) ||| x.toNat = A * 256 + x.toNat := by
    have := Nat.two_pow_add_eq_or_of_lt (i := 8) (b := x.toNat) hx A
    rw [show 2 ^ 8 * A = A * 256 from by omega] at this
    exact this.symm
  show IntKind.i64.wrap ((BitVec.ofInt 64 ((A * 256 : Nat) : Int) ||| BitVec.ofInt 64 (x.toNat : Int)).toNat : Int) = _
  rw [BitVec.toNat_or, ofInt_u64 _ (by omega), ofInt_u64 _ (by omega), ho]
  rw [IntKind.wrap_i64]
  omega
theorem numOf_bounds : ∀ (l : List UInt8) (n : Int), 0 ≤ n → 0 ≤ numOf n l ∧ numOf n l < (n + 1) * 256 ^ l.length
  | [], n, h => by
    show 0 ≤ n ∧ n < (n + 1) * 256 ^ 0
    omega
  | b :: l, n, h => by
    have hb := b.toNat_lt
    have := numOf_bounds l (n * 256 + (b.toNat : Int)) (by omega)
    refine ⟨this.1, Int.lt_of_lt_of_le this.2 ?_⟩
    show _ ≤ (n + 1) * 256 ^ (l.length + 1)
    rw [Int.pow_succ, Int.mul_comm ((256 : Int) ^ l.length) 256, ← Int.mul_assoc]
    exact Int.mul_le_mul_of_nonneg_right (by omega) (Int.le_of_lt (Int.pow_pos (by decide)))
set_option maxHeartbeats 2000000 in
theorem get_c (B : Nat) (v : Value) (l : List UInt8) (w : World) (hv : BytesIn B w v l) (hl : l.length ≤ 4) :
    Calls Tryz.prog 244 #[v] w fun e w' => e = .returned (.int .i64 (numOf 0 l)) ∧ w = w' := by
  obtain ⟨p, c, rfl, hcap, hp⟩ := hv
  have HP := Lib.hid hp
  clear hp hcap
  obtain ⟨N, hN⟩ : ∃ N, N = l.length := ⟨_, rfl⟩
  rw [← hN] at hl ⊢
  have HN := Lib.hid hN
  clear hN
  go_enter Tryz.func244, Tryz.ntmps244
  go_wp2
  go_loopg [3, 5, 8] (N + 1) (fun gg s3 _ s8 wr => ∃ (k : Nat) (x : Int), k ≤ N ∧ N - k < gg ∧ s3 = .int .i64 x ∧ s8 = .int .i64 (k : Int) ∧ Hid (x = numOf 0 (l.take k)) ∧ wr = w)
  case atStart => exact ⟨0, _, by omega, by omega, rfl, rfl, Lib.hid rfl, rfl⟩
  case round =>
    obtain ⟨k, x, hk, hgg, rfl, rfl, HX, rfl⟩ := hrel
    by_cases h : k < N
    · have hil : (k : Int) < (N : Int) := by omega
      obtain ⟨y, hy⟩ : ∃ y, l[k]? = some y := ⟨_, List.getElem?_eq_getElem (by rw [← HN.out]; exact h)⟩
      obtain ⟨b, o, rfl, _, _, hc⟩ := HP.out (fun e => by rw [e] at hy; cases hy)
      have cy := hc k y hy
      have hxb := numOf_bounds (l.take k) 0 (Int.le_refl _)
      rw [← HX.out] at hxb
      have hxu : x ≤ 1099511627776 := by
        have h4 : (l.take k).length ≤ 4 := by rw [List.length_take]; omega
        have hpw : (256 : Int) ^ (l.take k).length ≤ 256 ^ 4 := by
          have := Nat.pow_le_pow_right (n := 256) (by decide) h4
          exact_mod_cast this
        omega
      have hx0 := hxb.1
      have hor := or_byte x y hx0 hxu
      have HY : Hid (numOf 0 (l.take (k + 1)) = x * 256 + (y.toNat : Int)) := Lib.hid (by rw [List.take_add_one, hy, HX.out]; exact numOf_snoc _ _ _)
      have hyl := y.toNat_lt
      have hy1 : (0 : Int) ≤ (y.toNat : Int) := by omega
      have hy2 : (y.toNat : Int) < 256 := by omega
      clear hy hc hyl hxb
      generalize (y.toNat : Int) = yy at *
      go_wp2
      go_roundg (N - (k + 1) + 1)
      case measure => omega
      case rel => exact ⟨k + 1, _, by omega, by omega, rfl, by go_num, Lib.hid HY.out.symm, rfl⟩
    · have hil : ¬ (k : Int) < (N : Int) := by omega
      obtain rfl : k = N := by omega
      have HE : Hid (x = numOf 0 l) := Lib.hid (by
        rw [HX.out, List.take_of_length_le (by rw [HN.out]; exact Nat.le_refl _)])
      go_wp2
      go_ret
      rw [HE.out]
      exact ⟨rfl, rfl⟩
/-- Get: a number of k bytes at a place. -/
theorem Get_c (B : Nat) (p : Option Addr) (c : Nat) (l : List UInt8) (a k : Nat) (w : World) (hv : BytesIn B w (.slice p l.length c) l) (hk : 1 ≤ k ∧ k ≤ 4) (ha : a + k ≤ l.length) (hl : l.length ≤ 1000000) :
    Calls Tryz.prog 212 #[.slice p l.length c, .int .i64 (a : Int), .int .i64 (k : Int)] w fun e w' => e = .returned (.tuple #[.int .i64 (numOf 0 ((l.drop a).take k)), .int .i64 0]) ∧ w = w' := by
  have KS := Lib.hid (fun (W : World) => size_c (k : Int) W (by omega) (by omega))
  have hform := hv.form
  obtain ⟨p0, c0, he, hcap⟩ := hform
  have hcc : l.length ≤ c := by injection he with _ _ h3; rw [h3]; exact hcap
  obtain ⟨b, o, rfl, _, _, _⟩ := Rj.bytes_at hv (fun e => by rw [e] at ha; simp at ha; omega)
  have hcut := hv.cut a (a + k) (by omega) ha (some ⟨b, o + a, none⟩) (c - a) (by omega) (fun b' o' h _ => by
    obtain ⟨rfl, rfl⟩ : b = b' ∧ o = o' := by simpa using h
    rfl)
  rw [Nat.add_sub_cancel_left] at hcut
  have hcl : ((l.drop a).take k).length = k := by rw [List.length_take, List.length_drop]; omega
  have KG := Lib.hid (get_c B _ _ w hcut (by rw [hcl]; exact hk.2))
  generalize numOf 0 ((l.drop a).take k) = x at *
  generalize l.length = n at *
  have d1 : decide ((a : Int) < 0) = false := decide_eq_false (by omega)
  have g2 : ¬ ((n : Int) - (k : Int) < (a : Int)) := by omega
  clear hv hcut hcl he hcap
  go_enter Tryz.func212, Tryz.ntmps212
  go_wp2_with (first
    | (go_at_call 241; (with_reducible refine (KS.out _).mono ?_); rintro e w1 ⟨rfl, rfl⟩)
    | (go_at_call 244; (with_reducible refine KG.out.mono ?_); rintro e w1 ⟨rfl, rfl⟩))
  go_ret2
  exact ⟨rfl, rfl⟩
end Go.Proofs.YtjohhjdicbeojaaGreatDoor.Rv
namespace Go.Proofs.YtjohhjdicbeojaaGreatDoor.Rw
open Go.RowKit Go.Proofs.YtjohhjdicbeojaaGreatDoor.Ra Go.Proofs.YtjohhjdicbeojaaGreatDoor.Rc Go.Proofs.YtjohhjdicbeojaaGreatDoor.Re Go.Proofs.YtjohhjdicbeojaaGreatDoor.Rj Go.Proofs.YtjohhjdicbeojaaGreatDoor.Rp Go.Proofs.YtjohhjdicbeojaaGreatDoor.Rv
set_option maxRecDepth 8000
theorem read1_c (B : Nat) (hb : Nat) (p : Option Addr) (c : Nat) (l : List UInt8) (a k : Nat) (w : World) (hc : w.cell? ⟨hb, 0, none⟩ = some (.slice p l.length c)) (hv : BytesIn B w (.slice p l.length c) l) (hk : 1 ≤ k ∧ k ≤ 4) (ha : a + k ≤ l.length) (hl : l.length ≤ 1000000) :
    Calls Tryz.prog 211 #[.int .i64 (a : Int), .int .i64 (k : Int), .pointer (some ⟨hb, 0, none⟩)] w fun e w' => e = .returned (.int .i64 (numOf 0 ((l.drop a).take k))) ∧ w = w' := by
  have K := Lib.hid (Get_c B p c l a k w hv hk ha hl)
  generalize numOf 0 ((l.drop a).take k) = x at *
  generalize l.length = n at *
  go_enter Tryz.func211, Tryz.ntmps211
  go_wp2_with (go_at_call 212; (with_reducible refine K.out.mono ?_); rintro e w1 ⟨rfl, rfl⟩)
  go_ret
  exact ⟨rfl, rfl⟩
theorem results_cell_one {P : Program} {fn : Func} {p u : Tmp} {ty : TypeId} (h : fn.results = #[.cell p ty, .tmp u]) (tmps : Array Value) (w : World) (g : Nat) (t : TypeId) (cs : Array Value) (fr : Nat × Nat) (d : TypeDesc)
    (hp : tmps.getD p undef = .pointer (some ⟨g, 0, none⟩)) (hg : w.heap[g]? = some (.cells cs t fr))
    (hu : P.underlying ty = some d) (hd : (match d with | .struct _ | .array _ _ => true | _ => false) = true) (hi : (P.info? ty).map (·.size) = some cs.size) :
    (results fn tmps).run P w = .ok (.tuple #[.agg cs, tmps.getD u undef]) w := by
  have hp' : tmps[p]?.getD undef = .pointer (some ⟨g, 0, none⟩) := by simpa using hp
  simp [results, h, hp', asAddr, run_loadVar_row w g t ty cs fr d hg hu hd hi]
set_option maxHeartbeats 2000000 in
theorem read_bad (B : Nat) (v : Value) (l : List UInt8) (w : World) (hB : B ≤ w.heap.size) (hv : BytesIn B w v l) (h64 : l.length = 64) (heq : closeL (l.take 60) ≠ l) :
    Calls Tryz.prog 159 #[v] w fun e w' => e = .returned (.tuple #[.agg #[.int .i64 0, .int .i64 0, .int .i64 0, .int .i64 0, .int .i64 0], .bool false]) ∧ Below w.heap.size w w' := by
  have S1 : Step B w (w.alloc (.cells #[.int .i64 0, .int .i64 0, .int .i64 0, .int .i64 0, .int .i64 0] 267)) := (Step.refl B w).alloc hB _
  have K := Lib.hid (open_bad B v l _ (Nat.le_trans hB S1.size) (hv.step S1) h64 heq)
  have hb0 := blk_new w #[.int .i64 0, .int .i64 0, .int .i64 0, .int .i64 0, .int .i64 0] 267
  have H0 : Hid ((w.alloc (.cells #[.int .i64 0, .int .i64 0, .int .i64 0, .int .i64 0, .int .i64 0] 267)).heap[w.heap.size]? = some (.cells #[.int .i64 0, .int .i64 0, .int .i64 0, .int .i64 0, .int .i64 0] 267 (0, 0)) ∧ Below w.heap.size w (w.alloc (.cells #[.int .i64 0, .int .i64 0, .int .i64 0, .int .i64 0, .int .i64 0] 267))) := Lib.hid ⟨hb0, (Below.refl _ _).alloc (Nat.le_refl _) _⟩
  clear hb0 S1
  obtain ⟨p, c, rfl, _⟩ := hv.form
  clear hv
  rw [h64] at K ⊢
  clear heq h64
  go_enter Tryz.func159, Tryz.ntmps159
  go_upto_region 1 with fail
  generalize (w.alloc (.cells #[.int .i64 0, .int .i64 0, .int .i64 0, .int .i64 0, .int .i64 0] 267)) = w0 at *
  have d1 : decide ((2 : Int) ≠ 0) = true := by decide
  go_wp2_with (go_at_call 160; (with_reducible refine K.out.mono ?_); rintro e w1 ⟨rfl, hb1⟩; have hk1 := blk_below H0.out.1 hb1 (lt_of_block H0.out.1); have hX : w.heap.size < w1.heap.size := lt_of_block hk1; have c0 : w1.cell? ⟨w.heap.size, 0, none⟩ = some (.int .i64 0) := blk_cell hk1 0; have c1 : w1.cell? ⟨w.heap.size, 1, none⟩ = some (.int .i64 0) := blk_cell hk1 1; have c2 : w1.cell? ⟨w.heap.size, 2, none⟩ = some (.int .i64 0) := blk_cell hk1 2; have c3 : w1.cell? ⟨w.heap.size, 3, none⟩ = some (.int .i64 0) := blk_cell hk1 3; have c4 : w1.cell? ⟨w.heap.size, 4, none⟩ = some (.int .i64 0) := blk_cell hk1 4; have f0 : w1.frozen? ⟨w.heap.size, 0, none⟩ = false := blk_free hk1 0; have f1 : w1.frozen? ⟨w.heap.size, 1, none⟩ = false := blk_free hk1 1; have f2 : w1.frozen? ⟨w.heap.size, 2, none⟩ = false := blk_free hk1 2; have f3 : w1.frozen? ⟨w.heap.size, 3, none⟩ = false := blk_free hk1 3; have f4 : w1.frozen? ⟨w.heap.size, 4, none⟩ = false := blk_free hk1 4; have HB1 := Lib.hid (H0.out.2.trans (hb1.mono H0.out.2.size)); have HK1 := Lib.hid hk1; clear hb1 hk1)
  have hs0 := blk_set HK1.out 0 (.int .i64 0)
  have hs1 := blk_set hs0 1 (.int .i64 0)
  have hs2 := blk_set hs1 2 (.int .i64 0)
  have hs3 := blk_set hs2 3 (.int .i64 0)
  have hs4 := blk_set hs3 4 (.int .i64 0)
  have hs5 := blk_old hs4 (.cells #[.slice none 0 0] 22)
  have BF : Below w.heap.size w ((((((w1.setCell ⟨w.heap.size, 0, none⟩ (.int .i64 0)).setCell ⟨w.heap.size, 1, none⟩ (.int .i64 0)).setCell ⟨w.heap.size, 2, none⟩ (.int .i64 0)).setCell ⟨w.heap.size, 3, none⟩ (.int .i64 0)).setCell ⟨w.heap.size, 4, none⟩ (.int .i64 0)).alloc (.cells #[.slice none 0 0] 22)) :=
    (((((HB1.out.setCell (Nat.le_refl _) _).setCell (Nat.le_refl _) _).setCell (Nat.le_refl _) _).setCell (Nat.le_refl _) _).setCell (Nat.le_refl _) _).alloc (by simp; omega) _
  refine bodyPost_ret (results_cell_one rfl _ _ w.heap.size _ _ _ _ rfl hs5 Tryz.underlying267 rfl (by kernel_rfl)) rfl ?_
  exact ⟨rfl, BF⟩
end Go.Proofs.YtjohhjdicbeojaaGreatDoor.Rw
namespace Go.Proofs.YtjohhjdicbeojaaGreatDoor.Ve
open Go.RowKit Go.Proofs.YtjohhjdicbeojaaGreatDoor.Ra Go.Proofs.YtjohhjdicbeojaaGreatDoor.Rc Go.Proofs.YtjohhjdicbeojaaGreatDoor.Rj Go.Proofs.YtjohhjdicbeojaaGreatDoor.Rl Go.Proofs.YtjohhjdicbeojaaGreatDoor.Rn Go.Proofs.YtjohhjdicbeojaaGreatDoor.Ro Go.Proofs.YtjohhjdicbeojaaGreatDoor.Rp Go.Proofs.YtjohhjdicbeojaaGreatDoor.Rq Go.Proofs.YtjohhjdicbeojaaGreatDoor.Rw Go.Proofs.YtjohhjdicbeojaaGreatDoor.Ua Go.Proofs.YtjohhjdicbeojaaGreatDoor.Ub Go.Proofs.YtjohhjdicbeojaaGreatDoor.Va Go.Proofs.YtjohhjdicbeojaaGreatDoor.Vc Go.Proofs.YtjohhjdicbeojaaGreatDoor.Vd
set_option maxRecDepth 8000
theorem spare1_c (s : Int) (w : World) : Calls Tryz.prog 224 #[.agg #[.int .i64 0, .int .i64 s]] w fun e w' => e = .returned (.bool true) ∧ Below w.heap.size w w' := by
  go_enter Tryz.func224, Tryz.ntmps224
  go_wp2
  go_ret
  exact ⟨rfl, (Below.refl _ _).alloc (Nat.le_refl _) _⟩
theorem index_c {w : World} {R : Nat} {t : Value} (h : RollAt w R 0 0 t) : Calls Tryz.prog 223 #[.slice (some ⟨R, 0, none⟩) 8 8, .func (.func 224) #[] #[]] w fun e w' => e = .returned (.int .i64 0) ∧ Below w.heap.size w w' := by
  have KS := Lib.hid (fun (W : World) => spare1_c 0 W)
  have c0 : w.cell? ⟨R, 0, none⟩ = some (.int .i64 0) := blk_cell h.blk 0
  have c1 : w.cell? ⟨R, 1, none⟩ = some (.int .i64 0) := blk_cell h.blk 1
  clear h
  go_enter Tryz.func223, Tryz.ntmps223
  go_wp2
  go_loopg [5, 8] 1 (fun gg _ s8 wr => s8 = .int .i64 0 ∧ gg = 1 ∧ wr = w)
  case atStart => exact ⟨rfl, rfl, rfl⟩
  case round =>
    obtain ⟨rfl, _, rfl⟩ := hrel
    go_wp2_with (go_at_call 224; (with_reducible refine (KS.out _).mono ?_); rintro e w1 ⟨rfl, hb1⟩)
    go_ret
    exact ⟨rfl, hb1⟩
theorem spare_c {w : World} {R : Nat} {t : Value} (h : RollAt w R 0 0 t) : Calls Tryz.prog 181 #[.pointer (some ⟨R, 0, none⟩)] w fun e w' => e = .returned (.tuple #[.int .i64 0, .int .i64 0]) ∧ Below w.heap.size w w' := by
  have KI := Lib.hid (index_c h)
  have hL := lt_of_block h.blk
  clear h
  go_enter Tryz.func181, Tryz.ntmps181
  go_wp2_with (go_at_call 223; (with_reducible refine KI.out.mono ?_); rintro e w1 ⟨rfl, hb1⟩)
  go_ret2
  exact ⟨rfl, hb1⟩
theorem roll_set (k s : Int) (t u : Value) : ((((rollC k s t).setIfInBounds 0 (.int .i64 1)).setIfInBounds 1 (.int .i64 3)).setIfInBounds 16 u) = rollC 1 3 u := by kernel_rfl
/-- Create's stores. -/
theorem created {B : Nat} {w0 w : World} {R : Nat} {k s : Int} {t : Value} (h : RollAt w R k s t) (hB : B ≤ R) (hk : Kept [148] B w0 w) (u : Value) :
    RollAt (((w.setCell ⟨R, 0, none⟩ (.int .i64 1)).setCell ⟨R, 1, none⟩ (.int .i64 3)).setCell ⟨R, 16, none⟩ u) R 1 3 u ∧ Kept [148] B w0 (((w.setCell ⟨R, 0, none⟩ (.int .i64 1)).setCell ⟨R, 1, none⟩ (.int .i64 3)).setCell ⟨R, 16, none⟩ u) := by
  have b1 := blk_set h.blk 0 (.int .i64 1)
  have b2 := blk_set b1 1 (.int .i64 3)
  have b3 := blk_set b2 16 u
  have k1 := hk.set h.blk hB (by rfl) 0 (.int .i64 1)
  have k2 := k1.set b1 hB (by rfl) 1 (.int .i64 3)
  have k3 := k2.set b2 hB (by rfl) 16 u
  rw [roll_set] at b3
  exact ⟨⟨b3⟩, k3⟩
theorem TabAt.kept {ts : List TypeId} {B : Nat} {w w' : World} {T : Nat} (h : TabAt w T) (hk : Kept ts B w w') (h1 : ts.contains 223 = false) (h2 : ts.contains 289 = false) : TabAt w' T := by
  obtain ⟨Q, a, b⟩ := h.tab
  exact ⟨Q, hk.at a h1, hk.at b h2⟩
theorem setRoll_tab {w : World} {T R : Nat} {vs : Array Value} (h : TabAt w T) (hR : w.heap[R]? = some (.cells vs 148 (0, 0))) (j : Nat) (v : Value) : TabAt (w.setCell ⟨R, j, none⟩ v) T :=
  TabAt.kept (ts := [148]) h ((Kept.refl _ R _).set hR (Nat.le_refl _) (by rfl) j v) (by rfl) (by rfl)
set_option maxHeartbeats 4000000 in
theorem create_c {B : Nat} {w : World} {R : Nat} {t : Value} (hB : B ≤ R) (h : RollAt w R 0 0 t) : Calls Tryz.prog 122 #[.pointer (some ⟨R, 0, none⟩), .int .i64 3] w fun e w' =>
    (e = .returned (.tuple #[.int .i64 0, .int .i64 0])) ∧ (∃ T, RollAt w' R 1 3 (.pointer (some ⟨T, 0, none⟩)) ∧ TabAt w' T) ∧ Kept [148] B w w' := by
  have KT := Lib.hid (fun (W : World) => tnew_c W)
  have KS := Lib.hid (fun (W : World) (hh : RollAt W R 0 0 t) => spare_c hh)
  have H0 := Lib.hid h
  have hBw : Hid (B ≤ w.heap.size) := Lib.hid (Nat.le_of_lt (Nat.lt_of_le_of_lt hB (lt_of_block h.blk)))
  clear h
  go_enter Tryz.func122, Tryz.ntmps122
  go_upto_region 8 with (first
    | (go_at_call 65; (with_reducible refine (KT.out _).mono ?_); rintro e w1 ⟨T, rfl, hT, ht1, hb1⟩; have H1 := Lib.hid (H0.out.below hb1); have HT1 := Lib.hid ht1; have HK1 : Hid (Kept [148] B w w1) := Lib.hid (Kept.of hb1 hBw.out); clear hb1 ht1 hT)
    | (go_at_call 181; (with_reducible refine (KS.out _ H1.out).mono ?_); rintro e w2 ⟨rfl, hb2⟩; have H2 := Lib.hid (H1.out.below hb2); have HT2 := Lib.hid (HT1.out.below hb2); have HK2 := Lib.hid (HK1.out.step hb2 (Nat.le_trans hBw.out HK1.out.size)); clear hb2))
  have H3 : Hid (RollAt w2.drew R 0 0 t) := Lib.hid ⟨H2.out.blk⟩
  have HT3 : Hid (TabAt w2.drew T) := Lib.hid ⟨HT2.out.tab⟩
  have HK3 := Lib.hid HK2.out.drew
  have c0 : w2.cell? ⟨R, 0, none⟩ = some (.int .i64 0) := blk_cell H2.out.blk 0
  have c1 : w2.cell? ⟨R, 1, none⟩ = some (.int .i64 0) := blk_cell H2.out.blk 1
  have c16 : w2.cell? ⟨R, 16, none⟩ = some t := blk_cell H2.out.blk 16
  have f0 : w2.frozen? ⟨R, 0, none⟩ = false := blk_free H2.out.blk 0
  have f1 : w2.frozen? ⟨R, 1, none⟩ = false := blk_free H2.out.blk 1
  have f16 : w2.frozen? ⟨R, 16, none⟩ = false := blk_free H2.out.blk 16
  go_region
  · have h4 := created H3.out hB HK3.out (.pointer (some ⟨T, 0, none⟩))
    go_wp2
    go_ret2
    exact ⟨rfl, ⟨T, h4.1, setRoll_tab (setRoll_tab (setRoll_tab HT3.out H3.out.blk 0 _) (blk_set H3.out.blk 0 _) 1 _) (blk_set (blk_set H3.out.blk 0 _) 1 _) 16 _⟩, h4.2⟩
theorem sizeE1 : (Tryz.prog.info? 91).map (·.size) = some 2 := by kernel_rfl
theorem entry_c {w : World} {R : Nat} {t : Value} (h : RollAt w R 1 3 t) : Calls Tryz.prog 131 #[.pointer (some ⟨R, 0, none⟩), .int .i64 0] w fun e w' => e = .returned (.tuple #[.agg #[.int .i64 1, .int .i64 3], .int .i64 0]) ∧ Below w.heap.size w w' := by
  have c0 : w.cell? ⟨R, 0, none⟩ = some (.int .i64 1) := blk_cell h.blk 0
  have c1 : w.cell? ⟨R, 1, none⟩ = some (.int .i64 3) := blk_cell h.blk 1
  have hL := lt_of_block h.blk
  clear h
  go_enter Tryz.func131, Tryz.ntmps131
  go_wp2
  refine bodyPost_ret (results_cell_one rfl _ _ w.heap.size _ #[.int .i64 1, .int .i64 3] _ _ rfl (blk_new _ _ _) Tryz.underlying91 rfl sizeE1) rfl ?_
  exact ⟨rfl, (Below.refl _ _).alloc (Nat.le_refl _) _⟩
theorem rget_c {w : World} {R T : Nat} (h : RollAt w R 1 3 (.pointer (some ⟨T, 0, none⟩))) (ht : TabAt w T) (j : Int) (h0 : 0 ≤ j) : Calls Tryz.prog 182 #[.pointer (some ⟨R, 0, none⟩), .int .i64 0, .int .i64 j] w fun e w' => e = .returned (.tuple #[.complex .f64 0 0, .bool false, .int .i64 (if j < 3 then 0 else 5)]) ∧ Below w.heap.size w w' := by
  have KE := Lib.hid (entry_c h)
  have kg := fun (W : World) (hh : TabAt W T) => tget_c hh j h0
  obtain ⟨r, hr⟩ : ∃ r : Int, r = if j < 3 then 0 else 5 := ⟨_, rfl⟩
  rw [← hr] at kg ⊢
  have KG := Lib.hid kg
  clear kg hr
  have H0 := Lib.hid h
  have HT0 := Lib.hid ht
  clear h ht
  go_enter Tryz.func182, Tryz.ntmps182
  go_upto_region 4 with (go_at_call 131; (with_reducible refine KE.out.mono ?_); rintro e w1 ⟨rfl, hb1⟩)
  have hb2 : Below w.heap.size w (w1.alloc (.cells #[.int .i64 1, .int .i64 3] 91)) := hb1.alloc hb1.size _
  have HB := Lib.hid hb2
  clear hb1 hb2
  generalize (w1.alloc (.cells #[.int .i64 1, .int .i64 3] 91)) = w2 at *
  have H2 := Lib.hid (H0.out.below HB.out)
  have HT2 := Lib.hid (HT0.out.below HB.out)
  have c16 : w2.cell? ⟨R, 16, none⟩ = some (.pointer (some ⟨T, 0, none⟩)) := blk_cell H2.out.blk 16
  go_wp2_with (go_at_call 225; (with_reducible refine (KG.out _ HT2.out).mono ?_); rintro e w3 ⟨rfl, rfl⟩)
  refine bodyPost_ret (results_tmp3 rfl _ _ _) rfl ?_
  exact ⟨rfl, HB.out⟩
theorem index_tab0 (T : Nat) (W : World) : (Instr.index 146 (.agg #[.pointer (some ⟨T, 0, none⟩), .pointer none, .pointer none, .pointer none, .pointer none, .pointer none, .pointer none, .pointer none]) (.int .i64 0)).run Tryz.prog W = .ok (.pointer (some ⟨T, 0, none⟩)) W := by rfl
theorem index_tabN (T : Nat) (j : Int) (h : 1 ≤ j ∧ j < 8) (W : World) : (Instr.index 146 (.agg #[.pointer (some ⟨T, 0, none⟩), .pointer none, .pointer none, .pointer none, .pointer none, .pointer none, .pointer none, .pointer none]) (.int .i64 j)).run Tryz.prog W = .ok (.pointer none) W := by
  have hcase : j = 1 ∨ j = 2 ∨ j = 3 ∨ j = 4 ∨ j = 5 ∨ j = 6 ∨ j = 7 := by omega
  rcases hcase with rfl | rfl | rfl | rfl | rfl | rfl | rfl <;> rfl
theorem roll_entries {w : World} {R : Nat} {k s : Int} {t : Value} (h : RollAt w R k s t) : w.rangeAt R 0 [.int .i64 k, .int .i64 s, .int .i64 0, .int .i64 0, .int .i64 0, .int .i64 0, .int .i64 0, .int .i64 0, .int .i64 0, .int .i64 0, .int .i64 0, .int .i64 0, .int .i64 0, .int .i64 0, .int .i64 0, .int .i64 0] := range_at h.blk 0 _ rfl
theorem roll_tabs {w : World} {R : Nat} {k s : Int} {t : Value} (h : RollAt w R k s t) : w.rangeAt R 16 [t, .pointer none, .pointer none, .pointer none, .pointer none, .pointer none, .pointer none, .pointer none] := range_at h.blk 16 _ rfl
theorem vol_there {w : World} {b : Nat} {cs : Array Value} (h : w.heap[b]? = some (.cells cs 96 (0, 0))) (hs : cs.size = 24) : w.there b 0 16 := there_at h 0 16 (by omega)
theorem setL_vol : setL emptyCells 0 [.int .i64 1, .int .i64 3, .int .i64 0, .int .i64 0, .int .i64 0, .int .i64 0, .int .i64 0, .int .i64 0, .int .i64 0, .int .i64 0, .int .i64 0, .int .i64 0, .int .i64 0, .int .i64 0, .int .i64 0, .int .i64 0] = volCells (.slice none 0 0) := by kernel_rfl
/-- In State. -/
structure StSt (w W : World) (R T : Nat) (cs : Array Value) : Prop where
  roll : RollAt W R 1 3 (.pointer (some ⟨T, 0, none⟩))
  tab : TabAt W T
  res : W.heap[w.heap.size]? = some (.cells emptyCells 96 (0, 0))
  st : W.heap[w.heap.size + 1]? = some (.cells cs 96 (0, 0))
  below : Below w.heap.size w W
theorem StSt.later {w W W' : World} {R T : Nat} {cs : Array Value} (h : StSt w W R T cs) (hb : Below W.heap.size W W') : StSt w W' R T cs :=
  ⟨h.roll.below hb, h.tab.below hb, blk_below h.res hb (lt_of_block h.res), blk_below h.st hb (lt_of_block h.st), h.below.trans (hb.mono h.below.size)⟩
theorem tab_set {w : World} {T b : Nat} (h : TabAt w T) {vs : Array Value} {t : TypeId} (hb : w.heap[b]? = some (.cells vs t (0, 0))) (h1 : t ≠ 223) (h2 : t ≠ 289) (j : Nat) (v : Value) : TabAt (w.setCell ⟨b, j, none⟩ v) T :=
  TabAt.kept (ts := [t]) h ((Kept.refl _ b _).set hb (Nat.le_refl _) (by simp) j v) (by simpa using Ne.symm h1) (by simpa using Ne.symm h2)
theorem StSt.set {w W : World} {R T : Nat} {cs : Array Value} (h : StSt w W R T cs) (hR : R ≠ w.heap.size + 1) (j : Nat) (v : Value) : StSt w (W.setCell ⟨w.heap.size + 1, j, none⟩ v) R T (cs.setIfInBounds j v) :=
  ⟨⟨blk_set_other h.roll.blk hR v⟩, tab_set h.tab h.st (by decide) (by decide) j v, blk_set_other h.res (by show w.heap.size ≠ w.heap.size + 1; omega) v, blk_set h.st j v, h.below.setCell (Nat.le_succ _) v⟩
theorem StSt.sets {w W : World} {R T : Nat} (hR : R ≠ w.heap.size + 1) : ∀ (l : List Value) (o : Nat) {W : World} {cs : Array Value}, StSt w W R T cs → StSt w (W.setCells (w.heap.size + 1) o l) R T (setL cs o l)
  | [], _, _, _, h => h
  | v :: r, o, _, _, h => StSt.sets (W := W) hR r (o + 1) (h.set hR o v)
/-- With the list. -/
structure StV (w W : World) (R T g c : Nat) : Prop where
  st : StSt w W R T (volCells (.slice (some ⟨g, 0, none⟩) 3 c))
  three : Three W g
  ge : w.heap.size + 1 < g
  lt : g < W.heap.size
theorem StV.next {w W : World} {R T g c : Nat} (h : StV w W R T g c) (hR : R ≠ w.heap.size + 1) (k : Nat) (hk : 17 ≤ k ∧ k < 24) : StV w (W.setCell ⟨w.heap.size + 1, k, none⟩ (.slice none 0 0)) R T g c := by
  have h1 := h.st.set hR k (.slice none 0 0)
  rw [setN _ k hk] at h1
  exact ⟨h1, three_set h.three (by have := h.ge; omega), h.ge, by rw [sz_set]; exact h.lt⟩
theorem StV.first {w W W' : World} {R T g c : Nat} (h : StSt w W R T (volCells (.slice none 0 0))) (hR : R ≠ w.heap.size + 1) (hb : Below W.heap.size W W') (h3 : Three W' g) (hge : W.heap.size ≤ g) (hlt : g < W'.heap.size) : StV w (W'.setCell ⟨w.heap.size + 1, 16, none⟩ (.slice (some ⟨g, 0, none⟩) 3 c)) R T g c := by
  have h1 := (h.later hb).set hR 16 (.slice (some ⟨g, 0, none⟩) 3 c)
  rw [setV] at h1
  have hl := lt_of_block h.st
  exact ⟨h1, three_set h3 (by omega), by omega, by rw [sz_set]; exact hlt⟩
set_option maxHeartbeats 4000000 in
theorem state_c {w : World} {R T : Nat} (h : RollAt w R 1 3 (.pointer (some ⟨T, 0, none⟩))) (ht : TabAt w T) : Calls Tryz.prog 132 #[.pointer (some ⟨R, 0, none⟩)] w fun e w' => ∃ g c, (e = .returned (.agg (volCells (.slice (some ⟨g, 0, none⟩) 3 c)))) ∧ Three w' g ∧ w.heap.size ≤ g ∧ g < w'.heap.size ∧ Below w.heap.size w w' := by
  have KN := Lib.hid (fun (W : World) => tall_nil W)
  have KA := Lib.hid (fun (W : World) (hh : TabAt W T) => tall_c hh)
  have hR : R ≠ w.heap.size + 1 := by have := lt_of_block h.blk; omega
  have hst := blk_new (w.alloc (.cells emptyCells 96)) emptyCells 96
  rw [sz_alloc] at hst
  have hbb : Below w.heap.size w ((w.alloc (.cells emptyCells 96)).alloc (.cells emptyCells 96)) := ((Below.refl _ _).alloc (Nat.le_refl _) _).alloc (by rw [sz_alloc]; omega) _
  have H0 : Hid (StSt w ((w.alloc (.cells emptyCells 96)).alloc (.cells emptyCells 96)) R T emptyCells) := Lib.hid ⟨h.below hbb, ht.below hbb, blk_old (blk_new _ _ _) _, hst, hbb⟩
  have hRR := Lib.hid hR
  have HE := Lib.hid (entry_one 1 3)
  have hix0 := index_tab0 T
  have hixN := index_tabN T
  clear h ht hst hbb hR
  go_enter Tryz.func132, Tryz.ntmps132
  go_upto_region 2 with fail
  rw [show ((w.alloc (.cells #[.int .i64 0, .int .i64 0, .int .i64 0, .int .i64 0, .int .i64 0, .int .i64 0, .int .i64 0, .int .i64 0, .int .i64 0, .int .i64 0, .int .i64 0, .int .i64 0, .int .i64 0, .int .i64 0, .int .i64 0, .int .i64 0, .slice none 0 0, .slice none 0 0, .slice none 0 0, .slice none 0 0, .slice none 0 0, .slice none 0 0, .slice none 0 0, .slice none 0 0] 96)).alloc (.cells #[.int .i64 0, .int .i64 0, .int .i64 0, .int .i64 0, .int .i64 0, .int .i64 0, .int .i64 0, .int .i64 0, .int .i64 0, .int .i64 0, .int .i64 0, .int .i64 0, .int .i64 0, .int .i64 0, .int .i64 0, .int .i64 0, .slice none 0 0, .slice none 0 0, .slice none 0 0, .slice none 0 0, .slice none 0 0, .slice none 0 0, .slice none 0 0, .slice none 0 0] 96)) = ((w.alloc (.cells emptyCells 96)).alloc (.cells emptyCells 96)) from rfl]
  generalize ((w.alloc (.cells emptyCells 96)).alloc (.cells emptyCells 96)) = w0 at *
  go_upto_region 6 with (first
    | (refine wpList_load_mid rfl 92 (.tmp 11) rfl R 0 rfl _ _ (roll_entries H0.out.roll) Tryz.underlying92 rfl sizeEn ?_)
    | (refine wpList_store_named rfl 92 (.tmp 13) (.tmp 12) rfl (w.heap.size + 1) 0 [.int .i64 1, .int .i64 3, .int .i64 0, .int .i64 0, .int .i64 0, .int .i64 0, .int .i64 0, .int .i64 0, .int .i64 0, .int .i64 0, .int .i64 0, .int .i64 0, .int .i64 0, .int .i64 0, .int .i64 0, .int .i64 0] rfl rfl (vol_there H0.out.st rfl) sizeEn HE.out ?_; intro w1 hw1; have H1 : Hid (StSt w w1 R T (volCells (.slice none 0 0))) := Lib.hid (by rw [hw1, ← setL_vol]; exact StSt.sets (W := w0) hRR.out _ 0 H0.out); clear hw1)
    | (refine wpList_load_mid rfl 146 (.tmp 16) rfl R 16 rfl _ _ (roll_tabs H1.out.roll) Tryz.underlying146 rfl sizeTb ?_))
  go_loopg [4, 5, 18] (9) (fun gg _ _ s18 wr => ∃ j : Nat, j ≤ 8 ∧ 8 - j < gg ∧ s18 = .int .i64 (j : Int) ∧ Hid ((j = 0 → StSt w wr R T (volCells (.slice none 0 0))) ∧ (0 < j → ∃ g c, StV w wr R T g c)))
  case atStart => exact ⟨0, by omega, by omega, rfl, Lib.hid ⟨fun _ => H1.out, fun h => absurd h (Nat.lt_irrefl 0)⟩⟩
  case round =>
    obtain ⟨j, hj, hgg, rfl, HR⟩ := hrel
    by_cases h0 : j = 0
    · subst h0
      have HS := Lib.hid (HR.out.1 rfl)
      clear hixN hj
      go_wp2_with (go_at_call 186; (with_reducible refine (KA.out _ HS.out.tab).mono ?_); rintro e w2 ⟨g, c, rfl, h3, hge, hlt, hb2⟩; have HV := Lib.hid (StV.first (c := c) HS.out hRR.out hb2 h3 hge hlt); have q0 := blk_cell (HS.out.later hb2).st 16; have q0' : w2.cell? ⟨w.heap.size + 1, 16, none⟩ = some (.slice none 0 0) := q0; have f0 := blk_free (HS.out.later hb2).st 16; clear q0 h3 hge hlt hb2)
      go_roundg (8)
      case measure => omega
      case rel => exact ⟨1, by omega, by omega, by go_num, Lib.hid ⟨fun h => absurd h (by decide), fun _ => ⟨_, _, HV.out⟩⟩⟩
    · obtain ⟨g, c, hv⟩ := HR.out.2 (Nat.pos_of_ne_zero h0)
      have HV := Lib.hid hv
      clear hv hix0
      by_cases h8 : j < 8
      · rcases (by omega : j = 1 ∨ j = 2 ∨ j = 3 ∨ j = 4 ∨ j = 5 ∨ j = 6 ∨ j = 7) with rfl | rfl | rfl | rfl | rfl | rfl | rfl
        · have hi := hixN 1 ⟨by decide, by decide⟩
          have q0 : wr.cell? ⟨w.heap.size + 1, 17, none⟩ = some (.slice none 0 0) := blk_cell HV.out.st.st 17
          have f0 : wr.frozen? ⟨w.heap.size + 1, 17, none⟩ = false := blk_free HV.out.st.st 17
          have HN := Lib.hid (HV.out.next hRR.out 17 (by decide))
          clear hixN
          go_wp2_with (go_at_call 186; (with_reducible refine (KN.out _).mono ?_); rintro e w2 ⟨rfl, rfl⟩)
          go_roundg (7)
          case measure => omega
          case rel => exact ⟨2, by omega, by omega, by go_num, Lib.hid ⟨fun h => absurd h (by decide), fun _ => ⟨_, _, HN.out⟩⟩⟩
        · have hi := hixN 2 ⟨by decide, by decide⟩
          have q0 : wr.cell? ⟨w.heap.size + 1, 18, none⟩ = some (.slice none 0 0) := blk_cell HV.out.st.st 18
          have f0 : wr.frozen? ⟨w.heap.size + 1, 18, none⟩ = false := blk_free HV.out.st.st 18
          have HN := Lib.hid (HV.out.next hRR.out 18 (by decide))
          clear hixN
          go_wp2_with (go_at_call 186; (with_reducible refine (KN.out _).mono ?_); rintro e w2 ⟨rfl, rfl⟩)
          go_roundg (6)
          case measure => omega
          case rel => exact ⟨3, by omega, by omega, by go_num, Lib.hid ⟨fun h => absurd h (by decide), fun _ => ⟨_, _, HN.out⟩⟩⟩
        · have hi := hixN 3 ⟨by decide, by decide⟩
          have q0 : wr.cell? ⟨w.heap.size + 1, 19, none⟩ = some (.slice none 0 0) := blk_cell HV.out.st.st 19
          have f0 : wr.frozen? ⟨w.heap.size + 1, 19, none⟩ = false := blk_free HV.out.st.st 19
          have HN := Lib.hid (HV.out.next hRR.out 19 (by decide))
          clear hixN
          go_wp2_with (go_at_call 186; (with_reducible refine (KN.out _).mono ?_); rintro e w2 ⟨rfl, rfl⟩)
          go_roundg (5)
          case measure => omega
          case rel => exact ⟨4, by omega, by omega, by go_num, Lib.hid ⟨fun h => absurd h (by decide), fun _ => ⟨_, _, HN.out⟩⟩⟩
        · have hi := hixN 4 ⟨by decide, by decide⟩
          have q0 : wr.cell? ⟨w.heap.size + 1, 20, none⟩ = some (.slice none 0 0) := blk_cell HV.out.st.st 20
          have f0 : wr.frozen? ⟨w.heap.size + 1, 20, none⟩ = false := blk_free HV.out.st.st 20
          have HN := Lib.hid (HV.out.next hRR.out 20 (by decide))
          clear hixN
          go_wp2_with (go_at_call 186; (with_reducible refine (KN.out _).mono ?_); rintro e w2 ⟨rfl, rfl⟩)
          go_roundg (4)
          case measure => omega
          case rel => exact ⟨5, by omega, by omega, by go_num, Lib.hid ⟨fun h => absurd h (by decide), fun _ => ⟨_, _, HN.out⟩⟩⟩
        · have hi := hixN 5 ⟨by decide, by decide⟩
          have q0 : wr.cell? ⟨w.heap.size + 1, 21, none⟩ = some (.slice none 0 0) := blk_cell HV.out.st.st 21
          have f0 : wr.frozen? ⟨w.heap.size + 1, 21, none⟩ = false := blk_free HV.out.st.st 21
          have HN := Lib.hid (HV.out.next hRR.out 21 (by decide))
          clear hixN
          go_wp2_with (go_at_call 186; (with_reducible refine (KN.out _).mono ?_); rintro e w2 ⟨rfl, rfl⟩)
          go_roundg (3)
          case measure => omega
          case rel => exact ⟨6, by omega, by omega, by go_num, Lib.hid ⟨fun h => absurd h (by decide), fun _ => ⟨_, _, HN.out⟩⟩⟩
        · have hi := hixN 6 ⟨by decide, by decide⟩
          have q0 : wr.cell? ⟨w.heap.size + 1, 22, none⟩ = some (.slice none 0 0) := blk_cell HV.out.st.st 22
          have f0 : wr.frozen? ⟨w.heap.size + 1, 22, none⟩ = false := blk_free HV.out.st.st 22
          have HN := Lib.hid (HV.out.next hRR.out 22 (by decide))
          clear hixN
          go_wp2_with (go_at_call 186; (with_reducible refine (KN.out _).mono ?_); rintro e w2 ⟨rfl, rfl⟩)
          go_roundg (2)
          case measure => omega
          case rel => exact ⟨7, by omega, by omega, by go_num, Lib.hid ⟨fun h => absurd h (by decide), fun _ => ⟨_, _, HN.out⟩⟩⟩
        · have hi := hixN 7 ⟨by decide, by decide⟩
          have q0 : wr.cell? ⟨w.heap.size + 1, 23, none⟩ = some (.slice none 0 0) := blk_cell HV.out.st.st 23
          have f0 : wr.frozen? ⟨w.heap.size + 1, 23, none⟩ = false := blk_free HV.out.st.st 23
          have HN := Lib.hid (HV.out.next hRR.out 23 (by decide))
          clear hixN
          go_wp2_with (go_at_call 186; (with_reducible refine (KN.out _).mono ?_); rintro e w2 ⟨rfl, rfl⟩)
          go_roundg (1)
          case measure => omega
          case rel => exact ⟨8, by omega, by omega, by go_num, Lib.hid ⟨fun h => absurd h (by decide), fun _ => ⟨_, _, HN.out⟩⟩⟩
      · obtain rfl : j = 8 := by omega
        have HSV := Lib.hid (sizeV (.slice (some ⟨g, 0, none⟩) 3 c))
        have HST := Lib.hid HV.out.st.st
        have hne : g ≠ w.heap.size := by have := HV.out.ge; omega
        have HFX := Lib.hid (set_of (ds := volCells (.slice (some ⟨g, 0, none⟩) 3 c)) HV.out.st.res rfl)
        have HFB := Lib.hid (belowSet HV.out.st.below (Nat.le_refl _) (Nat.le_refl _) (volCells (.slice (some ⟨g, 0, none⟩) 3 c)).toList)
        have HF3 := Lib.hid (three_sets (volCells (.slice (some ⟨g, 0, none⟩) 3 c)).toList HV.out.three HV.out.lt hne)
        have hge : Hid (w.heap.size ≤ g) := Lib.hid (by have := HV.out.ge; omega)
        have HO := Lib.hid (oneV g c)
        have HT1 : Hid (wr.there w.heap.size 0 (volCells (.slice (some ⟨g, 0, none⟩) 3 c)).toList.length) := Lib.hid (there_of HV.out.st.res 24 rfl)
        have HSL : Hid ((Tryz.prog.info? 96).map (·.size) = some (volCells (.slice (some ⟨g, 0, none⟩) 3 c)).toList.length) := HSV
        clear hixN hgg hj h8 h0 HR
        generalize hcs : volCells (.slice (some ⟨g, 0, none⟩) 3 c) = cs at *
        have HCS := Lib.hid hcs
        clear hcs
        go_wp2_with (first
          | (refine wpList_load_row rfl 96 (.tmp 3) rfl (w.heap.size + 1) rfl _ cs _ _ HST.out Tryz.underlying96 rfl HSV.out ?_)
          | (refine wpList_store_named rfl 96 (.tmp 2) (.tmp 28) rfl w.heap.size 0 cs.toList rfl rfl HT1.out HSL.out HO.out ?_; intro w4 hw4; rw [← hw4] at HFX HFB HF3; clear hw4))
        refine bodyPost_ret (v := .agg cs) (results_cell_row rfl _ _ w.heap.size _ _ _ _ rfl HFX.out Tryz.underlying96 rfl HSV.out) rfl ?_
        exact ⟨g, c, by rw [← HCS.out], HF3.out.1, hge.out, HF3.out.2, HFB.out⟩
end Go.Proofs.YtjohhjdicbeojaaGreatDoor.Ve
