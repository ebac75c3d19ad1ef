/- An empty device opened: slate.Load, revive.Open, pool.Open; Crash where no write is loose. -/
import Derived.Test.YtjohhjdicbeojaaGreatDoorZbo
namespace Go.Proofs.YtjohhjdicbeojaaGreatDoor.Wb
open Go.RowKit Go.Proofs.YtjohhjdicbeojaaGreatDoor.Ra Go.Proofs.YtjohhjdicbeojaaGreatDoor.Rc Go.Proofs.YtjohhjdicbeojaaGreatDoor.Re Go.Proofs.YtjohhjdicbeojaaGreatDoor.Rf Go.Proofs.YtjohhjdicbeojaaGreatDoor.Rg Go.Proofs.YtjohhjdicbeojaaGreatDoor.Ri Go.Proofs.YtjohhjdicbeojaaGreatDoor.Rj Go.Proofs.YtjohhjdicbeojaaGreatDoor.Rl Go.Proofs.YtjohhjdicbeojaaGreatDoor.Rm Go.Proofs.YtjohhjdicbeojaaGreatDoor.Rn Go.Proofs.YtjohhjdicbeojaaGreatDoor.Ro Go.Proofs.YtjohhjdicbeojaaGreatDoor.Rp Go.Proofs.YtjohhjdicbeojaaGreatDoor.Rq Go.Proofs.YtjohhjdicbeojaaGreatDoor.Rw Go.Proofs.YtjohhjdicbeojaaGreatDoor.Rx Go.Proofs.YtjohhjdicbeojaaGreatDoor.Rz Go.Proofs.YtjohhjdicbeojaaGreatDoor.Sa Go.Proofs.YtjohhjdicbeojaaGreatDoor.Sd Go.Proofs.YtjohhjdicbeojaaGreatDoor.Se Go.Proofs.YtjohhjdicbeojaaGreatDoor.Sf Go.Proofs.YtjohhjdicbeojaaGreatDoor.Sg Go.Proofs.YtjohhjdicbeojaaGreatDoor.Si Go.Proofs.YtjohhjdicbeojaaGreatDoor.Sj Go.Proofs.YtjohhjdicbeojaaGreatDoor.Sm Go.Proofs.YtjohhjdicbeojaaGreatDoor.Sn Go.Proofs.YtjohhjdicbeojaaGreatDoor.So Go.Proofs.YtjohhjdicbeojaaGreatDoor.Sp Go.Proofs.YtjohhjdicbeojaaGreatDoor.Sq Go.Proofs.YtjohhjdicbeojaaGreatDoor.Sw
set_option maxRecDepth 8000

set_option maxHeartbeats 2000000 in
theorem pages_bad2 {B : Nat} {w : World} {D S N : Nat} {lv : Value} {d : Dev} (h : DevAt B w D S N lv d) (hd : d.off = false) (hn : 12 < d.n) (hz : secL d.now 12 = List.replicate 64 0) :
    Calls Tryz.prog 104 #[.pointer (some ⟨D, 0, none⟩), .int .i64 12] w fun e w' => e = .returned (.tuple #[.slice none 0 0, .int .i64 0]) ∧ Below w.heap.size w w' := by
  have hg := get_c h hd 12 hn
  rw [hz, show ((12 : Nat) : Int) = 12 from rfl] at hg
  have KG := Lib.hid hg
  have KR := Lib.hid (fun (W : World) (u : Value) (hu : BytesIn 0 W u (List.replicate 64 (0 : UInt8))) => count_bad 0 u _ W (Nat.zero_le _) hu (List.length_replicate) zeros_bad)
  clear hg h hd hz hn
  go_enter Tryz.func104, Tryz.ntmps104
  go_wp2_with (first
    | (go_at_call 82; (with_reducible refine KG.out.mono ?_); rintro e w1 ⟨v1, rfl, hn1⟩; have HN1 := Lib.hid hn1; clear hn1)
    | (go_at_call 158; (with_reducible refine (KR.out _ _ HN1.out.bytes).mono ?_); rintro e w2 ⟨rfl, hb2⟩; have HB2 := Lib.hid (HN1.out.below.trans (hb2.mono HN1.out.below.size)); clear hb2)
    | go_quiet (fail))
  refine bodyPost_ret (v := .tuple #[.slice none 0 0, .int .i64 0]) (by simp [results, Tryz.results104, go_sem]) rfl ⟨rfl, HB2.out⟩

noncomputable def rL14 : Array Oper := funcOps Tryz.f58 14
def VL14 (x y : Value) : Nat → Value → Prop
  | 0, v => v = .agg emptyCells
  | 1, v => v = .agg #[x, y]
  | 4, v => v = .int .i64 0
  | 5, v => v = .int .i64 11
  | _, _ => True
def TL14 (x y : Value) (_ : Nat → Prop) (j : Nat) (v : Value) (_ : World) : Prop := VL14 x y j v
set_option maxHeartbeats 4000000 in
theorem owesL14 {Q : Exit → Act → World → Prop} (A : Nat) (x y : Value) (hx1 : x.oneCell' = true) (hy1 : y.oneCell' = true) (w0 : World) (hA : w0.heap.size ≤ A) (a0 : Act) (e2 : a0.tmps[2]? = some (.pointer (some ⟨A, 0, none⟩))) (e3 : a0.tmps[3]? = some (.pointer (some ⟨A + 1, 0, none⟩))) :
    ∀ (i : Nat) (o : Oper), rL14[i]? = some o → Owes Tryz.prog rL14 Q (TL14 x y) (fun _ w => AB A x y w0 w) a0 i o := by
  intro i o ho L a w P hsh hnl haf hF hS hT hK
  have hi : i < 6 := by
    have h1 := (Array.getElem?_eq_some_iff.1 ho).1
    rwa [show rL14.size = 6 from by kernel_rfl] at h1
  have plain : ∀ v, TL14 x y (fun k => L k ∨ k = i) i v w → P (a.put o.dst v) w := fun v hv => hK v w hv hS fun j u _ _ h => h
  obtain rfl | rfl | rfl | rfl | rfl | rfl : i = 0 ∨ i = 1 ∨ i = 2 ∨ i = 3 ∨ i = 4 ∨ i = 5 := by omega
  · exact wp_load_row 96 (.tmp 2) (op_is ho (by kernel_rfl)) A (slot hF (by kernel_rfl) e2) _ emptyCells _ _ hS.st Tryz.underlying96 rfl sizeE' (plain _ rfl)
  · exact wp_load_row 58 (.tmp 3) (op_is ho (by kernel_rfl)) (A + 1) (slot hF (by kernel_rfl) e3) _ _ _ _ hS.pl Tryz.underlying58 rfl (by kernel_rfl) (plain _ rfl)
  · obtain ⟨v, q1, p1⟩ := has (a := a) hT (haf 0 (on_is ho (by kernel_rfl))) (d := 52) (by kernel_rfl)
    obtain rfl : v = .agg emptyCells := p1
    exact wp_store_mid 96 (.tmp 2) (.tmp 52) (op_is ho (by kernel_rfl)) A 0 emptyCells (slot hF (by kernel_rfl) e2) q1 (thereE' hS.st) sizeE' (by kernel_rfl) (hK _ _ trivial (hS.setSt hA) fun j u _ _ h => h)
  · obtain ⟨v, q1, p1⟩ := has (a := a) hT (haf 1 (on_is ho (by kernel_rfl))) (d := 53) (by kernel_rfl)
    obtain rfl : v = .agg #[x, y] := p1
    exact wp_store_mid 58 (.tmp 3) (.tmp 53) (op_is ho (by kernel_rfl)) (A + 1) 0 #[x, y] (slot hF (by kernel_rfl) e3) q1 (put_plat hS.pl x y).2 (by kernel_rfl) (by simp [hx1, hy1]) (hK _ _ trivial (hS.setPl hA x y) fun j u _ _ h => h)
  · exact wp_assign (x := .const (.int .i64 0)) (op_is ho (by kernel_rfl)) (plain _ rfl)
  · exact wp_assign (x := .const (.int .i64 11)) (op_is ho (by kernel_rfl)) (plain _ rfl)

/-- A device that is all zeros where it is read. -/
structure Blank (d : Dev) : Prop where
  off : d.off = false
  big : 12 < d.n
  z0 : secL d.now 0 = List.replicate 64 0
  z12 : secL d.now 12 = List.replicate 64 0

set_option maxHeartbeats 4000000 in
theorem load_blank {B : Nat} {w : World} {D S N : Nat} {lv : Value} {d : Dev} (h : DevAt B w D S N lv d) (hf : Blank d) :
    Calls Tryz.prog 58 #[.pointer (some ⟨D, 0, none⟩)] w fun e w' => e = .returned (.tuple #[.agg emptyCells, .agg #[.int .i64 0, .int .i64 0], .int .i64 0, .int .i64 11]) ∧ Below w.heap.size w w' := by
  have H0 := Lib.hid (AB.start w)
  have KP0 := Lib.hid (fun (W : World) (hb : Below w.heap.size w W) => pages_bad (h.later hb) hf.off hf.z0)
  have KP1 := Lib.hid (fun (W : World) (hb : Below w.heap.size w W) => pages_bad2 (h.later hb) hf.off hf.big hf.z12)
  have KD0 := Lib.hid (fun (W : World) => decode_nil W)
  clear h hf
  go_enter Tryz.func58, Tryz.ntmps58
  go_upto_region 1 with fail
  rw [show ((w.alloc (.cells #[.int .i64 0, .int .i64 0, .int .i64 0, .int .i64 0, .int .i64 0, .int .i64 0, .int .i64 0, .int .i64 0, .int .i64 0, .int .i64 0, .int .i64 0, .int .i64 0, .int .i64 0, .int .i64 0, .int .i64 0, .int .i64 0, .slice none 0 0, .slice none 0 0, .slice none 0 0, .slice none 0 0, .slice none 0 0, .slice none 0 0, .slice none 0 0, .slice none 0 0] 96)).alloc (.cells #[.int .i64 0, .int .i64 0] 58)) = ((w.alloc (.cells emptyCells 96)).alloc (.cells #[.int .i64 0, .int .i64 0] 58)) from rfl]
  generalize ((w.alloc (.cells emptyCells 96)).alloc (.cells #[.int .i64 0, .int .i64 0] 58)) = w0 at *
  go_wp2_with (fail)
  go_loopg [4, 17] (3) (fun gg s4 s17 wr => ∃ j : Nat, j ≤ 2 ∧ gg = 3 - j ∧ s17 = .int .i64 (j : Int) ∧ s4 = .int .i64 0 ∧ Hid (AB w.heap.size (.int .i64 0) (.int .i64 0) w wr))
  case atStart => exact ⟨0, by omega, by omega, rfl, rfl, H0⟩
  case round =>
    have hst := store_new2
    obtain ⟨j, hj, rfl, rfl, rfl, HR⟩ := hrel
    rcases (by omega : j = 0 ∨ j = 1 ∨ j = 2) with rfl | rfl | rfl
    · go_wp2_with (first
        | (go_at_call 103; (with_reducible refine (area_0 _).mono ?_); rintro e w3 ⟨rfl, rfl⟩)
        | (go_at_call 104; (with_reducible refine (KP0.out _ HR.out.below).mono ?_); rintro e w4 ⟨rfl, hb4⟩; have HR4 := Lib.hid (HR.out.later hb4); clear hb4)
        | (go_at_call 105; (with_reducible refine (KD0.out _).mono ?_); rintro e w5 ⟨rfl, hb5⟩; have HR5 := Lib.hid (HR4.out.later hb5); clear hb5))
      have HR6 : Hid (AB w.heap.size (.int .i64 0) (.int .i64 0) w ((w5.alloc (.cells emptyCells 96)).alloc (.cells #[.int .i64 0, .int .i64 0] 58))) := Lib.hid (HR5.out.later (((Below.refl _ _).alloc (Nat.le_refl _) _).alloc (by rw [sz_alloc]; omega) _))
      go_roundg (2)
      case measure => omega
      case rel => exact ⟨1, by omega, by omega, by go_num, rfl, HR6⟩
    · go_wp2_with (first
        | (go_at_call 103; (with_reducible refine (area_1 _).mono ?_); rintro e w3 ⟨rfl, rfl⟩)
        | (go_at_call 104; (with_reducible refine (KP1.out _ HR.out.below).mono ?_); rintro e w4 ⟨rfl, hb4⟩; have HR4 := Lib.hid (HR.out.later hb4); clear hb4)
        | (go_at_call 105; (with_reducible refine (KD0.out _).mono ?_); rintro e w5 ⟨rfl, hb5⟩; have HR5 := Lib.hid (HR4.out.later hb5); clear hb5))
      have HR6 : Hid (AB w.heap.size (.int .i64 0) (.int .i64 0) w ((w5.alloc (.cells emptyCells 96)).alloc (.cells #[.int .i64 0, .int .i64 0] 58))) := Lib.hid (HR5.out.later (((Below.refl _ _).alloc (Nat.le_refl _) _).alloc (by rw [sz_alloc]; omega) _))
      go_roundg (1)
      case measure => omega
      case rel => exact ⟨2, by omega, by omega, by go_num, rfl, HR6⟩
    · go_wp2_with (fail)
      refine Sh.region_eq' (ops := rL14) (by kernel_rfl) ?_
      refine wp_region_each (TL14 (.int .i64 0) (.int .i64 0)) (fun _ W => AB w.heap.size (.int .i64 0) (.int .i64 0) w W) (by kernel_rfl) (by kernel_rfl) (HR.out.later (Below.refl _ _).drew)
        (owesL14 w.heap.size (.int .i64 0) (.int .i64 0) rfl rfl w (Nat.le_refl _) _ rfl rfl) ?_
      intro P a1 w1 hall hF hS hT
      obtain ⟨v4, q4, t4⟩ := hT 4 _ (Array.getElem?_eq_getElem (by rw [show rL14.size = 6 from by kernel_rfl]; decide))
      obtain ⟨v5, q5, t5⟩ := hT 5 _ (Array.getElem?_eq_getElem (by rw [show rL14.size = 6 from by kernel_rfl]; decide))
      have t4' : v4 = .int .i64 0 := t4
      have t5' : v5 = .int .i64 11 := t5
      subst t4' t5'
      have q4' : a1.tmps.getD 4 undef = .int .i64 0 := eval_at q4
      have q5' : a1.tmps.getD 5 undef = .int .i64 11 := eval_at q5
      have s2 := slot (k := 2) hF (by kernel_rfl) rfl
      have s3 := slot (k := 3) hF (by kernel_rfl) rfl
      have hd := hF.defers
      go_wp2_with (fail)
      refine bodyPost_ret (results_cells_four rfl _ w1 w.heap.size (w.heap.size + 1) _ _ _ _ _ _ _ _ s2 s3 hS.st hS.pl Tryz.underlying96 rfl sizeE' Tryz.underlying58 rfl (by kernel_rfl)) hd ?_
      rw [q4', q5']
      exact ⟨rfl, hS.below⟩

set_option maxHeartbeats 4000000 in
theorem open_blank {B : Nat} {w : World} {D S N : Nat} {lv : Value} {d : Dev} (h : DevAt B w D S N lv d) (hf : Blank d) :
    Calls Tryz.prog 34 #[.pointer (some ⟨D, 0, none⟩)] w fun e w' => e = .returned (.tuple #[.agg emptyCells, .agg #[.int .i64 0, .int .i64 0], .int .i64 0, .int .i64 0, .int .i64 11]) ∧ Below w.heap.size w w' := by
  have H0 := Lib.hid (AB.start w)
  have KL := Lib.hid (fun (W : World) (hb : Below w.heap.size w W) => load_blank (h.later hb) hf)
  clear h hf
  go_enter Tryz.func34, Tryz.ntmps34
  go_upto_region 1 with fail
  rw [show ((w.alloc (.cells #[.int .i64 0, .int .i64 0, .int .i64 0, .int .i64 0, .int .i64 0, .int .i64 0, .int .i64 0, .int .i64 0, .int .i64 0, .int .i64 0, .int .i64 0, .int .i64 0, .int .i64 0, .int .i64 0, .int .i64 0, .int .i64 0, .slice none 0 0, .slice none 0 0, .slice none 0 0, .slice none 0 0, .slice none 0 0, .slice none 0 0, .slice none 0 0, .slice none 0 0] 96)).alloc (.cells #[.int .i64 0, .int .i64 0] 58)) = ((w.alloc (.cells emptyCells 96)).alloc (.cells #[.int .i64 0, .int .i64 0] 58)) from rfl]
  generalize ((w.alloc (.cells emptyCells 96)).alloc (.cells #[.int .i64 0, .int .i64 0] 58)) = w0 at *
  go_wp2_with (first
    | (go_at_call 58; (with_reducible refine (KL.out _ H0.out.below).mono ?_); rintro e w1 ⟨rfl, hb1⟩; have H1 := Lib.hid (H0.out.later hb1); clear hb1)
    | (refine wpList_store_named rfl 96 (.tmp 2) (.tmp 16) rfl w.heap.size 0 emptyCells.toList rfl rfl (thereE' H1.out.st) sizeEl oneE' ?_; intro w2 hw2; have H2 : Hid (AB w.heap.size (.int .i64 0) (.int .i64 0) w w2) := Lib.hid (by rw [hw2]; exact H1.out.setSt (Nat.le_refl _)); clear hw2)
    | (refine wpList_store_named rfl 58 (.tmp 3) (.tmp 17) rfl (w.heap.size + 1) 0 [.int .i64 0, .int .i64 0] rfl rfl (AB.there H2.out) (by kernel_rfl) (by intro y hy; simp at hy; subst hy; rfl) ?_; intro w3 hw3; have H3 : Hid (AB w.heap.size (.int .i64 0) (.int .i64 0) w w3) := Lib.hid (by rw [hw3]; exact H2.out.setPl (Nat.le_refl _) _ _); clear hw3)
    | (refine wpList_store_named rfl 96 (.tmp 2) (.tmp 22) rfl w.heap.size 0 emptyCells.toList rfl rfl (thereE' H3.out.st) sizeEl oneE' ?_; intro w4 hw4; have H4 : Hid (AB w.heap.size (.int .i64 0) (.int .i64 0) w w4) := Lib.hid (by rw [hw4]; exact H3.out.setSt (Nat.le_refl _)); clear hw4)
    | (refine wpList_store_named rfl 58 (.tmp 3) (.tmp 23) rfl (w.heap.size + 1) 0 [.int .i64 0, .int .i64 0] rfl rfl (AB.there H4.out) (by kernel_rfl) (by intro y hy; simp at hy; subst hy; rfl) ?_; intro w5 hw5; have H5 : Hid (AB w.heap.size (.int .i64 0) (.int .i64 0) w w5) := Lib.hid (by rw [hw5]; exact H4.out.setPl (Nat.le_refl _) _ _); clear hw5))
  exact bodyPost_ret (results_cells_five rfl _ w5 w.heap.size (w.heap.size + 1) _ _ _ _ _ _ _ _ rfl rfl H5.out.st H5.out.pl Tryz.underlying96 rfl sizeE' Tryz.underlying58 rfl (by kernel_rfl)) rfl ⟨rfl, H5.out.below⟩

set_option maxHeartbeats 4000000 in
theorem popen_blank {B : Nat} {w : World} {D S N : Nat} {lv : Value} {d : Dev} (h : DevAt B w D S N lv d) (hf : Blank d) :
    Calls Tryz.prog 20 #[.pointer (some ⟨D, 0, none⟩)] w fun e w' => e = .returned (.tuple #[.pointer none, .int .i64 11]) ∧ Below w.heap.size w w' := by
  have KO := Lib.hid (open_blank h hf)
  have hst := store_new2
  clear h hf
  go_enter Tryz.func20, Tryz.ntmps20
  go_upto_region 2 with (go_at_call 34; (with_reducible refine KO.out.mono ?_); rintro e w1 ⟨rfl, hb1⟩; have HL1 := Lib.hid hb1; clear hb1)
  have HL2 : Hid (Below w.heap.size w ((w1.alloc (.cells emptyCells 96)).alloc (.cells #[.int .i64 0, .int .i64 0] 58))) := Lib.hid ((HL1.out.alloc HL1.out.size _).alloc (by rw [sz_alloc]; exact Nat.le_succ_of_le HL1.out.size) _)
  generalize ((w1.alloc (.cells emptyCells 96)).alloc (.cells #[.int .i64 0, .int .i64 0] 58)) = w2 at *
  go_wp2
  go_ret2
  exact ⟨rfl, HL2.out⟩

/-- A new device is blank. -/
theorem zero_sec (n j : Nat) (h : j < n) : secL (newDev n).now j = List.replicate 64 0 := by
  show ((zeroL (n * 64)).drop (j * 64)).take 64 = _
  unfold zeroL
  rw [List.drop_replicate, List.take_replicate]
  congr 1
  have : (j + 1) * 64 ≤ n * 64 := Nat.mul_le_mul_right _ h
  omega
theorem blank_new (n : Nat) (h : 12 < n) : Blank (newDev n) := ⟨rfl, h, zero_sec n 0 (by omega), zero_sec n 12 h⟩

set_option maxHeartbeats 4000000 in
/-- A crash where no write is loose. -/
theorem crash_keep {B : Nat} {w : World} {D S N : Nat} {lv : Value} {d : Dev} (h : DevAt B w D S N lv d) (hl : d.loose = []) (kv : Value) :
    Calls Tryz.prog 22 #[.pointer (some ⟨D, 0, none⟩), kv] w fun e w' => e = .returned (.tuple #[]) ∧ DevAt B w' D S N (.slice none 0 0) (crashed d) ∧ Step B w w' := by
  have hL := h.lt
  have hB := h.size
  have HD := Lib.hid h
  obtain ⟨c0, c1, c2, -, -⟩ := h.cells
  obtain ⟨pl, cl, hlv⟩ := h.lv
  subst hlv
  rw [hl, List.length_nil] at *
  clear c0 c1 h
  go_enter Tryz.func22, Tryz.ntmps22
  go_wp2
  go_loopg [4, 5, 13] (1) (fun gg _ _ s13 wr => gg = 1 ∧ s13 = .int .i64 0 ∧ Hid (Below w.heap.size w wr))
  case atStart => exact ⟨rfl, rfl, Lib.hid (Below.refl _ _)⟩
  case round =>
    obtain ⟨_, rfl, HR⟩ := hrel
    have HW : Hid (DevAt B wr D S N (.slice pl 0 cl) d ∧ Step B w wr) := Lib.hid ⟨HD.out.later HR.out, Step.of HR.out hB⟩
    go_wp2_with (fail)
    refine wp_region_still_tail 8 (by kernel_rfl) (by kernel_rfl) ?_
    rw [show ({ wr with drawn := wr.drawn + 1 } : World) = wr.drew from rfl]
    have HWd : Hid (DevAt B wr.drew D S N (.slice pl 0 cl) d ∧ Step B w wr.drew) := Lib.hid ⟨HW.out.1.later (Below.refl _ _).drew, HW.out.2.drewN 1⟩
    clear HW
    generalize wr.drew = wd at *
    have hLd : D < wd.heap.size := HWd.out.1.lt
    obtain ⟨c0, c1, -, -, -⟩ := HWd.out.1.cells
    have hS : Hid (∀ k v, (byteVals d.sure)[k]? = some v → wd.cell? ((⟨S, 0, none⟩ : Addr).add k) = some v) := Lib.hid (fun k v hv => by
      rw [add_plain, Nat.zero_add, blk_cell HWd.out.1.sure, ← Array.getElem?_toList, List.toList_toArray]
      exact hv)
    have hN := Lib.hid HWd.out.1.now
    have hcs : Hid ((byteVals d.sure).length = Nat.min d.n d.n * 64) := Lib.hid (by rw [byteVals_len, HD.out.lsure]; simp)
    have hft : Hid ((byteVals d.sure).length = (byteVals d.now).toArray.size) := Lib.hid (by rw [List.size_toArray, byteVals_len, byteVals_len, HD.out.lnow, HD.out.lsure])
    have hsz : Hid ((Tryz.prog.info? 113).map (·.size) = some 64) := Lib.hid (by kernel_rfl)
    clear c2
    generalize d.n = n at *
    simp only [List.take_succ_cons, List.take_zero, List.drop_succ_cons, List.drop_zero]
    repeat still_step
    try refine wpStill_nil ?_
    go_wp2_with (with_reducible refine wpList_copy_wide rfl _ _ 82 82 rfl 113 64 Tryz.underlying82 hsz.out N n n ⟨S, 0, none⟩ n n rfl rfl _ _ hN.out (byteVals d.sure) hcs.out hS.out hft.out (byteVals_one _) ?_)
    intro w6 hs6 hg6 hz6
    have HC := Lib.hid (crash_at HWd.out hs6.out hg6)
    have hd6 := HC.out.1.trans HWd.out.1.dev
    have hL6 : D < w6.heap.size := lt_of_block hd6
    have k2 : w6.cell? ⟨D, 2, none⟩ = some (.slice pl 0 cl) := by have := blk_cell hd6 2; simpa [hl] using this
    have k3 : w6.cell? ⟨D, 3, none⟩ = some (.int .i64 d.after) := blk_cell hd6 3
    have k4 : w6.cell? ⟨D, 4, none⟩ = some (.bool d.off) := blk_cell hd6 4
    have f2 : w6.frozen? ⟨D, 2, none⟩ = false := blk_free hd6 2
    have f3 : w6.frozen? ⟨D, 3, none⟩ = false := blk_free hd6 3
    have f4 : w6.frozen? ⟨D, 4, none⟩ = false := blk_free hd6 4
    clear hs6 hg6 hz6 hd6 c0 c1
    go_wp2
    refine bodyPost_end (v := .tuple #[]) (by simp [results, Tryz.results22, go_sem]) rfl ?_
    exact ⟨rfl, HC.out.2.1, HC.out.2.2⟩
end Go.Proofs.YtjohhjdicbeojaaGreatDoor.Wb
