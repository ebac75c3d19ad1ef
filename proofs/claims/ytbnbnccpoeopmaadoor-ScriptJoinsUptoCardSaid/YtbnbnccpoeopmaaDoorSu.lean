/- The walk of the law's request. -/
import Derived.Test.YtbnbnccpoeopmaaDoorSp
import Derived.Test.YtbnbnccpoeopmaaDoorSr
import Derived.Test.YtbnbnccpoeopmaaDoorSq
import Derived.Test.YtbnbnccpoeopmaaDoorSl
import Derived.Deep.RegionHeld3
import Derived.Outline
namespace Go.Proofs.YtbnbnccpoeopmaaDoor.Su
open Go.RowKit Go.Proofs.YtbnbnccpoeopmaaDoor.Sa Go.Proofs.YtbnbnccpoeopmaaDoor.Sb Go.Proofs.YtbnbnccpoeopmaaDoor.Sc Go.Proofs.YtbnbnccpoeopmaaDoor.Sd Go.Proofs.YtbnbnccpoeopmaaDoor.Se Go.Proofs.YtbnbnccpoeopmaaDoor.Sf Go.Proofs.YtbnbnccpoeopmaaDoor.Sg Go.Proofs.YtbnbnccpoeopmaaDoor.Sh Go.Proofs.YtbnbnccpoeopmaaDoor.Sl Go.Proofs.YtbnbnccpoeopmaaDoor.Sp Go.Proofs.YtbnbnccpoeopmaaDoor.Sq Go.Proofs.YtbnbnccpoeopmaaDoor.Sr

def mkB (l : List UInt8) : ByteArray := ⟨l.toArray⟩
theorem mk_cat (a b : List UInt8) : mkB a ++ mkB b = mkB (a ++ b) := by
  apply ByteArray.ext
  rw [ByteArray.data_append]
  simp [mkB]
theorem mk_lit (l : List UInt8) : (⟨l.toArray⟩ : ByteArray) = mkB l := rfl

def I64 (n : Int) : Prop := -9223372036854775808 ≤ n ∧ n ≤ 9223372036854775807

set_option maxHeartbeats 4000000 in
set_option maxRecDepth 100000 in
theorem request_c (rk vol block size : Int) (dv : Value) (la : List UInt8) (w : World) (hv : I64 vol) (hb : I64 block) (hd : I64 size) (h1 : BytesIn w dv la) (hla : la.length ≤ 1099511627776) :
    Calls Tryd.prog 21 #[.agg #[.int .i64 rk, .int .i64 vol, .int .i64 block, .int .i64 size, dv]] w fun e w' => e = .returned (.tuple #[.string (mkB (reqL rk vol block size la).1), .bool (reqL rk vol block size la).2]) ∧ Below w.heap.size w w' := by
  have b1 := h1
  obtain ⟨p1, c1, rfl, -⟩ := h1
  have BI := Lib.hid b1
  clear b1
  obtain ⟨rs, hrs⟩ : ∃ rs, rs = mkB (reqL rk vol block size la).1 := ⟨_, rfl⟩
  obtain ⟨rb, hrb⟩ : ∃ rb, rb = (reqL rk vol block size la).2 := ⟨_, rfl⟩
  rw [← hrs, ← hrb]
  have zv := numS_size vol hv.1 hv.2
  have zb := numS_size block hb.1 hb.2
  have zd := numS_size size hd.1 hd.2
  have kv : ∀ W, Calls Tryd.prog 14 #[.int .i64 vol] W fun e w' => e = .returned (.string (numS vol)) ∧ Below W.heap.size W w' := fun W => lawNumber_c vol hv.1 hv.2 W
  have kb : ∀ W, Calls Tryd.prog 14 #[.int .i64 block] W fun e w' => e = .returned (.string (numS block)) ∧ Below W.heap.size W w' := fun W => lawNumber_c block hb.1 hb.2 W
  have kd : ∀ W, Calls Tryd.prog 14 #[.int .i64 size] W fun e w' => e = .returned (.string (numS size)) ∧ Below W.heap.size W w' := fun W => lawNumber_c size hd.1 hd.2 W
  have nv : numS vol = mkB (Lib.itoa vol) := rfl
  have nb : numS block = mkB (Lib.itoa block) := rfl
  have nd : numS size = mkB (Lib.itoa size) := rfl
  have KV := Lib.hid kv
  have KB := Lib.hid kb
  have KD := Lib.hid kd
  have NV := Lib.hid nv
  have NB := Lib.hid nb
  have ND := Lib.hid nd
  clear kv kb kd nv nb nd
  have HRS := Lib.hid hrs
  have HRB := Lib.hid hrb
  clear hrs hrb
  generalize numS vol = sv at *
  generalize numS block = sb at *
  generalize numS size = sd at *
  have gv : ¬ 9223372036854775807 < 1 + sv.size := by omega
  have gb : ¬ 9223372036854775807 < 1 + sb.size := by omega
  have gd : ¬ 9223372036854775807 < 1 + sd.size := by omega
  have hA := blk_new w #[.int .i64 rk, .int .i64 vol, .int .i64 block, .int .i64 size, .slice p1 la.length c1] 24
  obtain ⟨s0, s1, s2, s3, s4⟩ := cells5 hA
  have B0 : Hid (Below w.heap.size w (w.alloc (.cells #[.int .i64 rk, .int .i64 vol, .int .i64 block, .int .i64 size, .slice p1 la.length c1] 24))) := Lib.hid ((Below.refl _ _).alloc (Nat.le_refl _) _)
  have lB : w.heap.size < (w.alloc (.cells #[.int .i64 rk, .int .i64 vol, .int .i64 block, .int .i64 size, .slice p1 la.length c1] 24)).heap.size := by rw [sz_alloc]; omega
  have HA := Lib.hid hA
  clear hA
  go_enter Tryd.func21, Tryd.ntmps21
  go_upto_region 1 with fail
  generalize w.alloc (.cells #[.int .i64 rk, .int .i64 vol, .int .i64 block, .int .i64 size, .slice p1 la.length c1] 24) = wa at *
  go_cut [4, 5, 6] from 11 to 22 (fun q4 q5 q6 wx => q4 = .string (⟨#[32]⟩ ++ sv) ∧ q5 = .string (⟨#[32]⟩ ++ sb) ∧ q6 = .string (⟨#[32]⟩ ++ sd) ∧ Hid (Below wa.heap.size wa wx))
  case first =>
    have BB : Below wa.heap.size wa wa.drew := (Below.refl _ _).drew
    go_region_held3 (fun w' => w'.cell? ⟨w.heap.size, 1, none⟩ = some (.int .i64 vol) ∧ w'.cell? ⟨w.heap.size, 2, none⟩ = some (.int .i64 block) ∧ w'.cell? ⟨w.heap.size, 3, none⟩ = some (.int .i64 size)) (first | exact ⟨s1, s2, s3⟩)
      (first | (go_at_call 14; (first | (with_reducible refine (KV.out _).mono ?_) | (with_reducible refine (KB.out _).mono ?_) | (with_reducible refine (KD.out _).mono ?_)); rintro e w2 ⟨rfl, hb⟩; have BB := BB.trans (hb.mono BB.size); have s1 := (hb.cell (p := ⟨w.heap.size, 1, none⟩) lB).trans s1; have s2 := (hb.cell (p := ⟨w.heap.size, 2, none⟩) lB).trans s2; have s3 := (hb.cell (p := ⟨w.heap.size, 3, none⟩) lB).trans s3; have lB := Nat.lt_of_lt_of_le lB hb.size))
    all_goals (go_wp2_with fail)
    all_goals go_meet
    all_goals exact ⟨rfl, rfl, rfl, Lib.hid BB⟩
  case rest =>
    obtain ⟨rfl, rfl, rfl, BX⟩ := hcut
    clear s0 s1 s2 s3 s4
    obtain ⟨s0, s1, s2, s3, s4⟩ := cells5 (blk_below HA.out BX.out lB)
    have hbe : (((la.length : Nat) : Int) == 0) = la.isEmpty := by
      cases la with
      | nil => rfl
      | cons a r => exact beq_eq_false_iff_ne.2 (by rw [List.length_cons]; omega)
    have BW : Hid (Below w.heap.size w wc) := Lib.hid (B0.out.trans (BX.out.mono (Nat.le_of_lt lB)))
    clear B0 BX
    go_upto_region 2 with fail
    go_quiet (fail)
    by_cases hk1 : rk = 1
    · subst hk1
      have HS : Hid (((⟨#[99, 114, 101, 97, 116, 101]⟩ ++ (⟨#[32]⟩ ++ sd)) : ByteArray) = rs) := Lib.hid (by
        rw [HRS.out, ND.out]
        apply ByteArray.ext
        simp only [ByteArray.data_append]
        simp [mkB, reqL, sp])
      have HB : Hid (rb = (vol == 0 && block == 0 && la.isEmpty)) := Lib.hid HRB.out
      have yd : ¬ 9223372036854775807 < 6 + (1 + sd.size) := by omega
      go_wp2_with fail
      all_goals
        go_ret2
        refine ⟨?_, below_drewN BW.out _⟩
        rw [HS.out]
        clear HA HRS HRB KV KB KD NV NB ND BI BW s0 s1 s2 s3 s4
        go_light
        rw [HB.out]
        simp [*]
    by_cases hk2 : rk = 2
    · subst hk2
      have HS : Hid (((⟨#[100, 101, 108, 101, 116, 101]⟩ ++ (⟨#[32]⟩ ++ sv)) : ByteArray) = rs) := Lib.hid (by
        rw [HRS.out, NV.out]
        apply ByteArray.ext
        simp only [ByteArray.data_append]
        simp [mkB, reqL, sp])
      have HB : Hid (rb = (block == 0 && size == 0 && la.isEmpty)) := Lib.hid HRB.out
      have yv : ¬ 9223372036854775807 < 6 + (1 + sv.size) := by omega
      go_wp2_with fail
      all_goals
        go_ret2
        refine ⟨?_, below_drewN BW.out _⟩
        rw [HS.out]
        clear HA HRS HRB KV KB KD NV NB ND BI BW s0 s1 s2 s3 s4
        go_light
        rw [HB.out]
        simp [*]
    by_cases hk3 : rk = 3
    · subst hk3
      have HS : Hid (((⟨#[115, 110, 97, 112]⟩ ++ (⟨#[32]⟩ ++ sv)) : ByteArray) = rs) := Lib.hid (by
        rw [HRS.out, NV.out]
        apply ByteArray.ext
        simp only [ByteArray.data_append]
        simp [mkB, reqL, sp])
      have HB : Hid (rb = (block == 0 && size == 0 && la.isEmpty)) := Lib.hid HRB.out
      have yv : ¬ 9223372036854775807 < 4 + (1 + sv.size) := by omega
      go_wp2_with fail
      all_goals
        go_ret2
        refine ⟨?_, below_drewN BW.out _⟩
        rw [HS.out]
        clear HA HRS HRB KV KB KD NV NB ND BI BW s0 s1 s2 s3 s4
        go_light
        rw [HB.out]
        simp [*]
    by_cases hk4 : rk = 4
    · subst hk4
      have HS : Hid ((((⟨#[114, 101, 97, 100]⟩ ++ (⟨#[32]⟩ ++ sv)) ++ (⟨#[32]⟩ ++ sb)) : ByteArray) = rs) := Lib.hid (by
        rw [HRS.out, NV.out, NB.out]
        apply ByteArray.ext
        simp only [ByteArray.data_append]
        simp [mkB, reqL, sp])
      have HB : Hid (rb = (size == 0 && la.isEmpty)) := Lib.hid HRB.out
      have yv : ¬ 9223372036854775807 < 4 + (1 + sv.size) := by omega
      have yb : ¬ 9223372036854775807 < 4 + (1 + sv.size) + (1 + sb.size) := by omega
      go_wp2_with fail
      all_goals
        go_ret2
        refine ⟨?_, below_drewN BW.out _⟩
        rw [HS.out]
        clear HA HRS HRB KV KB KD NV NB ND BI BW s0 s1 s2 s3 s4
        go_light
        rw [HB.out]
        simp [*]
    by_cases hk5 : rk = 5
    · subst hk5
      obtain ⟨sx, hsx⟩ : ∃ sx, sx = mkB (120 :: hexOf la) := ⟨_, rfl⟩
      have hxs : sx.size = 1 + 2 * la.length := by
        rw [hsx]
        show (120 :: hexOf la).toArray.size = _
        simp [hexOf_length]
        omega
      have kx : ∀ n, Calls Tryd.prog 36 #[.slice p1 la.length c1] (wc.drewN n) fun e w' => e = .returned (.string sx) ∧ Below (wc.drewN n).heap.size (wc.drewN n) w' := fun n => by
        rw [hsx]
        exact hexlaw_c _ la _ (BI.out.below (below_drewN BW.out n)) hla
      have HSX := Lib.hid hsx
      clear hsx
      have HS : Hid (((((⟨#[119, 114, 105, 116, 101]⟩ ++ (⟨#[32]⟩ ++ sv)) ++ (⟨#[32]⟩ ++ sb)) ++ ⟨#[32]⟩ ++ sx) : ByteArray) = rs) := Lib.hid (by
        rw [HRS.out, NV.out, NB.out, HSX.out]
        apply ByteArray.ext
        simp only [ByteArray.data_append]
        simp [mkB, reqL, sp])
      have HB : Hid (rb = (size == 0)) := Lib.hid HRB.out
      have yv : ¬ 9223372036854775807 < 5 + (1 + sv.size) := by omega
      have yb : ¬ 9223372036854775807 < 5 + (1 + sv.size) + (1 + sb.size) := by omega
      have zX0 : ¬ 9223372036854775807 < 5 + (1 + sv.size) + (1 + sb.size) + 1 := by omega
      have zX1 : ¬ 9223372036854775807 < 5 + (1 + sv.size) + (1 + sb.size) + 1 + sx.size := by omega
      go_wp2_with (go_at_call 36; (with_reducible refine (kx _).mono ?_); rintro e w9 ⟨rfl, hb9⟩; have B9 := Lib.hid ((below_drewN BW.out _).trans (hb9.mono BW.out.size)); clear hb9)
      all_goals
        go_ret2
        refine ⟨?_, B9.out⟩
        rw [HS.out]
        clear HA HRS HRB KV KB KD NV NB ND BI BW s0 s1 s2 s3 s4 B9 kx HSX
        go_light
        rw [HB.out]
        simp [*]
    by_cases hk6 : rk = 6
    · subst hk6
      have HS : Hid ((((⟨#[100, 105, 115, 99, 97, 114, 100]⟩ ++ (⟨#[32]⟩ ++ sv)) ++ (⟨#[32]⟩ ++ sb)) : ByteArray) = rs) := Lib.hid (by
        rw [HRS.out, NV.out, NB.out]
        apply ByteArray.ext
        simp only [ByteArray.data_append]
        simp [mkB, reqL, sp])
      have HB : Hid (rb = (size == 0 && la.isEmpty)) := Lib.hid HRB.out
      have yv : ¬ 9223372036854775807 < 7 + (1 + sv.size) := by omega
      have yb : ¬ 9223372036854775807 < 7 + (1 + sv.size) + (1 + sb.size) := by omega
      go_wp2_with fail
      all_goals
        go_ret2
        refine ⟨?_, below_drewN BW.out _⟩
        rw [HS.out]
        clear HA HRS HRB KV KB KD NV NB ND BI BW s0 s1 s2 s3 s4
        go_light
        rw [HB.out]
        simp [*]
    by_cases hk7 : rk = 7
    · subst hk7
      have HS : Hid ((⟨#[115, 121, 110, 99]⟩ : ByteArray) = rs) := Lib.hid (by
        rw [HRS.out]
        apply ByteArray.ext
        simp [mkB, reqL])
      have HB : Hid (rb = (vol == 0 && block == 0 && size == 0 && la.isEmpty)) := Lib.hid HRB.out
      go_wp2_with fail
      all_goals
        go_ret2
        refine ⟨?_, below_drewN BW.out _⟩
        rw [← HS.out]
        clear HA HRS HRB KV KB KD NV NB ND BI BW s0 s1 s2 s3 s4
        go_light
        rw [HB.out]
        simp [*]
    by_cases hk8 : rk = 8
    · subst hk8
      have HS : Hid ((⟨#[115, 116, 97, 116]⟩ : ByteArray) = rs) := Lib.hid (by
        rw [HRS.out]
        apply ByteArray.ext
        simp [mkB, reqL])
      have HB : Hid (rb = (vol == 0 && block == 0 && size == 0 && la.isEmpty)) := Lib.hid HRB.out
      go_wp2_with fail
      all_goals
        go_ret2
        refine ⟨?_, below_drewN BW.out _⟩
        rw [← HS.out]
        clear HA HRS HRB KV KB KD NV NB ND BI BW s0 s1 s2 s3 s4
        go_light
        rw [HB.out]
        simp [*]
    by_cases hk9 : rk = 9
    · subst hk9
      have HS : Hid (((⟨#[101, 110, 116, 114, 121]⟩ ++ (⟨#[32]⟩ ++ sv)) : ByteArray) = rs) := Lib.hid (by
        rw [HRS.out, NV.out]
        apply ByteArray.ext
        simp only [ByteArray.data_append]
        simp [mkB, reqL, sp])
      have HB : Hid (rb = (block == 0 && size == 0 && la.isEmpty)) := Lib.hid HRB.out
      have yv : ¬ 9223372036854775807 < 5 + (1 + sv.size) := by omega
      go_wp2_with fail
      all_goals
        go_ret2
        refine ⟨?_, below_drewN BW.out _⟩
        rw [HS.out]
        clear HA HRS HRB KV KB KD NV NB ND BI BW s0 s1 s2 s3 s4
        go_light
        rw [HB.out]
        simp [*]
    have hre : reqL rk vol block size la = ([], false) := by simp [reqL, hk1, hk2, hk3, hk4, hk5, hk6, hk7, hk8, hk9]
    have hs0 : rs = ⟨#[]⟩ := by rw [HRS.out, hre]; rfl
    have hb0 : rb = false := by rw [HRB.out, hre]
    subst hs0
    subst hb0
    go_wp2_with fail
    go_ret2
    exact ⟨rfl, below_drewN BW.out _⟩

end Go.Proofs.YtbnbnccpoeopmaaDoor.Su
