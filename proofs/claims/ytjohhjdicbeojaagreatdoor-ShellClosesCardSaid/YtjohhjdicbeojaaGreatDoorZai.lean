/- Texts joined: KTd. -/
import Derived.Deep.AppendLies
import Derived.Deep.RegionLaw
import Derived.Outline
import Derived.Deep.Light
import Derived.Test.YtjohhjdicbeojaaGreatDoorZah
namespace Go.Proofs.YtjohhjdicbeojaaGreatDoor.KTd
open Go.RowKit Go.Proofs.YtjohhjdicbeojaaGreatDoor.KSa Go.Proofs.YtjohhjdicbeojaaGreatDoor.KSb Go.Proofs.YtjohhjdicbeojaaGreatDoor.KSd Go.Proofs.YtjohhjdicbeojaaGreatDoor.KSe Go.Proofs.YtjohhjdicbeojaaGreatDoor.KSf Go.Proofs.YtjohhjdicbeojaaGreatDoor.KSg Go.Proofs.YtjohhjdicbeojaaGreatDoor.KSh Go.Proofs.YtjohhjdicbeojaaGreatDoor.KSi Go.Proofs.YtjohhjdicbeojaaGreatDoor.KSp Go.Proofs.YtjohhjdicbeojaaGreatDoor.KSq Go.Proofs.YtjohhjdicbeojaaGreatDoor.KSr Go.Proofs.YtjohhjdicbeojaaGreatDoor.KSu Go.Proofs.YtjohhjdicbeojaaGreatDoor.KSv Go.Proofs.YtjohhjdicbeojaaGreatDoor.KTa Go.Proofs.YtjohhjdicbeojaaGreatDoor.KTc
theorem find_no (kind n rk vol block size : Int) (dv kv : Value) (w : World) (hf : findFrom kind rk 14 0 = none) :
    Calls Tryz.prog 14 #[.agg #[.int .i64 kind, .int .i64 n, .int .i64 rk, .int .i64 vol, .int .i64 block, .int .i64 size, dv, kv]] w fun e w' => e = .returned (.tuple #[.agg #[.string ⟨#[]⟩, .string ⟨#[]⟩, .int .i64 0, .int .i64 0], .bool false]) ∧ Below w.heap.size w w' := by
  have h := find_c kind n rk vol block size dv kv w
  rw [hf] at h
  exact h
theorem find_yes (kind n rk vol block size : Int) (dv kv : Value) (w : World) (f : FormD) (hf : findFrom kind rk 14 0 = some f) :
    Calls Tryz.prog 14 #[.agg #[.int .i64 kind, .int .i64 n, .int .i64 rk, .int .i64 vol, .int .i64 block, .int .i64 size, dv, kv]] w fun e w' => e = .returned (.tuple #[.agg #[.string f.word, .string f.parts, .int .i64 f.act, .int .i64 f.ask], .bool true]) ∧ Below w.heap.size w w' := by
  have h := find_c kind n rk vol block size dv kv w
  rw [hf] at h
  exact h
set_option maxHeartbeats 4000000 in
theorem line_no (kind n rk vol block size : Int) (dv kv : Value) (w : World) (hf : findFrom kind rk 14 0 = none) :
    Calls Tryz.prog 7 #[actVal kind n rk vol block size dv kv] w fun e w' => e = .returned (.tuple #[.string ⟨#[]⟩, .int .i64 1]) ∧ Below w.heap.size w w' := by
  have hfd := fun W => find_no kind n rk vol block size dv kv W hf
  clear hf
  have B0 : Hid (Below w.heap.size w (w.alloc (.cells #[.int .i64 kind, .int .i64 n, .int .i64 rk, .int .i64 vol, .int .i64 block, .int .i64 size, dv, kv] 34))) := Lib.hid ((Below.refl _ _).alloc (Nat.le_refl _) _)
  unfold actVal
  go_enter Tryz.func7, Tryz.ntmps7
  go_wp2_with fail
  refine (hfd _).mono ?_
  rintro e w1 ⟨rfl, hb1⟩
  have hb : Hid (Below w.heap.size w w1) := Lib.hid (B0.out.trans (hb1.mono B0.out.size))
  clear hb1 B0 hfd
  go_wp2_with fail
  go_ret2
  exact ⟨rfl, hb.out.alloc hb.out.size _⟩
/-- What is asked of an act's numbers. -/
structure NumsOk (m : ActM) : Prop where
  n : I64 m.n
  vol : I64 m.vol
  block : I64 m.block
  size : I64 m.size
  keep : ∀ x ∈ m.keep, I64 x
  data : m.data.length ≤ 1099511627776
  keeps : m.keep.length ≤ 1099511627776
def LineOk (m : ActM) (w : World) (e : Ending) (w' : World) : Prop := e = .returned (.tuple #[.string (lineOut m).1, .int .i64 (lineOut m).2]) ∧ Below w.heap.size w w'
-- GEN
structure LenOk (i n K : Nat) : Prop where
  le : n ≤ 2 + i * (1 + K)
  K : K ≤ 1099511627776
theorem LenOk.one {i n K : Nat} (h : LenOk i n K) : LenOk (i + 1) (n + 1) K := ⟨by have := h.le; rw [Nat.succ_mul]; omega, h.K⟩
theorem LenOk.many {i n K : Nat} (h : LenOk i n K) (k : Nat) (hk : k ≤ K) : LenOk (i + 1) (n + k) K := ⟨by have := h.le; rw [Nat.succ_mul]; omega, h.K⟩
theorem LenOk.fits {i n K : Nat} (h : LenOk i n K) (hi : i ≤ 3) : n + 1 ≤ maxLen ∧ (n + 1) * 16 ≤ 140737488355328 ∧ n ≤ 140737488355328 := by
  have h1 := h.le
  have h2 := h.K
  have h3 : i * (1 + K) ≤ 3 * (1 + K) := Nat.mul_le_mul_right _ hi
  unfold maxLen
  omega
theorem restV_slice {α : Type} (b : Bool) (p : Option Addr) (l : List α) (c : Nat) : ∃ p' n' c', restV b (.slice p l.length c) = .slice p' n' c' ∧ (((n' : Nat) : Int) = 0 ↔ (b || l.isEmpty) = true) := by
  cases b
  · refine ⟨p, l.length, c, rfl, ?_⟩
    cases l
    · simp
    · rw [List.length_cons]
      simp
      omega
  · exact ⟨none, 0, 0, rfl, by simp⟩
theorem test_eq (fw fp : ByteArray) (fa fk : Int) (m : ActM) (rn rv rb rs : Int) (dz kz : Bool) (nk nd : Nat) (hk : ((nk : Nat) : Int) = 0 ↔ (kz || m.keep.isEmpty) = true) (hd : ((nd : Nat) : Int) = 0 ↔ (dz || m.data.isEmpty) = true) :
    testB ⟨fw, fp, fa, fk⟩ m ⟨rn, rv, rb, rs, dz, kz⟩ = ((fa != 0 && m.rk != 0) || rn != 0 || ((nk : Nat) : Int) != 0 || rv != 0 || rb != 0 || rs != 0 || ((nd : Nat) : Int) != 0) := by
  have e1 : (((nk : Nat) : Int) != 0) = (!kz && !m.keep.isEmpty) := by
    rw [Bool.eq_iff_iff, bne_iff_ne, ne_eq, hk]
    cases kz <;> cases m.keep.isEmpty <;> simp
  have e2 : (((nd : Nat) : Int) != 0) = (!dz && !m.data.isEmpty) := by
    rw [Bool.eq_iff_iff, bne_iff_ne, ne_eq, hd]
    cases dz <;> cases m.data.isEmpty <;> simp
  rw [e1, e2]
  rfl
theorem next_at {fp : ByteArray} {i R : Nat} {wr : World} (hit : wr.heap[R + 1]? = some (.stringIter fp i)) (hi : i < fp.size) (c : UInt8) (hc : fp[i]'hi = c) (h128 : c.toNat < 128) (ty : TypeId) :
    (Instr.next (.pointer (some ⟨R + 1, 0, none⟩)) true ty).run Tryz.prog wr = .ok (.tuple #[.bool true, .int .i64 i, .int .i32 (c.toNat : Int)]) (wr.iterAt (R + 1) fp (i + 1)) := by
  subst hc
  exact Lib.run_next_ascii_at wr (R + 1) fp i ty hit hi h128
set_option maxHeartbeats 16000000 in
set_option maxRecDepth 100000 in
theorem line_yes (kind n rk vol block size : Int) (dv kv : Value) (la : List UInt8) (lk : List Int) (w : World) (hE : Env w) (hok : NumsOk ⟨kind, n, rk, vol, block, size, la, lk⟩) (h1 : BytesIn w dv la) (h3 : IntsIn w kv lk) (fw fp : ByteArray) (fa fk : Int) (hf : findFrom kind rk 14 0 = some ⟨fw, fp, fa, fk⟩)
    (hfp : ∀ c ∈ fp.data.toList, c = 98 ∨ c = 99 ∨ c = 100 ∨ c = 110 ∨ c = 120 ∨ c = 107) (hfs : fp.size ≤ 3) :
    Calls Tryz.prog 7 #[actVal kind n rk vol block size dv kv] w (LineOk ⟨kind, n, rk, vol, block, size, la, lk⟩ w) := by
  have b1 := h1
  have b3 := h3
  obtain ⟨p1, c1, rfl, -⟩ := h1
  obtain ⟨p3, c3, rfl, -⟩ := h3
  have BI := Lib.hid b1
  have II := Lib.hid b3
  have HE := Lib.hid hE
  have HOK := Lib.hid hok
  have HF := Lib.hid hf
  have HFP := Lib.hid hfp
  have hfd := fun W => find_yes kind n rk vol block size (.slice p1 la.length c1) (.slice p3 lk.length c3) W ⟨fw, fp, fa, fk⟩ hf
  simp only at hfd
  clear b1 b3 hE hok hf hfp
  have A0 : Hid ((w.alloc (.cells #[.int .i64 kind, .int .i64 n, .int .i64 rk, .int .i64 vol, .int .i64 block, .int .i64 size, .slice p1 la.length c1, .slice p3 lk.length c3] 34)).heap[w.heap.size]? = _) := Lib.hid (blk_new _ _ _)
  have B0 : Hid (Below w.heap.size w (w.alloc (.cells #[.int .i64 kind, .int .i64 n, .int .i64 rk, .int .i64 vol, .int .i64 block, .int .i64 size, .slice p1 la.length c1, .slice p3 lk.length c3] 34))) := Lib.hid ((Below.refl _ _).alloc (Nat.le_refl _) _)
  have Z0 : Hid ((w.alloc (.cells #[.int .i64 kind, .int .i64 n, .int .i64 rk, .int .i64 vol, .int .i64 block, .int .i64 size, .slice p1 la.length c1, .slice p3 lk.length c3] 34)).heap.size = w.heap.size + 1) := Lib.hid (sz_alloc _ _)
  obtain ⟨mm, hmm⟩ : ∃ mm : ActM, mm = ⟨kind, n, rk, vol, block, size, la, lk⟩ := ⟨_, rfl⟩
  rw [← hmm]
  rw [← hmm] at HOK
  have HMM := Lib.hid hmm
  clear hmm
  unfold actVal
  go_enter Tryz.func7, Tryz.ntmps7
  go_wp2_with fail
  refine (hfd _).mono ?_
  rintro e w1 ⟨rfl, hb1⟩
  rw [Z0.out] at hb1
  have hs1 := hb1.size
  rw [Z0.out] at hs1
  have a1 := blk_below A0.out hb1 (Nat.lt_succ_self _)
  obtain ⟨⟨c0, c1', c2, c3', c4, c5, c6, c7⟩, _, _, _, _, _, _, _, _⟩ := cells8 a1
  have A1 := Lib.hid a1
  have B1 := Lib.hid (B0.out.trans (hb1.mono (Nat.le_succ _)))
  clear a1 hb1 hfd
  have hl1 : w.heap.size < w1.heap.size := by omega
  have hl2 : w.heap.size < w1.heap.size + 1 := by omega
  have hl3 : w.heap.size < w1.heap.size + 1 + 1 := by omega
  go_upto_if 25 with fail
  go_cut [6] from 26 to 28 (fun s6 wx => ∃ G, Hid (Pre w wx w.heap.size w1.heap.size G #[.int .i64 kind, .int .i64 n, .int .i64 rk, .int .i64 vol, .int .i64 block, .int .i64 size, .slice p1 la.length c1, .slice p3 lk.length c3] fw fp fa fk (outs0 mm ⟨fw, fp, fa, fk⟩) s6))
  case first =>
    by_cases hk3 : kind = 3
    · subst hk3
      go_wp2_with fail
      all_goals go_meet
      all_goals refine ⟨w1.heap.size + 1 + 1, Lib.hid ?_⟩
      all_goals rw [HMM.out]
      all_goals exact pre_later B1.out hl1 A1.out
    · have hk4 : (kind == 3) = false := beq_eq_false_iff_ne.2 hk3
      have HO : Hid (outs0 mm ⟨fw, fp, fa, fk⟩ = [fw]) := Lib.hid (by rw [HMM.out]; exact if_neg hk3)
      clear hk3
      go_wp2_with fail
      all_goals go_meet
      all_goals refine ⟨w1.heap.size + 1, Lib.hid ?_⟩
      all_goals rw [HO.out]
      all_goals exact pre_now B1.out hl1 A1.out
  case rest =>
    obtain ⟨G, HP⟩ := hcut
    clear c0 c1' c2 c3' c4 c5 c6 c7 hl2 hl3 A0 B0 Z0
    have hx := HP.out.act
    obtain ⟨⟨c0, c1', c2, c3', c4, c5, c6, c7⟩, _, _, _, _, _, _, _, _⟩ := cells8 hx
    have fpc : wc.cell? ⟨w1.heap.size, 1, none⟩ = some (.string fp) := blk_cell HP.out.form 1
    have hH : w1.heap.size < wc.heap.size := Nat.lt_trans HP.out.ltG HP.out.size
    have hB : w.heap.size < wc.heap.size := Nat.lt_trans HP.out.lt hH
    go_wp2_with fail
    have S0 := Lib.hid (HP.out.start (dv := .slice p1 la.length c1) (kv := .slice p3 lk.length c3) #[.int .i64 0, .int .i64 n, .int .i64 0, .int .i64 vol, .int .i64 block, .int .i64 size, .slice p1 la.length c1, .slice p3 lk.length c3] (rest0 mm) (by rw [HMM.out]; rfl))
    have HOUT : Hid (0 < (outs0 mm ⟨fw, fp, fa, fk⟩).length ∧ LenOk 0 (outs0 mm ⟨fw, fp, fa, fk⟩).length lk.length) := Lib.hid (by
      have hK : lk.length ≤ 1099511627776 := by
        have := HOK.out.keeps
        rw [HMM.out] at this
        exact this
      unfold outs0
      split
      · exact ⟨Nat.zero_lt_succ _, ⟨by simp, hK⟩⟩
      · exact ⟨Nat.zero_lt_succ _, ⟨by simp, hK⟩⟩)
    obtain ⟨⟨fo, fr⟩, hfin⟩ : ∃ x, runParts mm fp.data.toList (outs0 mm ⟨fw, fp, fa, fk⟩, rest0 mm) = x := ⟨_, rfl⟩
    have hfin2 : runParts mm (fp.data.toList.drop 0) (outs0 mm ⟨fw, fp, fa, fk⟩, rest0 mm) = (fo, fr) := hfin
    have HFIN := Lib.hid hfin
    have HFIN2 := Lib.hid hfin2
    clear hfin hfin2 hx c0 c1' c2 c3' c4 c5 c6 c7 fpc hH hB HP
    generalize World.iter (World.alloc wc (.cells #[.int .i64 0, .int .i64 n, .int .i64 0, .int .i64 vol, .int .i64 block, .int .i64 size, .slice p1 la.length c1, .slice p3 lk.length c3] 34)) fp 0 = wL at S0 ⊢
    generalize w1.heap.size = H at S0 hl1 hs1 ⊢
    generalize wc.heap.size = R at S0 ⊢
    go_loopg [6, 9] (fp.size + 1) (fun gg s6 _ wr => ∃ (i : Nat) (o : List ByteArray) (r : RestD), i ≤ fp.size ∧ fp.size - i < gg ∧ 0 < o.length ∧ Hid (LSt w wr w.heap.size H G R i #[.int .i64 kind, .int .i64 n, .int .i64 rk, .int .i64 vol, .int .i64 block, .int .i64 size, .slice p1 la.length c1, .slice p3 lk.length c3] fw fp fa fk (.slice p1 la.length c1) (.slice p3 lk.length c3) o r s6) ∧ Hid (runParts mm (fp.data.toList.drop i) (o, r) = (fo, fr)) ∧ Hid (LenOk i o.length lk.length))
    case atStart => exact ⟨0, _, _, by omega, by omega, HOUT.out.1, S0, HFIN2, Lib.hid HOUT.out.2⟩
    case round =>
      obtain ⟨i, o, r, hi, hgg, ho, SR, HRUN, HLEN⟩ := hrel
      clear S0 HFIN2 HOUT
      obtain ⟨i9, hi9, hz0, hz1, hz2⟩ := info_parts info9
      have HZ0 := Lib.hid hz0
      have HZ1 := Lib.hid hz1
      have HZ2 := Lib.hid hz2
      have HI9 := Lib.hid hi9
      clear hz0 hz1 hz2 hi9
      have HBH : w.heap.size < H := SR.out.lt
      have HHR : H < R := Nat.lt_trans SR.out.ltG SR.out.ltR
      have hsz := SR.out.size
      by_cases hik : i < fp.size
      · have HST := Lib.hid ((run_step mm fp i hik (o, r)).symm.trans HRUN.out)
        have hi3 : i ≤ 3 := by omega
        have hcs := HFP.out _ (part_at fp i hik)
        obtain ⟨f1, f2, -⟩ := HLEN.out.fits hi3
        obtain ⟨g0, cap0, rfl, hg0, hg1⟩ := SR.out.row.form ho
        obtain ⟨wn, hwn⟩ : ∃ wn, wn = wr.iterAt (R + 1) fp (i + 1) := ⟨_, rfl⟩
        have SN := Lib.hid (SR.out.next hwn)
        rcases hcs with hc | hc | hc | hc | hc | hc
        · have hnx : ∀ ty, (Instr.next (.pointer (some ⟨R + 1, 0, none⟩)) true ty).run Tryz.prog wr = .ok (.tuple #[.bool true, .int .i64 i, .int .i32 98]) wn := fun ty => by
            rw [hwn]
            exact next_at SR.out.iter hik 98 hc (by decide) ty
          have HST2 : Hid (runParts mm (fp.data.toList.drop (i + 1)) (o ++ [strN mm.vol], { r with vol := 0 }) = (fo, fr)) := Lib.hid (by
            have h := HST.out
            rw [hc] at h
            exact h)
          have HMV : Hid (strN mm.vol = strN vol) := Lib.hid (by rw [HMM.out])
          clear hwn hc HST HRUN
          have ca : wn.cell? ⟨w.heap.size, 3, none⟩ = some (.int .i64 vol) := blk_cell SN.out.act 3
          have hnb : I64 vol := by
            have := HOK.out.vol
            rw [HMM.out] at this
            exact this
          have hcall := itoa_c vol hnb.1 hnb.2 wn (HE.out.below SN.out.below)
          go_wp2_with (first | (go_at_call 15; (with_reducible refine hcall.mono ?_); rintro e w5 ⟨rfl, hb5⟩; have S5 := Lib.hid (SN.out.later hb5); clear hb5 ca hnx; have HRE := Lib.hid S5.out.rest; unfold restC at HRE; obtain ⟨⟨e0, e1, e2, e3, e4, e5, e6, e7⟩, g0', g1', g2', g3', g4', g5', g6', g7'⟩ := cells8 HRE.out; have h5sz := S5.out.size; have hgt := Nat.lt_trans S5.out.ltR (Nat.lt_of_succ_lt h5sz); have hs5 : G ≤ w5.heap.size + 1 := (by omega)) | (at_builtin; go_loud (refine wpList_append_lies _ rfl _ _ 52 rfl G 9 i9 (.string ⟨#[]⟩) 1 16 Tryz.underlying52 HI9.out HZ0.out HZ1.out HZ2.out rfl (by decide) _ o.length (strVals o) rfl (S5.out.row.alloc _) ⟨w5.heap.size, 0, none⟩ 1 1 [.string (strN vol)] rfl rfl (cell_one_new _ _ _) (by simp [Value.oneCell']) (by decide) f1 f2 (by rw [sz_alloc]; exact hs5) _ rfl ?_)))
          intro g cap w6 hown hgrow hat _
          have HP := Lib.hid ((S5.out.grow (x := strN vol) hgrow rfl hown hat).set 3 (.int .i64 0) { r with vol := 0 } rfl)
          have HR6 := (hgrow.block R (by rw [sz_alloc]; omega) (fun e => by have := S5.out.off _ (by first | exact e | exact e.symm); have := S5.out.ltR; omega)).trans ((Below.heap_alloc w5 _ _ (by omega)).trans HRE.out)
          obtain ⟨⟨m0, m1, m2, m3, m4, m5, m6, m7⟩, n0, n1, n2, n3, n4, n5, n6, n7⟩ := cells8 HR6
          clear hown hgrow hat HR6
          go_wp2
          go_roundg (fp.size - (i + 1) + 1)
          case measure => omega
          case rel => exact ⟨i + 1, _, _, by omega, by omega, by rw [List.length_append]; exact Nat.lt_add_left _ (Nat.zero_lt_succ _), HP, (by rw [HMV.out] at HST2; exact HST2), Lib.hid (by rw [List.length_append]; exact HLEN.out.one)⟩
        · have hnx : ∀ ty, (Instr.next (.pointer (some ⟨R + 1, 0, none⟩)) true ty).run Tryz.prog wr = .ok (.tuple #[.bool true, .int .i64 i, .int .i32 99]) wn := fun ty => by
            rw [hwn]
            exact next_at SR.out.iter hik 99 hc (by decide) ty
          have HST2 : Hid (runParts mm (fp.data.toList.drop (i + 1)) (o ++ [strN mm.block], { r with block := 0 }) = (fo, fr)) := Lib.hid (by
            have h := HST.out
            rw [hc] at h
            exact h)
          have HMV : Hid (strN mm.block = strN block) := Lib.hid (by rw [HMM.out])
          clear hwn hc HST HRUN
          have ca : wn.cell? ⟨w.heap.size, 4, none⟩ = some (.int .i64 block) := blk_cell SN.out.act 4
          have hnb : I64 block := by
            have := HOK.out.block
            rw [HMM.out] at this
            exact this
          have hcall := itoa_c block hnb.1 hnb.2 wn (HE.out.below SN.out.below)
          go_wp2_with (first | (go_at_call 15; (with_reducible refine hcall.mono ?_); rintro e w5 ⟨rfl, hb5⟩; have S5 := Lib.hid (SN.out.later hb5); clear hb5 ca hnx; have HRE := Lib.hid S5.out.rest; unfold restC at HRE; obtain ⟨⟨e0, e1, e2, e3, e4, e5, e6, e7⟩, g0', g1', g2', g3', g4', g5', g6', g7'⟩ := cells8 HRE.out; have h5sz := S5.out.size; have hgt := Nat.lt_trans S5.out.ltR (Nat.lt_of_succ_lt h5sz); have hs5 : G ≤ w5.heap.size + 1 := (by omega)) | (at_builtin; go_loud (refine wpList_append_lies _ rfl _ _ 52 rfl G 9 i9 (.string ⟨#[]⟩) 1 16 Tryz.underlying52 HI9.out HZ0.out HZ1.out HZ2.out rfl (by decide) _ o.length (strVals o) rfl (S5.out.row.alloc _) ⟨w5.heap.size, 0, none⟩ 1 1 [.string (strN block)] rfl rfl (cell_one_new _ _ _) (by simp [Value.oneCell']) (by decide) f1 f2 (by rw [sz_alloc]; exact hs5) _ rfl ?_)))
          intro g cap w6 hown hgrow hat _
          have HP := Lib.hid ((S5.out.grow (x := strN block) hgrow rfl hown hat).set 4 (.int .i64 0) { r with block := 0 } rfl)
          have HR6 := (hgrow.block R (by rw [sz_alloc]; omega) (fun e => by have := S5.out.off _ (by first | exact e | exact e.symm); have := S5.out.ltR; omega)).trans ((Below.heap_alloc w5 _ _ (by omega)).trans HRE.out)
          obtain ⟨⟨m0, m1, m2, m3, m4, m5, m6, m7⟩, n0, n1, n2, n3, n4, n5, n6, n7⟩ := cells8 HR6
          clear hown hgrow hat HR6
          go_wp2
          go_roundg (fp.size - (i + 1) + 1)
          case measure => omega
          case rel => exact ⟨i + 1, _, _, by omega, by omega, by rw [List.length_append]; exact Nat.lt_add_left _ (Nat.zero_lt_succ _), HP, (by rw [HMV.out] at HST2; exact HST2), Lib.hid (by rw [List.length_append]; exact HLEN.out.one)⟩
        · have hnx : ∀ ty, (Instr.next (.pointer (some ⟨R + 1, 0, none⟩)) true ty).run Tryz.prog wr = .ok (.tuple #[.bool true, .int .i64 i, .int .i32 100]) wn := fun ty => by
            rw [hwn]
            exact next_at SR.out.iter hik 100 hc (by decide) ty
          have HST2 : Hid (runParts mm (fp.data.toList.drop (i + 1)) (o ++ [strN mm.size], { r with size := 0 }) = (fo, fr)) := Lib.hid (by
            have h := HST.out
            rw [hc] at h
            exact h)
          have HMV : Hid (strN mm.size = strN size) := Lib.hid (by rw [HMM.out])
          clear hwn hc HST HRUN
          have ca : wn.cell? ⟨w.heap.size, 5, none⟩ = some (.int .i64 size) := blk_cell SN.out.act 5
          have hnb : I64 size := by
            have := HOK.out.size
            rw [HMM.out] at this
            exact this
          have hcall := itoa_c size hnb.1 hnb.2 wn (HE.out.below SN.out.below)
          go_wp2_with (first | (go_at_call 15; (with_reducible refine hcall.mono ?_); rintro e w5 ⟨rfl, hb5⟩; have S5 := Lib.hid (SN.out.later hb5); clear hb5 ca hnx; have HRE := Lib.hid S5.out.rest; unfold restC at HRE; obtain ⟨⟨e0, e1, e2, e3, e4, e5, e6, e7⟩, g0', g1', g2', g3', g4', g5', g6', g7'⟩ := cells8 HRE.out; have h5sz := S5.out.size; have hgt := Nat.lt_trans S5.out.ltR (Nat.lt_of_succ_lt h5sz); have hs5 : G ≤ w5.heap.size + 1 := (by omega)) | (at_builtin; go_loud (refine wpList_append_lies _ rfl _ _ 52 rfl G 9 i9 (.string ⟨#[]⟩) 1 16 Tryz.underlying52 HI9.out HZ0.out HZ1.out HZ2.out rfl (by decide) _ o.length (strVals o) rfl (S5.out.row.alloc _) ⟨w5.heap.size, 0, none⟩ 1 1 [.string (strN size)] rfl rfl (cell_one_new _ _ _) (by simp [Value.oneCell']) (by decide) f1 f2 (by rw [sz_alloc]; exact hs5) _ rfl ?_)))
          intro g cap w6 hown hgrow hat _
          have HP := Lib.hid ((S5.out.grow (x := strN size) hgrow rfl hown hat).set 5 (.int .i64 0) { r with size := 0 } rfl)
          have HR6 := (hgrow.block R (by rw [sz_alloc]; omega) (fun e => by have := S5.out.off _ (by first | exact e | exact e.symm); have := S5.out.ltR; omega)).trans ((Below.heap_alloc w5 _ _ (by omega)).trans HRE.out)
          obtain ⟨⟨m0, m1, m2, m3, m4, m5, m6, m7⟩, n0, n1, n2, n3, n4, n5, n6, n7⟩ := cells8 HR6
          clear hown hgrow hat HR6
          go_wp2
          go_roundg (fp.size - (i + 1) + 1)
          case measure => omega
          case rel => exact ⟨i + 1, _, _, by omega, by omega, by rw [List.length_append]; exact Nat.lt_add_left _ (Nat.zero_lt_succ _), HP, (by rw [HMV.out] at HST2; exact HST2), Lib.hid (by rw [List.length_append]; exact HLEN.out.one)⟩
        · have hnx : ∀ ty, (Instr.next (.pointer (some ⟨R + 1, 0, none⟩)) true ty).run Tryz.prog wr = .ok (.tuple #[.bool true, .int .i64 i, .int .i32 110]) wn := fun ty => by
            rw [hwn]
            exact next_at SR.out.iter hik 110 hc (by decide) ty
          have HST2 : Hid (runParts mm (fp.data.toList.drop (i + 1)) (o ++ [strN mm.n], { r with n := 0 }) = (fo, fr)) := Lib.hid (by
            have h := HST.out
            rw [hc] at h
            exact h)
          have HMV : Hid (strN mm.n = strN n) := Lib.hid (by rw [HMM.out])
          clear hwn hc HST HRUN
          have ca : wn.cell? ⟨w.heap.size, 1, none⟩ = some (.int .i64 n) := blk_cell SN.out.act 1
          have hnb : I64 n := by
            have := HOK.out.n
            rw [HMM.out] at this
            exact this
          have hcall := itoa_c n hnb.1 hnb.2 wn (HE.out.below SN.out.below)
          go_wp2_with (first | (go_at_call 15; (with_reducible refine hcall.mono ?_); rintro e w5 ⟨rfl, hb5⟩; have S5 := Lib.hid (SN.out.later hb5); clear hb5 ca hnx; have HRE := Lib.hid S5.out.rest; unfold restC at HRE; obtain ⟨⟨e0, e1, e2, e3, e4, e5, e6, e7⟩, g0', g1', g2', g3', g4', g5', g6', g7'⟩ := cells8 HRE.out; have h5sz := S5.out.size; have hgt := Nat.lt_trans S5.out.ltR (Nat.lt_of_succ_lt h5sz); have hs5 : G ≤ w5.heap.size + 1 := (by omega)) | (at_builtin; go_loud (refine wpList_append_lies _ rfl _ _ 52 rfl G 9 i9 (.string ⟨#[]⟩) 1 16 Tryz.underlying52 HI9.out HZ0.out HZ1.out HZ2.out rfl (by decide) _ o.length (strVals o) rfl (S5.out.row.alloc _) ⟨w5.heap.size, 0, none⟩ 1 1 [.string (strN n)] rfl rfl (cell_one_new _ _ _) (by simp [Value.oneCell']) (by decide) f1 f2 (by rw [sz_alloc]; exact hs5) _ rfl ?_)))
          intro g cap w6 hown hgrow hat _
          have HP := Lib.hid ((S5.out.grow (x := strN n) hgrow rfl hown hat).set 1 (.int .i64 0) { r with n := 0 } rfl)
          have HR6 := (hgrow.block R (by rw [sz_alloc]; omega) (fun e => by have := S5.out.off _ (by first | exact e | exact e.symm); have := S5.out.ltR; omega)).trans ((Below.heap_alloc w5 _ _ (by omega)).trans HRE.out)
          obtain ⟨⟨m0, m1, m2, m3, m4, m5, m6, m7⟩, n0, n1, n2, n3, n4, n5, n6, n7⟩ := cells8 HR6
          clear hown hgrow hat HR6
          go_wp2
          go_roundg (fp.size - (i + 1) + 1)
          case measure => omega
          case rel => exact ⟨i + 1, _, _, by omega, by omega, by rw [List.length_append]; exact Nat.lt_add_left _ (Nat.zero_lt_succ _), HP, (by rw [HMV.out] at HST2; exact HST2), Lib.hid (by rw [List.length_append]; exact HLEN.out.one)⟩
        · have hnx : ∀ ty, (Instr.next (.pointer (some ⟨R + 1, 0, none⟩)) true ty).run Tryz.prog wr = .ok (.tuple #[.bool true, .int .i64 i, .int .i32 120]) wn := fun ty => by
            rw [hwn]
            exact next_at SR.out.iter hik 120 hc (by decide) ty
          have HST2 : Hid (runParts mm (fp.data.toList.drop (i + 1)) (o ++ [mkB (120 :: hexOf mm.data)], { r with dz := true }) = (fo, fr)) := Lib.hid (by
            have h := HST.out
            rw [hc] at h
            exact h)
          have HMV : Hid (mkB (120 :: hexOf mm.data) = mkB (120 :: hexOf la)) := Lib.hid (by rw [HMM.out])
          clear hwn hc HST HRUN
          have ca : wn.cell? ⟨w.heap.size, 6, none⟩ = some (.slice p1 la.length c1) := blk_cell SN.out.act 6
          have hlb : la.length ≤ 1099511627776 := by
            have := HOK.out.data
            rw [HMM.out] at this
            exact this
          have hcall := hex_c (.slice p1 la.length c1) la wn (BI.out.below SN.out.below) hlb
          go_wp2_with (first | (go_at_call 16; (with_reducible refine hcall.mono ?_); rintro e w5 ⟨rfl, hb5⟩; have S5 := Lib.hid (SN.out.later hb5); clear hb5 ca hnx; have HRE := Lib.hid S5.out.rest; unfold restC at HRE; obtain ⟨⟨e0, e1, e2, e3, e4, e5, e6, e7⟩, g0', g1', g2', g3', g4', g5', g6', g7'⟩ := cells8 HRE.out; have h5sz := S5.out.size; have hgt := Nat.lt_trans S5.out.ltR (Nat.lt_of_succ_lt h5sz); have hs5 : G ≤ w5.heap.size + 1 := (by omega)) | (at_builtin; go_loud (refine wpList_append_lies _ rfl _ _ 52 rfl G 9 i9 (.string ⟨#[]⟩) 1 16 Tryz.underlying52 HI9.out HZ0.out HZ1.out HZ2.out rfl (by decide) _ o.length (strVals o) rfl (S5.out.row.alloc _) ⟨w5.heap.size, 0, none⟩ 1 1 [.string (mkB (120 :: hexOf la))] rfl rfl (cell_one_new _ _ _) (by simp [Value.oneCell']) (by decide) f1 f2 (by rw [sz_alloc]; exact hs5) _ rfl ?_)))
          intro g cap w6 hown hgrow hat _
          have HP := Lib.hid ((S5.out.grow (x := mkB (120 :: hexOf la)) hgrow rfl hown hat).set 6 (.slice none 0 0) { r with dz := true } rfl)
          have HR6 := (hgrow.block R (by rw [sz_alloc]; omega) (fun e => by have := S5.out.off _ (by first | exact e | exact e.symm); have := S5.out.ltR; omega)).trans ((Below.heap_alloc w5 _ _ (by omega)).trans HRE.out)
          obtain ⟨⟨m0, m1, m2, m3, m4, m5, m6, m7⟩, n0, n1, n2, n3, n4, n5, n6, n7⟩ := cells8 HR6
          clear hown hgrow hat HR6
          go_wp2
          go_roundg (fp.size - (i + 1) + 1)
          case measure => omega
          case rel => exact ⟨i + 1, _, _, by omega, by omega, by rw [List.length_append]; exact Nat.lt_add_left _ (Nat.zero_lt_succ _), HP, (by rw [HMV.out] at HST2; exact HST2), Lib.hid (by rw [List.length_append]; exact HLEN.out.one)⟩
        · have hnx : ∀ ty, (Instr.next (.pointer (some ⟨R + 1, 0, none⟩)) true ty).run Tryz.prog wr = .ok (.tuple #[.bool true, .int .i64 i, .int .i32 107]) wn := fun ty => by
            rw [hwn]
            exact next_at SR.out.iter hik 107 hc (by decide) ty
          have HST2 : Hid (runParts mm (fp.data.toList.drop (i + 1)) (o ++ mm.keep.map strN, { r with kz := true }) = (fo, fr)) := Lib.hid (by
            have h := HST.out
            rw [hc] at h
            exact h)
          have HMV : Hid (mm.keep = lk) := Lib.hid (by rw [HMM.out])
          clear hwn hc HST HRUN
          have HRE := Lib.hid SN.out.rest
          unfold restC at HRE
          obtain ⟨⟨e0, e1, e2, e3, e4, e5, e6, e7⟩, g0', g1', g2', g3', g4', g5', g6', g7'⟩ := cells8 HRE.out
          go_upto_region 25 with fail
          have S7 := Lib.hid (SN.out.set 7 (.slice none 0 0) { r with kz := true } rfl)
          clear e0 e1 e2 e3 e4 e5 e6 e7 g0' g1' g2' g3' g4' g5' g6' g7' HRE hnx
          generalize wn.setCell ⟨R, 7, none⟩ (.slice none 0 0) = wk at S7 ⊢
          have ca : wk.cell? ⟨w.heap.size, 7, none⟩ = some (.slice p3 lk.length c3) := blk_cell S7.out.act 7
          go_wp2_with fail
          go_loopg [6, 99] (lk.length + 1) (fun gg2 s6 s99 wq => ∃ k : Nat, k ≤ lk.length ∧ lk.length - k < gg2 ∧ s99 = .int .i64 (k : Int) ∧ Hid (LSt w wq w.heap.size H G R (i + 1) #[.int .i64 kind, .int .i64 n, .int .i64 rk, .int .i64 vol, .int .i64 block, .int .i64 size, .slice p1 la.length c1, .slice p3 lk.length c3] fw fp fa fk (.slice p1 la.length c1) (.slice p3 lk.length c3) (o ++ (lk.take k).map strN) { r with kz := true } s6))
          case atStart => exact ⟨0, by omega, by omega, rfl, (by simpa using S7)⟩
          case round =>
            obtain ⟨k, hk, hgg2, rfl, SQ⟩ := hrel
            clear ca S7 SN
            obtain ⟨oq, hoq⟩ : ∃ oq, oq = o ++ (lk.take k).map strN := ⟨_, rfl⟩
            rw [← hoq] at SQ
            have hq0 : 0 < oq.length := by rw [hoq, List.length_append]; exact Nat.lt_add_right _ ho
            have hmm2 : o.length + k = oq.length := by rw [hoq, List.length_append, List.length_map, List.length_take, Nat.min_eq_left hk]
            have HOQ := Lib.hid hoq
            clear hoq
            obtain ⟨gq, capq, rfl, hgq0, hgq1⟩ := SQ.out.row.form hq0
            by_cases hkl : k < lk.length
            · obtain ⟨x, hx⟩ : ∃ x, lk[k]? = some x := ⟨_, List.getElem?_eq_getElem hkl⟩
              have hne : lk ≠ [] := fun e => by rw [e] at hkl; exact absurd hkl (Nat.not_lt_zero k)
              obtain ⟨p', c', hv', hp'⟩ := II.out.below SQ.out.below
              cases hv'
              obtain ⟨bb, oo, rfl, hbb, hcc⟩ := hp' hne
              have cx := hcc k x hx
              have hxx : I64 x := by
                have := HOK.out.keep x
                rw [HMM.out] at this
                exact this (List.mem_of_getElem? hx)
              have hcall := itoa_c x hxx.1 hxx.2 _ (HE.out.below SQ.out.below)
              have HX := Lib.hid hx
              clear hx hcc hp'
              have hil : (k : Int) < (lk.length : Int) := by omega
              have hll : lk.length ≤ 1099511627776 := HLEN.out.K
              have HL2 := Lib.hid (HLEN.out.many k hk)
              obtain ⟨y1, y2, -⟩ := HL2.out.fits (by omega)
              rw [hmm2] at y1 y2
              clear hmm2
              go_wp2_with (first | (go_at_call 15; (with_reducible refine hcall.mono ?_); rintro e w5 ⟨rfl, hb5⟩; have S5 := Lib.hid (SQ.out.later hb5); clear hb5 cx; have h5sz := S5.out.size; have hgt := Nat.lt_trans S5.out.ltR (Nat.lt_of_succ_lt h5sz); have hs5 : G ≤ w5.heap.size + 1 := (by omega)) | (at_builtin; go_loud (refine wpList_append_lies _ rfl _ _ 52 rfl G 9 i9 (.string ⟨#[]⟩) 1 16 Tryz.underlying52 HI9.out HZ0.out HZ1.out HZ2.out rfl (by decide) _ oq.length (strVals oq) rfl (S5.out.row.alloc _) ⟨w5.heap.size, 0, none⟩ 1 1 [.string (strN x)] rfl rfl (cell_one_new _ _ _) (by simp [Value.oneCell']) (by decide) y1 y2 (by rw [sz_alloc]; exact hs5) _ rfl ?_)))
              intro g cap w6 hown hgrow hat _
              have HPQ := Lib.hid (S5.out.grow (x := strN x) hgrow rfl hown hat)
              clear hown hgrow hat
              go_wp2
              go_roundg (lk.length - (k + 1) + 1)
              case measure => omega
              case rel =>
                refine ⟨k + 1, by omega, by omega, by go_num, ?_⟩
                rw [List.take_add_one, HX.out, List.map_append, ← List.append_assoc, ← HOQ.out]
                exact HPQ
            · have hil : ¬ (k : Int) < (lk.length : Int) := by omega
              obtain rfl : k = lk.length := by omega
              have HL3 : Hid (LenOk (i + 1) oq.length lk.length) := Lib.hid (by rw [← hmm2]; exact HLEN.out.many _ (Nat.le_refl _))
              have HR3 : Hid (runParts mm (fp.data.toList.drop (i + 1)) (oq, { r with kz := true }) = (fo, fr)) := Lib.hid (by
                rw [HOQ.out, List.take_of_length_le (Nat.le_refl _), ← HMV.out]
                exact HST2.out)
              clear hmm2
              go_wp2
              go_roundg (fp.size - (i + 1) + 1)
              case measure => omega
              case rel => exact ⟨i + 1, oq, { r with kz := true }, by omega, by omega, hq0, SQ, HR3, HL3⟩
      · obtain rfl : i = fp.size := by omega
        have hrr := HRUN.out
        rw [List.drop_of_length_le (by rw [Array.length_toList]; exact Nat.le_refl _)] at hrr
        have hfo : o = fo := congrArg Prod.fst hrr
        have hfr : r = fr := congrArg Prod.snd hrr
        subst hfo
        subst hfr
        have OUT := Lib.hid (out_some mm ⟨fw, fp, fa, fk⟩ (by rw [HMM.out]; exact HF.out) o r HFIN.out)
        have HSZ : Hid ((lineOut mm).1.size ≤ 140737488355328) := Lib.hid (out_size mm HOK.out.n HOK.out.vol HOK.out.block HOK.out.size HOK.out.data HOK.out.keep HOK.out.keeps)
        have HJL : o.length ≤ 140737488355328 := (HLEN.out.fits hfs).2.2
        have hnx : ∀ ty, (Instr.next (.pointer (some ⟨R + 1, 0, none⟩)) true ty).run Tryz.prog wr = .ok (.tuple #[.bool false]) wr := fun ty => Lib.run_next_end_at wr (R + 1) fp fp.size ty SR.out.iter hik
        clear HRUN HFIN hrr HLEN
        obtain ⟨rn, rv, rb, rs, dz, kz⟩ := r
        obtain ⟨pd, nd, cd, hdv, hd0⟩ := restV_slice dz p1 la c1
        obtain ⟨pk, nk, ck, hkv, hk0⟩ := restV_slice kz p3 lk c3
        have hre : wr.heap[R]? = some (.cells #[.int .i64 0, .int .i64 rn, .int .i64 0, .int .i64 rv, .int .i64 rb, .int .i64 rs, .slice pd nd cd, .slice pk nk ck] 34 (0, 0)) := by
          rw [← hdv, ← hkv]
          exact SR.out.rest
        obtain ⟨⟨e0, e1, e2, e3, e4, e5, e6, e7⟩, _, _, _, _, _, _, _, _⟩ := cells8 hre
        have d2 : wr.cell? ⟨w.heap.size, 2, none⟩ = some (.int .i64 rk) := blk_cell SR.out.act 2
        have fa2 : wr.cell? ⟨H, 2, none⟩ = some (.int .i64 fa) := blk_cell SR.out.form 2
        have HTB : Hid (testB ⟨fw, fp, fa, fk⟩ mm ⟨rn, rv, rb, rs, dz, kz⟩ = ((fa != 0 && rk != 0) || rn != 0 || ((nk : Nat) : Int) != 0 || rv != 0 || rb != 0 || rs != 0 || ((nd : Nat) : Int) != 0)) := Lib.hid (by
          have h := test_eq fw fp fa fk mm rn rv rb rs dz kz nk nd (by rw [HMM.out]; exact hk0) (by rw [HMM.out]; exact hd0)
          rw [h, HMM.out])
        obtain ⟨g0, cap0, rfl, hg0, hg1⟩ := SR.out.row.form ho
        have hcap : o.length ≤ cap0 := by
          rcases SR.out.row.2 with ⟨h, _⟩ | ⟨g, cap, cur, hv, _, _, hc, _⟩
          · cases h
          · cases hv
            exact hc
        have hBw : w.heap.size < wr.heap.size := by omega
        have hHw : H < wr.heap.size := by omega
        have hRw : R < wr.heap.size := by omega
        clear hre hdv hkv hd0 hk0
        go_upto_region 31 with fail
        by_cases y0 : fa = 0
        · obtain rfl : fa = 0 := y0
          by_cases z0 : rn = 0
          · obtain rfl : rn = 0 := z0
            by_cases z1 : ((nk : Nat) : Int) = 0
            · obtain rfl : nk = 0 := (by omega)
              by_cases z2 : rv = 0
              · obtain rfl : rv = 0 := z2
                by_cases z3 : rb = 0
                · obtain rfl : rb = 0 := z3
                  by_cases z4 : rs = 0
                  · obtain rfl : rs = 0 := z4
                    by_cases z5 : ((nd : Nat) : Int) = 0
                    · obtain rfl : nd = 0 := (by omega)
                      have HTT := HTB.out.trans (show (_ : Bool) = false by simp)
                      obtain ⟨h2, h3⟩ := OUT.out.2.2 HTT
                      have h1 := OUT.out.1
                      rw [HTT, if_neg Bool.false_ne_true] at h1
                      have H1 := Lib.hid h1
                      have H2 := Lib.hid h2
                      have hlen : (Lib.join (o.map (·.data.toList)) [32]).length ≤ 140737488355328 := by
                        rw [h3]
                        exact HSZ.out
                      have HJ : Hid (∀ W, Below wr.heap.size wr W → Calls Tryz.prog 17 #[.slice (some ⟨g0, 0, none⟩) o.length cap0, .string ⟨#[32]⟩] W fun e w' => e = .returned (.string (lineOut mm).1) ∧ Below W.heap.size W w') := Lib.hid (fun W hW => by
                        rw [H2.out]
                        refine Tryz.strings_Join g0 0 cap0 o ⟨#[32]⟩ W (fun j x hx => ?_) (Nat.lt_of_lt_of_le hg1 hW.size) HJL hcap hlen
                        have h1 := SR.out.row.cells (g := g0) rfl j (.string x) (by unfold strVals; rw [List.getElem?_map, hx]; rfl)
                        rw [Lib.add_plain] at h1
                        exact (hW.cell (p := ⟨g0, 0 + j, none⟩) hg1).trans h1)
                      clear h1 h2 h3 hlen HTT
                      have HBQ : Hid (∀ ob, Below wr.heap.size wr (wr.alloc ob)) := Lib.hid (fun ob => (Below.refl _ _).alloc (Nat.le_refl _) _)
                      go_wp2_with (go_at_call 17; (with_reducible refine (HJ.out _ (HBQ.out _)).mono ?_); rintro e w9 ⟨rfl, hb9⟩)
                      go_ret2
                      unfold LineOk
                      rw [H1.out]
                      exact ⟨rfl, SR.out.below.trans (((HBQ.out _).mono (by omega)).trans (hb9.mono (by rw [sz_alloc]; omega)))⟩
                    · have qe5 : (((nd : Nat) : Int) == 0) = false := beq_eq_false_iff_ne.2 z5
                      have qn5 : (((nd : Nat) : Int) != 0) = true := bne_iff_ne.2 z5
                      have HTT := HTB.out.trans (show (_ : Bool) = true by simp [qn5])
                      go_wp2_with fail
                      go_ret2
                      have h1 := OUT.out.1
                      rw [HTT, if_pos rfl] at h1
                      have h2 := OUT.out.2.1 HTT
                      unfold LineOk
                      rw [h1, h2]
                      exact ⟨rfl, SR.out.below.alloc (by omega) _⟩
                  · have qe4 : (rs == 0) = false := beq_eq_false_iff_ne.2 z4
                    have qn4 : (rs != 0) = true := bne_iff_ne.2 z4
                    have HTT := HTB.out.trans (show (_ : Bool) = true by simp [qn4])
                    go_wp2_with fail
                    go_ret2
                    have h1 := OUT.out.1
                    rw [HTT, if_pos rfl] at h1
                    have h2 := OUT.out.2.1 HTT
                    unfold LineOk
                    rw [h1, h2]
                    exact ⟨rfl, SR.out.below.alloc (by omega) _⟩
                · have qe3 : (rb == 0) = false := beq_eq_false_iff_ne.2 z3
                  have qn3 : (rb != 0) = true := bne_iff_ne.2 z3
                  have HTT := HTB.out.trans (show (_ : Bool) = true by simp [qn3])
                  go_wp2_with fail
                  go_ret2
                  have h1 := OUT.out.1
                  rw [HTT, if_pos rfl] at h1
                  have h2 := OUT.out.2.1 HTT
                  unfold LineOk
                  rw [h1, h2]
                  exact ⟨rfl, SR.out.below.alloc (by omega) _⟩
              · have qe2 : (rv == 0) = false := beq_eq_false_iff_ne.2 z2
                have qn2 : (rv != 0) = true := bne_iff_ne.2 z2
                have HTT := HTB.out.trans (show (_ : Bool) = true by simp [qn2])
                go_wp2_with fail
                go_ret2
                have h1 := OUT.out.1
                rw [HTT, if_pos rfl] at h1
                have h2 := OUT.out.2.1 HTT
                unfold LineOk
                rw [h1, h2]
                exact ⟨rfl, SR.out.below.alloc (by omega) _⟩
            · have qe1 : (((nk : Nat) : Int) == 0) = false := beq_eq_false_iff_ne.2 z1
              have qn1 : (((nk : Nat) : Int) != 0) = true := bne_iff_ne.2 z1
              have HTT := HTB.out.trans (show (_ : Bool) = true by simp [qn1])
              go_wp2_with fail
              go_ret2
              have h1 := OUT.out.1
              rw [HTT, if_pos rfl] at h1
              have h2 := OUT.out.2.1 HTT
              unfold LineOk
              rw [h1, h2]
              exact ⟨rfl, SR.out.below.alloc (by omega) _⟩
          · have qe0 : (rn == 0) = false := beq_eq_false_iff_ne.2 z0
            have qn0 : (rn != 0) = true := bne_iff_ne.2 z0
            have HTT := HTB.out.trans (show (_ : Bool) = true by simp [qn0])
            go_wp2_with fail
            go_ret2
            have h1 := OUT.out.1
            rw [HTT, if_pos rfl] at h1
            have h2 := OUT.out.2.1 HTT
            unfold LineOk
            rw [h1, h2]
            exact ⟨rfl, SR.out.below.alloc (by omega) _⟩
        · have qa : (fa == 0) = false := beq_eq_false_iff_ne.2 y0
          have qb : (fa != 0) = true := bne_iff_ne.2 y0
          by_cases y1 : rk = 0
          · obtain rfl : rk = 0 := y1
            by_cases z0 : rn = 0
            · obtain rfl : rn = 0 := z0
              by_cases z1 : ((nk : Nat) : Int) = 0
              · obtain rfl : nk = 0 := (by omega)
                by_cases z2 : rv = 0
                · obtain rfl : rv = 0 := z2
                  by_cases z3 : rb = 0
                  · obtain rfl : rb = 0 := z3
                    by_cases z4 : rs = 0
                    · obtain rfl : rs = 0 := z4
                      by_cases z5 : ((nd : Nat) : Int) = 0
                      · obtain rfl : nd = 0 := (by omega)
                        have HTT := HTB.out.trans (show (_ : Bool) = false by simp)
                        obtain ⟨h2, h3⟩ := OUT.out.2.2 HTT
                        have h1 := OUT.out.1
                        rw [HTT, if_neg Bool.false_ne_true] at h1
                        have H1 := Lib.hid h1
                        have H2 := Lib.hid h2
                        have hlen : (Lib.join (o.map (·.data.toList)) [32]).length ≤ 140737488355328 := by
                          rw [h3]
                          exact HSZ.out
                        have HJ : Hid (∀ W, Below wr.heap.size wr W → Calls Tryz.prog 17 #[.slice (some ⟨g0, 0, none⟩) o.length cap0, .string ⟨#[32]⟩] W fun e w' => e = .returned (.string (lineOut mm).1) ∧ Below W.heap.size W w') := Lib.hid (fun W hW => by
                          rw [H2.out]
                          refine Tryz.strings_Join g0 0 cap0 o ⟨#[32]⟩ W (fun j x hx => ?_) (Nat.lt_of_lt_of_le hg1 hW.size) HJL hcap hlen
                          have h1 := SR.out.row.cells (g := g0) rfl j (.string x) (by unfold strVals; rw [List.getElem?_map, hx]; rfl)
                          rw [Lib.add_plain] at h1
                          exact (hW.cell (p := ⟨g0, 0 + j, none⟩) hg1).trans h1)
                        clear h1 h2 h3 hlen HTT
                        have HBQ : Hid (∀ ob, Below wr.heap.size wr (wr.alloc ob)) := Lib.hid (fun ob => (Below.refl _ _).alloc (Nat.le_refl _) _)
                        go_wp2_with (go_at_call 17; (with_reducible refine (HJ.out _ (HBQ.out _)).mono ?_); rintro e w9 ⟨rfl, hb9⟩)
                        go_ret2
                        unfold LineOk
                        rw [H1.out]
                        exact ⟨rfl, SR.out.below.trans (((HBQ.out _).mono (by omega)).trans (hb9.mono (by rw [sz_alloc]; omega)))⟩
                      · have qe5 : (((nd : Nat) : Int) == 0) = false := beq_eq_false_iff_ne.2 z5
                        have qn5 : (((nd : Nat) : Int) != 0) = true := bne_iff_ne.2 z5
                        have HTT := HTB.out.trans (show (_ : Bool) = true by simp [qn5])
                        go_wp2_with fail
                        go_ret2
                        have h1 := OUT.out.1
                        rw [HTT, if_pos rfl] at h1
                        have h2 := OUT.out.2.1 HTT
                        unfold LineOk
                        rw [h1, h2]
                        exact ⟨rfl, SR.out.below.alloc (by omega) _⟩
                    · have qe4 : (rs == 0) = false := beq_eq_false_iff_ne.2 z4
                      have qn4 : (rs != 0) = true := bne_iff_ne.2 z4
                      have HTT := HTB.out.trans (show (_ : Bool) = true by simp [qn4])
                      go_wp2_with fail
                      go_ret2
                      have h1 := OUT.out.1
                      rw [HTT, if_pos rfl] at h1
                      have h2 := OUT.out.2.1 HTT
                      unfold LineOk
                      rw [h1, h2]
                      exact ⟨rfl, SR.out.below.alloc (by omega) _⟩
                  · have qe3 : (rb == 0) = false := beq_eq_false_iff_ne.2 z3
                    have qn3 : (rb != 0) = true := bne_iff_ne.2 z3
                    have HTT := HTB.out.trans (show (_ : Bool) = true by simp [qn3])
                    go_wp2_with fail
                    go_ret2
                    have h1 := OUT.out.1
                    rw [HTT, if_pos rfl] at h1
                    have h2 := OUT.out.2.1 HTT
                    unfold LineOk
                    rw [h1, h2]
                    exact ⟨rfl, SR.out.below.alloc (by omega) _⟩
                · have qe2 : (rv == 0) = false := beq_eq_false_iff_ne.2 z2
                  have qn2 : (rv != 0) = true := bne_iff_ne.2 z2
                  have HTT := HTB.out.trans (show (_ : Bool) = true by simp [qn2])
                  go_wp2_with fail
                  go_ret2
                  have h1 := OUT.out.1
                  rw [HTT, if_pos rfl] at h1
                  have h2 := OUT.out.2.1 HTT
                  unfold LineOk
                  rw [h1, h2]
                  exact ⟨rfl, SR.out.below.alloc (by omega) _⟩
              · have qe1 : (((nk : Nat) : Int) == 0) = false := beq_eq_false_iff_ne.2 z1
                have qn1 : (((nk : Nat) : Int) != 0) = true := bne_iff_ne.2 z1
                have HTT := HTB.out.trans (show (_ : Bool) = true by simp [qn1])
                go_wp2_with fail
                go_ret2
                have h1 := OUT.out.1
                rw [HTT, if_pos rfl] at h1
                have h2 := OUT.out.2.1 HTT
                unfold LineOk
                rw [h1, h2]
                exact ⟨rfl, SR.out.below.alloc (by omega) _⟩
            · have qe0 : (rn == 0) = false := beq_eq_false_iff_ne.2 z0
              have qn0 : (rn != 0) = true := bne_iff_ne.2 z0
              have HTT := HTB.out.trans (show (_ : Bool) = true by simp [qn0])
              go_wp2_with fail
              go_ret2
              have h1 := OUT.out.1
              rw [HTT, if_pos rfl] at h1
              have h2 := OUT.out.2.1 HTT
              unfold LineOk
              rw [h1, h2]
              exact ⟨rfl, SR.out.below.alloc (by omega) _⟩
          · have qc : (rk == 0) = false := beq_eq_false_iff_ne.2 y1
            have qd : (rk != 0) = true := bne_iff_ne.2 y1
            have HTT := HTB.out.trans (show (_ : Bool) = true by simp [qb, qd])
            go_wp2_with fail
            go_ret2
            have h1 := OUT.out.1
            rw [HTT, if_pos rfl] at h1
            have h2 := OUT.out.2.1 HTT
            unfold LineOk
            rw [h1, h2]
            exact ⟨rfl, SR.out.below.alloc (by omega) _⟩
theorem parts_small (j : Nat) (hj : j < 14) : (formAt j).parts.size ≤ 3 := by
  have : j = 0 ∨ j = 1 ∨ j = 2 ∨ j = 3 ∨ j = 4 ∨ j = 5 ∨ j = 6 ∨ j = 7 ∨ j = 8 ∨ j = 9 ∨ j = 10 ∨ j = 11 ∨ j = 12 ∨ j = 13 := by omega
  rcases this with rfl | rfl | rfl | rfl | rfl | rfl | rfl | rfl | rfl | rfl | rfl | rfl | rfl | rfl <;> decide
/-- Line, at any act. -/
theorem line_c (m : ActM) (dv kv : Value) (w : World) (hE : Env w) (hok : NumsOk m) (h1 : BytesIn w dv m.data) (h3 : IntsIn w kv m.keep) :
    Calls Tryz.prog 7 #[m.val dv kv] w (LineOk m w) := by
  cases hf : findFrom m.kind m.rk 14 0 with
  | none =>
    have e : (lineL m).2 = false := by
      rcases find_cases m with ⟨_, h⟩ | ⟨_, h⟩ | ⟨_, h⟩ | ⟨_, h⟩ | ⟨_, h⟩ | ⟨_, h⟩ | ⟨_, q, _, _, h⟩
      · exact h
      all_goals rw [hf] at h
      all_goals cases h
    refine (line_no m.kind m.n m.rk m.vol m.block m.size dv kv w hf).mono ?_
    rintro e' w' ⟨rfl, hb⟩
    refine ⟨?_, hb⟩
    unfold lineOut
    rw [e]
    rfl
  | some f =>
    obtain ⟨j, hj, rfl⟩ := find_mem _ _ _ _ _ hf
    have hj : j < 14 := by omega
    exact line_yes m.kind m.n m.rk m.vol m.block m.size dv kv m.data m.keep w hE hok h1 h3 _ _ _ _ hf (fun c hc => forms_parts j hj c hc) (parts_small j hj)
end Go.Proofs.YtjohhjdicbeojaaGreatDoor.KTd
