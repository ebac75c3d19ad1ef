/- Texts joined: Rd Re. -/
import Derived.WalkSpells
import Derived.Test.YtjohhjdicbeojaaGreatDoorZam
namespace Go.Proofs.YtjohhjdicbeojaaGreatDoor.Rd
open Go.RowKit Go.Proofs.YtjohhjdicbeojaaGreatDoor.Ra Go.Proofs.YtjohhjdicbeojaaGreatDoor.Rc
/-- Numbers as bytes. -/
def rowL (k : Nat) (l : List Int) : List UInt8 := l.flatMap (beL k)
theorem rowL_snoc (k : Nat) (l : List Int) (x : Int) : rowL k (l ++ [x]) = rowL k l ++ beL k x := by unfold rowL; rw [List.flatMap_append]; simp
theorem rowL_len (k : Nat) : ∀ l : List Int, (rowL k l).length = k * l.length
  | [] => rfl
  | x :: l => by
    show (beL k x ++ rowL k l).length = _
    rw [List.length_append, beL_len, rowL_len k l, List.length_cons, Nat.mul_succ, Nat.add_comm]
/-- May they have so many bytes? -/
def Fits (k : Nat) (l : List Int) : Prop := ∀ x ∈ l, 0 ≤ x ∧ x < 256 ^ k
set_option maxHeartbeats 2000000 in
theorem row_c (B : Nat) (k : Nat) (v : Value) (l : List Int) (w : World) (hB : B ≤ w.heap.size) (hk : 1 ≤ k ∧ k ≤ 4) (hv : IntsIn B w v l) (hl : l.length ≤ 1000000) (hf : Fits k l) :
    Calls Tryz.prog 209 #[.int .i64 (k : Int), v] w fun e w' => ∃ v', e = .returned (.tuple #[v', .int .i64 0]) ∧ PutOk w.heap.size [] (rowL k l) (.slice none 0 0) w v' w' := by
  have HV := Lib.hid hv
  obtain ⟨p, c, rfl, -⟩ := hv
  have ksz := fun W => size_c (k : Int) W (by omega) (by omega)
  have KSZ := Lib.hid ksz
  have HF := Lib.hid hf
  have HB := Lib.hid hB
  have HK := Lib.hid hk
  clear ksz hf hB hk
  obtain ⟨N, hN⟩ : ∃ N, N = l.length := ⟨_, rfl⟩
  rw [← hN] at hl ⊢
  have HN := Lib.hid hN
  clear hN
  obtain ⟨kk, hkk⟩ : ∃ kk : Int, kk = (k : Int) := ⟨_, rfl⟩
  rw [← hkk] at KSZ ⊢
  have HKK := Lib.hid hkk
  clear hkk
  have P0 : Hid (PutOk w.heap.size [] (rowL k (l.take 0)) (.slice none 0 0) w (.slice none 0 0) w) := Lib.hid (PutOk.start (World.ownsRow_nil _ _ _ _))
  go_enter Tryz.func209, Tryz.ntmps209
  go_wp2_with (go_at_call 241; (with_reducible refine (KSZ.out _).mono ?_); rintro e w5 ⟨rfl, rfl⟩)
  go_loopg [4, 5, 7, 13] (N + 1) (fun gg s4 _ _ s13 wr => ∃ j : Nat, j ≤ N ∧ N - j < gg ∧ s13 = .int .i64 (j : Int) ∧ Hid (PutOk w.heap.size [] (rowL k (l.take j)) (.slice none 0 0) w s4 wr))
  case atStart => exact ⟨0, by omega, by omega, rfl, P0⟩
  case round =>
    obtain ⟨j, hj, hgg, rfl, PR⟩ := hrel
    by_cases hlt : j < N
    · have hil : (j : Int) < (N : Int) := by omega
      obtain ⟨x, hx⟩ : ∃ x, l[j]? = some x := ⟨_, List.getElem?_eq_getElem (by rw [← HN.out]; exact hlt)⟩
      have hsx := Step.of (B := B) PR.out.below HB.out
      obtain ⟨p', c', hv', hp'⟩ := HV.out.step hsx
      obtain ⟨rfl, rfl⟩ : p = p' ∧ c = c' := by
        have := HN.out
        simpa using (by rw [← this] at hv'; simpa using hv' : p = p' ∧ c = c')
      obtain ⟨b, o, rfl, _, _, hc⟩ := hp' (fun e => by rw [e] at hx; cases hx)
      have cx := hc j x hx
      have hfx := HF.out x (List.mem_of_getElem? hx)
      have hrl := rowL_len k (l.take j)
      have hxl : ([] ++ rowL k (l.take j)).length ≤ 1099511627776 := by
        rw [List.nil_append, hrl, List.length_take]
        have h4 := HK.out.2
        have : k * min j l.length ≤ 4 * 1000000 := Nat.mul_le_mul h4 (by rw [← HN.out]; omega)
        omega
      have hput := put_c w.heap.size u4 ([] ++ rowL k (l.take j)) k x wr PR.out.grown.size PR.out.row HK.out hfx hxl
      rw [← HKK.out] at hput
      have KP := Lib.hid hput
      have HXX : Hid (rowL k (l.take (j + 1)) = rowL k (l.take j) ++ beL k x) := Lib.hid (by rw [List.take_add_one, hx]; exact rowL_snoc _ _ _)
      clear hput hxl hrl hfx hx hc hp' hv' hsx
      go_wp2_with (go_at_call 242; (with_reducible refine KP.out.mono ?_); rintro e w5 ⟨v', rfl, hpk⟩; have PK := Lib.hid (PR.out.trans hpk); clear hpk)
      go_roundg (N - (j + 1) + 1)
      case measure => omega
      case rel => exact ⟨j + 1, by omega, by omega, by go_num, by rw [HXX.out]; exact PK⟩
    · have hil : ¬ (j : Int) < (N : Int) := by omega
      obtain rfl : j = N := by omega
      have hall : l.take j = l := List.take_of_length_le (by rw [HN.out]; exact Nat.le_refl _)
      have PE := PR.out
      rw [hall] at PE
      have HPE := Lib.hid PE
      clear hall PE
      go_wp2
      refine bodyPost_ret (v := .tuple #[u4, .int .i64 0]) (by simp [results, Tryz.results209, go_sem]) rfl ⟨_, rfl, HPE.out⟩
end Go.Proofs.YtjohhjdicbeojaaGreatDoor.Rd
namespace Go.Proofs.YtjohhjdicbeojaaGreatDoor.Re
open Go.RowKit Go.Proofs.YtjohhjdicbeojaaGreatDoor.Ra Go.Proofs.YtjohhjdicbeojaaGreatDoor.Rb Go.Proofs.YtjohhjdicbeojaaGreatDoor.Rc Go.Proofs.YtjohhjdicbeojaaGreatDoor.Rd
theorem add_plain (b o j : Nat) : (⟨b, o, none⟩ : Addr).add j = ⟨b, o + j, none⟩ := by unfold Addr.add; split <;> simp_all
set_option maxHeartbeats 2000000 in
theorem leafput_c (B base : Nat) (v : Value) (xs : List UInt8) (k : Nat) (lv : Value) (l : List Int) (w : World) (hB : B ≤ w.heap.size) (hb : base ≤ w.heap.size) (hown : w.ownsRow base 5 1 v xs.length (byteVals xs)) (hk : 1 ≤ k ∧ k ≤ 4) (hv : IntsIn B w lv l) (hl : l.length ≤ 1000000) (hne : 0 < l.length) (hf : Fits k l) (hx : xs.length ≤ 1099511627776) :
    Calls Tryz.prog 156 #[v, .int .i64 (k : Int), lv] w fun e w' => ∃ v', e = .returned v' ∧ PutOk base xs (rowL k l) v w v' w' := by
  have KR := Lib.hid (row_c B k lv l w hB hk hv hl hf)
  obtain ⟨pl, cl, rfl, -⟩ := hv
  obtain ⟨pv, nv, cv, rfl⟩ : ∃ p n c, v = .slice p n c := by
    rcases hown.2 with ⟨h, _⟩ | ⟨_, _, _, h, _⟩
    · exact ⟨_, _, _, h⟩
    · exact ⟨_, _, _, h⟩
  have HNV : Hid (nv = xs.length) := Lib.hid (by
    rcases hown.2 with ⟨h, h0⟩ | ⟨_, _, _, h, _⟩
    · rw [h0]; cases h; rfl
    · cases h; rfl)
  have hrl := rowL_len k l
  have hm0 : 0 < (rowL k l).length := by rw [hrl]; exact Nat.mul_pos (by omega) hne
  have hm1 : (rowL k l).length ≤ 4000000 := by
    rw [hrl]
    exact Nat.mul_le_mul hk.2 hl
  obtain ⟨M, hM⟩ : ∃ M, M = (rowL k l).length := ⟨_, rfl⟩
  rw [← hM] at hm0 hm1
  have HM := Lib.hid hM
  have OW : Hid (w.ownsRow base 5 1 (.slice pv nv cv) nv (byteVals xs)) := Lib.hid (by
    have h := hown
    rw [← HNV.out] at h
    exact h)
  have PS := Lib.hid (PutOk.start hown)
  have hml : Hid (nv + M ≤ maxLen) := Lib.hid (by rw [HNV.out]; unfold maxLen; omega)
  have hbs : Hid ((nv + M) * 1 ≤ 140737488355328) := Lib.hid (by rw [HNV.out]; omega)
  have HB := Lib.hid hb
  obtain ⟨i0, hi, hz0, hz1, hz2⟩ := info_parts info_u8
  have HI := Lib.hid hi
  have HZ0 := Lib.hid hz0
  have HZ1 := Lib.hid hz1
  have HZ2 := Lib.hid hz2
  clear hi hz0 hz1 hz2 hrl hM hown hb hf hB hx hk
  generalize l.length = N at *
  go_enter Tryz.func156, Tryz.ntmps156
  go_upto_region 2 with (go_at_call 209; (with_reducible refine KR.out.mono ?_); rintro e w1 ⟨r, rfl, hpr⟩)
  have hr := hpr.row
  rw [List.nil_append, ← HM.out] at hr
  obtain ⟨g, cr, rfl, hg1, hg2⟩ := hr.form hm0
  have B1 := Lib.hid hpr.below
  have OW1 := Lib.hid (row_below OW.out B1.out)
  have hnews : Hid (∀ j u, (byteVals (rowL k l))[j]? = some u → w1.cell? ((⟨g, 0, none⟩ : Addr).add j) = some u) := Lib.hid (fun j u hu => hr.cells (g := g) rfl j u hu)
  have hbr : base ≤ w1.heap.size := Nat.le_trans HB.out B1.out.size
  clear hr hpr
  go_wp2_with (first | (at_builtin; go_loud (refine wpList_append_lies _ rfl _ _ 22 rfl base 5 i0 (.int .u8 0) 1 1 Tryz.underlying22 HI.out HZ0.out HZ1.out HZ2.out rfl (by decide) _ nv (byteVals xs) rfl OW1.out ⟨g, 0, none⟩ M cr (byteVals (rowL k l)) rfl (by rw [byteVals_len, HM.out, Nat.mul_one]) hnews.out (byteVals_one _) hm0 hml.out hbs.out hbr _ rfl ?_)))
  intro g2 cap w6 hown hgrow hat _
  have PN : PutOk base xs ([] ++ rowL k l) (.slice pv nv cv) w (.slice (some ⟨g2, 0, none⟩) (nv + M) cap) w6 := by
    have e := HNV.out
    subst e
    refine PS.out.more (g := g2) B1.out ?_ hgrow rfl (hat.elim Or.inl (fun h => Or.inr (by have := B1.out.size; omega)))
    rw [List.append_nil, ← HM.out]
    exact hown
  rw [List.nil_append] at PN
  have HPN := Lib.hid PN
  clear hown hgrow hat PN
  go_wp2
  go_ret
  exact ⟨_, rfl, HPN.out⟩
/-! ### seal -/
def padL (l : List UInt8) : List UInt8 := l ++ List.replicate (60 - l.length) 0
def sum4 (x : Int) : List UInt8 := beL 4 x
/-- A sealed sector. -/
def closeL (l : List UInt8) : List UInt8 := padL l ++ sum4 (sumL (padL l))
theorem padL_len (l : List UInt8) (h : l.length ≤ 60) : (padL l).length = 60 := by unfold padL; rw [List.length_append, List.length_replicate]; omega
theorem closeL_len (l : List UInt8) (h : l.length ≤ 60) : (closeL l).length = 64 := by unfold closeL sum4; rw [List.length_append, padL_len l h, beL_len]
/-- The cells of a new sector: so many bytes 0. -/
def zeroVals (n : Nat) : List Value := List.replicate n (.int .u8 0)
theorem make_sector (w : World) : (Instr.makeSlice 22 (.int .i64 60) (.int .i64 64)).run Tryz.prog w = .ok (.slice (some ⟨w.heap.size, 0, none⟩) 60 64) (w.alloc (.cells (zeroVals 64).toArray 5)) := by kernel_rfl
theorem byteVals_rep (n : Nat) : byteVals (List.replicate n 0) = zeroVals n := by unfold byteVals zeroVals; rw [List.map_replicate]; rfl
theorem splice_pad (l : List UInt8) (h : l.length ≤ 60) : splice (zeroVals 64) 0 (byteVals l) = byteVals (padL l) ++ zeroVals 4 := by
  unfold splice padL
  rw [List.take_zero, List.nil_append, byteVals_app, byteVals_rep, byteVals_len, Nat.zero_add, List.append_assoc]
  congr 1
  unfold zeroVals
  rw [List.drop_replicate, List.replicate_append_replicate]
  congr 1
  omega
theorem u32_bytes (x : Int) (hx : U32 x) : byteVals (sum4 x) = [.int .u8 (x / 16777216), .int .u8 (x / 65536 % 256), .int .u8 (x / 256 % 256), .int .u8 (x % 256)] := by
  obtain ⟨h1, h2⟩ := hx
  have b0 := byte_of (x / 256 ^ 0) (by omega)
  have b1 := byte_of (x / 256 ^ 1) (by omega)
  have b2 := byte_of (x / 256 ^ 2) (by omega)
  have b3 := byte_of (x / 256 ^ 3) (by omega)
  unfold sum4 byteVals
  simp only [beL, List.map_cons, List.map_nil]
  rw [← b0, ← b1, ← b2, ← b3]
  have e0 : x / 256 ^ 0 % 256 = x % 256 := by omega
  have e1 : x / 256 ^ 1 % 256 = x / 256 % 256 := by omega
  have e2 : x / 256 ^ 2 % 256 = x / 65536 % 256 := by omega
  have e3 : x / 256 ^ 3 % 256 = x / 16777216 := by omega
  rw [e0, e1, e2, e3]
/-- What Close leaves: a new sector. -/
structure SectorAt (w : World) (l : List UInt8) (v : Value) (w' : World) : Prop where
  form : ∃ g, v = .slice (some ⟨g, 0, none⟩) 64 64
  row : w'.ownsRow w.heap.size 5 1 v 64 (byteVals l)
  below : Below w.heap.size w w'
set_option maxHeartbeats 2000000 in
theorem close_c (B : Nat) (v : Value) (l : List UInt8) (w : World) (hv : BytesIn B w v l) (hl : l.length ≤ 60) :
    Calls Tryz.prog 208 #[v] w fun e w' => ∃ v', e = .returned (.tuple #[v', .int .i64 0]) ∧ SectorAt w (closeL l) v' w' := by
  have HV := Lib.hid hv
  obtain ⟨p, c, rfl, -⟩ := hv
  have hmk := make_sector
  obtain ⟨N, hN⟩ : ∃ N, N = l.length := ⟨_, rfl⟩
  have HN := Lib.hid hN
  rw [← hN] at HV hl ⊢
  have h60 : ¬ (60 : Int) < (N : Int) := by omega
  have HL : Hid (l.length ≤ 60) := Lib.hid (by omega)
  obtain ⟨w1, hw1⟩ : ∃ w1, w1 = w.alloc (.cells (zeroVals 64).toArray 5) := ⟨_, rfl⟩
  have B1 : Hid (Below w.heap.size w w1) := Lib.hid (by rw [hw1]; exact (Below.refl _ _).alloc (Nat.le_refl _) _)
  have G1 : Hid (w1.heap[w.heap.size]? = some (.cells (zeroVals 64).toArray 5 (0, 0))) := Lib.hid (by rw [hw1]; exact blk_new _ _ _)
  have C1 : Hid (0 < (byteVals l).length → some (⟨w.heap.size, 0, none⟩ : Addr) = some ⟨w.heap.size, 0, none⟩ ∧ ∃ ad, p = some ad ∧ ∀ j u, (byteVals l)[j]? = some u → w1.cell? (ad.add j) = some u) := Lib.hid (fun h => ⟨rfl, by
    have hne : l ≠ [] := fun e => by rw [e] at h; exact absurd h (Nat.lt_irrefl 0)
    obtain ⟨p', c', hv', _, hp'⟩ := HV.out
    obtain ⟨b, o, hpp, hlt, _, _⟩ := hp' hne
    obtain ⟨rfl, _, _⟩ : p = p' ∧ N = l.length ∧ c = c' := by simpa using hv'
    refine ⟨⟨b, o, none⟩, hpp, fun j u hu => ?_⟩
    have h1 := HV.out
    rw [hpp] at h1
    have h2 := h1.news j u hu
    rw [add_plain] at h2 ⊢
    exact (B1.out.cell (p := ⟨b, o + j, none⟩) hlt).trans h2⟩)
  obtain ⟨i0, hi, hz0, hz1, hz2⟩ := info_parts info_u8
  have HI := Lib.hid hi
  have HZ1 := Lib.hid hz1
  have HSZ : Hid ((Tryz.prog.info? 5).map (·.size) = some 1) := Lib.hid (by kernel_rfl)
  clear hi hz0 hz1 hz2 hN
  go_enter Tryz.func208, Tryz.ntmps208
  go_upto_region 4 with fail
  rw [← hw1]
  clear hw1 hmk
  go_wp2_with (with_reducible refine wpList_copy_splice rfl _ _ 22 22 rfl 5 Tryz.underlying22 HSZ.out (some ⟨w.heap.size, 0, none⟩) p 60 64 N c rfl rfl w.heap.size 0 (zeroVals 64) 5 G1.out (byteVals l) (by rw [byteVals_len, ← HN.out]; exact (Nat.min_eq_left hl).symm) C1.out (by rw [byteVals_len, ← HN.out]; exact Nat.le_trans (by omega) (Nat.le_of_eq List.length_replicate.symm)) (byteVals_one _) w.heap.size w B1.out (Nat.le_refl _) ?_)
  intro w2 G2 hb2
  have B2 := Lib.hid hb2
  have G3 : Hid (w2.heap[w.heap.size]? = some (.cells (byteVals (padL l) ++ zeroVals 4).toArray 5 (0, 0))) := Lib.hid (by rw [← splice_pad l HL.out]; exact G2.out)
  have hpl := padL_len l HL.out
  have HP60 := Lib.hid hpl
  have KS := Lib.hid (sum_c B (.slice (some ⟨w.heap.size, 0, none⟩) 60 64) (padL l) w2 (bytes_of_blk G3.out hpl.symm (by omega) (by rw [hpl]; simp [byteVals_len, hpl])) (by omega))
  have OW : Hid (w2.ownsRow w.heap.size 5 1 (.slice (some ⟨w.heap.size, 0, none⟩) 60 64) 60 (byteVals (padL l))) := Lib.hid ⟨by rw [byteVals_len, hpl], Or.inr ⟨_, _, _, rfl, Nat.le_refl _, G3.out, by decide, by decide, by simp [byteVals_len, hpl, zeroVals], by simp [byteVals_len, hpl]⟩⟩
  have HU := Lib.hid (sumL_u (padL l))
  obtain ⟨hu1, hu2⟩ := HU.out
  have HX := Lib.hid (u32_bytes (sumL (padL l)) HU.out)
  have HC : Hid (byteVals (closeL l) = byteVals (padL l) ++ byteVals (sum4 (sumL (padL l)))) := Lib.hid (by unfold closeL; exact byteVals_app _ _)
  clear hb2 G2 hpl C1 G1
  generalize sumL (padL l) = x at *
  go_wp2_with (first
    | (go_at_call 157; (with_reducible refine KS.out.mono ?_); rintro e w5 ⟨rfl, rfl⟩)
    | (at_builtin; go_loud (refine wpList_append_fits _ rfl _ _ 22 rfl w.heap.size 5 i0 1 Tryz.underlying22 HI.out HZ1.out w.heap.size 60 64 (byteVals (padL l)) rfl (OW.out.alloc _) ⟨w2.heap.size, 0, none⟩ 4 4 [.int .u8 (x / 16777216), .int .u8 (x / 65536 % 256), .int .u8 (x / 256 % 256), .int .u8 (x % 256)] rfl rfl ?cc (by simp [Value.oneCell']) (by decide) ?_)))
  case cc =>
    intro j u hu
    rw [add_plain, blk_cell (blk_new w2 _ _), Nat.zero_add]
    simpa using hu
  intro w6 hown hgrow
  have hown : w6.ownsRow w.heap.size 5 1 (.slice (some ⟨w.heap.size, 0, none⟩) 64 64) 64 (byteVals (closeL l)) := by
    rw [HC.out, HX.out]
    exact hown
  have HOWN := Lib.hid hown
  have B6 := Lib.hid ((B2.out.alloc B2.out.size _).grown hgrow (by rw [sz_alloc]; exact Nat.le_succ_of_le B2.out.size) (fun q hq => Nat.le_of_eq (Option.some.inj hq)))
  clear hown hgrow
  go_wp2
  refine bodyPost_ret (v := .tuple #[.slice (some ⟨w.heap.size, 0, none⟩) 64 64, .int .i64 0]) (by simp [results, Tryz.results208, go_sem]) rfl ⟨_, rfl, ⟨_, rfl⟩, HOWN.out, B6.out⟩
theorem sealed_c (B : Nat) (v : Value) (l : List UInt8) (w : World) (hv : BytesIn B w v l) (hl : l.length ≤ 60) :
    Calls Tryz.prog 155 #[v] w fun e w' => ∃ v', e = .returned v' ∧ SectorAt w (closeL l) v' w' := by
  have K := Lib.hid (close_c B v l w hv hl)
  obtain ⟨p, c, rfl, -⟩ := hv
  generalize l.length = n at *
  go_enter Tryz.func155, Tryz.ntmps155
  go_wp2_with (go_at_call 208; (with_reducible refine K.out.mono ?_); rintro e w5 ⟨v', rfl, hs⟩; obtain ⟨g, rfl⟩ := hs.form; have HS := Lib.hid hs; clear hs)
  go_ret
  exact ⟨_, rfl, HS.out⟩
/-! ### bytes -/
theorem conv_in {B : Nat} {w : World} {v : Value} {l : List UInt8} (h : BytesIn B w v l) : (convert 22 9 v).run Tryz.prog w = .ok (.string ⟨l.toArray⟩) w := by
  obtain ⟨p, c, rfl, _, hp⟩ := h
  by_cases hl : l = []
  · subst hl
    show (convert 22 9 (.slice p 0 c)).run Tryz.prog w = _
    rw [run_convert_bytes_string w 22 9 5 p 0 c Tryz.underlying22 Tryz.underlying5 Tryz.underlying9]
    cases p <;> simp [Conv.bytesToString, loadCells]
    all_goals rfl
  · obtain ⟨b, o, rfl, _, _, hc⟩ := hp hl
    refine run_convert_bytes_back (P := Tryz.prog) w 22 9 5 ⟨b, o, none⟩ c l (by kernel_rfl) (by kernel_rfl) (by kernel_rfl) (fun j hj => ?_)
    rw [add_plain]
    exact hc j _ (List.getElem?_eq_getElem hj)
theorem equal_c (B : Nat) (v u : Value) (l m : List UInt8) (w : World) (hv : BytesIn B w v l) (hu : BytesIn B w u m) :
    Calls Tryz.prog 166 #[v, u] w fun e w' => e = .returned (.bool (l == m)) ∧ w = w' := by
  have c1 := conv_in hv
  have c2 := conv_in hu
  obtain ⟨p, c, rfl, -⟩ := hv
  obtain ⟨q, d, rfl, -⟩ := hu
  have he : ((⟨l.toArray⟩ : ByteArray).toList == (⟨m.toArray⟩ : ByteArray).toList) = (l == m) := by
    rw [ByteArray.toList_eq, ByteArray.toList_eq]
  generalize l.length = n at *
  generalize m.length = n2 at *
  go_enter Tryz.func166, Tryz.ntmps166
  go_wp2
  go_ret
  exact ⟨rfl, rfl⟩
/-- A row of bytes that is new. -/
structure NewBytes (w : World) (l : List UInt8) (v : Value) (w' : World) : Prop where
  row : w'.ownsRow w.heap.size 5 1 v l.length (byteVals l)
  below : Below w.heap.size w w'
theorem NewBytes.bytes {B : Nat} {w w' : World} {l : List UInt8} {v : Value} (h : NewBytes w l v w') : BytesIn B w' v l := bytes_of_row h.row
theorem SectorAt.bytes {B : Nat} {w w' : World} {l : List UInt8} {v : Value} (h : SectorAt w l v w') (hl : l.length = 64) : BytesIn B w' v l := by
  have := h.row
  rw [← hl] at this
  exact bytes_of_row this
set_option maxHeartbeats 1000000 in
theorem clone_c (B : Nat) (v : Value) (l : List UInt8) (w : World) (hv : BytesIn B w v l) (hne : 0 < l.length) (hl : l.length ≤ 1099511627776) :
    Calls Tryz.prog 121 #[v] w fun e w' => ∃ v', e = .returned v' ∧ NewBytes w l v' w' := by
  have HV := Lib.hid hv
  obtain ⟨p, c, rfl, hcap, hp⟩ := hv
  obtain ⟨b, o, rfl, hlt, _, _⟩ := hp (fun e => by rw [e] at hne; exact absurd hne (Nat.lt_irrefl 0))
  have hnil := fun (W : World) => Lib.run_eql_slice_nil (P := Tryz.prog) W 22 5 (some ⟨b, o, none⟩) l.length c 0 0 Tryz.underlying22
  have HNEWS : Hid (∀ j u, (byteVals l)[j]? = some u → (w.alloc (.cells #[] 5)).cell? ((⟨b, o, none⟩ : Addr).add j) = some u) := Lib.hid (fun j u hu => by
    have h := HV.out.news j u hu
    rw [add_plain] at h ⊢
    exact (((Below.refl w.heap.size w).alloc (Nat.le_refl _) _).cell (p := ⟨b, o + j, none⟩) hlt).trans h)
  have OW : Hid ((w.alloc (.cells #[] 5)).ownsRow w.heap.size 5 1 (.slice (some ⟨w.heap.size, 0, none⟩) 0 0) 0 []) := Lib.hid ⟨rfl, Or.inr ⟨_, _, _, rfl, Nat.le_refl _, blk_new _ _ _, Nat.le_refl _, Nat.zero_le _, rfl, rfl⟩⟩
  obtain ⟨i0, hi, hz0, hz1, hz2⟩ := info_parts info_u8
  have HI := Lib.hid hi
  have HZ0 := Lib.hid hz0
  have HZ1 := Lib.hid hz1
  have HZ2 := Lib.hid hz2
  have h63 : Hid (0 + l.length ≤ maxLen) := Lib.hid (by unfold maxLen; omega)
  have hbs : Hid ((0 + l.length) * 1 ≤ 140737488355328) := Lib.hid (by omega)
  have hml : Hid ((byteVals l).length = l.length * 1) := Lib.hid (by rw [byteVals_len, Nat.mul_one])
  have B1 : Hid (Below w.heap.size w (w.alloc (.cells #[] 5))) := Lib.hid ((Below.refl _ _).alloc (Nat.le_refl _) _)
  clear hi hz0 hz1 hz2 hp hl
  obtain ⟨M, hM⟩ : ∃ M, M = l.length := ⟨_, rfl⟩
  rw [← hM] at hnil h63 hbs hml hne ⊢
  have HM := Lib.hid hM
  clear hM HV
  go_enter Tryz.func121, Tryz.ntmps121
  go_wp2_with (first | (at_builtin; go_loud (refine wpList_append_own _ rfl _ _ 22 rfl w.heap.size 5 i0 (.int .u8 0) 1 1 Tryz.underlying22 HI.out HZ0.out HZ1.out HZ2.out rfl (by decide) _ 0 [] rfl OW.out ⟨b, o, none⟩ M c (byteVals l) rfl hml.out HNEWS.out (byteVals_one _) h63.out hbs.out B1.out.size ?_)))
  intro v' w6 hown hgrow _
  have HN : Hid (NewBytes w l v' w6) := Lib.hid ⟨by
    have h := hown
    rw [HM.out] at h
    exact h, B1.out.grown hgrow B1.out.size (fun q hq => Nat.le_of_eq (Option.some.inj hq))⟩
  obtain ⟨g, cv, rfl, _, _⟩ := hown.form hne
  clear hown hgrow
  go_wp2
  go_ret
  exact ⟨_, rfl, HN.out⟩
theorem row_mono {w : World} {base base' e size n : Nat} {v : Value} {xs : List Value} (h : w.ownsRow base e size v n xs) (hb : base' ≤ base) : w.ownsRow base' e size v n xs := by
  refine ⟨h.1, ?_⟩
  rcases h.2 with hn | ⟨g, cap, cur, hv, hg, r⟩
  · exact Or.inl hn
  · exact Or.inr ⟨g, cap, cur, hv, Nat.le_trans hb hg, r⟩
theorem NewBytes.after {w w1 w2 : World} {l : List UInt8} {v : Value} (hb : Below w.heap.size w w1) (h : NewBytes w1 l v w2) : NewBytes w l v w2 :=
  ⟨row_mono h.row hb.size, hb.trans (h.below.mono hb.size)⟩
/-! ### Open -/
theorem head60 {B : Nat} {w : World} {p : Option Addr} {c : Nat} {l : List UInt8} (h : BytesIn B w (.slice p 64 c) l) (h64 : l.length = 64) : BytesIn B w (.slice p 60 c) (l.take 60) := by
  have := h.cut 0 60 (by omega) (by omega) p c (by obtain ⟨_, _, hv, hc, _⟩ := h; obtain ⟨_, _, rfl⟩ : p = _ ∧ 64 = l.length ∧ c = _ := (by simpa using hv); omega) (fun b o hp _ => hp)
  rw [List.drop_zero] at this
  exact this
set_option maxHeartbeats 2000000 in
theorem open_ok (B : Nat) (v : Value) (l : List UInt8) (w : World) (hB : B ≤ w.heap.size) (hv : BytesIn B w v l) (h64 : l.length = 64) (heq : closeL (l.take 60) = l) :
    Calls Tryz.prog 160 #[v] w fun e w' => ∃ v', e = .returned (.tuple #[v', .int .i64 0]) ∧ NewBytes w (l.take 60) v' w' := by
  have hv0 := hv
  obtain ⟨p, c, rfl, hcap, hp⟩ := hv
  rw [h64] at hv0 ⊢
  have hpc : 60 ≤ c := by omega
  have HPC := Lib.hid hpc
  have h60 := head60 hv0 h64
  have hl60 : (l.take 60).length = 60 := by rw [List.length_take, h64]; rfl
  have KC := Lib.hid (close_c B _ _ w h60 (by omega))
  have hcl : (closeL (l.take 60)).length = 64 := closeL_len _ (by omega)
  have KE := Lib.hid (fun (u : Value) (w1 : World) (hs : SectorAt w (closeL (l.take 60)) u w1) => equal_c B u (.slice p 64 c) (closeL (l.take 60)) l w1 (hs.bytes hcl) (hv0.step (Step.of hs.below hB)))
  have KB := Lib.hid (fun (w1 : World) (hb : Below w.heap.size w w1) => clone_c B (.slice p 60 c) (l.take 60) w1 (h60.step (Step.of hb hB)) (by omega) (by omega))
  have hee : (closeL (l.take 60) == l) = true := by rw [heq]; exact beq_self_eq_true l
  have HL := Lib.hid hl60
  rw [hee] at KE
  clear hv0 hp h60 hl60 hcl hee heq
  go_enter Tryz.func160, Tryz.ntmps160
  go_wp2_with (first
    | (go_at_call 208; (with_reducible refine KC.out.mono ?_); rintro e w1 ⟨v1, rfl, hs⟩; obtain ⟨g, rfl⟩ := hs.form; have HS := Lib.hid hs; clear hs)
    | (go_at_call 166; (with_reducible refine (KE.out _ _ HS.out).mono ?_); rintro e w2 ⟨rfl, rfl⟩)
    | (go_at_call 121; (with_reducible refine (KB.out _ HS.out.below).mono ?_); rintro e w3 ⟨v3, rfl, hn⟩; have HN := Lib.hid hn; clear hn))
  have hr := HN.out.row
  rw [HL.out] at hr
  obtain ⟨g3, c3, rfl, _, _⟩ := hr.form (by decide)
  refine bodyPost_ret (v := .tuple #[.slice (some ⟨g3, 0, none⟩) 60 c3, .int .i64 0]) (by simp [results, Tryz.results160, go_sem]) rfl ⟨_, rfl, HN.out.after HS.out.below⟩
theorem open_bad (B : Nat) (v : Value) (l : List UInt8) (w : World) (hB : B ≤ w.heap.size) (hv : BytesIn B w v l) (h64 : l.length = 64) (heq : closeL (l.take 60) ≠ l) :
    Calls Tryz.prog 160 #[v] w fun e w' => e = .returned (.tuple #[.slice none 0 0, .int .i64 2]) ∧ Below w.heap.size w w' := by
  have hv0 := hv
  obtain ⟨p, c, rfl, hcap, hp⟩ := hv
  rw [h64] at hv0 ⊢
  have hpc : 60 ≤ c := by omega
  have h60 := head60 hv0 h64
  have hl60 : (l.take 60).length = 60 := by rw [List.length_take, h64]; rfl
  have KC := Lib.hid (close_c B _ _ w h60 (by omega))
  have hcl : (closeL (l.take 60)).length = 64 := closeL_len _ (by omega)
  have KE := Lib.hid (fun (u : Value) (w1 : World) (hs : SectorAt w (closeL (l.take 60)) u w1) => equal_c B u (.slice p 64 c) (closeL (l.take 60)) l w1 (hs.bytes hcl) (hv0.step (Step.of hs.below hB)))
  have hee : (closeL (l.take 60) == l) = false := beq_eq_false_iff_ne.2 heq
  rw [hee] at KE
  clear hv0 hp h60 hl60 hcl hee heq
  go_enter Tryz.func160, Tryz.ntmps160
  go_wp2_with (first
    | (go_at_call 208; (with_reducible refine KC.out.mono ?_); rintro e w1 ⟨v1, rfl, hs⟩; obtain ⟨g, rfl⟩ := hs.form; have HS := Lib.hid hs; clear hs)
    | (go_at_call 166; (with_reducible refine (KE.out _ _ HS.out).mono ?_); rintro e w2 ⟨rfl, rfl⟩))
  go_ret2
  exact ⟨rfl, HS.out.below⟩
/-! ### Numbers out of bytes -/
/-- The number that bytes are. -/
def numOf : Int → List UInt8 → Int
  | n, [] => n
  | n, b :: l => numOf (n * 256 + (b.toNat : Int)) l
theorem numOf_snoc : ∀ (l : List UInt8) (n : Int) (b : UInt8), numOf n (l ++ [b]) = numOf n l * 256 + (b.toNat : Int)
  | [], _, _ => rfl
  | _ :: l, _, b => numOf_snoc l _ b
end Go.Proofs.YtjohhjdicbeojaaGreatDoor.Re
