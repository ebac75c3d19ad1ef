/- revive.Format. -/
import Derived.Test.YthhgageghkbjjaaGreatSs
namespace Go.Proofs.YthhgageghkbjjaaGreat.St
open Go.RowKit Go.Proofs.YthhgageghkbjjaaGreat.Ra Go.Proofs.YthhgageghkbjjaaGreat.Rc Go.Proofs.YthhgageghkbjjaaGreat.Re Go.Proofs.YthhgageghkbjjaaGreat.Rf Go.Proofs.YthhgageghkbjjaaGreat.Rg Go.Proofs.YthhgageghkbjjaaGreat.Rh Go.Proofs.YthhgageghkbjjaaGreat.Ri Go.Proofs.YthhgageghkbjjaaGreat.Rj Go.Proofs.YthhgageghkbjjaaGreat.Rk Go.Proofs.YthhgageghkbjjaaGreat.Rl Go.Proofs.YthhgageghkbjjaaGreat.Rn Go.Proofs.YthhgageghkbjjaaGreat.Ro Go.Proofs.YthhgageghkbjjaaGreat.Rp Go.Proofs.YthhgageghkbjjaaGreat.Rq Go.Proofs.YthhgageghkbjjaaGreat.Sf Go.Proofs.YthhgageghkbjjaaGreat.Sg Go.Proofs.YthhgageghkbjjaaGreat.Sj Go.Proofs.YthhgageghkbjjaaGreat.Ss
set_option maxRecDepth 8000

set_option maxHeartbeats 4000000 in
theorem format_nil (s b : Int) (w : World) : Calls Tryz.prog 9 #[.pointer none, .agg #[.int .i64 s, .int .i64 b]] w fun e w' => e = .returned (.int .i64 1) ∧ Below w.heap.size w w' := by
  have hbx := blk_new w #[.int .i64 s, .int .i64 b] 23
  have hb0 : Below w.heap.size w (w.alloc (.cells #[.int .i64 s, .int .i64 b] 23)) := (Below.refl _ _).alloc (Nat.le_refl _) _
  obtain ⟨w0, hw0⟩ : ∃ W, W = w.alloc (.cells #[.int .i64 s, .int .i64 b] 23) := ⟨_, rfl⟩
  rw [← hw0] at hbx hb0
  have p0 : w0.cell? ⟨w.heap.size, 0, none⟩ = some (.int .i64 s) := blk_cell hbx 0
  have p1 : w0.cell? ⟨w.heap.size, 1, none⟩ = some (.int .i64 b) := blk_cell hbx 1
  have HB0 := Lib.hid hb0
  by_cases hm : MayP s b
  · have KS := Lib.hid (sectors_c s b hm w0)
    clear hbx hb0
    go_enter Tryz.func9, Tryz.ntmps9
    go_upto_region 1 with fail
    rw [← hw0]
    clear hw0
    go_wp2_with (go_at_call 19; (with_reducible refine KS.out.mono ?_); rintro e w1 ⟨rfl, hb1⟩; have HB1 := Lib.hid (HB0.out.trans (hb1.mono HB0.out.size)); clear hb1)
    go_ret
    exact ⟨rfl, HB1.out⟩
  · have KS := Lib.hid (sectors_bad s b hm w0)
    clear hbx hb0
    go_enter Tryz.func9, Tryz.ntmps9
    go_upto_region 1 with fail
    rw [← hw0]
    clear hw0
    go_wp2_with (go_at_call 19; (with_reducible refine KS.out.mono ?_); rintro e w1 ⟨rfl, hb1⟩; have HB1 := Lib.hid (HB0.out.trans (hb1.mono HB0.out.size)); clear hb1)
    go_ret
    exact ⟨rfl, HB1.out⟩

set_option maxHeartbeats 4000000 in
theorem format_bad (D : Nat) (s b : Int) (hm : ¬ MayP s b) (w : World) : Calls Tryz.prog 9 #[.pointer (some ⟨D, 0, none⟩), .agg #[.int .i64 s, .int .i64 b]] w fun e w' => e = .returned (.int .i64 1) ∧ Below w.heap.size w w' := by
  have hbx := blk_new w #[.int .i64 s, .int .i64 b] 23
  have hb0 : Below w.heap.size w (w.alloc (.cells #[.int .i64 s, .int .i64 b] 23)) := (Below.refl _ _).alloc (Nat.le_refl _) _
  obtain ⟨w0, hw0⟩ : ∃ W, W = w.alloc (.cells #[.int .i64 s, .int .i64 b] 23) := ⟨_, rfl⟩
  rw [← hw0] at hbx hb0
  have p0 : w0.cell? ⟨w.heap.size, 0, none⟩ = some (.int .i64 s) := blk_cell hbx 0
  have p1 : w0.cell? ⟨w.heap.size, 1, none⟩ = some (.int .i64 b) := blk_cell hbx 1
  have HB0 := Lib.hid hb0
  have KS := Lib.hid (sectors_bad s b hm w0)
  clear hbx hb0
  go_enter Tryz.func9, Tryz.ntmps9
  go_upto_region 1 with fail
  rw [← hw0]
  clear hw0
  go_wp2_with (go_at_call 19; (with_reducible refine KS.out.mono ?_); rintro e w1 ⟨rfl, hb1⟩; have HB1 := Lib.hid (HB0.out.trans (hb1.mono HB0.out.size)); clear hb1)
  go_ret
  exact ⟨rfl, HB1.out⟩

set_option maxHeartbeats 4000000 in
theorem format_small {B : Nat} {w : World} {D S N : Nat} {lv : Value} {d : Dev} {s b : Int} (hm : MayP s b) (h : DevAt B w D S N lv d) (hn : (d.n : Int) < 40 + s * b) :
    Calls Tryz.prog 9 #[.pointer (some ⟨D, 0, none⟩), .agg #[.int .i64 s, .int .i64 b]] w fun e w' => e = .returned (.int .i64 9) ∧ Below w.heap.size w w' := by
  have hbx := blk_new w #[.int .i64 s, .int .i64 b] 23
  have hb0 : Below w.heap.size w (w.alloc (.cells #[.int .i64 s, .int .i64 b] 23)) := (Below.refl _ _).alloc (Nat.le_refl _) _
  obtain ⟨w0, hw0⟩ : ∃ W, W = w.alloc (.cells #[.int .i64 s, .int .i64 b] 23) := ⟨_, rfl⟩
  rw [← hw0] at hbx hb0
  have p0 : w0.cell? ⟨w.heap.size, 0, none⟩ = some (.int .i64 s) := blk_cell hbx 0
  have p1 : w0.cell? ⟨w.heap.size, 1, none⟩ = some (.int .i64 b) := blk_cell hbx 1
  have HB0 := Lib.hid hb0
  have KS := Lib.hid (sectors_c s b hm w0)
  have KZ := Lib.hid (fun (W : World) (hb : Below w.heap.size w W) => size_c (h.later hb))
  clear hbx hb0 h
  generalize s * b = m at *
  generalize (d.n : Int) = n at *
  go_enter Tryz.func9, Tryz.ntmps9
  go_upto_region 1 with fail
  rw [← hw0]
  clear hw0
  go_wp2_with (first
    | (go_at_call 19; (with_reducible refine KS.out.mono ?_); rintro e w1 ⟨rfl, hb1⟩; have HB1 := Lib.hid (HB0.out.trans (hb1.mono HB0.out.size)); clear hb1)
    | (go_at_call 15; (with_reducible refine (KZ.out _ HB1.out).mono ?_); rintro e w2 ⟨rfl, rfl⟩))
  go_ret
  exact ⟨rfl, HB1.out⟩

theorem make64 (W : World) : (Instr.makeSlice 44 (.int .i64 64) (.int .i64 64)).run Tryz.prog W = .ok (.slice (some ⟨W.heap.size, 0, none⟩) 64 64) (W.alloc (.cells (zeroVals 64).toArray 5)) := by kernel_rfl
def z64 : List UInt8 := List.replicate 64 0
/-- A write of zeros. -/
def wz (a : Nat) : Wr := ⟨(a : Int), .slice none 0 0, z64⟩
def fmt0 (d : Dev) : Dev := flushed (putAll d [wz 0, wz 12])
def fmtK (d : Dev) : Nat → Dev
  | 0 => fmt0 d
  | k + 1 => putAll (fmtK d k) [wz (24 + k)]
theorem fmtK_on {d : Dev} (h : OnDev d) : ∀ k, OnDev (fmtK d k)
  | 0 => ⟨h.off, h.after⟩
  | k + 1 => putAll_on (fmtK_on h k) _
theorem fmtK_n (d : Dev) : ∀ k, (fmtK d k).n = d.n
  | 0 => rfl
  | k + 1 => fmtK_n d k
theorem fmtK_loose (d : Dev) : ∀ k, (fmtK d k).loose.length = k
  | 0 => rfl
  | k + 1 => by
    show ((fmtK d k).loose ++ _).length = k + 1
    rw [List.length_append, fmtK_loose d k]
    rfl
theorem wr_two {B : Nat} {w : World} {a c : Int} {v : Value} {l : List UInt8} (hB : B ≤ w.heap.size) (h : BytesIn B w v l) : WritesIn B (w.alloc (.cells #[.int .i64 a, v, .int .i64 c, v] 46)) (.slice (some ⟨w.heap.size, 0, none⟩) 2 2) [⟨a, v, l⟩, ⟨c, v, l⟩] := by
  have hb := blk_new w #[.int .i64 a, v, .int .i64 c, v] 46
  refine ⟨⟨_, _, rfl, fun _ => ⟨_, 0, rfl, lt_of_block hb, .inr ⟨_, hb, rfl⟩, fun j x hj => ?_⟩⟩, fun x hx => ?_⟩
  · match j, hj with
    | 0, hj =>
      obtain rfl := Option.some.inj hj
      exact ⟨blk_cell hb 0, blk_cell hb 1⟩
    | 1, hj =>
      obtain rfl := Option.some.inj hj
      exact ⟨blk_cell hb 2, blk_cell hb 3⟩
  · have hx' : x.v = v ∧ x.l = l := by
      simp only [List.mem_cons, List.not_mem_nil, or_false] at hx
      rcases hx with rfl | rfl <;> exact ⟨rfl, rfl⟩
    rw [hx'.1, hx'.2]
    exact h.step ((Step.refl B w).alloc hB _)
/-- Zeros, in a block. -/
def ZB (z : Nat) (W : World) : Prop := W.heap[z]? = some (.cells (zeroVals 64).toArray 5 (0, 0))
theorem ZB.bytes {B z : Nat} {W : World} (h : ZB z W) : BytesIn B W (.slice (some ⟨z, 0, none⟩) 64 64) z64 := bytes_of_blk h rfl (Nat.le_refl _) (by unfold z64; rw [byteVals_rep, List.length_replicate]; simp [zeroVals])

set_option maxHeartbeats 4000000 in
theorem format_c {B : Nat} {w : World} {D S N : Nat} {lv : Value} {d : Dev} {s b : Int} (hm : MayP s b) (h : DevAt B w D S N lv d) (hd : OnDev d) (hn : 40 + s * b ≤ (d.n : Int)) (hfew : d.loose.length + 2 ≤ 100000) :
    Calls Tryz.prog 9 #[.pointer (some ⟨D, 0, none⟩), .agg #[.int .i64 s, .int .i64 b]] w fun e w' => e = .returned (.int .i64 0) ∧ (∃ lv', DevAt B w' D S N lv' (savedDev s b (fmtK d 16))) ∧ Step B w w' := by
  have hB := h.size
  have hbx := blk_new w #[.int .i64 s, .int .i64 b] 23
  have hb0 : Below w.heap.size w (w.alloc (.cells #[.int .i64 s, .int .i64 b] 23)) := (Below.refl _ _).alloc (Nat.le_refl _) _
  obtain ⟨w0, hw0⟩ : ∃ W, W = w.alloc (.cells #[.int .i64 s, .int .i64 b] 23) := ⟨_, rfl⟩
  rw [← hw0] at hbx hb0
  have p0 : w0.cell? ⟨w.heap.size, 0, none⟩ = some (.int .i64 s) := blk_cell hbx 0
  have p1 : w0.cell? ⟨w.heap.size, 1, none⟩ = some (.int .i64 b) := blk_cell hbx 1
  have HB0 := Lib.hid hb0
  have HBX := Lib.hid hbx
  have hsb : 12 ≤ s * b := by
    obtain ⟨h1, _, h3, _⟩ := hm
    have := Int.mul_le_mul h1 h3 (by decide) (by omega)
    omega
  have hn52 : 52 ≤ d.n := by omega
  have KS := Lib.hid (sectors_c s b hm w0)
  have KZ := Lib.hid (fun (W : World) (hb : Below w.heap.size w W) => size_c (h.later hb))
  have KP0 := Lib.hid (fun (W : World) (v : Value) (z : Nat) (hW : DevAt B W D S N lv d) (hw : WritesIn B W v [⟨0, .slice (some ⟨z, 0, none⟩) 64 64, z64⟩, ⟨12, .slice (some ⟨z, 0, none⟩) 64 64, z64⟩]) => (by
    have k := Rj.put_c hW hd v _ hw (fun x hx => by
     simp only [List.mem_cons, List.not_mem_nil, or_false] at hx
     rcases hx with rfl | rfl
     · exact ⟨rfl, by show (0 : Int) ≤ 0; decide, by show (0 : Int) < (d.n : Int); omega⟩
     · exact ⟨rfl, by show (0 : Int) ≤ 12; decide, by show (12 : Int) < (d.n : Int); omega⟩) hfew
    exact k : Calls Tryz.prog 11 #[.pointer (some ⟨D, 0, none⟩), v] W fun e w' => e = .returned (.int .i64 0) ∧ (∃ lv', DevAt B w' D S N lv' (putAll d [wz 0, wz 12])) ∧ Step B W w'))
  have KF0 := Lib.hid (fun (W : World) (lv : Value) (hW : DevAt B W D S N lv (putAll d [wz 0, wz 12])) => (flush_c hW ⟨hd.off, hd.after⟩ : Calls Tryz.prog 25 #[.pointer (some ⟨D, 0, none⟩)] W fun e w' => e = .returned (.int .i64 0) ∧ DevAt B w' D S N (.slice none 0 0) (fmtK d 0) ∧ Step B W w'))
  have KPK := Lib.hid (fun (W : World) (v : Value) (z k : Nat) (lv : Value) (hk : k < 16) (hW : DevAt B W D S N lv (fmtK d k)) (hw : WritesIn B W v [⟨24 + (k : Int), .slice (some ⟨z, 0, none⟩) 64 64, z64⟩]) => (by
    rw [show (24 : Int) + (k : Int) = ((24 + k : Nat) : Int) from by omega] at hw
    have k := Rj.put_c hW (fmtK_on hd k) v _ hw (fun x hx => by
     obtain rfl : x = ⟨((24 + k : Nat) : Int), .slice (some ⟨z, 0, none⟩) 64 64, z64⟩ := by simpa using hx
     exact ⟨rfl, by show (0 : Int) ≤ ((24 + k : Nat) : Int); omega, by show ((24 + k : Nat) : Int) < ((fmtK d k).n : Int); rw [fmtK_n]; omega⟩) (by rw [fmtK_loose]; show k + 1 ≤ 100000; omega)
    exact k : Calls Tryz.prog 11 #[.pointer (some ⟨D, 0, none⟩), v] W fun e w' => e = .returned (.int .i64 0) ∧ (∃ lv', DevAt B w' D S N lv' (fmtK d (k + 1))) ∧ Step B W w'))
  have KV := Lib.hid (fun (W : World) (lv : Value) (hW : DevAt B W D S N lv (fmtK d 16)) => save_c hm hW (fmtK_on hd 16) (by rw [fmtK_n]; omega) (by rw [fmtK_loose]; decide))
  have HDL := Lib.hid (fun (W : World) (hb : Below w.heap.size w W) => h.later hb)
  have HBW := Lib.hid hB
  have hmk := make64
  have hge : ¬ (d.n : Int) < 40 + s * b := by omega
  clear hbx hb0 h hsb hn hd hm hfew hn52 hB
  generalize s * b = m at *
  generalize (d.n : Int) = n at *
  go_enter Tryz.func9, Tryz.ntmps9
  go_upto_region 1 with fail
  rw [← hw0]
  clear hw0
  go_upto_region 6 with (first
    | (go_at_call 19; (with_reducible refine KS.out.mono ?_); rintro e w1 ⟨rfl, hb1⟩; have HB1 := Lib.hid (HB0.out.trans (hb1.mono HB0.out.size)); have HBX1 := Lib.hid (blk_below HBX.out hb1 (lt_of_block HBX.out)); clear hb1)
    | (go_at_call 15; (with_reducible refine (KZ.out _ HB1.out).mono ?_); rintro e w2 ⟨rfl, rfl⟩))
  go_upto_region 7 with (fail)
  obtain ⟨w2, hw2⟩ : ∃ W, W = w1.alloc (.cells (zeroVals 64).toArray 5) := ⟨_, rfl⟩
  have hz2 : ZB w1.heap.size w2 := by rw [hw2]; exact blk_new _ _ _
  have hb2 : Below w1.heap.size w1 w2 := by rw [hw2]; exact (Below.refl _ _).alloc (Nat.le_refl _) _
  have HB2 := Lib.hid (HB1.out.trans (hb2.mono HB1.out.size))
  have HBX2 := Lib.hid (blk_below HBX1.out hb2 (lt_of_block HBX1.out))
  have HZ2 := Lib.hid hz2
  rw [← hw2]
  clear hw2 hb2 hz2 p0 p1
  generalize w1.heap.size = Z at *
  have HD2 := Lib.hid (HDL.out _ HB2.out)
  have HDa : Hid (DevAt B (w2.alloc (.cells #[.int .i64 0, .slice (some ⟨Z, 0, none⟩) 64 64, .int .i64 12, .slice (some ⟨Z, 0, none⟩) 64 64] 46)) D S N lv d) := Lib.hid (HD2.out.later ((Below.refl _ _).alloc (Nat.le_refl _) _))
  have HWa := Lib.hid (wr_two (a := 0) (c := 12) HD2.out.size (ZB.bytes (B := B) HZ2.out))
  have HSa : Hid (Step B w (w2.alloc (.cells #[.int .i64 0, .slice (some ⟨Z, 0, none⟩) 64 64, .int .i64 12, .slice (some ⟨Z, 0, none⟩) 64 64] 46))) := Lib.hid ((Step.of HB2.out HBW.out).trans ((Step.refl B w2).alloc HD2.out.size _))
  have HKa : Hid (ZB Z (w2.alloc (.cells #[.int .i64 0, .slice (some ⟨Z, 0, none⟩) 64 64, .int .i64 12, .slice (some ⟨Z, 0, none⟩) 64 64] 46)) ∧ (w2.alloc (.cells #[.int .i64 0, .slice (some ⟨Z, 0, none⟩) 64 64, .int .i64 12, .slice (some ⟨Z, 0, none⟩) 64 64] 46)).heap[w.heap.size]? = some (.cells #[.int .i64 s, .int .i64 b] 23 (0, 0))) := Lib.hid ⟨blk_old HZ2.out _, blk_old HBX2.out _⟩
  go_upto_region 13 with (first
    | (go_at_call 11; (with_reducible refine (KP0.out _ _ _ HDa.out HWa.out).mono ?_); rintro e w3 ⟨rfl, ⟨lv3, hd3⟩, hs3⟩; have HD3 := Lib.hid hd3; have HS3 := Lib.hid (And.intro (HSa.out.trans hs3) (And.intro (hs3.kept _ _ HKa.out.1 rfl) (hs3.kept _ _ HKa.out.2 rfl))); clear hd3 hs3)
    | (go_at_call 25; (with_reducible refine (KF0.out _ _ HD3.out).mono ?_); rintro e w4 ⟨rfl, hd4, hs4⟩; have HD4 := Lib.hid hd4; have HS4 := Lib.hid (And.intro (HS3.out.1.trans hs4) (And.intro (hs4.kept _ _ HS3.out.2.1 rfl) (hs4.kept _ _ HS3.out.2.2 rfl))); clear hd4 hs4))
  go_wp2_with (fail)
  go_loopg [45] (17) (fun gg s45 wr => ∃ k : Nat, k ≤ 16 ∧ 16 - k < gg ∧ s45 = .int .i64 (k : Int) ∧ Hid ((∃ lv', DevAt B wr D S N lv' (fmtK d k)) ∧ Step B w wr ∧ ZB Z wr ∧ wr.heap[w.heap.size]? = some (.cells #[.int .i64 s, .int .i64 b] 23 (0, 0))))
  case atStart => exact ⟨0, by omega, by omega, rfl, Lib.hid ⟨⟨_, HD4.out⟩, HS4.out⟩⟩
  case round =>
    obtain ⟨k, hk, hgg, rfl, HR⟩ := hrel
    obtain ⟨lvk, hdk⟩ := HR.out.1
    have HDk := Lib.hid hdk
    by_cases hlt : k < 16
    · have hil : (k : Int) < 16 := by omega
      have HDa : Hid (DevAt B (wr.alloc (.cells #[.int .i64 (24 + (k : Int)), .slice (some ⟨Z, 0, none⟩) 64 64] 46)) D S N lvk (fmtK d k)) := Lib.hid (HDk.out.later ((Below.refl _ _).alloc (Nat.le_refl _) _))
      have HWa := Lib.hid (wr_one (at_ := 24 + (k : Int)) HDk.out.size (ZB.bytes (B := B) HR.out.2.2.1))
      have HSa : Hid (Step B wr (wr.alloc (.cells #[.int .i64 (24 + (k : Int)), .slice (some ⟨Z, 0, none⟩) 64 64] 46))) := Lib.hid ((Step.refl B wr).alloc HDk.out.size _)
      go_wp2_with (go_at_call 11; (with_reducible refine (KPK.out _ _ _ k _ hlt HDa.out HWa.out).mono ?_); rintro e w5 ⟨rfl, hd5, hs5⟩; have hs6 := HSa.out.trans hs5; have HR5 := Lib.hid (And.intro hd5 (And.intro (HR.out.2.1.trans hs6) (And.intro (hs6.kept _ _ HR.out.2.2.1 rfl) (hs6.kept _ _ HR.out.2.2.2 rfl)))); clear hd5 hs5 hs6)
      go_roundg (16 - (k + 1) + 1)
      case measure => omega
      case rel => exact ⟨k + 1, by omega, by omega, by go_num, HR5⟩
    · have hil : ¬ (k : Int) < 16 := by omega
      obtain rfl : k = 16 := by omega
      have r0 : wr.cell? ⟨w.heap.size, 0, none⟩ = some (.int .i64 s) := blk_cell HR.out.2.2.2 0
      have r1 : wr.cell? ⟨w.heap.size, 1, none⟩ = some (.int .i64 b) := blk_cell HR.out.2.2.2 1
      go_wp2_with (go_at_call 26; (refine (KV.out _ _ HDk.out).mono ?_); rintro e w5 ⟨rfl, hd5, hs5⟩; have HR5 := Lib.hid (And.intro hd5 (HR.out.2.1.trans hs5)); clear hd5 hs5)
      go_ret
      exact ⟨rfl, HR5.out.1, HR5.out.2⟩
end Go.Proofs.YthhgageghkbjjaaGreat.St
