/- The law ShellCloses, walked. -/
import Derived.Test.YtjohhjdicbeojaaGreatDoorWc
import Derived.Test.YtjohhjdicbeojaaGreatDoorVz
import Derived.Test.YtjohhjdicbeojaaGreatDoorZaj
import Derived.Lib.ConvBytes
namespace Go.Proofs.YtjohhjdicbeojaaGreatDoor.Wd
open Go.RowKit Go.Proofs.YtjohhjdicbeojaaGreatDoor.Ra Go.Proofs.YtjohhjdicbeojaaGreatDoor.Rf Go.Proofs.YtjohhjdicbeojaaGreatDoor.Rj Go.Proofs.YtjohhjdicbeojaaGreatDoor.Rl Go.Proofs.YtjohhjdicbeojaaGreatDoor.Rm Go.Proofs.YtjohhjdicbeojaaGreatDoor.Sq Go.Proofs.YtjohhjdicbeojaaGreatDoor.Ss Go.Proofs.YtjohhjdicbeojaaGreatDoor.St Go.Proofs.YtjohhjdicbeojaaGreatDoor.Su Go.Proofs.YtjohhjdicbeojaaGreatDoor.Va Go.Proofs.YtjohhjdicbeojaaGreatDoor.Vb Go.Proofs.YtjohhjdicbeojaaGreatDoor.Vg Go.Proofs.YtjohhjdicbeojaaGreatDoor.Vo Go.Proofs.YtjohhjdicbeojaaGreatDoor.Vp Go.Proofs.YtjohhjdicbeojaaGreatDoor.Vq Go.Proofs.YtjohhjdicbeojaaGreatDoor.Vr Go.Proofs.YtjohhjdicbeojaaGreatDoor.Vw Go.Proofs.YtjohhjdicbeojaaGreatDoor.Vx Go.Proofs.YtjohhjdicbeojaaGreatDoor.Vz Go.Proofs.YtjohhjdicbeojaaGreatDoor.Wa Go.Proofs.YtjohhjdicbeojaaGreatDoor.Wb Go.Proofs.YtjohhjdicbeojaaGreatDoor.Wc
open Go.Proofs.YtjohhjdicbeojaaGreatDoor.KSb (Env itoa_c)
open Go.Proofs.YtjohhjdicbeojaaGreatDoor.KSg (ActM)
open Go.Proofs.YtjohhjdicbeojaaGreatDoor.KSr (lineL reqL)
open Go.Proofs.YtjohhjdicbeojaaGreatDoor.KSu (mkB I64)
open Go.Proofs.YtjohhjdicbeojaaGreatDoor.KTg (ActIn)
set_option maxRecDepth 8000

theorem conv1 (z : Nat) (hz : z < 256) (w : World) (t : TypeId) :
    (convert 22 9 (.slice (some ⟨w.heap.size, 0, none⟩) 1 1)).run Tryz.prog (w.alloc (.cells #[.int .u8 (z : Int)] t)) = .ok (.string ⟨#[UInt8.ofNat z]⟩) (w.alloc (.cells #[.int .u8 (z : Int)] t)) := by
  have h := run_convert_bytes_back (P := Tryz.prog) (w.alloc (.cells #[.int .u8 (z : Int)] t)) 22 9 5 ⟨w.heap.size, 0, none⟩ 1 [UInt8.ofNat z] (by kernel_rfl) (by kernel_rfl) (by kernel_rfl) (fun j hj => by
    have : j = 0 := by simpa using hj
    subst this
    rw [Lib.add_plain]
    refine (World.cell?_alloc_new w _ t _).trans ?_
    simp [Nat.mod_eq_of_lt hz])
  exact h
theorem number_1 (w : World) : Calls Tryz.prog 9 #[.int .i64 1] w fun e w' => e = .returned (.string ⟨#[49]⟩) ∧ Below w.heap.size w w' := by
  have hc := fun t => conv1 49 (by decide) w t
  rw [show (UInt8.ofNat 49) = 49 from rfl] at hc
  simp only [show ((49 : Nat) : Int) = 49 from rfl] at hc
  have hB : Hid (∀ ob, Below w.heap.size w (w.alloc ob)) := Lib.hid (fun ob => (Below.refl _ _).alloc (Nat.le_refl _) _)
  go_enter Tryz.func9, Tryz.ntmps9
  go_wp2
  go_loopg [0, 3] (1) (fun gg s0 s3 wr => gg = 1 ∧ s0 = .int .i64 1 ∧ s3 = .string ⟨#[49]⟩ ∧ Hid (Below w.heap.size w wr))
  case atStart => exact ⟨rfl, rfl, rfl, Lib.hid (hB.out _)⟩
  case round =>
    obtain ⟨_, rfl, rfl, HR⟩ := hrel
    clear hc
    go_wp2
    go_ret
    exact ⟨rfl, HR.out⟩

theorem err1 : errL 1 = ⟨#[101, 114, 114, 111, 114, 32, 49]⟩ := e1
theorem err11 : errL 11 = ⟨#[101, 114, 114, 111, 114, 32, 49, 49]⟩ := by
  show mkB ([101, 114, 114, 111, 114, 32] ++ Lib.itoa 11) = _
  rw [show Lib.itoa 11 = [49, 49] from by rw [show (11 : Int) = ((11 : Nat) : Int) from rfl, Lib.itoa_nonneg, Lib.decDigits]; simp [Lib.decDigits_one]]
  rfl
theorem okNil : okL [] = ⟨#[111, 107]⟩ := w0

theorem ln_ok (m : ActM) (dv kv : Value) (w : World) (hE : Env w) (h : ActIn w m dv kv) (h1 : m.data.length ≤ 1099511627776) (h2 : m.keep.length ≤ 1099511627776) (hl : (lineL m).2 = true) :
    LnOk (.agg #[.int .i64 m.kind, .int .i64 m.n, .int .i64 m.rk, .int .i64 m.vol, .int .i64 m.block, .int .i64 m.size, dv, kv]) w :=
  fun W hW => (KTh.line_good m dv kv W (hE.below hW) (h.below hW) h1 h2 hl).mono fun _ _ h => ⟨_, h.1, h.2⟩
theorem ln_no (m : ActM) (dv kv : Value) (w : World) (hE : Env w) (h : ActIn w m dv kv) (h1 : m.data.length ≤ 1099511627776) (h2 : m.keep.length ≤ 1099511627776) (hl : (lineL m).2 = false) :
    LnNo (.agg #[.int .i64 m.kind, .int .i64 m.n, .int .i64 m.rk, .int .i64 m.vol, .int .i64 m.block, .int .i64 m.size, dv, kv]) w :=
  fun W hW => KTh.line_none m dv kv W (hE.below hW) (h.below hW) h1 h2 hl

theorem dev_mono {B C : Nat} {w : World} {D S N : Nat} {lv : Value} {d : Dev} (h : DevAt C w D S N lv d) (hBC : B ≤ C) : DevAt B w D S N lv d :=
  { h with baseD := Nat.le_trans hBC h.baseD, baseS := Nat.le_trans hBC h.baseS, baseN := Nat.le_trans hBC h.baseN, loose := ⟨h.loose.1, h.loose.2.imp id fun ⟨g, cap, cur, hv, hg, r⟩ => ⟨g, cap, cur, hv, Nat.le_trans hBC hg, r⟩⟩ }
theorem crash_formed {s b : Int} {d : Dev} (h : Formed s b d) (hs : d.sure = d.now) : Formed s b (crashed d) := by
  refine ⟨rfl, h.big, ?_, ?_, ?_, ?_⟩
  · show secL d.sure 0 = _
    rw [hs]; exact h.z0
  · show secL d.sure 12 = _
    rw [hs]; exact h.h12
  · show secL d.sure 13 = _
    rw [hs]; exact h.l13
  · show secL d.sure 24 = _
    rw [hs]; exact h.z24

/-- The request's box, the shell, the device. -/
structure Cs (B X SH D S N : Nat) (rk v b s : Int) (dv : Value) (pv lv : Value) (d : Dev) (w0 W : World) : Prop where
  box : W.heap[X]? = some (.cells #[.int .i64 rk, .int .i64 v, .int .i64 b, .int .i64 s, dv] 24 (0, 0))
  sh : ShAt W SH D pv
  dev : DevAt B W D S N lv d
  below : Below B w0 W
theorem Cs.later {B X SH D S N : Nat} {rk v b s : Int} {dv pv lv : Value} {d : Dev} {w0 W W' : World} (h : Cs B X SH D S N rk v b s dv pv lv d w0 W) (hb : Below W.heap.size W W') (hB : B ≤ W.heap.size) : Cs B X SH D S N rk v b s dv pv lv d w0 W' :=
  ⟨blk_below h.box hb (lt_of_block h.box), h.sh.below hb, h.dev.later hb, h.below.trans (hb.mono hB)⟩
theorem Cs.size {B X SH D S N : Nat} {rk v b s : Int} {dv pv lv : Value} {d : Dev} {w0 W : World} (h : Cs B X SH D S N rk v b s dv pv lv d w0 W) : B ≤ W.heap.size := h.dev.size
theorem Cs.go {ts : List TypeId} {B X SH D S N : Nat} {rk v b s : Int} {dv pv pv' lv lv' : Value} {d d' : Dev} {w0 W W' : World} (h : Cs B X SH D S N rk v b s dv pv lv d w0 W) (hk : Kept ts B W W') (ht : ts.contains 24 = false) (hs : ShAt W' SH D pv') (hd : DevAt B W' D S N lv' d') : Cs B X SH D S N rk v b s dv pv' lv' d' w0 W' :=
  ⟨hk.at h.box ht, hs, hd, h.below.trans hk.below⟩
theorem Cs.cells {B X SH D S N : Nat} {rk v b s : Int} {dv pv lv : Value} {d : Dev} {w0 W : World} (h : Cs B X SH D S N rk v b s dv pv lv d w0 W) : W.cell? ⟨X, 0, none⟩ = some (.int .i64 rk) ∧ W.cell? ⟨X, 1, none⟩ = some (.int .i64 v) ∧ W.cell? ⟨X, 2, none⟩ = some (.int .i64 b) ∧ W.cell? ⟨X, 3, none⟩ = some (.int .i64 s) ∧ W.cell? ⟨X, 4, none⟩ = some dv :=
  ⟨blk_cell h.box 0, blk_cell h.box 1, blk_cell h.box 2, blk_cell h.box 3, blk_cell h.box 4⟩

theorem below_env {B : Nat} {w0 W : World} (hE : Env w0) (hb : Below B w0 W) (hB : w0.heap.size = B) : Env W := hE.below (by rw [hB]; exact hb)
theorem ln_at {v : Value} {B : Nat} {w0 W : World} (h : LnOk v w0) (hb : Below B w0 W) (hB : w0.heap.size = B) : LnOk v W := h.later (by rw [hB]; exact hb)

abbrev actV (k n rk v b s : Int) (dv kv : Value) : Value := .agg #[.int .i64 k, .int .i64 n, .int .i64 rk, .int .i64 v, .int .i64 b, .int .i64 s, dv, kv]
def dv0 : Dev := newDev 60
def dv1 : Dev := savedDev 6 2 (fmtK (newDev 60) 16)
theorem dv1_formed : Formed 6 2 dv1 := formed (new_whole 60) ⟨rfl, rfl⟩ (by decide) 6 2
theorem dv1_n : 52 ≤ dv1.n := by decide
theorem dv2_formed : Formed 6 2 (crashed dv1) := crash_formed dv1_formed rfl

/-- What the steps do, in any world behind the first. -/
structure Cw (B X SH D S N : Nat) (rk v b s pick : Int) (p1 p3 : Option Addr) (l1 c1 l3 c3 : Nat) (w0 : World) : Prop where
  req : ∀ (lv : Value) (d : Dev) W, Cs B X SH D S N rk v b s (.slice p1 l1 c1) (.pointer none) lv d w0 W → Calls Tryz.prog 8 #[.pointer (some ⟨SH, 0, none⟩), actV 5 0 rk v b s (.slice p1 l1 c1) (.slice none 0 0)] W fun e w' => e = .returned (.string ⟨#[101, 114, 114, 111, 114, 32, 49]⟩) ∧ Cs B X SH D S N rk v b s (.slice p1 l1 c1) (.pointer none) lv d w0 w'
  lat : ∀ (lv : Value) (d : Dev) W, Cs B X SH D S N rk v b s (.slice p1 l1 c1) (.pointer none) lv d w0 W → Calls Tryz.prog 8 #[.pointer (some ⟨SH, 0, none⟩), actV 3 0 rk v b s (.slice p1 l1 c1) (.slice none 0 0)] W fun e w' => e = .returned (.string ⟨#[101, 114, 114, 111, 114, 32, 49]⟩) ∧ Cs B X SH D S N rk v b s (.slice p1 l1 c1) (.pointer none) lv d w0 w'
  stp : ∀ (lv : Value) (d : Dev) W, Cs B X SH D S N rk v b s (.slice p1 l1 c1) (.pointer none) lv d w0 W → Calls Tryz.prog 8 #[.pointer (some ⟨SH, 0, none⟩), actV 4 pick 0 0 0 0 (.slice none 0 0) (.slice none 0 0)] W fun e w' => e = .returned (.string ⟨#[101, 114, 114, 111, 114, 32, 49]⟩) ∧ Cs B X SH D S N rk v b s (.slice p1 l1 c1) (.pointer none) lv d w0 w'
  opn : ∀ (lv : Value) W, Cs B X SH D S N rk v b s (.slice p1 l1 c1) (.pointer none) lv dv0 w0 W → Calls Tryz.prog 8 #[.pointer (some ⟨SH, 0, none⟩), actV 2 0 0 0 0 0 (.slice none 0 0) (.slice none 0 0)] W fun e w' => e = .returned (.string ⟨#[101, 114, 114, 111, 114, 32, 49, 49]⟩) ∧ Cs B X SH D S N rk v b s (.slice p1 l1 c1) (.pointer none) lv dv0 w0 w'
  fmt : ∀ W, Cs B X SH D S N rk v b s (.slice p1 l1 c1) (.pointer none) (.slice none 0 0) dv0 w0 W → Calls Tryz.prog 8 #[.pointer (some ⟨SH, 0, none⟩), actV 1 0 0 0 2 6 (.slice none 0 0) (.slice none 0 0)] W fun e w' => (∃ x, e = .returned (.string x)) ∧ ∃ lv, Cs B X SH D S N rk v b s (.slice p1 l1 c1) (.pointer none) lv dv1 w0 w'
  op1 : ∀ (lv : Value) W, Cs B X SH D S N rk v b s (.slice p1 l1 c1) (.pointer none) lv dv1 w0 W → Calls Tryz.prog 8 #[.pointer (some ⟨SH, 0, none⟩), actV 2 0 0 0 0 0 (.slice none 0 0) (.slice none 0 0)] W fun e w' => e = .returned (.string ⟨#[111, 107]⟩) ∧ ∃ P, Cs B X SH D S N rk v b s (.slice p1 l1 c1) (.pointer (some ⟨P, 0, none⟩)) lv dv1 w0 w'
  crs : ∀ (P : Nat) (lv : Value) W, Cs B X SH D S N rk v b s (.slice p1 l1 c1) (.pointer (some ⟨P, 0, none⟩)) lv dv1 w0 W → Calls Tryz.prog 8 #[.pointer (some ⟨SH, 0, none⟩), actV 7 0 0 0 0 0 (.slice none 0 0) (.slice p3 l3 c3)] W fun e w' => e = .returned (.string ⟨#[111, 107]⟩) ∧ ∃ lv', Cs B X SH D S N rk v b s (.slice p1 l1 c1) (.pointer none) lv' (crashed dv1) w0 w'
  op2 : ∀ (lv : Value) W, Cs B X SH D S N rk v b s (.slice p1 l1 c1) (.pointer none) lv (crashed dv1) w0 W → Calls Tryz.prog 8 #[.pointer (some ⟨SH, 0, none⟩), actV 2 0 0 0 0 0 (.slice none 0 0) (.slice none 0 0)] W fun e w' => e = .returned (.string ⟨#[111, 107]⟩) ∧ ∃ P, Cs B X SH D S N rk v b s (.slice p1 l1 c1) (.pointer (some ⟨P, 0, none⟩)) lv (crashed dv1) w0 w'

theorem line0 {k n b s : Int} {w0 : World} (hE : Env w0) (hn : I64 n) (hb : I64 b) (hs : I64 s) (hl : (lineL ⟨k, n, 0, 0, b, s, [], []⟩).2 = true) : LnOk (actV k n 0 0 b s (.slice none 0 0) (.slice none 0 0)) w0 :=
  fun W hW => line_act k n 0 0 b s hn (i64_small _ (by decide) (by decide)) hb hs hl W (hE.below hW)
theorem i64_0 : I64 0 := i64_small 0 (by decide) (by decide)

theorem cw_of {B X SH D S N : Nat} {rk v b s pick : Int} {p1 p3 : Option Addr} {l1 c1 l3 c3 : Nat} {w0 : World} (hB : w0.heap.size = B) (hBS : B ≤ SH) (hE : Env w0) (hp : I64 pick)
    (hr : LnOk (actV 5 0 rk v b s (.slice p1 l1 c1) (.slice none 0 0)) w0) (hr3 : LnOk (actV 3 0 rk v b s (.slice p1 l1 c1) (.slice none 0 0)) w0) (hk : LnOk (actV 7 0 0 0 0 0 (.slice none 0 0) (.slice p3 l3 c3)) w0) : Cw B X SH D S N rk v b s pick p1 p3 l1 c1 l3 c3 w0 := by
  have EO : ∀ W, Below B w0 W → EnvOn B W := fun W hb W' hb' => below_env hE (hb.trans hb') hB
  have L2 := line0 (k := 2) (n := 0) (b := 0) (s := 0) hE i64_0 i64_0 i64_0 rfl
  refine ⟨?_, ?_, ?_, ?_, ?_, ?_, ?_, ?_⟩
  · intro lv d W h
    refine (cdo_req rk v b s p1 l1 c1 h.sh (below_env hE h.below hB) (ln_at hr h.below hB)).mono ?_
    rintro e w' ⟨rfl, hb⟩
    exact ⟨by rw [err1], h.later hb h.size⟩
  · intro lv d W h
    refine (cdo_later rk v b s p1 l1 c1 h.sh (below_env hE h.below hB) (ln_at hr3 h.below hB)).mono ?_
    rintro e w' ⟨rfl, hb⟩
    exact ⟨by rw [err1], h.later hb h.size⟩
  · intro lv d W h
    refine (cdo_step pick h.sh (below_env hE h.below hB) (ln_at (line0 (k := 4) hE hp i64_0 i64_0 rfl) h.below hB)).mono ?_
    rintro e w' ⟨rfl, hb⟩
    exact ⟨by rw [err1], h.later hb h.size⟩
  · intro lv W h
    refine (cdo_open h.sh hBS h.dev (blank_new 60 (by decide)) (EO W h.below) h.size (ln_at L2 h.below hB)).mono ?_
    rintro e w' ⟨rfl, hs, hk⟩
    exact ⟨by rw [err11], h.go hk (by rfl) hs (Vx.DevAt.kept h.dev hk (by rfl) (by rfl) (by rfl))⟩
  · intro W h
    refine (sdo_format h.sh h.dev (EO W h.below) h.size).mono ?_
    rintro e w' ⟨rfl, hs, ⟨lv, hd⟩, hk⟩
    exact ⟨⟨_, rfl⟩, lv, h.go hk (by rfl) hs hd⟩
  · intro lv W h
    refine (sdo_open h.sh hBS h.dev dv1_formed dv1_n (EO W h.below) h.size).mono ?_
    rintro e w' ⟨rfl, ⟨P, G, R, x, hs, -⟩, hk⟩
    exact ⟨by rw [okNil], P, h.go hk (by rfl) hs (Vx.DevAt.kept h.dev hk (by rfl) (by rfl) (by rfl))⟩
  · intro P lv W h
    refine (cdo_crash p3 l3 c3 h.sh hBS h.dev rfl (EO W h.below) h.size (ln_at hk h.below hB)).mono ?_
    rintro e w' ⟨rfl, hs, hd, hk⟩
    exact ⟨by rw [okNil], _, h.go hk (by rfl) hs hd⟩
  · intro lv W h
    refine (sdo_open h.sh hBS h.dev dv2_formed dv1_n (EO W h.below) h.size).mono ?_
    rintro e w' ⟨rfl, ⟨P, G, R, x, hs, -⟩, hk⟩
    exact ⟨by rw [okNil], P, h.go hk (by rfl) hs (Vx.DevAt.kept h.dev hk (by rfl) (by rfl) (by rfl))⟩
end Go.Proofs.YtjohhjdicbeojaaGreatDoor.Wd
