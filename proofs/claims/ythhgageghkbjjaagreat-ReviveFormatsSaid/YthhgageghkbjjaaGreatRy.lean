/- The walks of spool, where there is no delta. -/
import Derived.Test.YthhgageghkbjjaaGreatRx
namespace Go.Proofs.YthhgageghkbjjaaGreat.Ry
open Go.RowKit Go.Proofs.YthhgageghkbjjaaGreat.Ra Go.Proofs.YthhgageghkbjjaaGreat.Rc Go.Proofs.YthhgageghkbjjaaGreat.Re Go.Proofs.YthhgageghkbjjaaGreat.Rf Go.Proofs.YthhgageghkbjjaaGreat.Rg Go.Proofs.YthhgageghkbjjaaGreat.Rj Go.Proofs.YthhgageghkbjjaaGreat.Rp Go.Proofs.YthhgageghkbjjaaGreat.Rv Go.Proofs.YthhgageghkbjjaaGreat.Rw Go.Proofs.YthhgageghkbjjaaGreat.Rx
set_option maxRecDepth 8000

set_option maxHeartbeats 1000000 in
theorem sread_bad (B : Nat) (v : Value) (l : List UInt8) (s n : Int) (w : World) (hB : B ≤ w.heap.size) (hv : BytesIn B w v l) (h64 : l.length = 64) (heq : closeL (l.take 60) ≠ l) :
    Calls Tryz.prog 42 #[v, .int .i64 s, .int .i64 n] w fun e w' => e = .returned (.tuple #[.slice none 0 0, .bool false]) ∧ Below w.heap.size w w' := by
  have K := Lib.hid (open_bad B v l w hB hv h64 heq)
  obtain ⟨p, c, rfl, _⟩ := hv.form
  clear hv
  rw [h64] at K ⊢
  clear heq h64
  go_enter Tryz.func42, Tryz.ntmps42
  go_wp2_with (first
    | (go_at_call 60; (with_reducible refine K.out.mono ?_); rintro e w1 ⟨rfl, hb1⟩; have HB1 := Lib.hid hb1; clear hb1)
    | go_quiet (fail))
  go_ret2
  exact ⟨rfl, HB1.out⟩

set_option maxHeartbeats 2000000 in
theorem sload_c {B : Nat} {w : World} {D S N : Nat} {lv : Value} {d : Dev} (h : DevAt B w D S N lv d) (hd : d.off = false) (hn : 24 < d.n) (hz : secL d.now 24 = List.replicate 64 0) :
    Calls Tryz.prog 20 #[.pointer (some ⟨D, 0, none⟩), .int .i64 1] w fun e w' => e = .returned (.tuple #[.slice none 0 0, .int .i64 0, .int .i64 0]) ∧ Below w.heap.size w w' := by
  have hg := get_c h hd 24 hn
  rw [hz, show ((24 : Nat) : Int) = 24 from rfl] at hg
  have KG := Lib.hid hg
  have KR := Lib.hid (fun (W : World) (u : Value) (hu : BytesIn 0 W u (List.replicate 64 (0 : UInt8))) => sread_bad 0 u _ 1 0 W (Nat.zero_le _) hu (List.length_replicate) zeros_bad)
  clear hg h hd hn hz
  go_enter Tryz.func20, Tryz.ntmps20
  go_wp2
  go_loopg [7, 8, 23] (1) (fun gg s7 _ s23 wr => s7 = .slice none 0 0 ∧ s23 = .int .i64 0 ∧ gg = 1 ∧ wr = w)
  case atStart => exact ⟨rfl, rfl, rfl, rfl⟩
  case round =>
    obtain ⟨rfl, rfl, _, rfl⟩ := hrel
    go_wp2_with (first
      | (go_at_call 41; (with_reducible refine KG.out.mono ?_); rintro e w1 ⟨v1, rfl, hn1⟩; have HN1 := Lib.hid hn1; clear hn1)
      | (go_at_call 42; (with_reducible refine (KR.out _ _ HN1.out.bytes).mono ?_); rintro e w2 ⟨rfl, hb2⟩; have HB2 := Lib.hid (HN1.out.below.trans (hb2.mono HN1.out.below.size)); clear hb2))
    refine bodyPost_ret (v := .tuple #[.slice none 0 0, .int .i64 0, .int .i64 0]) (by simp [results, Tryz.results20, go_sem]) rfl ⟨rfl, HB2.out⟩
end Go.Proofs.YthhgageghkbjjaaGreat.Ry
