/- The walks of slate.area; of pages, where there is no header. -/
import Derived.Test.YthhgageghkbjjaaGreatRy
namespace Go.Proofs.YthhgageghkbjjaaGreat.Rz
open Go.RowKit Go.Proofs.YthhgageghkbjjaaGreat.Ra Go.Proofs.YthhgageghkbjjaaGreat.Rc Go.Proofs.YthhgageghkbjjaaGreat.Re Go.Proofs.YthhgageghkbjjaaGreat.Rf Go.Proofs.YthhgageghkbjjaaGreat.Rg Go.Proofs.YthhgageghkbjjaaGreat.Rj Go.Proofs.YthhgageghkbjjaaGreat.Rp Go.Proofs.YthhgageghkbjjaaGreat.Rv Go.Proofs.YthhgageghkbjjaaGreat.Rw Go.Proofs.YthhgageghkbjjaaGreat.Rx Go.Proofs.YthhgageghkbjjaaGreat.Ry
set_option maxRecDepth 8000

theorem area_0 (w : World) : Calls Tryz.prog 38 #[.int .i64 0] w fun e w' => e = .returned (.int .i64 0) ∧ w = w' := by
  go_enter Tryz.func38, Tryz.ntmps38
  go_wp2
  go_ret
  exact ⟨rfl, rfl⟩
theorem area_1 (w : World) : Calls Tryz.prog 38 #[.int .i64 1] w fun e w' => e = .returned (.int .i64 12) ∧ w = w' := by
  go_enter Tryz.func38, Tryz.ntmps38
  go_wp2
  go_ret
  exact ⟨rfl, rfl⟩

set_option maxHeartbeats 2000000 in
theorem pages_bad {B : Nat} {w : World} {D S N : Nat} {lv : Value} {d : Dev} (h : DevAt B w D S N lv d) (hd : d.off = false) (hz : secL d.now 0 = List.replicate 64 0) :
    Calls Tryz.prog 37 #[.pointer (some ⟨D, 0, none⟩), .int .i64 0] w fun e w' => e = .returned (.tuple #[.slice none 0 0, .int .i64 0]) ∧ Below w.heap.size w w' := by
  have hg := get_c h hd 0 (Nat.lt_of_lt_of_le Nat.zero_lt_one h.n1)
  rw [hz, show ((0 : Nat) : Int) = 0 from rfl] at hg
  have KG := Lib.hid hg
  have KR := Lib.hid (fun (W : World) (u : Value) (hu : BytesIn 0 W u (List.replicate 64 (0 : UInt8))) => count_bad 0 u _ W (Nat.zero_le _) hu (List.length_replicate) zeros_bad)
  clear hg h hd hz
  go_enter Tryz.func37, Tryz.ntmps37
  go_wp2_with (first
    | (go_at_call 41; (with_reducible refine KG.out.mono ?_); rintro e w1 ⟨v1, rfl, hn1⟩; have HN1 := Lib.hid hn1; clear hn1)
    | (go_at_call 58; (with_reducible refine (KR.out _ _ HN1.out.bytes).mono ?_); rintro e w2 ⟨rfl, hb2⟩; have HB2 := Lib.hid (HN1.out.below.trans (hb2.mono HN1.out.below.size)); clear hb2)
    | go_quiet (fail))
  refine bodyPost_ret (v := .tuple #[.slice none 0 0, .int .i64 0]) (by simp [results, Tryz.results37, go_sem]) rfl ⟨rfl, HB2.out⟩
end Go.Proofs.YthhgageghkbjjaaGreat.Rz
