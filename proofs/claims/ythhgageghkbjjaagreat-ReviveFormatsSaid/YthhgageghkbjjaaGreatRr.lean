/- The walks of Sort and Owners, where nothing is. -/
import Derived.Test.YthhgageghkbjjaaGreatRq
namespace Go.Proofs.YthhgageghkbjjaaGreat.Rr
open Go.RowKit Go.Proofs.YthhgageghkbjjaaGreat.Ra Go.Proofs.YthhgageghkbjjaaGreat.Rj Go.Proofs.YthhgageghkbjjaaGreat.Rl Go.Proofs.YthhgageghkbjjaaGreat.Rn Go.Proofs.YthhgageghkbjjaaGreat.Ro Go.Proofs.YthhgageghkbjjaaGreat.Rp Go.Proofs.YthhgageghkbjjaaGreat.Rq
set_option maxRecDepth 8000

theorem len64_0 (w : World) : Calls Tryz.prog 127 #[.int .u64 0] w fun e w' => e = .returned (.int .i64 0) ∧ w = w' := by
  go_enter Tryz.func127, Tryz.ntmps127
  go_wp2
  go_ret
  refine ⟨?_, rfl⟩
  kernel_rfl
theorem len_0 (w : World) : Calls Tryz.prog 115 #[.int .u64 0] w fun e w' => e = .returned (.int .i64 0) ∧ w = w' := by
  have K := Lib.hid (fun (W : World) => len64_0 W)
  go_enter Tryz.func115, Tryz.ntmps115
  go_wp2_with (go_at_call 127; (with_reducible refine (K.out _).mono ?_); rintro e w1 ⟨rfl, rfl⟩)
  go_ret
  exact ⟨rfl, rfl⟩
theorem insertion_0 (f : Value) (w : World) : Calls Tryz.prog 118 #[.slice none 0 0, .int .i64 0, .int .i64 0, f] w fun e w' => e = .returned (.tuple #[]) ∧ w = w' := by
  go_enter Tryz.func118, Tryz.ntmps118
  go_wp2
  go_loopg [8] (1) (fun gg s8 wr => s8 = .int .i64 1 ∧ gg = 1 ∧ wr = w)
  case atStart => exact ⟨rfl, rfl, rfl⟩
  case round =>
    obtain ⟨rfl, _, rfl⟩ := hrel
    go_wp2
    refine bodyPost_end (v := .tuple #[]) (by simp [results, Tryz.results118, go_sem]) rfl ?_
    exact ⟨rfl, rfl⟩
theorem clip_nil (w : World) : Calls Tryz.prog 111 #[.slice none 0 0] w fun e w' => e = .returned (.slice none 0 0) ∧ w = w' := by
  go_enter Tryz.func111, Tryz.ntmps111
  go_wp2
  go_ret
  exact ⟨rfl, rfl⟩
theorem compact_nil (w : World) : Calls Tryz.prog 112 #[.slice none 0 0] w fun e w' => e = .returned (.slice none 0 0) ∧ w = w' := by
  go_enter Tryz.func112, Tryz.ntmps112
  go_wp2
  go_ret
  exact ⟨rfl, rfl⟩
theorem pdq_0 (f : Value) (w : World) : Calls Tryz.prog 114 #[.slice none 0 0, .int .i64 0, .int .i64 0, .int .i64 0, f] w fun e w' => e = .returned (.tuple #[]) ∧ w = w' := by
  have K := Lib.hid (fun (W : World) => insertion_0 f W)
  go_enter Tryz.func114, Tryz.ntmps114
  go_wp2
  go_loopg [1, 2, 12] (1) (fun gg s1 s2 _ wr => s1 = .int .i64 0 ∧ s2 = .int .i64 0 ∧ gg = 1 ∧ wr = w)
  case atStart => exact ⟨rfl, rfl, rfl, rfl⟩
  case round =>
    obtain ⟨rfl, rfl, _, rfl⟩ := hrel
    go_wp2_with (go_at_call 118; (with_reducible refine (K.out _).mono ?_); rintro e w1 ⟨rfl, rfl⟩)
    refine bodyPost_ret (v := .tuple #[]) (by simp [results, Tryz.results114, go_sem]) rfl ?_
    exact ⟨rfl, rfl⟩
theorem sortFunc_0 (f : Value) (w : World) : Calls Tryz.prog 109 #[.slice none 0 0, f] w fun e w' => e = .returned (.tuple #[]) ∧ w = w' := by
  have KL := Lib.hid (fun (W : World) => len_0 W)
  have K := Lib.hid (fun (W : World) => pdq_0 f W)
  go_enter Tryz.func109, Tryz.ntmps109
  go_wp2_with (first
    | (go_at_call 115; (with_reducible refine (KL.out _).mono ?_); rintro e w1 ⟨rfl, rfl⟩)
    | (go_at_call 114; (with_reducible refine (K.out _).mono ?_); rintro e w1 ⟨rfl, rfl⟩))
  refine bodyPost_end (v := .tuple #[]) (by simp [results, Tryz.results109, go_sem]) rfl ?_
  exact ⟨rfl, rfl⟩
theorem sort_nil (w : World) : Calls Tryz.prog 99 #[.slice none 0 0] w fun e w' => e = .returned (.tuple #[.slice none 0 0, .int .i64 0]) ∧ w = w' := by
  have KC := Lib.hid (fun (W : World) => sclone_nil W)
  have KS := Lib.hid (fun (f : Value) (W : World) => sortFunc_0 f W)
  have KO := Lib.hid (fun (W : World) => compact_nil W)
  have KI := Lib.hid (fun (W : World) => clip_nil W)
  go_enter Tryz.func99, Tryz.ntmps99
  go_wp2_with (go_at_call 72; (with_reducible refine (KC.out _).mono ?_); rintro e w1 ⟨rfl, rfl⟩)
  go_loopg [5, 6, 14] (1) (fun gg _ _ s14 wr => s14 = .int .i64 0 ∧ gg = 1 ∧ wr = w)
  case atStart => exact ⟨rfl, rfl, rfl⟩
  case round =>
    obtain ⟨rfl, _, rfl⟩ := hrel
    go_wp2_with (first
      | (go_at_call 109; (with_reducible refine (KS.out _ _).mono ?_); rintro e w2 ⟨rfl, rfl⟩)
      | (go_at_call 112; (with_reducible refine (KO.out _).mono ?_); rintro e w2 ⟨rfl, rfl⟩)
      | (go_at_call 111; (with_reducible refine (KI.out _).mono ?_); rintro e w2 ⟨rfl, rfl⟩))
    go_ret2
    exact ⟨rfl, rfl⟩
end Go.Proofs.YthhgageghkbjjaaGreat.Rr
