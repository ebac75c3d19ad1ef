/- The walks of leaf's Count. -/
import Derived.Test.YthhgageghkbjjaaGreatRw
namespace Go.Proofs.YthhgageghkbjjaaGreat.Rx
open Go.RowKit Go.Proofs.YthhgageghkbjjaaGreat.Ra Go.Proofs.YthhgageghkbjjaaGreat.Rc Go.Proofs.YthhgageghkbjjaaGreat.Re Go.Proofs.YthhgageghkbjjaaGreat.Rj Go.Proofs.YthhgageghkbjjaaGreat.Rp Go.Proofs.YthhgageghkbjjaaGreat.Rv Go.Proofs.YthhgageghkbjjaaGreat.Rw
set_option maxRecDepth 8000

theorem count_bad (B : Nat) (v : Value) (l : List UInt8) (w : World) (hB : B ≤ w.heap.size) (hv : BytesIn B w v l) (h64 : l.length = 64) (heq : closeL (l.take 60) ≠ l) :
    Calls Tryz.prog 58 #[v] w fun e w' => e = .returned (.tuple #[.int .i64 0, .int .i64 0, .int .i64 11]) ∧ Below w.heap.size w w' := by
  have K := Lib.hid (read_bad B v l w hB hv h64 heq)
  obtain ⟨p, c, rfl, _⟩ := hv.form
  clear hv
  rw [h64] at K ⊢
  clear heq h64
  go_enter Tryz.func58, Tryz.ntmps58
  go_wp2_with (go_at_call 59; (with_reducible refine K.out.mono ?_); rintro e w1 ⟨rfl, hb1⟩; have HB1 := Lib.hid hb1; clear hb1)
  refine bodyPost_ret (v := .tuple #[.int .i64 0, .int .i64 0, .int .i64 11]) (by simp [results, Tryz.results58, go_sem]) rfl ⟨rfl, HB1.out.alloc HB1.out.size _⟩

/-- A sector of zeros is no header. -/
theorem zeros_bad : closeL ((List.replicate 64 (0 : UInt8)).take 60) ≠ List.replicate 64 0 := by decide +kernel
end Go.Proofs.YthhgageghkbjjaaGreat.Rx
