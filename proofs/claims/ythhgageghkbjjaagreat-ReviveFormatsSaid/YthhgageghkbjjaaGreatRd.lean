/- The walks of cell.Row and of leaf's put: numbers' bytes behind others. -/
import Derived.Test.YthhgageghkbjjaaGreatRc
namespace Go.Proofs.YthhgageghkbjjaaGreat.Rd
open Go.RowKit Go.Proofs.YthhgageghkbjjaaGreat.Ra Go.Proofs.YthhgageghkbjjaaGreat.Rc

/-- Numbers as bytes. -/
def rowL (k : Nat) (l : List Int) : List UInt8 := l.flatMap (beL k)
theorem rowL_snoc (k : Nat) (l : List Int) (x : Int) : rowL k (l ++ [x]) = rowL k l ++ beL k x := by unfold rowL; rw [List.flatMap_append]; simp
theorem rowL_len (k : Nat) : ∀ l : List Int, (rowL k l).length = k * l.length
  | [] => rfl
  | x :: l => by
    show (beL k x ++ rowL k l).length = _
    rw [List.length_append, beL_len, rowL_len k l, List.length_cons, Nat.mul_succ, Nat.add_comm]
/-- May they have so many bytes? -/
def Fits (k : Nat) (l : List Int) : Prop := ∀ x ∈ l, 0 ≤ x ∧ x < 256 ^ k

set_option maxHeartbeats 2000000 in
theorem row_c (B : Nat) (k : Nat) (v : Value) (l : List Int) (w : World) (hB : B ≤ w.heap.size) (hk : 1 ≤ k ∧ k ≤ 4) (hv : IntsIn B w v l) (hl : l.length ≤ 1000000) (hf : Fits k l) :
    Calls Tryz.prog 92 #[.int .i64 (k : Int), v] w fun e w' => ∃ v', e = .returned (.tuple #[v', .int .i64 0]) ∧ PutOk w.heap.size [] (rowL k l) (.slice none 0 0) w v' w' := by
  have HV := Lib.hid hv
  obtain ⟨p, c, rfl, -⟩ := hv
  have ksz := fun W => size_c (k : Int) W (by omega) (by omega)
  have KSZ := Lib.hid ksz
  have HF := Lib.hid hf
  have HB := Lib.hid hB
  have HK := Lib.hid hk
  clear ksz hf hB hk
  obtain ⟨N, hN⟩ : ∃ N, N = l.length := ⟨_, rfl⟩
  rw [← hN] at hl ⊢
  have HN := Lib.hid hN
  clear hN
  obtain ⟨kk, hkk⟩ : ∃ kk : Int, kk = (k : Int) := ⟨_, rfl⟩
  rw [← hkk] at KSZ ⊢
  have HKK := Lib.hid hkk
  clear hkk
  have P0 : Hid (PutOk w.heap.size [] (rowL k (l.take 0)) (.slice none 0 0) w (.slice none 0 0) w) := Lib.hid (PutOk.start (World.ownsRow_nil _ _ _ _))
  go_enter Tryz.func92, Tryz.ntmps92
  go_wp2_with (go_at_call 102; (with_reducible refine (KSZ.out _).mono ?_); rintro e w5 ⟨rfl, rfl⟩)
  go_loopg [4, 5, 7, 13] (N + 1) (fun gg s4 _ _ s13 wr => ∃ j : Nat, j ≤ N ∧ N - j < gg ∧ s13 = .int .i64 (j : Int) ∧ Hid (PutOk w.heap.size [] (rowL k (l.take j)) (.slice none 0 0) w s4 wr))
  case atStart => exact ⟨0, by omega, by omega, rfl, P0⟩
  case round =>
    obtain ⟨j, hj, hgg, rfl, PR⟩ := hrel
    by_cases hlt : j < N
    · have hil : (j : Int) < (N : Int) := by omega
      obtain ⟨x, hx⟩ : ∃ x, l[j]? = some x := ⟨_, List.getElem?_eq_getElem (by rw [← HN.out]; exact hlt)⟩
      have hsx := Step.of (B := B) PR.out.below HB.out
      obtain ⟨p', c', hv', hp'⟩ := HV.out.step hsx
      obtain ⟨rfl, rfl⟩ : p = p' ∧ c = c' := by
        have := HN.out
        simpa using (by rw [← this] at hv'; simpa using hv' : p = p' ∧ c = c')
      obtain ⟨b, o, rfl, _, _, hc⟩ := hp' (fun e => by rw [e] at hx; cases hx)
      have cx := hc j x hx
      have hfx := HF.out x (List.mem_of_getElem? hx)
      have hrl := rowL_len k (l.take j)
      have hxl : ([] ++ rowL k (l.take j)).length ≤ 1099511627776 := by
        rw [List.nil_append, hrl, List.length_take]
        have h4 := HK.out.2
        have : k * min j l.length ≤ 4 * 1000000 := Nat.mul_le_mul h4 (by rw [← HN.out]; omega)
        omega
      have hput := put_c w.heap.size u4 ([] ++ rowL k (l.take j)) k x wr PR.out.grown.size PR.out.row HK.out hfx hxl
      rw [← HKK.out] at hput
      have KP := Lib.hid hput
      have HXX : Hid (rowL k (l.take (j + 1)) = rowL k (l.take j) ++ beL k x) := Lib.hid (by rw [List.take_add_one, hx]; exact rowL_snoc _ _ _)
      clear hput hxl hrl hfx hx hc hp' hv' hsx
      go_wp2_with (go_at_call 105; (with_reducible refine KP.out.mono ?_); rintro e w5 ⟨v', rfl, hpk⟩; have PK := Lib.hid (PR.out.trans hpk); clear hpk)
      go_roundg (N - (j + 1) + 1)
      case measure => omega
      case rel => exact ⟨j + 1, by omega, by omega, by go_num, by rw [HXX.out]; exact PK⟩
    · have hil : ¬ (j : Int) < (N : Int) := by omega
      obtain rfl : j = N := by omega
      have hall : l.take j = l := List.take_of_length_le (by rw [HN.out]; exact Nat.le_refl _)
      have PE := PR.out
      rw [hall] at PE
      have HPE := Lib.hid PE
      clear hall PE
      go_wp2
      refine bodyPost_ret (v := .tuple #[u4, .int .i64 0]) (by simp [results, Tryz.results92, go_sem]) rfl ⟨_, rfl, HPE.out⟩

end Go.Proofs.YthhgageghkbjjaaGreat.Rd
