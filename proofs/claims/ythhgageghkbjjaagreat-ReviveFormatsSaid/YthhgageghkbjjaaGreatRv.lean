/- The walks of cell's get and Get. -/
import Derived.Test.YthhgageghkbjjaaGreatRu
import Derived.Laws.BitsAllLaws
namespace Go.Proofs.YthhgageghkbjjaaGreat.Rv
open Go.RowKit Go.Proofs.YthhgageghkbjjaaGreat.Ra Go.Proofs.YthhgageghkbjjaaGreat.Rc Go.Proofs.YthhgageghkbjjaaGreat.Re
set_option maxRecDepth 8000

theorem or_byte (a : Int) (x : UInt8) (h0 : 0 ≤ a) (h1 : a ≤ 1099511627776) : bits .or .i64 (a * 256) (x.toNat : Int) = a * 256 + (x.toNat : Int) := by
  obtain ⟨A, rfl⟩ := Int.eq_ofNat_of_zero_le h0
  have hx := x.toNat_lt
  have hA : A ≤ 1099511627776 := by omega
  have e1 : ((A : Int) * 256) = ((A * 256 : Nat) : Int) := by omega
  rw [e1]
  have ho : (A * 256) ||| x.toNat = A * 256 + x.toNat := by
    have := Nat.two_pow_add_eq_or_of_lt (i := 8) (b := x.toNat) hx A
    rw [show 2 ^ 8 * A = A * 256 from by omega] at this
    exact this.symm
  show IntKind.i64.wrap ((BitVec.ofInt 64 ((A * 256 : Nat) : Int) ||| BitVec.ofInt 64 (x.toNat : Int)).toNat : Int) = _
  rw [BitVec.toNat_or, ofInt_u64 _ (by omega), ofInt_u64 _ (by omega), ho]
  rw [IntKind.wrap_i64]
  omega

theorem numOf_bounds : ∀ (l : List UInt8) (n : Int), 0 ≤ n → 0 ≤ numOf n l ∧ numOf n l < (n + 1) * 256 ^ l.length
  | [], n, h => by
    show 0 ≤ n ∧ n < (n + 1) * 256 ^ 0
    omega
  | b :: l, n, h => by
    have hb := b.toNat_lt
    have := numOf_bounds l (n * 256 + (b.toNat : Int)) (by omega)
    refine ⟨this.1, Int.lt_of_lt_of_le this.2 ?_⟩
    show _ ≤ (n + 1) * 256 ^ (l.length + 1)
    rw [Int.pow_succ, Int.mul_comm ((256 : Int) ^ l.length) 256, ← Int.mul_assoc]
    exact Int.mul_le_mul_of_nonneg_right (by omega) (Int.le_of_lt (Int.pow_pos (by decide)))

set_option maxHeartbeats 2000000 in
theorem get_c (B : Nat) (v : Value) (l : List UInt8) (w : World) (hv : BytesIn B w v l) (hl : l.length ≤ 4) :
    Calls Tryz.prog 103 #[v] w fun e w' => e = .returned (.int .i64 (numOf 0 l)) ∧ w = w' := by
  obtain ⟨p, c, rfl, hcap, hp⟩ := hv
  have HP := Lib.hid hp
  clear hp hcap
  obtain ⟨N, hN⟩ : ∃ N, N = l.length := ⟨_, rfl⟩
  rw [← hN] at hl ⊢
  have HN := Lib.hid hN
  clear hN
  go_enter Tryz.func103, Tryz.ntmps103
  go_wp2
  go_loopg [3, 5, 8] (N + 1) (fun gg s3 _ s8 wr => ∃ (k : Nat) (x : Int), k ≤ N ∧ N - k < gg ∧ s3 = .int .i64 x ∧ s8 = .int .i64 (k : Int) ∧ Hid (x = numOf 0 (l.take k)) ∧ wr = w)
  case atStart => exact ⟨0, _, by omega, by omega, rfl, rfl, Lib.hid rfl, rfl⟩
  case round =>
    obtain ⟨k, x, hk, hgg, rfl, rfl, HX, rfl⟩ := hrel
    by_cases h : k < N
    · have hil : (k : Int) < (N : Int) := by omega
      obtain ⟨y, hy⟩ : ∃ y, l[k]? = some y := ⟨_, List.getElem?_eq_getElem (by rw [← HN.out]; exact h)⟩
      obtain ⟨b, o, rfl, _, _, hc⟩ := HP.out (fun e => by rw [e] at hy; cases hy)
      have cy := hc k y hy
      have hxb := numOf_bounds (l.take k) 0 (Int.le_refl _)
      rw [← HX.out] at hxb
      have hxu : x ≤ 1099511627776 := by
        have h4 : (l.take k).length ≤ 4 := by rw [List.length_take]; omega
        have hpw : (256 : Int) ^ (l.take k).length ≤ 256 ^ 4 := by
          have := Nat.pow_le_pow_right (n := 256) (by decide) h4
          exact_mod_cast this
        omega
      have hx0 := hxb.1
      have hor := or_byte x y hx0 hxu
      have HY : Hid (numOf 0 (l.take (k + 1)) = x * 256 + (y.toNat : Int)) := Lib.hid (by rw [List.take_add_one, hy, HX.out]; exact numOf_snoc _ _ _)
      have hyl := y.toNat_lt
      have hy1 : (0 : Int) ≤ (y.toNat : Int) := by omega
      have hy2 : (y.toNat : Int) < 256 := by omega
      clear hy hc hyl hxb
      generalize (y.toNat : Int) = yy at *
      go_wp2
      go_roundg (N - (k + 1) + 1)
      case measure => omega
      case rel => exact ⟨k + 1, _, by omega, by omega, rfl, by go_num, Lib.hid HY.out.symm, rfl⟩
    · have hil : ¬ (k : Int) < (N : Int) := by omega
      obtain rfl : k = N := by omega
      have HE : Hid (x = numOf 0 l) := Lib.hid (by
        rw [HX.out, List.take_of_length_le (by rw [HN.out]; exact Nat.le_refl _)])
      go_wp2
      go_ret
      rw [HE.out]
      exact ⟨rfl, rfl⟩

/-- Get: a number of k bytes at a place. -/
theorem Get_c (B : Nat) (p : Option Addr) (c : Nat) (l : List UInt8) (a k : Nat) (w : World) (hv : BytesIn B w (.slice p l.length c) l) (hk : 1 ≤ k ∧ k ≤ 4) (ha : a + k ≤ l.length) (hl : l.length ≤ 1000000) :
    Calls Tryz.prog 88 #[.slice p l.length c, .int .i64 (a : Int), .int .i64 (k : Int)] w fun e w' => e = .returned (.tuple #[.int .i64 (numOf 0 ((l.drop a).take k)), .int .i64 0]) ∧ w = w' := by
  have KS := Lib.hid (fun (W : World) => size_c (k : Int) W (by omega) (by omega))
  have hform := hv.form
  obtain ⟨p0, c0, he, hcap⟩ := hform
  have hcc : l.length ≤ c := by injection he with _ _ h3; rw [h3]; exact hcap
  obtain ⟨b, o, rfl, _, _, _⟩ := Rj.bytes_at hv (fun e => by rw [e] at ha; simp at ha; omega)
  have hcut := hv.cut a (a + k) (by omega) ha (some ⟨b, o + a, none⟩) (c - a) (by omega) (fun b' o' h _ => by
    obtain ⟨rfl, rfl⟩ : b = b' ∧ o = o' := by simpa using h
    rfl)
  rw [Nat.add_sub_cancel_left] at hcut
  have hcl : ((l.drop a).take k).length = k := by rw [List.length_take, List.length_drop]; omega
  have KG := Lib.hid (get_c B _ _ w hcut (by rw [hcl]; exact hk.2))
  generalize numOf 0 ((l.drop a).take k) = x at *
  generalize l.length = n at *
  have d1 : decide ((a : Int) < 0) = false := decide_eq_false (by omega)
  have g2 : ¬ ((n : Int) - (k : Int) < (a : Int)) := by omega
  clear hv hcut hcl he hcap
  go_enter Tryz.func88, Tryz.ntmps88
  go_wp2_with (first
    | (go_at_call 102; (with_reducible refine (KS.out _).mono ?_); rintro e w1 ⟨rfl, rfl⟩)
    | (go_at_call 103; (with_reducible refine KG.out.mono ?_); rintro e w1 ⟨rfl, rfl⟩))
  go_ret2
  exact ⟨rfl, rfl⟩
end Go.Proofs.YthhgageghkbjjaaGreat.Rv
