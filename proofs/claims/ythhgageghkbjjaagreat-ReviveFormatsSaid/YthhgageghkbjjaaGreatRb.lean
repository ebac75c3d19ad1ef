/- The walks of package seal's register and sum. -/
import Derived.Test.YthhgageghkbjjaaGreatRa
namespace Go.Proofs.YthhgageghkbjjaaGreat.Rb
open Go.RowKit Go.Proofs.YthhgageghkbjjaaGreat.Ra

/-- One bit's turn of the register. -/
def stp1 (x : Int) : Int := bits .xor .u32 (x * 2 % 4294967296) (79764919 * (x / 2147483648))
def iter : Nat → Int → Int
  | 0, x => x
  | n + 1, x => iter n (stp1 x)
def stp (x : Int) : Int := iter 8 x
/-- A byte more. -/
def byt (r : Int) (b : UInt8) : Int := stp (bits .xor .u32 r ((b.toNat : Int) * 16777216))
def moreR : Int → List UInt8 → Int
  | r, [] => r
  | r, b :: l => moreR (byt r b) l
def U32 (x : Int) : Prop := 0 ≤ x ∧ x < 4294967296
theorem stp1_u (x : Int) : U32 (stp1 x) := ⟨bits_lo_u32 _ _ _, by have := bits_hi_u32 .xor (x * 2 % 4294967296) (79764919 * (x / 2147483648)); unfold stp1; omega⟩
theorem iter_u : ∀ (n : Nat) (x : Int), U32 x → U32 (iter n x)
  | 0, _, h => h
  | n + 1, x, _ => iter_u n _ (stp1_u x)
theorem stp_u (x : Int) (h : U32 x) : U32 (stp x) := iter_u 8 x h
theorem xor_u (x y : Int) : U32 (bits .xor .u32 x y) := ⟨bits_lo_u32 _ _ _, by have := bits_hi_u32 .xor x y; omega⟩
theorem byt_u (r : Int) (b : UInt8) : U32 (byt r b) := stp_u _ (xor_u _ _)
theorem moreR_u : ∀ (l : List UInt8) (r : Int), U32 r → U32 (moreR r l)
  | [], _, h => h
  | b :: l, r, _ => moreR_u l _ (byt_u r b)
theorem moreR_snoc : ∀ (l : List UInt8) (r : Int) (b : UInt8), moreR r (l ++ [b]) = byt (moreR r l) b
  | [], _, _ => rfl
  | a :: l, r, b => moreR_snoc l (byt r a) b
theorem iter_end (k : Nat) (x y : Int) (h : iter (8 - k) x = y) (hk : k < 8) : iter (8 - (k + 1)) (stp1 x) = y := by
  rw [← h, show 8 - k = (8 - (k + 1)) + 1 by omega]
  rfl

theorem step_c (r : Int) (w : World) (hr : U32 r) : Calls Tryz.prog 113 #[.int .u32 r] w fun e w' => e = .returned (.int .u32 (stp r)) ∧ w = w' := by
  obtain ⟨res, hres⟩ : ∃ res, iter (8 - 0) r = res := ⟨_, rfl⟩
  have hst : stp r = res := hres
  rw [hst]
  have HRES := Lib.hid hres
  clear hres hst
  have hr' := hr
  obtain ⟨hr1, hr2⟩ := hr
  go_enter Tryz.func113, Tryz.ntmps113
  go_wp2
  go_loopg [0, 4] 9 (fun gg s0 s4 wr => ∃ (k : Nat) (x : Int), k ≤ 8 ∧ 8 - k < gg ∧ U32 x ∧ s0 = .int .u32 x ∧ s4 = .int .i64 (k : Int) ∧ Hid (iter (8 - k) x = res) ∧ wr = w)
  case atStart => exact ⟨0, r, by omega, by omega, hr', rfl, rfl, HRES, rfl⟩
  case round =>
    obtain ⟨k, x, hk, hgg, ⟨hx1, hx2⟩, rfl, rfl, HI, rfl⟩ := hrel
    by_cases h : k < 8
    · have hil : (k : Int) < 8 := by omega
      have HN := Lib.hid (iter_end k x res HI.out h)
      have HU := Lib.hid (stp1_u x)
      unfold stp1 at HN HU
      go_wp2
      go_roundg (8 - (k + 1) + 1)
      case measure => omega
      case rel => exact ⟨k + 1, _, by omega, by omega, HU.out, rfl, by go_num, HN, rfl⟩
    · have hil : ¬ (k : Int) < 8 := by omega
      obtain rfl : k = 8 := by omega
      obtain rfl : x = res := HI.out
      go_wp2
      go_ret
      exact ⟨rfl, rfl⟩

/-- The sum behind others: what More answers. -/
def not32 (x : Int) : Int := bits .xor .u32 IntKind.u32.max x
def moreL (s : Int) (l : List UInt8) : Int := not32 (moreR (not32 s) l)
def sumL (l : List UInt8) : Int := moreL 0 l
theorem moreL_u (s : Int) (l : List UInt8) : U32 (moreL s l) := xor_u _ _
theorem sumL_u (l : List UInt8) : U32 (sumL l) := xor_u _ _

set_option maxHeartbeats 1000000 in
theorem more_c (B : Nat) (s : Int) (v : Value) (l : List UInt8) (w : World) (hs : U32 s) (hv : BytesIn B w v l) (hl : l.length ≤ 140737488355328) :
    Calls Tryz.prog 101 #[.int .u32 s, v] w fun e w' => e = .returned (.int .u32 (moreL s l)) ∧ w = w' := by
  obtain ⟨p, c, rfl, hcap, hp⟩ := hv
  have HP := Lib.hid hp
  clear hp
  have hs' := hs
  obtain ⟨hs1, hs2⟩ := hs
  obtain ⟨N, hN⟩ : ∃ N, N = l.length := ⟨_, rfl⟩
  rw [← hN] at hl ⊢
  have HN := Lib.hid hN
  clear hN
  obtain ⟨res, hres⟩ : ∃ res, res = moreL s l := ⟨_, rfl⟩
  rw [← hres]
  have HRES := Lib.hid hres
  clear hres
  go_enter Tryz.func101, Tryz.ntmps101
  go_wp2
  go_loopg [5, 7, 12] (N + 1) (fun gg s5 _ s12 wr => ∃ (k : Nat) (x : Int), k ≤ N ∧ N - k < gg ∧ U32 x ∧ s5 = .int .u32 x ∧ s12 = .int .i64 (k : Int) ∧ Hid (x = moreR (not32 s) (l.take k)) ∧ wr = w)
  case atStart => exact ⟨0, _, by omega, by omega, xor_u _ _, rfl, rfl, Lib.hid rfl, rfl⟩
  case round =>
    obtain ⟨k, x, hk, hgg, ⟨hx1, hx2⟩, rfl, rfl, HX, rfl⟩ := hrel
    by_cases h : k < N
    · have hil : (k : Int) < (N : Int) := by omega
      obtain ⟨y, hy⟩ : ∃ y, l[k]? = some y := ⟨_, List.getElem?_eq_getElem (by rw [← HN.out]; exact h)⟩
      obtain ⟨b, o, rfl, _, _, hc⟩ := HP.out (fun e => by rw [e] at hy; cases hy)
      have cy := hc k y hy
      have HY : Hid (moreR (not32 s) (l.take (k + 1)) = byt x y) := Lib.hid (by rw [List.take_add_one, hy, HX.out]; exact moreR_snoc _ _ _)
      have hyl := y.toNat_lt
      have hy1 : (0 : Int) ≤ (y.toNat : Int) := by omega
      have hy2 : (y.toNat : Int) < 256 := by omega
      have kst := step_c (bits .xor .u32 x ((y.toNat : Int) * 16777216)) wr (xor_u _ _)
      have HU := Lib.hid (byt_u x y)
      unfold byt at HY HU
      clear hy hc hyl
      generalize (y.toNat : Int) = yy at *
      go_wp2_with (go_at_call 113; (with_reducible refine kst.mono ?_); rintro e w5 ⟨rfl, rfl⟩)
      go_roundg (N - (k + 1) + 1)
      case measure => omega
      case rel => exact ⟨k + 1, _, by omega, by omega, HU.out, rfl, by go_num, Lib.hid HY.out.symm, rfl⟩
    · have hil : ¬ (k : Int) < (N : Int) := by omega
      obtain rfl : k = N := by omega
      have HE : Hid (bits .xor .u32 IntKind.u32.max x = res) := Lib.hid (by
        rw [HRES.out, HX.out, List.take_of_length_le (by rw [HN.out]; exact Nat.le_refl _)]
        rfl)
      go_wp2
      go_ret
      rw [HE.out]
      exact ⟨rfl, rfl⟩

theorem sum_c (B : Nat) (v : Value) (l : List UInt8) (w : World) (hv : BytesIn B w v l) (hl : l.length ≤ 140737488355328) :
    Calls Tryz.prog 82 #[v] w fun e w' => e = .returned (.int .u32 (sumL l)) ∧ w = w' := by
  have k := more_c B 0 v l w ⟨by decide, by decide⟩ hv hl
  obtain ⟨p, c, rfl, -⟩ := hv
  have hs : moreL 0 l = sumL l := rfl
  rw [hs] at k
  clear hs
  generalize sumL l = x at *
  generalize l.length = n at *
  go_enter Tryz.func82, Tryz.ntmps82
  go_wp2_with (go_at_call 101; (with_reducible refine k.mono ?_); rintro e w5 ⟨rfl, rfl⟩)
  go_ret
  exact ⟨rfl, rfl⟩

end Go.Proofs.YthhgageghkbjjaaGreat.Rb
