/- The walks of the law's hex, of Ints, and of same where two acts are the same. -/
import Derived.Test.YtbnbnccpoeopmaaDoorSh
import Derived.Test.YtbnbnccpoeopmaaDoorSg
import Derived.Outline
import Derived.Deep.Light
namespace Go.Proofs.YtbnbnccpoeopmaaDoor.Sp
open Go.RowKit Go.Proofs.YtbnbnccpoeopmaaDoor.Sa Go.Proofs.YtbnbnccpoeopmaaDoor.Sb Go.Proofs.YtbnbnccpoeopmaaDoor.Sd Go.Proofs.YtbnbnccpoeopmaaDoor.Se Go.Proofs.YtbnbnccpoeopmaaDoor.Sf Go.Proofs.YtbnbnccpoeopmaaDoor.Sg Go.Proofs.YtbnbnccpoeopmaaDoor.Sh

theorem conv2 (w : World) (t : TypeId) (a b : UInt8) : (convert 22 9 (.slice (some ⟨w.heap.size, 0, none⟩) 2 2)).run Tryd.prog (w.alloc (.cells #[.int .u8 (a.toNat : Int), .int .u8 (b.toNat : Int)] t)) = .ok (.string ⟨#[a, b]⟩) (w.alloc (.cells #[.int .u8 (a.toNat : Int), .int .u8 (b.toNat : Int)] t)) := by
  refine run_convert_bytes_back (P := Tryd.prog) _ 22 9 5 ⟨w.heap.size, 0, none⟩ 2 [a, b] (by kernel_rfl) (by kernel_rfl) (by kernel_rfl) (fun j hj => ?_)
  rw [Lib.add_plain]
  refine (blk_cell (blk_new w _ t) _).trans ?_
  match j, hj with
  | 0, _ => rfl
  | 1, _ => rfl

theorem conv2d (w : World) (t : TypeId) (a b : UInt8) : (convert 22 9 (.slice (some ⟨w.heap.size, 0, none⟩) 2 2)).run Tryd.prog (w.alloc (.cells #[.int .u8 (a.toNat : Int), .int .u8 (b.toNat : Int)] t)).drew = .ok (.string ⟨#[a, b]⟩) (w.alloc (.cells #[.int .u8 (a.toNat : Int), .int .u8 (b.toNat : Int)] t)).drew := by
  refine run_convert_bytes_back (P := Tryd.prog) _ 22 9 5 ⟨w.heap.size, 0, none⟩ 2 [a, b] (by kernel_rfl) (by kernel_rfl) (by kernel_rfl) (fun j hj => ?_)
  rw [Lib.add_plain, World.cell?_drew]
  refine (blk_cell (blk_new w _ t) _).trans ?_
  match j, hj with
  | 0, _ => rfl
  | 1, _ => rfl

theorem hexlaw_c (v : Value) (l : List UInt8) (w : World) (hv : BytesIn w v l) (hl : l.length ≤ 1099511627776) :
    Calls Tryd.prog 36 #[v] w fun e w' => e = .returned (.string ⟨(120 :: hexOf l).toArray⟩) ∧ Below w.heap.size w w' := by
  obtain ⟨p, c, rfl, hp⟩ := hv
  have HP := Lib.hid hp
  clear hp
  obtain ⟨res, hres⟩ : ∃ res : ByteArray, res = ⟨(120 :: hexOf l).toArray⟩ := ⟨_, rfl⟩
  rw [← hres]
  have HRES := Lib.hid hres
  clear hres
  go_enter Tryd.func36, Tryd.ntmps36
  go_wp2
  go_loopg [3, 5] (l.length + 1) (fun gg s3 s5 wr => ∃ (k : Nat) (out : ByteArray), k ≤ l.length ∧ l.length - k < gg ∧ s5 = .int .i64 (k : Int) ∧ s3 = .string out ∧ Hid (out = ⟨(120 :: hexOf (l.take k)).toArray⟩) ∧ Hid (Below w.heap.size w wr))
  case atStart => exact ⟨0, ⟨#[120]⟩, by omega, by omega, rfl, rfl, Lib.hid rfl, Lib.hid (Below.refl _ _)⟩
  case round =>
    obtain ⟨k, out, hk, hgg, rfl, rfl, HO, BR⟩ := hrel
    by_cases hi : k < l.length
    · obtain ⟨x, hx⟩ : ∃ x, l[k]? = some x := ⟨_, List.getElem?_eq_getElem hi⟩
      have hne : l ≠ [] := fun e => by rw [e] at hi; exact absurd hi (Nat.not_lt_zero k)
      obtain ⟨b, o, rfl, hb, hc⟩ := HP.out hne
      have cx : wr.cell? ⟨b, o + k, none⟩ = some (.int .u8 (x.toNat : Int)) := (BR.out.cell (p := ⟨b, o + k, none⟩) hb).trans (hc k x hx)
      have HX := Lib.hid hx
      clear hx hc
      have hil : (k : Int) < (l.length : Int) := by omega
      have hd1 : 0 ≤ (x.toNat : Int) / 16 ∧ (x.toNat : Int) / 16 < 16 := by have := x.toNat_lt; omega
      have hd2 : 0 ≤ (x.toNat : Int) % 16 ∧ (x.toNat : Int) % 16 < 16 := by omega
      have hsz : out.size = 1 + 2 * k := by
        rw [HO.out]
        show (120 :: hexOf (l.take k)).toArray.size = _
        simp [hexOf_length]
        omega
      have hcat : ¬ 9223372036854775807 < out.size + 2 := by omega
      go_wp2
      have hcv := fun W a b => conv2 W 5 a b
      have hcd := fun W a b => conv2d W 5 a b
      go_region
      all_goals (go_wp2_with fail)
      all_goals
        have hA : ∀ h, (⟨#[48, 49, 50, 51, 52, 53, 54, 55, 56, 57, 97, 98, 99, 100, 101, 102]⟩ : ByteArray)[x.toNat / 16]'h = digit (x.toNat / 16) := fun h => dig_at (x.toNat / 16) (x.toNat / 16) rfl h
        have hB : ∀ h, (⟨#[48, 49, 50, 51, 52, 53, 54, 55, 56, 57, 97, 98, 99, 100, 101, 102]⟩ : ByteArray)[x.toNat % 16]'h = digit (x.toNat % 16) := fun h => dig_at (x.toNat % 16) (x.toNat % 16) rfl h
        go_roundg (l.length - (k + 1) + 1)
        case measure => omega
        case rel =>
          refine ⟨k + 1, _, by omega, by omega, by go_num, rfl, Lib.hid ?_, Lib.hid (Below.drew (BR.out.alloc BR.out.size _))⟩
          rw [hA, hB, HO.out, List.take_add_one, HX.out]
          show _ = (⟨(120 :: hexOf (l.take k ++ [x])).toArray⟩ : ByteArray)
          rw [hexOf_snoc]
          apply ByteArray.ext
          rw [ByteArray.data_append]
          simp
    · have hil : ¬ (k : Int) < (l.length : Int) := by omega
      obtain rfl : k = l.length := by omega
      go_wp2
      go_ret
      have := HO.out
      rw [List.take_of_length_le (Nat.le_refl _), ← HRES.out] at this
      rw [this]
      exact ⟨rfl, BR.out⟩

/-- The ints that a slice value shows. -/
def IntsIn (w : World) (v : Value) (l : List Int) : Prop :=
  ∃ p c, v = .slice p l.length c ∧ (l ≠ [] → ∃ b o, p = some ⟨b, o, none⟩ ∧ b < w.heap.size ∧ ∀ j x, l[j]? = some x → w.cell? ⟨b, o + j, none⟩ = some (.int .i64 x))

theorem IntsIn.below {w w' : World} {v : Value} {l : List Int} (h : IntsIn w v l) (hb : Below w.heap.size w w') : IntsIn w' v l := by
  obtain ⟨p, c, hv, h⟩ := h
  refine ⟨p, c, hv, fun hl => ?_⟩
  obtain ⟨b, o, hp, hlt, hc⟩ := h hl
  exact ⟨b, o, hp, Nat.lt_of_lt_of_le hlt hb.size, fun j x hx => (hb.cell (p := ⟨b, o + j, none⟩) hlt).trans (hc j x hx)⟩

theorem ints_c (v u : Value) (l : List Int) (w : World) (hv : IntsIn w v l) (hu : IntsIn w u l) (hl : l.length ≤ 1099511627776) :
    Calls Tryd.prog 28 #[v, u] w fun e w' => e = .returned (.bool true) ∧ Below w.heap.size w w' := by
  obtain ⟨p, c, rfl, hp⟩ := hv
  obtain ⟨q, d, rfl, hq⟩ := hu
  have HP := Lib.hid hp
  have HQ := Lib.hid hq
  clear hp hq
  go_enter Tryd.func28, Tryd.ntmps28
  go_wp2
  go_loopg [5] (l.length + 1) (fun gg s5 wr => ∃ k : Nat, k ≤ l.length ∧ l.length - k < gg ∧ s5 = .int .i64 (k : Int) ∧ Hid (Below w.heap.size w wr))
  case atStart => exact ⟨0, by omega, by omega, rfl, Lib.hid (Below.refl _ _)⟩
  case round =>
    obtain ⟨k, hk, hgg, rfl, BR⟩ := hrel
    by_cases hi : k < l.length
    · obtain ⟨x, hx⟩ : ∃ x, l[k]? = some x := ⟨_, List.getElem?_eq_getElem hi⟩
      have hne : l ≠ [] := fun e => by rw [e] at hi; exact absurd hi (Nat.not_lt_zero k)
      obtain ⟨b, o, rfl, hb, hc⟩ := HP.out hne
      obtain ⟨b2, o2, rfl, hb2, hc2⟩ := HQ.out hne
      have cx : wr.cell? ⟨b, o + k, none⟩ = some (.int .i64 x) := (BR.out.cell (p := ⟨b, o + k, none⟩) hb).trans (hc k x hx)
      have cy : wr.cell? ⟨b2, o2 + k, none⟩ = some (.int .i64 x) := (BR.out.cell (p := ⟨b2, o2 + k, none⟩) hb2).trans (hc2 k x hx)
      clear hx hc hc2
      have hil : (k : Int) < (l.length : Int) := by omega
      go_wp2
      go_quiet (fail)
      go_wp2
      go_roundg (l.length - (k + 1) + 1)
      case measure => omega
      case rel => exact ⟨k + 1, by omega, by omega, by go_num, Lib.hid (below_drewN BR.out _)⟩
    · have hil : ¬ (k : Int) < (l.length : Int) := by omega
      obtain rfl : k = l.length := by omega
      go_wp2
      go_ret
      exact ⟨rfl, BR.out⟩

end Go.Proofs.YtbnbnccpoeopmaaDoor.Sp
