/- The walks of the law's number and of unhex. -/
import Derived.Test.YtbnbnccpoeopmaaDoorSb
import Derived.Lib.ConvBytes
import Derived.Lib.ItoaLen
namespace Go.Proofs.YtbnbnccpoeopmaaDoor.Sc
open Go.RowKit Go.Proofs.YtbnbnccpoeopmaaDoor.Sa Go.Proofs.YtbnbnccpoeopmaaDoor.Sb

/-- One byte as a string. -/
theorem conv1 (z : Nat) (hz : z < 256) (w : World) (t : TypeId) :
    (convert 22 9 (.slice (some ⟨w.heap.size, 0, none⟩) 1 1)).run Tryd.prog (w.alloc (.cells #[.int .u8 (z : Int)] t)) = .ok (.string ⟨#[UInt8.ofNat z]⟩) (w.alloc (.cells #[.int .u8 (z : Int)] t)) := by
  have h := run_convert_bytes_back (P := Tryd.prog) (w.alloc (.cells #[.int .u8 (z : Int)] t)) 22 9 5 ⟨w.heap.size, 0, none⟩ 1 [UInt8.ofNat z] (by kernel_rfl) (by kernel_rfl) (by kernel_rfl) (fun j hj => by
    have : j = 0 := by simpa using hj
    subst this
    rw [Lib.add_plain]
    refine (World.cell?_alloc_new w _ t _).trans ?_
    simp [Nat.mod_eq_of_lt hz])
  exact h

/-- The digits ahead of the last one. -/
def pre (u : Nat) : List UInt8 := if u < 10 then [] else Lib.decDigits (u / 10)
theorem dec_pre (u : Nat) : Lib.decDigits u = pre u ++ [UInt8.ofNat (48 + u % 10)] := by
  unfold pre
  rw [Lib.decDigits]
  split
  · rename_i h
    rw [Nat.mod_eq_of_lt h]
    rfl
  · rfl

def digB (u : Nat) : ByteArray := ⟨#[UInt8.ofNat (48 + u % 10)]⟩

theorem conv_dig (u : Nat) (w : World) (t : TypeId) :
    (convert 22 9 (.slice (some ⟨w.heap.size, 0, none⟩) 1 1)).run Tryd.prog (w.alloc (.cells #[.int .u8 (48 + (u : Int) % 10)] t)) = .ok (.string (digB u)) (w.alloc (.cells #[.int .u8 (48 + (u : Int) % 10)] t)) := by
  have h := conv1 (48 + u % 10) (by omega) w t
  have e : ((48 + u % 10 : Nat) : Int) = 48 + (u : Int) % 10 := by omega
  rw [e] at h
  exact h

theorem conv_dig10 (u : Nat) (w : World) (t : TypeId) :
    (convert 22 9 (.slice (some ⟨w.heap.size, 0, none⟩) 1 1)).run Tryd.prog (w.alloc (.cells #[.int .u8 (48 + (u : Int) / 10 % 10)] t)) = .ok (.string (digB (u / 10))) (w.alloc (.cells #[.int .u8 (48 + (u : Int) / 10 % 10)] t)) := conv_dig (u / 10) w t

theorem dec_len (u : Nat) (hu : u ≤ 9223372036854775808) : (Lib.decDigits u).length ≤ 21 := by
  by_cases h0 : u = 0
  · have h : Lib.decDigits u = [UInt8.ofNat (48 + u)] := Lib.decDigits_one (by omega)
    rw [h]
    exact Nat.le_add_left 1 20
  have h := Lib.itoa_length_le (-(u : Int)) (by omega) (by omega)
  rw [Lib.itoa_neg u (by omega), List.length_cons] at h
  omega

theorem cat_len {u q : Nat} {b : ByteArray} (hu : u ≤ 9223372036854775808) (hd : Lib.decDigits u = pre q ++ b.data.toList) : ¬ 9223372036854775807 < (digB (q / 10)).size + b.size := by
  have h := dec_len u hu
  rw [hd, List.length_append] at h
  have h2 : b.size = b.data.toList.length := by rw [Array.length_toList]; rfl
  have h3 : (digB (q / 10)).size = 1 := rfl
  omega

theorem pre_step {u q : Nat} {b : ByteArray} (hq : 10 ≤ q) (hd : Lib.decDigits u = pre q ++ b.data.toList) : Lib.decDigits u = pre (q / 10) ++ (digB (q / 10) ++ b).data.toList := by
  have h : pre q = Lib.decDigits (q / 10) := if_neg (by omega)
  rw [hd, h, dec_pre (q / 10), ByteArray.data_append, Array.toList_append, List.append_assoc]
  rfl

theorem pre_end {u q : Nat} {b : ByteArray} (hq : ¬ 10 ≤ q) (hd : Lib.decDigits u = pre q ++ b.data.toList) : b = ⟨(Lib.decDigits u).toArray⟩ := by
  have h : pre q = [] := if_pos (by omega)
  rw [hd, h, List.nil_append]

theorem neg_end (u : Nat) (h1 : 1 ≤ u) {b : ByteArray} (hb : b = ⟨(Lib.decDigits u).toArray⟩) : (⟨#[45]⟩ : ByteArray) ++ b = ⟨(Lib.itoa (-(u : Int))).toArray⟩ := by
  rw [Lib.itoa_neg u h1, hb]
  apply ByteArray.ext
  rw [ByteArray.data_append]
  simp

set_option maxRecDepth 100000 in
theorem lawNumber_pos (u : Nat) (hu : u < 9223372036854775808) (w : World) :
    Calls Tryd.prog 14 #[.int .i64 (u : Int)] w fun e w' => e = .returned (.string ⟨(Lib.itoa (u : Int)).toArray⟩) ∧ Below w.heap.size w w' := by
  have hwr : IntKind.u64.wrap (u : Int) = (u : Int) := by rw [IntKind.wrap_u64]; omega
  have hc := fun W t => conv_dig u W t
  have h0 : ¬ ((u : Int) < 0) := by omega
  go_enter Tryd.func14, Tryd.ntmps14
  go_wp2
  have hst : Hid (Lib.decDigits u = pre u ++ (digB u).data.toList) := Lib.hid (dec_pre u)
  clear hc hwr
  generalize digB u = sb at hst ⊢
  go_loopg [3, 4] (u + 1) (fun gg s3 s4 wr => ∃ (q : Nat) (b : ByteArray), q < gg ∧ q ≤ u ∧ s3 = .int .u64 q ∧ s4 = .string b ∧ Hid (Lib.decDigits u = pre q ++ b.data.toList) ∧ Hid (Below w.heap.size w wr))
  case atStart => exact ⟨u, sb, by omega, by omega, rfl, rfl, hst, Lib.hid ((Below.refl _ _).alloc (Nat.le_refl _) _)⟩
  case round =>
    obtain ⟨q, b, hq, hqu, rfl, rfl, hd, B⟩ := hrel
    have hc := fun W t => conv_dig10 q W t
    have hcat := cat_len (by omega) hd.out
    by_cases e : 10 ≤ q
    · have hlt : (10 : Int) ≤ (q : Int) := by omega
      go_wp2
      go_roundg (q / 10 + 1)
      case measure => omega
      case rel => exact ⟨q / 10, digB (q / 10) ++ b, by omega, by omega, by go_num, rfl, Lib.hid (pre_step e hd.out), Lib.hid (B.out.alloc B.out.size _)⟩
    · have hlt : ¬ (10 : Int) ≤ (q : Int) := by omega
      clear hc
      go_wp2
      go_ret
      rw [Lib.itoa_nonneg, ← pre_end e hd.out]
      exact ⟨rfl, B.out⟩

set_option maxRecDepth 100000 in
theorem lawNumber_neg (u : Nat) (h1 : 1 ≤ u) (hu : u ≤ 9223372036854775808) (w : World) :
    Calls Tryd.prog 14 #[.int .i64 (-(u : Int))] w fun e w' => e = .returned (.string ⟨(Lib.itoa (-(u : Int))).toArray⟩) ∧ Below w.heap.size w w' := by
  have hwr : IntKind.u64.wrap (-IntKind.u64.wrap (-(u : Int))) = (u : Int) := by rw [IntKind.wrap_u64, IntKind.wrap_u64]; omega
  have hc := fun W t => conv_dig u W t
  have h0 : -(u : Int) < 0 := by omega
  go_enter Tryd.func14, Tryd.ntmps14
  go_wp2
  have hst : Hid (Lib.decDigits u = pre u ++ (digB u).data.toList) := Lib.hid (dec_pre u)
  clear hc hwr
  generalize digB u = sb at hst ⊢
  go_loopg [3, 4] (u + 1) (fun gg s3 s4 wr => ∃ (q : Nat) (b : ByteArray), q < gg ∧ q ≤ u ∧ s3 = .int .u64 q ∧ s4 = .string b ∧ Hid (Lib.decDigits u = pre q ++ b.data.toList) ∧ Hid (Below w.heap.size w wr))
  case atStart => exact ⟨u, sb, by omega, by omega, rfl, rfl, hst, Lib.hid ((Below.refl _ _).alloc (Nat.le_refl _) _)⟩
  case round =>
    obtain ⟨q, b, hq, hqu, rfl, rfl, hd, B⟩ := hrel
    have hc := fun W t => conv_dig10 q W t
    have hcat := cat_len (by omega) hd.out
    by_cases e : 10 ≤ q
    · have hlt : (10 : Int) ≤ (q : Int) := by omega
      go_wp2
      go_roundg (q / 10 + 1)
      case measure => omega
      case rel => exact ⟨q / 10, digB (q / 10) ++ b, by omega, by omega, by go_num, rfl, Lib.hid (pre_step e hd.out), Lib.hid (B.out.alloc B.out.size _)⟩
    · have hlt : ¬ (10 : Int) ≤ (q : Int) := by omega
      have hb := pre_end e hd.out
      have hsz : ¬ 9223372036854775807 < 1 + b.size := by
        have h3 : (digB (q / 10)).size = 1 := rfl
        omega
      clear hc hcat
      have HB := Lib.hid hb
      clear hb
      go_wp2
      go_ret
      exact ⟨congrArg (fun z => Ending.returned (Value.string z)) (neg_end u h1 HB.out), B.out⟩

theorem lawNumber_c (n : Int) (h0 : -9223372036854775808 ≤ n) (h1 : n ≤ 9223372036854775807) (w : World) :
    Calls Tryd.prog 14 #[.int .i64 n] w fun e w' => e = .returned (.string ⟨(Lib.itoa n).toArray⟩) ∧ Below w.heap.size w w' := by
  by_cases h : n < 0
  · obtain ⟨u, rfl⟩ : ∃ u : Nat, n = -(u : Int) := ⟨n.natAbs, by omega⟩
    exact lawNumber_neg u (by omega) (by omega) w
  · obtain ⟨u, rfl⟩ : ∃ u : Nat, n = (u : Int) := ⟨n.toNat, by omega⟩
    exact lawNumber_pos u (by omega) w

end Go.Proofs.YtbnbnccpoeopmaaDoor.Sc
