/- The walks of chooser.counts and of the two library functions and the closure beneath it: what they answer for every geometry and every list of numbers. No conditions. -/
import Derived.Test.YtnbgljphdkfmpaaProg
import Derived.Test.YtnbgljphdkfmpaaWWords
import Derived.Test.YtnbgljphdkfmpaaWLast
import Derived.Test.YtnbgljphdkfmpaaWMore
import Derived.WalkKit
import Derived.Lib.SlBy
import Derived.Deep.LoopGhost
import Derived.Deep.Draws
import Derived.Deep.QuietTactic
import Derived.BigQuiet
import Derived.Below
import Derived.Lib.Hide
import Derived.Shelf.Abstract
import Derived.Outline
namespace Go.Proofs.Ytnbgljphdkfmpaa.Ch
open Go.RowKit Go.Proofs.YtnbgljphdkfmpaaW.PrintWords

theorem below_drewN' {B : Nat} {a w : World} (h : Below B a w) (q : Nat) : Below B a (w.drewN q) := ⟨h.os, h.tape, h.output, h.size, h.block⟩

/-- The closure's answer: a number below 0 or above the blocks. -/
def bad (b x : Int) : Bool := decide (x < 0 ∨ b < x)

theorem bad_low {b x : Int} (h : x < 0) : bad b x = true := by unfold bad; exact decide_eq_true (.inl h)
theorem bad_high {b x : Int} (h : b < x) : bad b x = true := by unfold bad; exact decide_eq_true (.inr h)
theorem bad_no {b x : Int} (h : ¬ x < 0) (h' : ¬ b < x) : bad b x = false := by unfold bad; exact decide_eq_false (by omega)

theorem closure (b x : Int) (B : Nat) (W : World) (hc : W.cell? ⟨B, 1, none⟩ = some (.int .i64 b)) :
    Calls Try.prog 36 #[.int .i64 x, .pointer (some ⟨B, 0, none⟩)] W fun e w' => e = .returned (.bool (bad b x)) ∧ ∃ q, w' = W.drewN q := by
  by_cases h : x < 0
  · rw [bad_low h]
    go_enter Try.func36, Try.ntmps36
    go_wp2
    go_ret
    exact ⟨rfl, 0, rfl⟩
  · have hd : decide (x < 0) = false := decide_eq_false h
    by_cases h' : b < x
    · rw [bad_high h']
      have hd' : decide (b < x) = true := decide_eq_true h'
      go_enter Try.func36, Try.ntmps36
      go_wp2
      go_ret
      exact ⟨rfl, 0, rfl⟩
    · rw [bad_no h h']
      have hd' : decide (b < x) = false := decide_eq_false h'
      go_enter Try.func36, Try.ntmps36
      go_wp2
      go_ret
      exact ⟨rfl, 0, rfl⟩

/-- What is asked of the closure, in every world in which all that lay there lies unturned. -/
def Pays (p : Int → Bool) (lb : Array Value) (w : World) : Prop := ∀ W x, Below w.heap.size w W → Calls Try.prog 36 (#[.int .i64 x] ++ lb) W fun e w' => e = .returned (.bool (p x)) ∧ ∃ q, w' = W.drewN q

set_option maxHeartbeats 2000000 in
theorem indexFunc (p : Int → Bool) (lb : Array Value) (b : Nat) (off n c : Nat) (zs : List Int) (w : World) (hp : Pays p lb w) (hz : n = zs.length) (hbig : n ≤ 9223372036854775807) (hc : ∀ j, j < n → w.cell? ⟨b, off + j, none⟩ = some (.int .i64 zs[j]!)) :
    Calls Try.prog 38 #[.slice (some ⟨b, off, none⟩) n c, .func (.func 36) #[] lb] w fun e w' => e = .returned (.int .i64 (Lib.idxBy (fun _ y => p y) (zs.take n) (0 : Int))) ∧ ∃ q, w' = w.drewN q := by
  have hpAt : ∀ (x : Int) (q : Nat), Calls Try.prog 36 (#[.int .i64 x] ++ lb) (w.drewN q) fun e w' => e = .returned (.bool (p x)) ∧ ∃ q', w' = (w.drewN q).drewN q' := fun x q => hp _ x (below_drewN' (Below.refl _ w) q)
  clear hp
  have Z := Lib.hid hz
  clear hz
  go_enter Try.func38, Try.ntmps38
  go_wp2
  go_loopg [5, 8] n (fun gg _ s8 wr => ∃ kk q : Nat, kk ≤ n ∧ n - kk ≤ gg ∧ s8 = .int .i64 kk ∧ wr = w.drewN q ∧ Aside0 (∀ j, j < kk → p zs[j]! = false))
  case atStart => exact ⟨0, 0, Nat.zero_le _, by omega, rfl, rfl, Aside0.mk (fun j hj => absurd hj (Nat.not_lt_zero _))⟩
  case round =>
    obtain ⟨kk, q, hkk, hg, rfl, rfl, A⟩ := hrel
    by_cases hlt : kk < n
    · have hltz : (kk : Int) < (n : Int) := by omega
      have hcell : w.cell? ⟨b, off + kk, none⟩ = some (.int .i64 zs[kk]!) := hc kk (by omega)
      clear hc
      generalize hy : zs[kk]! = y at hcell
      have B : Aside0 (zs[kk]! = y) := Aside0.mk hy
      clear hy
      have hcall := hpAt y
      cases hq : p y with
      | true =>
        rw [hq] at hcall
        go_wp2_with (go_at_call 36; refine (hcall _).mono ?_; rintro e w' ⟨rfl, q', rfl⟩)
        go_ret
        refine ⟨?_, _, rfl⟩
        rw [Lib.idxBy_hit (fun _ y => p y) zs n kk (0 : Int) hlt (by rw [Z.out]; exact Nat.le_refl _) (by show p zs[kk]! = true; rw [B.out]; exact hq) A.out]
        rfl
      | false =>
        rw [hq] at hcall
        go_wp2_with (go_at_call 36; refine (hcall _).mono ?_; rintro e w' ⟨rfl, q', rfl⟩)
        go_roundg (n - (kk + 1))
        case measure => omega
        case rel =>
          refine ⟨kk + 1, _, by omega, by omega, by go_num, rfl, Aside0.mk (fun j hj => ?_)⟩
          by_cases e : j = kk
          · subst e
            rw [B.out]; exact hq
          · exact A.out j (by omega)
    · have hltz : ¬ (kk : Int) < (n : Int) := by omega
      have : kk = n := by omega
      subst this
      go_wp2
      go_ret
      refine ⟨?_, q, rfl⟩
      rw [Lib.idxBy_miss (fun _ y => p y) zs kk (0 : Int) A.out]
      rfl

theorem indexFunc_empty (a : Option Addr) (c : Nat) (fv : Value) (w : World) :
    Calls Try.prog 38 #[.slice a 0 c, fv] w fun e w' => e = .returned (.int .i64 (-1)) ∧ ∃ q, w' = w.drewN q := by
  go_enter Try.func38, Try.ntmps38
  go_wp2
  go_loopg [5, 8] 0 (fun _ _ s8 wr => s8 = .int .i64 0 ∧ wr = w)
  case atStart => exact ⟨rfl, rfl⟩
  case round =>
    obtain ⟨rfl, rfl⟩ := hrel
    go_wp2
    go_ret
    exact ⟨rfl, 0, rfl⟩

theorem containsFunc (p : Int → Bool) (lb : Array Value) (A : Option Addr) (c : Nat) (zs : List Int) (w : World) (hp : Pays p lb w) (hr : ReadsOf (Value.int .i64) 0 w A zs.length zs) :
    Calls Try.prog 35 #[.slice A zs.length c, .func (.func 36) #[] lb] w fun e w' => e = .returned (.bool (zs.any p)) ∧ ∃ q, w' = w.drewN q := by
  obtain ⟨_, hbig, hcells⟩ := hr
  by_cases h0 : zs.length = 0
  · have hz : zs = [] := List.length_eq_zero_iff.1 h0
    subst hz
    have hcall := indexFunc_empty A c (.func (.func 36) #[] lb) w
    clear hcells hp
    go_enter Try.func35, Try.ntmps35
    go_wp2_with (go_at_call 38; refine hcall.mono ?_; rintro e w' ⟨rfl, q', rfl⟩)
    go_ret
    exact ⟨rfl, _, rfl⟩
  · obtain ⟨ad, rfl, hc⟩ := hcells (by omega)
    obtain ⟨b, off, m⟩ := ad
    have hc0 := hc 0 (by omega)
    have hm : m = none := by
      cases m with
      | none => rfl
      | some m =>
        simp only [Addr.add, if_true] at hc0
        unfold World.cell? at hc0
        split at hc0 <;> simp at hc0
    subst hm
    have hcall := indexFunc p lb b off zs.length c zs w hp rfl hbig (fun j hj => by
      have h1 := hc j hj
      have h2 : zs[j]! = zs.getD j 0 := by rw [List.getElem!_eq_getElem?_getD, List.getD_eq_getElem?_getD]; rfl
      have h3 : Addr.add ⟨b, off, none⟩ j = ⟨b, off + j, none⟩ := by
        unfold Addr.add
        by_cases e : j = 0
        · subst e; rfl
        · rw [if_neg e]
      rw [h2, ← h3]
      exact h1)
    have hval : zs.any p = decide (0 ≤ Lib.idxBy (fun _ y => p y) (zs.take zs.length) (0 : Int)) := by
      rw [Lib.idxBy_nonneg_iff, List.take_length]
    rw [hval]
    clear hcells hp hc hc0 hval
    generalize Lib.idxBy (fun _ y => p y) (zs.take zs.length) default = r at hcall ⊢
    go_enter Try.func35, Try.ntmps35
    go_wp2_with (go_at_call 38; refine hcall.mono ?_; rintro e w' ⟨rfl, q', rfl⟩)
    go_ret
    exact ⟨rfl, _, rfl⟩

/-- plat.Check's answer. -/
def chk (s b : Int) : Int := if s < 6 ∨ 24 < s ∨ b < 2 ∨ 16 < b then 1 else 0

theorem check (s b : Int) (w : World) : Calls Try.prog 34 #[.agg #[.int .i64 s, .int .i64 b]] w fun e w' => e = .returned (.int .i64 (chk s b)) ∧ Below w.heap.size w w' := by
  have hu39 := Try.underlying39
  have bel : Below w.heap.size w (w.alloc (.cells #[.int .i64 s, .int .i64 b] 39)) := (Below.refl _ _).alloc (Nat.le_refl _) _
  have BEL := Lib.hid bel
  clear bel
  by_cases h1 : s < 6
  · rw [show chk s b = 1 from if_pos (by omega)]
    have d1 : decide (s < 6) = true := decide_eq_true h1
    go_enter Try.func34, Try.ntmps34
    go_wp2
    go_ret
    exact ⟨rfl, BEL.out⟩
  have d1 : decide (s < 6) = false := decide_eq_false h1
  by_cases h2 : 24 < s
  · rw [show chk s b = 1 from if_pos (by omega)]
    have d2 : decide (24 < s) = true := decide_eq_true h2
    go_enter Try.func34, Try.ntmps34
    go_wp2
    go_ret
    exact ⟨rfl, BEL.out⟩
  have d2 : decide (24 < s) = false := decide_eq_false h2
  by_cases h3 : b < 2
  · rw [show chk s b = 1 from if_pos (by omega)]
    have d3 : decide (b < 2) = true := decide_eq_true h3
    go_enter Try.func34, Try.ntmps34
    go_wp2
    go_ret
    exact ⟨rfl, BEL.out⟩
  have d3 : decide (b < 2) = false := decide_eq_false h3
  by_cases h4 : 16 < b
  · rw [show chk s b = 1 from if_pos (by omega)]
    have d4 : decide (16 < b) = true := decide_eq_true h4
    go_enter Try.func34, Try.ntmps34
    go_wp2
    go_ret
    exact ⟨rfl, BEL.out⟩
  have d4 : decide (16 < b) = false := decide_eq_false h4
  rw [show chk s b = 0 from if_neg (by omega)]
  go_enter Try.func34, Try.ntmps34
  go_wp2
  go_ret
  exact ⟨rfl, BEL.out⟩

/-- counts' answer. -/
def cnt (s b : Int) (zs : List Int) : Bool := decide (chk s b = 0) && decide ((zs.length : Int) = s) && !zs.any (bad b)

theorem counts (s b : Int) (A : Option Addr) (c : Nat) (zs : List Int) (w : World) (hr : ReadsOf (Value.int .i64) 0 w A zs.length zs) :
    Calls Try.prog 30 #[.agg #[.int .i64 s, .int .i64 b], .slice A zs.length c] w fun e w' => e = .returned (.bool (cnt s b zs)) ∧ Below w.heap.size w w' := by
  have hu39 := Try.underlying39
  have hk := check s b
  have bel : ∀ w1, Below (w.heap.size + 1) (w.alloc (.cells #[.int .i64 s, .int .i64 b] 39)) w1 → Below w.heap.size w w1 := fun w1 h => ((Below.refl _ w).alloc (Nat.le_refl _) _).trans (h.mono (by omega))
  have BEL := Lib.hid bel
  have HR := Lib.hid hr
  clear bel hr
  by_cases h1 : chk s b = 0
  · by_cases h2 : (zs.length : Int) = s
    · have hv : cnt s b zs = !zs.any (bad b) := by unfold cnt; rw [decide_eq_true h1, decide_eq_true h2]; rfl
      rw [hv]
      rw [h1] at hk
      subst h2
      have hc := fun W hb => containsFunc (bad b) #[.pointer (some ⟨w.heap.size, 0, none⟩)] A c zs W hb
      clear hv h1
      go_enter Try.func30, Try.ntmps30
      go_wp2_with (first
        | (go_at_call 34; refine (hk _).mono ?_; rintro e w1 ⟨rfl, hb⟩
           have c0 : w1.cell? ⟨w.heap.size, 0, none⟩ = some (.int .i64 (zs.length : Int)) := (hb.cell (p := ⟨w.heap.size, 0, none⟩) (by simp)).trans (by simp)
           have c1 : w1.cell? ⟨w.heap.size, 1, none⟩ = some (.int .i64 b) := (hb.cell (p := ⟨w.heap.size, 1, none⟩) (by simp)).trans (by simp)
           have hz : w.heap.size < w1.heap.size := by have := hb.size; simp at this; omega
           have B2 : Hid (Below w.heap.size w w1) := Lib.hid (BEL.out w1 (by simpa using hb))
           clear hb)
        | (go_at_call 35; refine (hc _ (fun W x hb' => closure b x w.heap.size W ((hb'.cell (p := ⟨w.heap.size, 1, none⟩) hz).trans c1)) (HR.out.below B2.out)).mono ?_; rintro e w' ⟨rfl, q, rfl⟩))
      go_ret
      exact ⟨rfl, below_drewN' B2.out _⟩
    · have hv : cnt s b zs = false := by unfold cnt; rw [decide_eq_false h2, Bool.and_false, Bool.false_and]
      rw [hv]
      rw [h1] at hk
      have d2 : decide ((zs.length : Int) = s) = false := decide_eq_false h2
      clear hv h1
      go_enter Try.func30, Try.ntmps30
      go_wp2_with (first
        | (go_at_call 34; refine (hk _).mono ?_; rintro e w1 ⟨rfl, hb⟩
           have c0 : w1.cell? ⟨w.heap.size, 0, none⟩ = some (.int .i64 s) := (hb.cell (p := ⟨w.heap.size, 0, none⟩) (by simp)).trans (by simp)
           have B2 : Hid (Below w.heap.size w w1) := Lib.hid (BEL.out w1 (by simpa using hb))
           clear hb))
      go_ret
      exact ⟨rfl, B2.out⟩
  · have hv : cnt s b zs = false := by unfold cnt; rw [decide_eq_false h1, Bool.false_and, Bool.false_and]
    rw [hv]
    have h1' : chk s b = 1 := by
      unfold chk at h1 ⊢
      split at h1
      · rename_i h; rw [if_pos h]
      · exact absurd rfl h1
    rw [h1'] at hk
    clear hv h1 h1'
    go_enter Try.func30, Try.ntmps30
    go_wp2_with (first
      | (go_at_call 34; refine (hk _).mono ?_; rintro e w1 ⟨rfl, hb⟩
         have B2 : Hid (Below w.heap.size w w1) := Lib.hid (BEL.out w1 (by simpa using hb))
         clear hb))
    go_ret
    exact ⟨rfl, B2.out⟩

end Go.Proofs.Ytnbgljphdkfmpaa.Ch
