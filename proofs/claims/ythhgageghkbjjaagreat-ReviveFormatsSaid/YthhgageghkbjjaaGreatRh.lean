/- The walks of basin's Put. -/
import Derived.Test.YthhgageghkbjjaaGreatRg
namespace Go.Proofs.YthhgageghkbjjaaGreat.Rh
set_option maxRecDepth 8000
open Go.RowKit Go.Proofs.YthhgageghkbjjaaGreat.Ra Go.Proofs.YthhgageghkbjjaaGreat.Re Go.Proofs.YthhgageghkbjjaaGreat.Rf Go.Proofs.YthhgageghkbjjaaGreat.Rg

theorem cell_lt {w : World} {a : Addr} {v : Value} (h : w.cell? a = some v) : a.block < w.heap.size := by
  unfold World.cell? at h
  split at h
  · rename_i hb; exact (Array.getElem?_eq_some_iff.1 hb).1
  · cases h

/-- A write: its place, its bytes' slice, its bytes. -/
structure Wr where
  at_ : Int
  v : Value
  l : List UInt8

def wrVal (x : Wr) : Value := .agg #[.int .i64 x.at_, x.v]

theorem plen_c (w : World) (at_ : Int) (p : Option Addr) (n c : Nat) :
    Calls Tryz.prog 29 #[.agg #[.int .i64 at_, .slice p n c]] w fun e w' => e = .returned (.bool (decide (n ≠ 64))) ∧ Below w.heap.size w w' := by
  go_enter Tryz.func29, Tryz.ntmps29
  go_wp2
  go_ret
  refine ⟨?_, (Below.refl _ _).alloc (Nat.le_refl _) _⟩
  rw [show ((n : Int) != 64) = decide (n ≠ 64) from by rw [Bool.eq_iff_iff]; simp; omega]
  rfl

theorem prng_c {B : Nat} {w : World} {D S N : Nat} {lv : Value} {d : Dev} (h : DevAt B w D S N lv d) (bx : Nat) (hb : w.cell? ⟨bx, 0, none⟩ = some (.pointer (some ⟨D, 0, none⟩))) (at_ : Int) (v : Value) :
    Calls Tryz.prog 30 #[.agg #[.int .i64 at_, v], .pointer (some ⟨bx, 0, none⟩)] w fun e w' => e = .returned (.bool (decide (at_ < 0 ∨ (d.n : Int) ≤ at_))) ∧ Below w.heap.size w w' := by
  have hL := h.lt
  have hX : bx < w.heap.size := cell_lt hb
  obtain ⟨c0, c1, c2, c3, c4⟩ := h.cells
  clear h c0 c2 c3 c4
  generalize d.n = n at *
  go_enter Tryz.func30, Tryz.ntmps30
  by_cases hn : at_ < 0
  · have hd : decide (at_ < 0) = true := by simp [hn]
    go_wp2_with (go_quiet (fail))
    go_ret
    refine ⟨by simp [hn], below_drewN ((Below.refl _ _).alloc (Nat.le_refl _) _) _⟩
  · have hd : decide (at_ < 0) = false := by simp [hn]
    go_wp2_with (go_quiet (fail))
    go_ret
    refine ⟨by simp, below_drewN ((Below.refl _ _).alloc (Nat.le_refl _) _) _⟩

/-- The writes that a slice value shows. -/
def WritesIn (B : Nat) (w : World) (v : Value) (ws : List Wr) : Prop :=
  (∃ p c, v = .slice p ws.length c ∧ (ws ≠ [] → ∃ b o, p = some ⟨b, o, none⟩ ∧ b < w.heap.size ∧ Ra.Safe B w b ∧ ∀ j x, ws[j]? = some x → w.cell? ⟨b, o + j * 2, none⟩ = some (.int .i64 x.at_) ∧ w.cell? ⟨b, o + j * 2 + 1, none⟩ = some x.v)) ∧
  ∀ x ∈ ws, BytesIn B w x.v x.l
theorem WritesIn.step {B : Nat} {w w' : World} {v : Value} {ws : List Wr} (h : WritesIn B w v ws) (hs : Step B w w') : WritesIn B w' v ws := by
  obtain ⟨⟨p, c, hv, h⟩, hx⟩ := h
  refine ⟨⟨p, c, hv, fun hl => ?_⟩, fun x hm => (hx x hm).step hs⟩
  obtain ⟨b, o, hp, hlt, hsf, hc⟩ := h hl
  exact ⟨b, o, hp, Nat.lt_of_lt_of_le hlt hs.size, hsf.step hs, fun j x hj => ⟨(hsf.cell hs _).trans (hc j x hj).1, (hsf.cell hs _).trans (hc j x hj).2⟩⟩

/-- Which is the first one? -/
def idxW (bad : Wr → Bool) (ws : List Wr) : Int := match ws.findIdx? bad with
  | some i => (i : Int)
  | none => -1

theorem findIdx_at (bad : Wr → Bool) : ∀ (ws : List Wr) (j : Nat) (x : Wr), ws[j]? = some x → bad x = true → (∀ i y, i < j → ws[i]? = some y → bad y = false) → ws.findIdx? bad = some j
  | [], j, x, h, _, _ => by simp at h
  | y :: ws, 0, x, h, hb, _ => by
    obtain rfl : y = x := by simpa using h
    simp [List.findIdx?_cons, hb]
  | y :: ws, j + 1, x, h, hb, hl => by
    have h0 := hl 0 y (Nat.succ_pos _) rfl
    have := findIdx_at bad ws j x (by simpa using h) hb (fun i z hi hz => hl (i + 1) z (Nat.succ_lt_succ hi) (by simpa using hz))
    simp [List.findIdx?_cons, h0, this]
theorem idxW_any (bad : Wr → Bool) (ws : List Wr) : decide ((0 : Int) ≤ idxW bad ws) = ws.any bad := by
  unfold idxW
  cases h : ws.findIdx? bad with
  | none =>
    have := List.findIdx?_eq_none_iff.1 h
    symm
    simpa using this
  | some i =>
    obtain ⟨hi, hb, _⟩ := List.findIdx?_eq_some_iff_getElem.1 h
    have h2 : ws.any bad = true := List.any_eq_true.2 ⟨_, List.getElem_mem hi, hb⟩
    rw [h2]
    simp

set_option maxHeartbeats 2000000 in
theorem index_len_c (B : Nat) (v : Value) (ws : List Wr) (w : World) (hB : B ≤ w.heap.size) (hv : WritesIn B w v ws) (hl : ws.length ≤ 1000000) (bad : Wr → Bool)
    (hf : ∀ x ∈ ws, ∀ w', Below w.heap.size w w' → Calls Tryz.prog 29 #[wrVal x] w' fun e w'' => e = .returned (.bool (bad x)) ∧ Below w'.heap.size w' w'') :
    Calls Tryz.prog 51 #[v, .func (.func 29) #[] #[]] w fun e w' => e = .returned (.int .i64 (idxW bad ws)) ∧ Below w.heap.size w w' := by
  have HV := Lib.hid hv
  obtain ⟨⟨p, c, rfl, -⟩, -⟩ := hv
  have HF := Lib.hid hf
  have HB := Lib.hid hB
  clear hf hB
  obtain ⟨N, hN⟩ : ∃ N, N = ws.length := ⟨_, rfl⟩
  rw [← hN] at hl ⊢
  have HN := Lib.hid hN
  clear hN
  go_enter Tryz.func51, Tryz.ntmps51
  go_wp2
  go_loopg [5, 8] (N + 1) (fun gg _ s8 wr => ∃ j : Nat, j ≤ N ∧ N - j < gg ∧ s8 = .int .i64 (j : Int) ∧ Hid (Below w.heap.size w wr ∧ ∀ i x, i < j → ws[i]? = some x → bad x = false))
  case atStart => exact ⟨0, by omega, by omega, rfl, Lib.hid ⟨Below.refl _ _, fun i x hi => by omega⟩⟩
  case round =>
    obtain ⟨j, hj, hgg, rfl, HR⟩ := hrel
    by_cases hlt : j < N
    · have hil : (j : Int) < (N : Int) := by omega
      obtain ⟨x, hx⟩ : ∃ x, ws[j]? = some x := ⟨_, List.getElem?_eq_getElem (by rw [← HN.out]; exact hlt)⟩
      have hv2 := HV.out.step (Step.of HR.out.1 HB.out)
      obtain ⟨⟨p', c', hv', hp'⟩, -⟩ := hv2
      obtain ⟨rfl, rfl⟩ : p = p' ∧ c = c' := by
        have := HN.out
        simpa using (by rw [← this] at hv'; simpa using hv' : p = p' ∧ c = c')
      obtain ⟨b, o, rfl, _, _, hc⟩ := hp' (fun e => by rw [e] at hx; cases hx)
      obtain ⟨cx, cy⟩ := hc j x hx
      have KF := Lib.hid (HF.out x (List.mem_of_getElem? hx) wr HR.out.1)
      unfold wrVal at KF
      have HX := Lib.hid hx
      clear hc hp' hv' hx
      cases hbad : bad x with
      | false =>
        have HD : Hid (∀ i y, i < j + 1 → ws[i]? = some y → bad y = false) := Lib.hid (fun i y hi hy => by
          rcases Nat.lt_or_ge i j with h' | h'
          · exact HR.out.2 i y h' hy
          · obtain rfl : i = j := by omega
            rw [HX.out] at hy
            rw [← Option.some.inj hy]; exact hbad)
        rw [hbad] at KF
        clear hbad
        go_wp2_with (go_at_call 29; (with_reducible refine KF.out.mono ?_); rintro e w5 ⟨rfl, hb5⟩; have HB5 := Lib.hid (HR.out.1.trans (hb5.mono HR.out.1.size)); clear hb5)
        go_roundg (N - (j + 1) + 1)
        case measure => omega
        case rel => exact ⟨j + 1, by omega, by omega, by go_num, Lib.hid ⟨HB5.out, HD.out⟩⟩
      | true =>
        have HE : Hid (idxW bad ws = (j : Int)) := Lib.hid (by
          unfold idxW
          rw [findIdx_at bad ws j x HX.out hbad HR.out.2])
        rw [hbad] at KF
        clear hbad
        go_wp2_with (go_at_call 29; (with_reducible refine KF.out.mono ?_); rintro e w5 ⟨rfl, hb5⟩; have HB5 := Lib.hid (HR.out.1.trans (hb5.mono HR.out.1.size)); clear hb5)
        go_ret
        rw [HE.out]
        exact ⟨rfl, HB5.out⟩
    · have hil : ¬ (j : Int) < (N : Int) := by omega
      obtain rfl : j = N := by omega
      have HE : Hid (idxW bad ws = -1) := Lib.hid (by
        unfold idxW
        rw [List.findIdx?_eq_none_iff.2 (fun x hx => ?_)]
        obtain ⟨i, hi⟩ := List.getElem?_of_mem hx
        exact HR.out.2 i x (by rw [HN.out]; exact (List.getElem?_eq_some_iff.1 hi).1) hi)
      go_wp2
      go_ret
      rw [HE.out]
      exact ⟨rfl, HR.out.1⟩

theorem contains_len_c (B : Nat) (v : Value) (ws : List Wr) (w : World) (hB : B ≤ w.heap.size) (hv : WritesIn B w v ws) (hl : ws.length ≤ 1000000) (bad : Wr → Bool)
    (hf : ∀ x ∈ ws, ∀ w', Below w.heap.size w w' → Calls Tryz.prog 29 #[wrVal x] w' fun e w'' => e = .returned (.bool (bad x)) ∧ Below w'.heap.size w' w'') :
    Calls Tryz.prog 28 #[v, .func (.func 29) #[] #[]] w fun e w' => e = .returned (.bool (ws.any bad)) ∧ Below w.heap.size w w' := by
  have KI := Lib.hid (index_len_c B v ws w hB hv hl bad hf)
  have HA := Lib.hid (idxW_any bad ws)
  clear hf
  obtain ⟨⟨p, c, rfl, -⟩, -⟩ := hv
  clear hl
  generalize ws.length = n at *
  generalize idxW bad ws = ix at *
  go_enter Tryz.func28, Tryz.ntmps28
  go_wp2_with (go_at_call 51; (with_reducible refine KI.out.mono ?_); rintro e w5 ⟨rfl, hb5⟩)
  go_ret
  rw [← HA.out]
  exact ⟨rfl, hb5⟩

set_option maxHeartbeats 2000000 in
theorem index_rng_c (B : Nat) (v : Value) (ws : List Wr) (w : World) (hB : B ≤ w.heap.size) (hv : WritesIn B w v ws) (hl : ws.length ≤ 1000000) (bx : Nat) (bad : Wr → Bool)
    (hf : ∀ x ∈ ws, ∀ w', Below w.heap.size w w' → Calls Tryz.prog 30 #[wrVal x, .pointer (some ⟨bx, 0, none⟩)] w' fun e w'' => e = .returned (.bool (bad x)) ∧ Below w'.heap.size w' w'') :
    Calls Tryz.prog 51 #[v, .func (.func 30) #[] #[.pointer (some ⟨bx, 0, none⟩)]] w fun e w' => e = .returned (.int .i64 (idxW bad ws)) ∧ Below w.heap.size w w' := by
  have HV := Lib.hid hv
  obtain ⟨⟨p, c, rfl, -⟩, -⟩ := hv
  have HF := Lib.hid hf
  have HB := Lib.hid hB
  clear hf hB
  obtain ⟨N, hN⟩ : ∃ N, N = ws.length := ⟨_, rfl⟩
  rw [← hN] at hl ⊢
  have HN := Lib.hid hN
  clear hN
  go_enter Tryz.func51, Tryz.ntmps51
  go_wp2
  go_loopg [5, 8] (N + 1) (fun gg _ s8 wr => ∃ j : Nat, j ≤ N ∧ N - j < gg ∧ s8 = .int .i64 (j : Int) ∧ Hid (Below w.heap.size w wr ∧ ∀ i x, i < j → ws[i]? = some x → bad x = false))
  case atStart => exact ⟨0, by omega, by omega, rfl, Lib.hid ⟨Below.refl _ _, fun i x hi => by omega⟩⟩
  case round =>
    obtain ⟨j, hj, hgg, rfl, HR⟩ := hrel
    by_cases hlt : j < N
    · have hil : (j : Int) < (N : Int) := by omega
      obtain ⟨x, hx⟩ : ∃ x, ws[j]? = some x := ⟨_, List.getElem?_eq_getElem (by rw [← HN.out]; exact hlt)⟩
      have hv2 := HV.out.step (Step.of HR.out.1 HB.out)
      obtain ⟨⟨p', c', hv', hp'⟩, -⟩ := hv2
      obtain ⟨rfl, rfl⟩ : p = p' ∧ c = c' := by
        have := HN.out
        simpa using (by rw [← this] at hv'; simpa using hv' : p = p' ∧ c = c')
      obtain ⟨b, o, rfl, _, _, hc⟩ := hp' (fun e => by rw [e] at hx; cases hx)
      obtain ⟨cx, cy⟩ := hc j x hx
      have KF := Lib.hid (HF.out x (List.mem_of_getElem? hx) wr HR.out.1)
      unfold wrVal at KF
      have HX := Lib.hid hx
      clear hc hp' hv' hx
      cases hbad : bad x with
      | false =>
        have HD : Hid (∀ i y, i < j + 1 → ws[i]? = some y → bad y = false) := Lib.hid (fun i y hi hy => by
          rcases Nat.lt_or_ge i j with h' | h'
          · exact HR.out.2 i y h' hy
          · obtain rfl : i = j := by omega
            rw [HX.out] at hy
            rw [← Option.some.inj hy]; exact hbad)
        rw [hbad] at KF
        clear hbad
        go_wp2_with (go_at_call 30; (with_reducible refine KF.out.mono ?_); rintro e w5 ⟨rfl, hb5⟩; have HB5 := Lib.hid (HR.out.1.trans (hb5.mono HR.out.1.size)); clear hb5)
        go_roundg (N - (j + 1) + 1)
        case measure => omega
        case rel => exact ⟨j + 1, by omega, by omega, by go_num, Lib.hid ⟨HB5.out, HD.out⟩⟩
      | true =>
        have HE : Hid (idxW bad ws = (j : Int)) := Lib.hid (by
          unfold idxW
          rw [findIdx_at bad ws j x HX.out hbad HR.out.2])
        rw [hbad] at KF
        clear hbad
        go_wp2_with (go_at_call 30; (with_reducible refine KF.out.mono ?_); rintro e w5 ⟨rfl, hb5⟩; have HB5 := Lib.hid (HR.out.1.trans (hb5.mono HR.out.1.size)); clear hb5)
        go_ret
        rw [HE.out]
        exact ⟨rfl, HB5.out⟩
    · have hil : ¬ (j : Int) < (N : Int) := by omega
      obtain rfl : j = N := by omega
      have HE : Hid (idxW bad ws = -1) := Lib.hid (by
        unfold idxW
        rw [List.findIdx?_eq_none_iff.2 (fun x hx => ?_)]
        obtain ⟨i, hi⟩ := List.getElem?_of_mem hx
        exact HR.out.2 i x (by rw [HN.out]; exact (List.getElem?_eq_some_iff.1 hi).1) hi)
      go_wp2
      go_ret
      rw [HE.out]
      exact ⟨rfl, HR.out.1⟩

theorem contains_rng_c (B : Nat) (v : Value) (ws : List Wr) (w : World) (hB : B ≤ w.heap.size) (hv : WritesIn B w v ws) (hl : ws.length ≤ 1000000) (bx : Nat) (bad : Wr → Bool)
    (hf : ∀ x ∈ ws, ∀ w', Below w.heap.size w w' → Calls Tryz.prog 30 #[wrVal x, .pointer (some ⟨bx, 0, none⟩)] w' fun e w'' => e = .returned (.bool (bad x)) ∧ Below w'.heap.size w' w'') :
    Calls Tryz.prog 28 #[v, .func (.func 30) #[] #[.pointer (some ⟨bx, 0, none⟩)]] w fun e w' => e = .returned (.bool (ws.any bad)) ∧ Below w.heap.size w w' := by
  have KI := Lib.hid (index_rng_c B v ws w hB hv hl bx bad hf)
  have HA := Lib.hid (idxW_any bad ws)
  clear hf
  obtain ⟨⟨p, c, rfl, -⟩, -⟩ := hv
  clear hl
  generalize ws.length = n at *
  generalize idxW bad ws = ix at *
  go_enter Tryz.func28, Tryz.ntmps28
  go_wp2_with (go_at_call 51; (with_reducible refine KI.out.mono ?_); rintro e w5 ⟨rfl, hb5⟩)
  go_ret
  rw [← HA.out]
  exact ⟨rfl, hb5⟩

end Go.Proofs.YthhgageghkbjjaaGreat.Rh
