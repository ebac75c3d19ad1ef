/- Texts joined: KTe KTg KTh KSx. -/
import Derived.Deep.RegionHeld3
import Derived.ProofKit
import Derived.Lib.CutLaws
import Derived.Test.YtjohhjdicbeojaaGreatDoorZaf
import Derived.Test.YtjohhjdicbeojaaGreatDoorZag
import Derived.Test.YtjohhjdicbeojaaGreatDoorZai
namespace Go.Proofs.YtjohhjdicbeojaaGreatDoor.KTe
open Go.RowKit Go.Proofs.YtjohhjdicbeojaaGreatDoor.KSa Go.Proofs.YtjohhjdicbeojaaGreatDoor.KSb Go.Proofs.YtjohhjdicbeojaaGreatDoor.KSd Go.Proofs.YtjohhjdicbeojaaGreatDoor.KSf Go.Proofs.YtjohhjdicbeojaaGreatDoor.KSg Go.Proofs.YtjohhjdicbeojaaGreatDoor.KSh Go.Proofs.YtjohhjdicbeojaaGreatDoor.KSj Go.Proofs.YtjohhjdicbeojaaGreatDoor.KSr Go.Proofs.YtjohhjdicbeojaaGreatDoor.KSt Go.Proofs.YtjohhjdicbeojaaGreatDoor.KSu Go.Proofs.YtjohhjdicbeojaaGreatDoor.KTc Go.Proofs.YtjohhjdicbeojaaGreatDoor.KTd
set_option maxRecDepth 100000 in
theorem line_forth (m : ActM) (hok : NumsOk m) (h : (lineL m).2 = true) : actL (lineL m).1 = some m := by
  obtain ⟨kind, n, rk, vol, block, size, data, keep⟩ := m
  obtain ⟨gn, gv, gb, gd, gk, -, -⟩ := hok
  simp only at gn gv gb gd gk
  rcases find_cases ⟨kind, n, rk, vol, block, size, data, keep⟩ with ⟨_, h1⟩ | ⟨hk, _⟩ | ⟨hk, _⟩ | ⟨hk, _⟩ | ⟨hk, _⟩ | ⟨hk, _⟩ | ⟨hk, q, hq, hr, _⟩
  · rw [h1] at h
    cases h
  · obtain rfl : kind = 1 := hk
    have h2 := h
    simp [lineL, noneL] at h2
    obtain ⟨rfl, rfl, rfl, rfl, rfl⟩ : n = 0 ∧ rk = 0 ∧ vol = 0 ∧ data = [] ∧ keep = [] := by
      clear h gk gn gv gb gd
      simp_all
    have e : (lineL ⟨1, 0, 0, 0, block, size, [], []⟩).1 = [102, 111, 114, 109, 97, 116] ++ tl [Lib.itoa size, Lib.itoa block] := by
      simp [lineL, tl]
    rw [e]
    exact back_0 size block gd gb
  · obtain rfl : kind = 2 := hk
    have h2 := h
    simp [lineL, noneL, bareL] at h2
    obtain ⟨rfl, rfl, rfl, rfl, rfl, rfl, rfl⟩ : n = 0 ∧ rk = 0 ∧ vol = 0 ∧ block = 0 ∧ size = 0 ∧ data = [] ∧ keep = [] := by
      clear h gk gn gv gb gd
      simp_all
    have e : (lineL ⟨2, 0, 0, 0, 0, 0, [], []⟩).1 = [111, 112, 101, 110] ++ tl [] := by
      simp [lineL, tl]
    rw [e]
    exact back_1 
  · obtain rfl : kind = 4 := hk
    have h2 := h
    simp [lineL, noneL, bareL] at h2
    obtain ⟨rfl, rfl, rfl, rfl, rfl, rfl⟩ : rk = 0 ∧ vol = 0 ∧ block = 0 ∧ size = 0 ∧ data = [] ∧ keep = [] := by
      clear h gk gn gv gb gd
      simp_all
    have e : (lineL ⟨4, n, 0, 0, 0, 0, [], []⟩).1 = [115, 116, 101, 112] ++ tl [Lib.itoa n] := by
      simp [lineL, tl]
    rw [e]
    exact back_2 n gn
  · obtain rfl : kind = 6 := hk
    have h2 := h
    simp [lineL, noneL, bareL] at h2
    obtain ⟨rfl, rfl, rfl, rfl, rfl, rfl⟩ : rk = 0 ∧ vol = 0 ∧ block = 0 ∧ size = 0 ∧ data = [] ∧ keep = [] := by
      clear h gk gn gv gb gd
      simp_all
    have e : (lineL ⟨6, n, 0, 0, 0, 0, [], []⟩).1 = [102, 97, 105, 108] ++ tl [Lib.itoa n] := by
      simp [lineL, tl]
    rw [e]
    exact back_3 n gn
  · obtain rfl : kind = 7 := hk
    have h2 := h
    simp [lineL, noneL] at h2
    obtain ⟨rfl, rfl, rfl, rfl, rfl, rfl⟩ : n = 0 ∧ rk = 0 ∧ vol = 0 ∧ block = 0 ∧ size = 0 ∧ data = [] := by
      clear h gk gn gv gb gd
      simp_all
    have e : (lineL ⟨7, 0, 0, 0, 0, 0, [], keep⟩).1 = [99, 114, 97, 115, 104] ++ tl (keep.map Lib.itoa) := by
      show [99, 114, 97, 115, 104] ++ keepL keep = _
      rw [keep_tl]
    rw [e]
    exact back_4 keep gk
  · have hk : kind = 3 ∨ kind = 5 := hk
    have hr : rk = (q : Int) + 1 := hr
    have hq9 : q = 0 ∨ q = 1 ∨ q = 2 ∨ q = 3 ∨ q = 4 ∨ q = 5 ∨ q = 6 ∨ q = 7 ∨ q = 8 := by omega
    clear hq
    rcases hk with rfl | rfl
    · rcases hq9 with rfl | rfl | rfl | rfl | rfl | rfl | rfl | rfl | rfl
      · obtain rfl : rk = 1 := hr
        have h2 := h
        simp [lineL, reqL] at h2
        obtain ⟨rfl, rfl, rfl, rfl, rfl⟩ : n = 0 ∧ vol = 0 ∧ block = 0 ∧ data = [] ∧ keep = [] := by
          clear h gk gn gv gb gd
          simp_all
        have e : (lineL ⟨3, 0, 1, 0, 0, size, [], []⟩).1 = laterB ++ tl ([99, 114, 101, 97, 116, 101] :: [Lib.itoa size]) := by
          simp [lineL, reqL, tl, sp]
        rw [e]
        exact backL_5 size gd
      · obtain rfl : rk = 2 := hr
        have h2 := h
        simp [lineL, reqL] at h2
        obtain ⟨rfl, rfl, rfl, rfl, rfl⟩ : n = 0 ∧ block = 0 ∧ size = 0 ∧ data = [] ∧ keep = [] := by
          clear h gk gn gv gb gd
          simp_all
        have e : (lineL ⟨3, 0, 2, vol, 0, 0, [], []⟩).1 = laterB ++ tl ([100, 101, 108, 101, 116, 101] :: [Lib.itoa vol]) := by
          simp [lineL, reqL, tl, sp]
        rw [e]
        exact backL_6 vol gv
      · obtain rfl : rk = 3 := hr
        have h2 := h
        simp [lineL, reqL] at h2
        obtain ⟨rfl, rfl, rfl, rfl, rfl⟩ : n = 0 ∧ block = 0 ∧ size = 0 ∧ data = [] ∧ keep = [] := by
          clear h gk gn gv gb gd
          simp_all
        have e : (lineL ⟨3, 0, 3, vol, 0, 0, [], []⟩).1 = laterB ++ tl ([115, 110, 97, 112] :: [Lib.itoa vol]) := by
          simp [lineL, reqL, tl, sp]
        rw [e]
        exact backL_7 vol gv
      · obtain rfl : rk = 4 := hr
        have h2 := h
        simp [lineL, reqL] at h2
        obtain ⟨rfl, rfl, rfl, rfl⟩ : n = 0 ∧ size = 0 ∧ data = [] ∧ keep = [] := by
          clear h gk gn gv gb gd
          simp_all
        have e : (lineL ⟨3, 0, 4, vol, block, 0, [], []⟩).1 = laterB ++ tl ([114, 101, 97, 100] :: [Lib.itoa vol, Lib.itoa block]) := by
          simp [lineL, reqL, tl, sp]
        rw [e]
        exact backL_8 vol block gv gb
      · obtain rfl : rk = 5 := hr
        have h2 := h
        simp [lineL, reqL] at h2
        obtain ⟨rfl, rfl, rfl⟩ : n = 0 ∧ size = 0 ∧ keep = [] := by
          clear h gk gn gv gb gd
          simp_all
        have e : (lineL ⟨3, 0, 5, vol, block, 0, data, []⟩).1 = laterB ++ tl ([119, 114, 105, 116, 101] :: [Lib.itoa vol, Lib.itoa block, 120 :: hexOf data]) := by
          show laterB ++ [32] ++ ([119, 114, 105, 116, 101] ++ sp vol ++ sp block ++ [32] ++ (120 :: hexOf data)) = _
          simp only [tl, sp, List.flatMap_cons, List.flatMap_nil, List.append_assoc, List.cons_append, List.nil_append, List.append_nil]
        rw [e]
        exact backL_9 vol block data gv gb
      · obtain rfl : rk = 6 := hr
        have h2 := h
        simp [lineL, reqL] at h2
        obtain ⟨rfl, rfl, rfl, rfl⟩ : n = 0 ∧ size = 0 ∧ data = [] ∧ keep = [] := by
          clear h gk gn gv gb gd
          simp_all
        have e : (lineL ⟨3, 0, 6, vol, block, 0, [], []⟩).1 = laterB ++ tl ([100, 105, 115, 99, 97, 114, 100] :: [Lib.itoa vol, Lib.itoa block]) := by
          simp [lineL, reqL, tl, sp]
        rw [e]
        exact backL_10 vol block gv gb
      · obtain rfl : rk = 7 := hr
        have h2 := h
        simp [lineL, reqL] at h2
        obtain ⟨rfl, rfl, rfl, rfl, rfl, rfl⟩ : n = 0 ∧ vol = 0 ∧ block = 0 ∧ size = 0 ∧ data = [] ∧ keep = [] := by
          clear h gk gn gv gb gd
          simp_all
        have e : (lineL ⟨3, 0, 7, 0, 0, 0, [], []⟩).1 = laterB ++ tl ([115, 121, 110, 99] :: []) := by
          simp [lineL, reqL, tl]
        rw [e]
        exact backL_11 
      · obtain rfl : rk = 8 := hr
        have h2 := h
        simp [lineL, reqL] at h2
        obtain ⟨rfl, rfl, rfl, rfl, rfl, rfl⟩ : n = 0 ∧ vol = 0 ∧ block = 0 ∧ size = 0 ∧ data = [] ∧ keep = [] := by
          clear h gk gn gv gb gd
          simp_all
        have e : (lineL ⟨3, 0, 8, 0, 0, 0, [], []⟩).1 = laterB ++ tl ([115, 116, 97, 116] :: []) := by
          simp [lineL, reqL, tl]
        rw [e]
        exact backL_12 
      · obtain rfl : rk = 9 := hr
        have h2 := h
        simp [lineL, reqL] at h2
        obtain ⟨rfl, rfl, rfl, rfl, rfl⟩ : n = 0 ∧ block = 0 ∧ size = 0 ∧ data = [] ∧ keep = [] := by
          clear h gk gn gv gb gd
          simp_all
        have e : (lineL ⟨3, 0, 9, vol, 0, 0, [], []⟩).1 = laterB ++ tl ([101, 110, 116, 114, 121] :: [Lib.itoa vol]) := by
          simp [lineL, reqL, tl, sp]
        rw [e]
        exact backL_13 vol gv
    · rcases hq9 with rfl | rfl | rfl | rfl | rfl | rfl | rfl | rfl | rfl
      · obtain rfl : rk = 1 := hr
        have h2 := h
        simp [lineL, reqL] at h2
        obtain ⟨rfl, rfl, rfl, rfl, rfl⟩ : n = 0 ∧ vol = 0 ∧ block = 0 ∧ data = [] ∧ keep = [] := by
          clear h gk gn gv gb gd
          simp_all
        have e : (lineL ⟨5, 0, 1, 0, 0, size, [], []⟩).1 = [99, 114, 101, 97, 116, 101] ++ tl [Lib.itoa size] := by
          simp [lineL, reqL, tl, sp]
        rw [e]
        exact back_5 size gd
      · obtain rfl : rk = 2 := hr
        have h2 := h
        simp [lineL, reqL] at h2
        obtain ⟨rfl, rfl, rfl, rfl, rfl⟩ : n = 0 ∧ block = 0 ∧ size = 0 ∧ data = [] ∧ keep = [] := by
          clear h gk gn gv gb gd
          simp_all
        have e : (lineL ⟨5, 0, 2, vol, 0, 0, [], []⟩).1 = [100, 101, 108, 101, 116, 101] ++ tl [Lib.itoa vol] := by
          simp [lineL, reqL, tl, sp]
        rw [e]
        exact back_6 vol gv
      · obtain rfl : rk = 3 := hr
        have h2 := h
        simp [lineL, reqL] at h2
        obtain ⟨rfl, rfl, rfl, rfl, rfl⟩ : n = 0 ∧ block = 0 ∧ size = 0 ∧ data = [] ∧ keep = [] := by
          clear h gk gn gv gb gd
          simp_all
        have e : (lineL ⟨5, 0, 3, vol, 0, 0, [], []⟩).1 = [115, 110, 97, 112] ++ tl [Lib.itoa vol] := by
          simp [lineL, reqL, tl, sp]
        rw [e]
        exact back_7 vol gv
      · obtain rfl : rk = 4 := hr
        have h2 := h
        simp [lineL, reqL] at h2
        obtain ⟨rfl, rfl, rfl, rfl⟩ : n = 0 ∧ size = 0 ∧ data = [] ∧ keep = [] := by
          clear h gk gn gv gb gd
          simp_all
        have e : (lineL ⟨5, 0, 4, vol, block, 0, [], []⟩).1 = [114, 101, 97, 100] ++ tl [Lib.itoa vol, Lib.itoa block] := by
          simp [lineL, reqL, tl, sp]
        rw [e]
        exact back_8 vol block gv gb
      · obtain rfl : rk = 5 := hr
        have h2 := h
        simp [lineL, reqL] at h2
        obtain ⟨rfl, rfl, rfl⟩ : n = 0 ∧ size = 0 ∧ keep = [] := by
          clear h gk gn gv gb gd
          simp_all
        have e : (lineL ⟨5, 0, 5, vol, block, 0, data, []⟩).1 = [119, 114, 105, 116, 101] ++ tl [Lib.itoa vol, Lib.itoa block, 120 :: hexOf data] := by
          show ([119, 114, 105, 116, 101] ++ sp vol ++ sp block ++ [32] ++ (120 :: hexOf data)) = _
          simp only [tl, sp, List.flatMap_cons, List.flatMap_nil, List.append_assoc, List.cons_append, List.nil_append, List.append_nil]
        rw [e]
        exact back_9 vol block data gv gb
      · obtain rfl : rk = 6 := hr
        have h2 := h
        simp [lineL, reqL] at h2
        obtain ⟨rfl, rfl, rfl, rfl⟩ : n = 0 ∧ size = 0 ∧ data = [] ∧ keep = [] := by
          clear h gk gn gv gb gd
          simp_all
        have e : (lineL ⟨5, 0, 6, vol, block, 0, [], []⟩).1 = [100, 105, 115, 99, 97, 114, 100] ++ tl [Lib.itoa vol, Lib.itoa block] := by
          simp [lineL, reqL, tl, sp]
        rw [e]
        exact back_10 vol block gv gb
      · obtain rfl : rk = 7 := hr
        have h2 := h
        simp [lineL, reqL] at h2
        obtain ⟨rfl, rfl, rfl, rfl, rfl, rfl⟩ : n = 0 ∧ vol = 0 ∧ block = 0 ∧ size = 0 ∧ data = [] ∧ keep = [] := by
          clear h gk gn gv gb gd
          simp_all
        have e : (lineL ⟨5, 0, 7, 0, 0, 0, [], []⟩).1 = [115, 121, 110, 99] ++ tl [] := by
          simp [lineL, reqL, tl]
        rw [e]
        exact back_11 
      · obtain rfl : rk = 8 := hr
        have h2 := h
        simp [lineL, reqL] at h2
        obtain ⟨rfl, rfl, rfl, rfl, rfl, rfl⟩ : n = 0 ∧ vol = 0 ∧ block = 0 ∧ size = 0 ∧ data = [] ∧ keep = [] := by
          clear h gk gn gv gb gd
          simp_all
        have e : (lineL ⟨5, 0, 8, 0, 0, 0, [], []⟩).1 = [115, 116, 97, 116] ++ tl [] := by
          simp [lineL, reqL, tl]
        rw [e]
        exact back_12 
      · obtain rfl : rk = 9 := hr
        have h2 := h
        simp [lineL, reqL] at h2
        obtain ⟨rfl, rfl, rfl, rfl, rfl⟩ : n = 0 ∧ block = 0 ∧ size = 0 ∧ data = [] ∧ keep = [] := by
          clear h gk gn gv gb gd
          simp_all
        have e : (lineL ⟨5, 0, 9, vol, 0, 0, [], []⟩).1 = [101, 110, 116, 114, 121] ++ tl [Lib.itoa vol] := by
          simp [lineL, reqL, tl, sp]
        rw [e]
        exact back_13 vol gv
end Go.Proofs.YtjohhjdicbeojaaGreatDoor.KTe
namespace Go.Proofs.YtjohhjdicbeojaaGreatDoor.KTg
open Go.RowKit Go.ChangeShapes Go.WideShapes Go.Proofs.YtjohhjdicbeojaaGreatDoor.KSd Go.Proofs.YtjohhjdicbeojaaGreatDoor.KSf Go.Proofs.YtjohhjdicbeojaaGreatDoor.KSg Go.Proofs.YtjohhjdicbeojaaGreatDoor.KSh Go.Proofs.YtjohhjdicbeojaaGreatDoor.KSp Go.Proofs.YtjohhjdicbeojaaGreatDoor.KSu Go.Proofs.YtjohhjdicbeojaaGreatDoor.KSw
section
variable {H : Type} {enc : TypeId × Value → H} {w : World} {base : Nat} {spare : Nat → Bool} {held : Bool}
theorem wf_u8 {n : Int} (h : (Lit.int .u8 n).wf = true) : 0 ≤ n ∧ n < 256 := by
  have e1 : IntKind.u8.min = 0 := by decide
  have e2 : IntKind.u8.max = 255 := by decide
  simp [Lit.wf, e1, e2] at h
  omega
theorem wf_i64' {n : Int} (h : (Lit.int .i64 n).wf = true) : I64 n := by
  have e1 : IntKind.i64.min = -9223372036854775808 := by decide
  have e2 : IntKind.i64.max = 9223372036854775807 := by decide
  simp [Lit.wf, e1, e2] at h
  exact h
theorem cell_plain {a : Addr} {v : Value} (h : w.cell? a = some v) : a = ⟨a.block, a.off, none⟩ ∧ a.block < w.heap.size := by
  obtain ⟨b, o, s⟩ := a
  cases s with
  | none => exact ⟨rfl, Go.block_lt_of_cell h⟩
  | some s =>
    unfold World.cell? at h
    split at h
    · simp at h
    · cases h
theorem open_bytesIn {fuel : Nat} {v : Value} {x : DataW H × List MemPlace} (h : DataW.trod enc Tryz.prog w base spare held fuel 22 [v] = some x) :
    ∃ l : List UInt8, BytesIn w v l ∧ l.length ≤ maxLen := by
  rcases open_ints Tryz.underlying22 Tryz.underlying5 (by kernel_rfl) h with ⟨hcs, hx⟩ | ⟨a, len, cap, zs, hcs, _, hl, hm, hz, hx, hcell, hwz⟩
  · simp at hcs
    subst hcs
    exact ⟨[], bytes_nil _ _ _, Nat.zero_le _⟩
  · simp at hcs
    subst hcs
    have hlz : len ≤ zs.length := by rw [hz]; split <;> omega
    refine ⟨(zs.take len).map fun z => UInt8.ofNat z.toNat, ⟨some a, cap, ?_, fun hne => ?_⟩, ?_⟩
    · rw [List.length_map, List.length_take, Nat.min_eq_left hlz]
    · have hpos : 0 < len := by
        rcases Nat.eq_zero_or_pos len with h0 | h0
        · subst h0
          exact absurd rfl hne
        · exact h0
      have c0 := hcell 0 (by omega)
      have e0 : a.add 0 = a := by simp [Addr.add]
      rw [e0] at c0
      obtain ⟨ha, hb⟩ := cell_plain c0
      refine ⟨a.block, a.off, congrArg some ha, hb, fun j y hy => ?_⟩
      rw [List.getElem?_map] at hy
      cases hz2 : (zs.take len)[j]? with
      | none => rw [hz2] at hy; cases hy
      | some z =>
        rw [hz2] at hy
        have hy : UInt8.ofNat z.toNat = y := Option.some.inj hy
        have hj : j < len := by
          have := (List.getElem?_eq_some_iff.1 hz2).1
          rw [List.length_take] at this
          omega
        have hz3 : zs[j]? = some z := by
          rw [List.getElem?_take, if_pos hj] at hz2
          exact hz2
        have c := hcell j (by omega)
        have hwfz := wf_u8 (hwz z (List.mem_of_getElem? hz3))
        rw [List.getD_eq_getElem?_getD, hz3] at c
        have e1 : a.add j = ⟨a.block, a.off + j, none⟩ := by
          rw [ha]
          exact Lib.add_plain _ _ _
        rw [e1] at c
        rw [c, ← hy]
        simp only [Option.getD_some, Option.some.injEq, Value.int.injEq, true_and]
        rw [UInt8.toNat_ofNat']
        omega
    · rw [List.length_map, List.length_take]
      omega
theorem open_intsIn {fuel : Nat} {v : Value} {x : DataW H × List MemPlace} (h : DataW.trod enc Tryz.prog w base spare held fuel 25 [v] = some x) :
    ∃ l : List Int, IntsIn w v l ∧ l.length ≤ maxLen ∧ ∀ y ∈ l, I64 y := by
  rcases open_ints Tryz.underlying25 Tryz.underlying3 (by kernel_rfl) h with ⟨hcs, hx⟩ | ⟨a, len, cap, zs, hcs, _, hl, hm, hz, hx, hcell, hwz⟩
  · simp at hcs
    subst hcs
    exact ⟨[], ints_nil _ _ _, Nat.zero_le _, fun _ h => by cases h⟩
  · simp at hcs
    subst hcs
    have hlz : len ≤ zs.length := by rw [hz]; split <;> omega
    refine ⟨zs.take len, ⟨some a, cap, ?_, fun hne => ?_⟩, ?_, fun y hy => wf_i64' (hwz y (List.mem_of_mem_take hy))⟩
    · rw [List.length_take, Nat.min_eq_left hlz]
    · have hpos : 0 < len := by
        rcases Nat.eq_zero_or_pos len with h0 | h0
        · subst h0
          exact absurd rfl hne
        · exact h0
      have c0 := hcell 0 (by omega)
      have e0 : a.add 0 = a := by simp [Addr.add]
      rw [e0] at c0
      obtain ⟨ha, hb⟩ := cell_plain c0
      refine ⟨a.block, a.off, congrArg some ha, hb, fun j y hy => ?_⟩
      have hj : j < len := by
        have := (List.getElem?_eq_some_iff.1 hy).1
        rw [List.length_take] at this
        omega
      rw [List.getElem?_take, if_pos hj] at hy
      have c := hcell j (by omega)
      rw [List.getD_eq_getElem?_getD, hy] at c
      have e1 : a.add j = ⟨a.block, a.off + j, none⟩ := by
        rw [ha]
        exact Lib.add_plain _ _ _
      rw [e1] at c
      exact c
    · rw [List.length_take]
      omega
theorem open_one {fuel : Nat} {v : Value} {x : DataW H × List MemPlace} (h : DataW.trod enc Tryz.prog w base spare held fuel 3 [v] = some x) : ∃ n, v = .int .i64 n ∧ I64 n := by
  obtain ⟨n, hn, _, hw⟩ := DataW.trod_int Tryz.underlying3 h
  simp at hn
  exact ⟨n, hn, wf_i64' hw⟩
/-- What an act's cells are. -/
structure ActIn (w : World) (m : ActM) (dv kv : Value) : Prop where
  n : I64 m.n
  vol : I64 m.vol
  block : I64 m.block
  size : I64 m.size
  keeps : ∀ x ∈ m.keep, I64 x
  data : BytesIn w dv m.data
  keep : IntsIn w kv m.keep
set_option maxRecDepth 100000 in
theorem open_act {fuel : Nat} {cs : List Value} {x : DataW H × List MemPlace} (h : DataW.trod enc Tryz.prog w base spare held fuel 34 cs = some x) :
    ∃ m dv kv, cs = [.int .i64 m.kind, .int .i64 m.n, .int .i64 m.rk, .int .i64 m.vol, .int .i64 m.block, .int .i64 m.size, dv, kv] ∧ ActIn w m dv kv := by
  obtain ⟨xs, n, _, _, hl, hlen, hf⟩ := DataW.trod_struct Tryz.underlying34 h
  have c27 : Tryz.prog.cellsOf 34 = 8 := by kernel_rfl
  have c24 : Tryz.prog.cellsOf 24 = 5 := by kernel_rfl
  have c3 : Tryz.prog.cellsOf 3 = 1 := by kernel_rfl
  have c22 : Tryz.prog.cellsOf 22 = 1 := by kernel_rfl
  have c25 : Tryz.prog.cellsOf 25 = 1 := by kernel_rfl
  rw [c27] at hl
  match cs, hl, xs, hlen with
  | [u0, u1, u2, u3, u4, u5, u6, u7], _, [y0, y1, y2, y3], _ =>
    have g0 : DataW.trod enc Tryz.prog w base spare held n 3 [u0] = some y0 := by
      have g := hf 0 _ rfl
      simpa [c3] using g
    have g1 : DataW.trod enc Tryz.prog w base spare held n 3 [u1] = some y1 := by
      have g := hf 1 _ rfl
      simpa [c3] using g
    have g2 : DataW.trod enc Tryz.prog w base spare held n 24 [u2, u3, u4, u5, u6] = some y2 := by
      have g := hf 2 _ rfl
      simpa [c24] using g
    have g3 : DataW.trod enc Tryz.prog w base spare held n 25 [u7] = some y3 := by
      have g := hf 3 _ rfl
      simpa [c25] using g
    obtain ⟨kind, rfl, _⟩ := open_one g0
    obtain ⟨nn, rfl, hn⟩ := open_one g1
    obtain ⟨lk, hk, _, hki⟩ := open_intsIn g3
    obtain ⟨zs, n2, _, _, _, hlen2, hf2⟩ := DataW.trod_struct Tryz.underlying24 g2
    match zs, hlen2 with
    | [z0, z1, z2, z3, z4], _ =>
      have k0 : DataW.trod enc Tryz.prog w base spare held n2 3 [u2] = some z0 := by
        have g := hf2 0 _ rfl
        simpa [c3] using g
      have k1 : DataW.trod enc Tryz.prog w base spare held n2 3 [u3] = some z1 := by
        have g := hf2 1 _ rfl
        simpa [c3] using g
      have k2 : DataW.trod enc Tryz.prog w base spare held n2 3 [u4] = some z2 := by
        have g := hf2 2 _ rfl
        simpa [c3] using g
      have k3 : DataW.trod enc Tryz.prog w base spare held n2 3 [u5] = some z3 := by
        have g := hf2 3 _ rfl
        simpa [c3] using g
      have k4 : DataW.trod enc Tryz.prog w base spare held n2 22 [u6] = some z4 := by
        have g := hf2 4 _ rfl
        simpa [c22] using g
      obtain ⟨rk, rfl, _⟩ := open_one k0
      obtain ⟨vol, rfl, hv⟩ := open_one k1
      obtain ⟨block, rfl, hb⟩ := open_one k2
      obtain ⟨size, rfl, hd⟩ := open_one k3
      obtain ⟨la, ha, _⟩ := open_bytesIn k4
      exact ⟨⟨kind, nn, rk, vol, block, size, la, lk⟩, u6, u7, rfl, hn, hv, hb, hd, hki, ha, hk⟩
end
theorem ActIn.below {w w' : World} {m : ActM} {dv kv : Value} (h : ActIn w m dv kv) (hb : Below w.heap.size w w') : ActIn w' m dv kv :=
  ⟨h.n, h.vol, h.block, h.size, h.keeps, h.data.below hb, h.keep.below hb⟩
theorem ActIn.ok {w : World} {m : ActM} {dv kv : Value} (h : ActIn w m dv kv) (h1 : m.data.length ≤ 1099511627776) (h2 : m.keep.length ≤ 1099511627776) : KTd.NumsOk m := ⟨h.n, h.vol, h.block, h.size, h.keeps, h1, h2⟩
end Go.Proofs.YtjohhjdicbeojaaGreatDoor.KTg
namespace Go.Proofs.YtjohhjdicbeojaaGreatDoor.KTh
open Go.RowKit Go.Proofs.YtjohhjdicbeojaaGreatDoor.KSa Go.Proofs.YtjohhjdicbeojaaGreatDoor.KSb Go.Proofs.YtjohhjdicbeojaaGreatDoor.KSd Go.Proofs.YtjohhjdicbeojaaGreatDoor.KSe Go.Proofs.YtjohhjdicbeojaaGreatDoor.KSf Go.Proofs.YtjohhjdicbeojaaGreatDoor.KSg Go.Proofs.YtjohhjdicbeojaaGreatDoor.KSh Go.Proofs.YtjohhjdicbeojaaGreatDoor.KSj Go.Proofs.YtjohhjdicbeojaaGreatDoor.KSp Go.Proofs.YtjohhjdicbeojaaGreatDoor.KSq Go.Proofs.YtjohhjdicbeojaaGreatDoor.KSr Go.Proofs.YtjohhjdicbeojaaGreatDoor.KSu Go.Proofs.YtjohhjdicbeojaaGreatDoor.KSv Go.Proofs.YtjohhjdicbeojaaGreatDoor.KSw Go.Proofs.YtjohhjdicbeojaaGreatDoor.KTc Go.Proofs.YtjohhjdicbeojaaGreatDoor.KTd Go.Proofs.YtjohhjdicbeojaaGreatDoor.KTe Go.Proofs.YtjohhjdicbeojaaGreatDoor.KTg
def actAgg (m : ActM) (dv kv : Value) : Value := .agg #[.int .i64 m.kind, .int .i64 m.n, .int .i64 m.rk, .int .i64 m.vol, .int .i64 m.block, .int .i64 m.size, dv, kv]
/-- Line's answer at an act that has a line. -/
theorem line_good (m : ActM) (dv kv : Value) (W : World) (hE : Env W) (h : ActIn W m dv kv) (h1 : m.data.length ≤ 1099511627776) (h2 : m.keep.length ≤ 1099511627776) (hl : (lineL m).2 = true) :
    Calls Tryz.prog 7 #[actAgg m dv kv] W fun e w' => e = .returned (.tuple #[.string (mkB (lineL m).1), .int .i64 0]) ∧ Below W.heap.size W w' := by
  refine (line_c m dv kv W hE (h.ok h1 h2) h.data h.keep).mono ?_
  rintro e w' ⟨rfl, hb⟩
  refine ⟨?_, hb⟩
  unfold lineOut
  rw [if_pos hl]
theorem line_none (m : ActM) (dv kv : Value) (W : World) (hE : Env W) (h : ActIn W m dv kv) (h1 : m.data.length ≤ 1099511627776) (h2 : m.keep.length ≤ 1099511627776) (hl : (lineL m).2 = false) :
    Calls Tryz.prog 7 #[actAgg m dv kv] W fun e w' => e = .returned (.tuple #[.string ⟨#[]⟩, .int .i64 1]) ∧ Below W.heap.size W w' := by
  refine (line_c m dv kv W hE (h.ok h1 h2) h.data h.keep).mono ?_
  rintro e w' ⟨rfl, hb⟩
  refine ⟨?_, hb⟩
  unfold lineOut
  rw [if_neg (by rw [hl]; exact Bool.false_ne_true)]
/-- Act's answer at an act's line. -/
theorem act_back (m : ActM) (W : World) (hE : Env W) (hok : NumsOk m) (hs : (lineL m).1.length ≤ 4294967280) (hl : (lineL m).2 = true) :
    Calls Tryz.prog 48 #[.string (mkB (lineL m).1)] W fun e w' => ∃ pd cd pk ck, e = .returned (.tuple #[actAgg m (.slice pd m.data.length cd) (.slice pk m.keep.length ck), .int .i64 0]) ∧ BytesIn w' (.slice pd m.data.length cd) m.data ∧ IntsIn w' (.slice pk m.keep.length ck) m.keep ∧ Below W.heap.size W w' := by
  have hm : actM? (mkB (lineL m).1) = some m := by
    rw [actM_L]
    have : (mkB (lineL m).1).data.toList = (lineL m).1 := by simp [mkB]
    rw [this]
    exact line_forth m hok hl
  have hsz : (mkB (lineL m).1).size = (lineL m).1.length := by
    show ((lineL m).1).toArray.size = _
    simp
  refine (act_c _ (by omega) W hE).mono ?_
  rintro e w' ⟨dv, kv, he, hd, hk, hb, -⟩
  rw [hm] at he hd hk
  have b1 := bytes_of_row hd
  have b2 := ints_of_row hk
  obtain ⟨pd, cd, rfl⟩ := own_slice hd
  obtain ⟨pk, ck, rfl⟩ := own_slice hk
  exact ⟨pd, cd, pk, ck, he, b1, b2, hb⟩
theorem req_len (rk vol block size : Int) (la : List UInt8) (hv : I64 vol) (hb : I64 block) (hd : I64 size) : (reqL rk vol block size la).1.length ≤ 512 + 2 * la.length := by
  have z1 := itoa_len vol hv
  have z2 := itoa_len block hb
  have z3 := itoa_len size hd
  have z4 := hexOf_length la
  unfold reqL sp
  repeat' split
  all_goals simp only [List.length_append, List.length_cons, List.length_nil]
  all_goals omega
theorem line_size (m : ActM) (hok : NumsOk m) (h1 : m.data.length ≤ 1000000) (h2 : m.keep.length ≤ 1000000) : (lineL m).1.length ≤ 4294967280 := by
  have z0 := itoa_len m.n hok.n
  have z2 := itoa_len m.block hok.block
  have z3 := itoa_len m.size hok.size
  have z4 := keepL_len m.keep hok.keep
  have z5 := req_len m.rk m.vol m.block m.size m.data hok.vol hok.block hok.size
  unfold lineL laterB
  repeat' split
  all_goals simp only [List.length_append, List.length_cons, List.length_nil]
  all_goals omega
end Go.Proofs.YtjohhjdicbeojaaGreatDoor.KTh
namespace Go.Proofs.YtjohhjdicbeojaaGreatDoor.KSx
open Go.RowKit Go.Proofs.YtjohhjdicbeojaaGreatDoor.KSa Go.Proofs.YtjohhjdicbeojaaGreatDoor.KSb Go.Proofs.YtjohhjdicbeojaaGreatDoor.KSc Go.Proofs.YtjohhjdicbeojaaGreatDoor.KSd Go.Proofs.YtjohhjdicbeojaaGreatDoor.KSe Go.Proofs.YtjohhjdicbeojaaGreatDoor.KSf Go.Proofs.YtjohhjdicbeojaaGreatDoor.KSg Go.Proofs.YtjohhjdicbeojaaGreatDoor.KSh Go.Proofs.YtjohhjdicbeojaaGreatDoor.KSj Go.Proofs.YtjohhjdicbeojaaGreatDoor.KSp Go.Proofs.YtjohhjdicbeojaaGreatDoor.KSr Go.Proofs.YtjohhjdicbeojaaGreatDoor.KSu Go.Proofs.YtjohhjdicbeojaaGreatDoor.KSw
/-- A line, what is behind it, and whether it is ended. -/
def cutL : List UInt8 → List UInt8 × List UInt8 × Bool
  | [] => ([], [], false)
  | c :: l => if c = 10 then ([], l, true) else ((c :: (cutL l).1), (cutL l).2.1, (cutL l).2.2)
theorem cut_L : ∀ l : List UInt8, Lib.cut l [10] = cutL l
  | [] => rfl
  | c :: l => by
    have ih := cut_L l
    by_cases hc : c = 10
    · subst hc
      have hix : Lib.index (10 :: l) [10] = 0 := by rw [Lib.index]; simp [List.isPrefixOf]
      unfold cutL
      rw [if_pos rfl]
      unfold Lib.cut
      rw [hix]
      simp
    · have hp : ([10] : List UInt8).isPrefixOf (c :: l) = false := by simp [List.isPrefixOf, Ne.symm hc]
      have hix : Lib.index (c :: l) [10] = if Lib.index l [10] == -1 then -1 else Lib.index l [10] + 1 := by rw [Lib.index, hp]; simp
      unfold cutL
      rw [if_neg hc, ← ih]
      unfold Lib.cut
      have hge := Lib.index_ge l [10]
      by_cases hm : Lib.index l [10] = -1
      · rw [hix, hm]
        simp
      · obtain ⟨j, hj⟩ : ∃ j : Nat, Lib.index l [10] = j := ⟨(Lib.index l [10]).toNat, by omega⟩
        have hix2 : Lib.index (c :: l) [10] = ((j + 1 : Nat) : Int) := by
          rw [hix, if_neg (fun e => hm (beq_iff_eq.1 e)), hj]
          omega
        rw [hix2, hj, if_pos (by omega), if_pos (by omega), Int.toNat_natCast, Int.toNat_natCast]
        rfl
theorem cutL_len : ∀ l : List UInt8, (cutL l).1.length ≤ l.length ∧ ((cutL l).2.2 = true → (cutL l).2.1.length < l.length)
  | [] => ⟨Nat.le_refl _, fun h => by cases h⟩
  | c :: l => by
    obtain ⟨h1, h2⟩ := cutL_len l
    unfold cutL
    split
    · exact ⟨Nat.zero_le _, fun _ => Nat.lt_succ_self _⟩
    · exact ⟨Nat.succ_le_succ h1, fun h => Nat.lt_succ_of_lt (h2 h)⟩
/-- What Acts answers of a text: the acts, or none; the number of the line that is none. -/
def fin : Nat → List UInt8 → Nat → List ActM → Option (List ActM) × Nat
  | 0, _, _, acc => (some acc, 0)
  | g + 1, r, cnt, acc =>
    if r = [] then (some acc, 0)
    else match actL (cutL r).1, (cutL r).2.2 with
      | some m, true => fin g (cutL r).2.1 (cnt + 1) (acc ++ [m])
      | _, _ => (none, cnt + 1)
/-- An act in memory: its data's and its keep's slices. -/
structure Ent where
  m : ActM
  dv : Value
  kv : Value
def Ent.cells (e : Ent) : List Value := [.int .i64 e.m.kind, .int .i64 e.m.n, .int .i64 e.m.rk, .int .i64 e.m.vol, .int .i64 e.m.block, .int .i64 e.m.size, e.dv, e.kv]
def entCells (es : List Ent) : List Value := es.flatMap Ent.cells
structure EntOk (w : World) (base : Nat) (e : Ent) : Prop where
  d : w.ownsRow base 5 1 e.dv e.m.data.length (byteVals e.m.data)
  k : w.ownsRow base 3 1 e.kv e.m.keep.length (intVals e.m.keep)
  nil : NilOf e.m e.dv e.kv
theorem EntOk.below {w w' : World} {base : Nat} {e : Ent} (h : EntOk w base e) (hb : Below w.heap.size w w') : EntOk w' base e := ⟨row_below h.d hb, row_below h.k hb, h.nil⟩
theorem rows_ne {w : World} {b1 b2 n1 n2 s1 s2 : Nat} {t1 t2 : TypeId} {v u : Value} {xs ys : List Value} (h1 : w.ownsRow b1 t1 s1 v n1 xs) (h2 : w.ownsRow b2 t2 s2 u n2 ys) (ht : t1 ≠ t2) : v.ownBlock = none ∨ v.ownBlock ≠ u.ownBlock := by
  rcases h1.2 with ⟨rfl, _⟩ | ⟨g, cap, cur, rfl, _, hh, _⟩
  · exact Or.inl rfl
  · rcases h2.2 with ⟨rfl, _⟩ | ⟨g2, cap2, cur2, rfl, _, hh2, _⟩
    · exact Or.inr (fun e => by cases e)
    · refine Or.inr (fun e => ?_)
      have : g = g2 := Option.some.inj e
      subst this
      rw [hh] at hh2
      have := Option.some.inj hh2
      injection this with _ h3 _
      exact ht h3
theorem EntOk.grown {w w' : World} {base b2 n : Nat} {e : Ent} {u : Value} {ys : List Value} {ob : Obj} (h : EntOk w base e) (hr : w.ownsRow b2 34 8 u n ys) (hg : (w.alloc ob).grownBy w' u.ownBlock) : EntOk w' base e :=
  ⟨(h.d.alloc ob).kept hg (rows_ne h.d hr (by decide)), (h.k.alloc ob).kept hg (rows_ne h.k hr (by decide)), h.nil⟩
theorem cells_new (w : World) (vs : Array Value) (t : TypeId) : ∀ j u, vs.toList[j]? = some u → (w.alloc (.cells vs t)).cell? ((⟨w.heap.size, 0, none⟩ : Addr).add j) = some u := by
  intro j u hj
  rw [Lib.add_plain, blk_cell (blk_new w vs t), Nat.zero_add]
  simpa using hj
theorem info27 : (Tryz.prog.info? 34).map (fun i => (i.zero, i.size, i.bytes)) = some (some (.agg #[.int .i64 0, .int .i64 0, .int .i64 0, .int .i64 0, .int .i64 0, .int .i64 0, .slice none 0 0, .slice none 0 0]), 8, 96) := by kernel_rfl
end Go.Proofs.YtjohhjdicbeojaaGreatDoor.KSx
