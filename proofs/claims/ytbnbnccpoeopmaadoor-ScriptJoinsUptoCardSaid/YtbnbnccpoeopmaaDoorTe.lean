/- The plain law of lines: the act of an act's line is that act. -/
import Derived.Test.YtbnbnccpoeopmaaDoorTd
import Derived.Test.YtbnbnccpoeopmaaDoorTf
namespace Go.Proofs.YtbnbnccpoeopmaaDoor.Te
open Go.RowKit Go.Proofs.YtbnbnccpoeopmaaDoor.Sa Go.Proofs.YtbnbnccpoeopmaaDoor.Sb Go.Proofs.YtbnbnccpoeopmaaDoor.Sd Go.Proofs.YtbnbnccpoeopmaaDoor.Sf Go.Proofs.YtbnbnccpoeopmaaDoor.Sg Go.Proofs.YtbnbnccpoeopmaaDoor.Sh Go.Proofs.YtbnbnccpoeopmaaDoor.Sj Go.Proofs.YtbnbnccpoeopmaaDoor.Sr Go.Proofs.YtbnbnccpoeopmaaDoor.St Go.Proofs.YtbnbnccpoeopmaaDoor.Su Go.Proofs.YtbnbnccpoeopmaaDoor.Tc Go.Proofs.YtbnbnccpoeopmaaDoor.Td

set_option maxRecDepth 100000 in
theorem line_forth (m : ActM) (hok : NumsOk m) (h : (lineL m).2 = true) : actL (lineL m).1 = some m := by
  obtain ⟨kind, n, rk, vol, block, size, data, keep⟩ := m
  obtain ⟨gn, gv, gb, gd, gk, -, -⟩ := hok
  simp only at gn gv gb gd gk
  rcases find_cases ⟨kind, n, rk, vol, block, size, data, keep⟩ with ⟨_, h1⟩ | ⟨hk, _⟩ | ⟨hk, _⟩ | ⟨hk, _⟩ | ⟨hk, _⟩ | ⟨hk, _⟩ | ⟨hk, q, hq, hr, _⟩
  · rw [h1] at h
    cases h
  · obtain rfl : kind = 1 := hk
    have h2 := h
    simp [lineL, noneL] at h2
    obtain ⟨rfl, rfl, rfl, rfl, rfl⟩ : n = 0 ∧ rk = 0 ∧ vol = 0 ∧ data = [] ∧ keep = [] := by
      clear h gk gn gv gb gd
      simp_all
    have e : (lineL ⟨1, 0, 0, 0, block, size, [], []⟩).1 = [102, 111, 114, 109, 97, 116] ++ tl [Lib.itoa size, Lib.itoa block] := by
      simp [lineL, tl]
    rw [e]
    exact back_0 size block gd gb
  · obtain rfl : kind = 2 := hk
    have h2 := h
    simp [lineL, noneL, bareL] at h2
    obtain ⟨rfl, rfl, rfl, rfl, rfl, rfl, rfl⟩ : n = 0 ∧ rk = 0 ∧ vol = 0 ∧ block = 0 ∧ size = 0 ∧ data = [] ∧ keep = [] := by
      clear h gk gn gv gb gd
      simp_all
    have e : (lineL ⟨2, 0, 0, 0, 0, 0, [], []⟩).1 = [111, 112, 101, 110] ++ tl [] := by
      simp [lineL, tl]
    rw [e]
    exact back_1 
  · obtain rfl : kind = 4 := hk
    have h2 := h
    simp [lineL, noneL, bareL] at h2
    obtain ⟨rfl, rfl, rfl, rfl, rfl, rfl⟩ : rk = 0 ∧ vol = 0 ∧ block = 0 ∧ size = 0 ∧ data = [] ∧ keep = [] := by
      clear h gk gn gv gb gd
      simp_all
    have e : (lineL ⟨4, n, 0, 0, 0, 0, [], []⟩).1 = [115, 116, 101, 112] ++ tl [Lib.itoa n] := by
      simp [lineL, tl]
    rw [e]
    exact back_2 n gn
  · obtain rfl : kind = 6 := hk
    have h2 := h
    simp [lineL, noneL, bareL] at h2
    obtain ⟨rfl, rfl, rfl, rfl, rfl, rfl⟩ : rk = 0 ∧ vol = 0 ∧ block = 0 ∧ size = 0 ∧ data = [] ∧ keep = [] := by
      clear h gk gn gv gb gd
      simp_all
    have e : (lineL ⟨6, n, 0, 0, 0, 0, [], []⟩).1 = [102, 97, 105, 108] ++ tl [Lib.itoa n] := by
      simp [lineL, tl]
    rw [e]
    exact back_3 n gn
  · obtain rfl : kind = 7 := hk
    have h2 := h
    simp [lineL, noneL] at h2
    obtain ⟨rfl, rfl, rfl, rfl, rfl, rfl⟩ : n = 0 ∧ rk = 0 ∧ vol = 0 ∧ block = 0 ∧ size = 0 ∧ data = [] := by
      clear h gk gn gv gb gd
      simp_all
    have e : (lineL ⟨7, 0, 0, 0, 0, 0, [], keep⟩).1 = [99, 114, 97, 115, 104] ++ tl (keep.map Lib.itoa) := by
      show [99, 114, 97, 115, 104] ++ keepL keep = _
      rw [keep_tl]
    rw [e]
    exact back_4 keep gk
  · have hk : kind = 3 ∨ kind = 5 := hk
    have hr : rk = (q : Int) + 1 := hr
    have hq9 : q = 0 ∨ q = 1 ∨ q = 2 ∨ q = 3 ∨ q = 4 ∨ q = 5 ∨ q = 6 ∨ q = 7 ∨ q = 8 := by omega
    clear hq
    rcases hk with rfl | rfl
    · rcases hq9 with rfl | rfl | rfl | rfl | rfl | rfl | rfl | rfl | rfl
      · obtain rfl : rk = 1 := hr
        have h2 := h
        simp [lineL, reqL] at h2
        obtain ⟨rfl, rfl, rfl, rfl, rfl⟩ : n = 0 ∧ vol = 0 ∧ block = 0 ∧ data = [] ∧ keep = [] := by
          clear h gk gn gv gb gd
          simp_all
        have e : (lineL ⟨3, 0, 1, 0, 0, size, [], []⟩).1 = laterB ++ tl ([99, 114, 101, 97, 116, 101] :: [Lib.itoa size]) := by
          simp [lineL, reqL, tl, sp]
        rw [e]
        exact backL_5 size gd
      · obtain rfl : rk = 2 := hr
        have h2 := h
        simp [lineL, reqL] at h2
        obtain ⟨rfl, rfl, rfl, rfl, rfl⟩ : n = 0 ∧ block = 0 ∧ size = 0 ∧ data = [] ∧ keep = [] := by
          clear h gk gn gv gb gd
          simp_all
        have e : (lineL ⟨3, 0, 2, vol, 0, 0, [], []⟩).1 = laterB ++ tl ([100, 101, 108, 101, 116, 101] :: [Lib.itoa vol]) := by
          simp [lineL, reqL, tl, sp]
        rw [e]
        exact backL_6 vol gv
      · obtain rfl : rk = 3 := hr
        have h2 := h
        simp [lineL, reqL] at h2
        obtain ⟨rfl, rfl, rfl, rfl, rfl⟩ : n = 0 ∧ block = 0 ∧ size = 0 ∧ data = [] ∧ keep = [] := by
          clear h gk gn gv gb gd
          simp_all
        have e : (lineL ⟨3, 0, 3, vol, 0, 0, [], []⟩).1 = laterB ++ tl ([115, 110, 97, 112] :: [Lib.itoa vol]) := by
          simp [lineL, reqL, tl, sp]
        rw [e]
        exact backL_7 vol gv
      · obtain rfl : rk = 4 := hr
        have h2 := h
        simp [lineL, reqL] at h2
        obtain ⟨rfl, rfl, rfl, rfl⟩ : n = 0 ∧ size = 0 ∧ data = [] ∧ keep = [] := by
          clear h gk gn gv gb gd
          simp_all
        have e : (lineL ⟨3, 0, 4, vol, block, 0, [], []⟩).1 = laterB ++ tl ([114, 101, 97, 100] :: [Lib.itoa vol, Lib.itoa block]) := by
          simp [lineL, reqL, tl, sp]
        rw [e]
        exact backL_8 vol block gv gb
      · obtain rfl : rk = 5 := hr
        have h2 := h
        simp [lineL, reqL] at h2
        obtain ⟨rfl, rfl, rfl⟩ : n = 0 ∧ size = 0 ∧ keep = [] := by
          clear h gk gn gv gb gd
          simp_all
        have e : (lineL ⟨3, 0, 5, vol, block, 0, data, []⟩).1 = laterB ++ tl ([119, 114, 105, 116, 101] :: [Lib.itoa vol, Lib.itoa block, 120 :: hexOf data]) := by
          show laterB ++ [32] ++ ([119, 114, 105, 116, 101] ++ sp vol ++ sp block ++ [32] ++ (120 :: hexOf data)) = _
          simp only [tl, sp, List.flatMap_cons, List.flatMap_nil, List.append_assoc, List.cons_append, List.nil_append, List.append_nil]
        rw [e]
        exact backL_9 vol block data gv gb
      · obtain rfl : rk = 6 := hr
        have h2 := h
        simp [lineL, reqL] at h2
        obtain ⟨rfl, rfl, rfl, rfl⟩ : n = 0 ∧ size = 0 ∧ data = [] ∧ keep = [] := by
          clear h gk gn gv gb gd
          simp_all
        have e : (lineL ⟨3, 0, 6, vol, block, 0, [], []⟩).1 = laterB ++ tl ([100, 105, 115, 99, 97, 114, 100] :: [Lib.itoa vol, Lib.itoa block]) := by
          simp [lineL, reqL, tl, sp]
        rw [e]
        exact backL_10 vol block gv gb
      · obtain rfl : rk = 7 := hr
        have h2 := h
        simp [lineL, reqL] at h2
        obtain ⟨rfl, rfl, rfl, rfl, rfl, rfl⟩ : n = 0 ∧ vol = 0 ∧ block = 0 ∧ size = 0 ∧ data = [] ∧ keep = [] := by
          clear h gk gn gv gb gd
          simp_all
        have e : (lineL ⟨3, 0, 7, 0, 0, 0, [], []⟩).1 = laterB ++ tl ([115, 121, 110, 99] :: []) := by
          simp [lineL, reqL, tl]
        rw [e]
        exact backL_11 
      · obtain rfl : rk = 8 := hr
        have h2 := h
        simp [lineL, reqL] at h2
        obtain ⟨rfl, rfl, rfl, rfl, rfl, rfl⟩ : n = 0 ∧ vol = 0 ∧ block = 0 ∧ size = 0 ∧ data = [] ∧ keep = [] := by
          clear h gk gn gv gb gd
          simp_all
        have e : (lineL ⟨3, 0, 8, 0, 0, 0, [], []⟩).1 = laterB ++ tl ([115, 116, 97, 116] :: []) := by
          simp [lineL, reqL, tl]
        rw [e]
        exact backL_12 
      · obtain rfl : rk = 9 := hr
        have h2 := h
        simp [lineL, reqL] at h2
        obtain ⟨rfl, rfl, rfl, rfl, rfl⟩ : n = 0 ∧ block = 0 ∧ size = 0 ∧ data = [] ∧ keep = [] := by
          clear h gk gn gv gb gd
          simp_all
        have e : (lineL ⟨3, 0, 9, vol, 0, 0, [], []⟩).1 = laterB ++ tl ([101, 110, 116, 114, 121] :: [Lib.itoa vol]) := by
          simp [lineL, reqL, tl, sp]
        rw [e]
        exact backL_13 vol gv
    · rcases hq9 with rfl | rfl | rfl | rfl | rfl | rfl | rfl | rfl | rfl
      · obtain rfl : rk = 1 := hr
        have h2 := h
        simp [lineL, reqL] at h2
        obtain ⟨rfl, rfl, rfl, rfl, rfl⟩ : n = 0 ∧ vol = 0 ∧ block = 0 ∧ data = [] ∧ keep = [] := by
          clear h gk gn gv gb gd
          simp_all
        have e : (lineL ⟨5, 0, 1, 0, 0, size, [], []⟩).1 = [99, 114, 101, 97, 116, 101] ++ tl [Lib.itoa size] := by
          simp [lineL, reqL, tl, sp]
        rw [e]
        exact back_5 size gd
      · obtain rfl : rk = 2 := hr
        have h2 := h
        simp [lineL, reqL] at h2
        obtain ⟨rfl, rfl, rfl, rfl, rfl⟩ : n = 0 ∧ block = 0 ∧ size = 0 ∧ data = [] ∧ keep = [] := by
          clear h gk gn gv gb gd
          simp_all
        have e : (lineL ⟨5, 0, 2, vol, 0, 0, [], []⟩).1 = [100, 101, 108, 101, 116, 101] ++ tl [Lib.itoa vol] := by
          simp [lineL, reqL, tl, sp]
        rw [e]
        exact back_6 vol gv
      · obtain rfl : rk = 3 := hr
        have h2 := h
        simp [lineL, reqL] at h2
        obtain ⟨rfl, rfl, rfl, rfl, rfl⟩ : n = 0 ∧ block = 0 ∧ size = 0 ∧ data = [] ∧ keep = [] := by
          clear h gk gn gv gb gd
          simp_all
        have e : (lineL ⟨5, 0, 3, vol, 0, 0, [], []⟩).1 = [115, 110, 97, 112] ++ tl [Lib.itoa vol] := by
          simp [lineL, reqL, tl, sp]
        rw [e]
        exact back_7 vol gv
      · obtain rfl : rk = 4 := hr
        have h2 := h
        simp [lineL, reqL] at h2
        obtain ⟨rfl, rfl, rfl, rfl⟩ : n = 0 ∧ size = 0 ∧ data = [] ∧ keep = [] := by
          clear h gk gn gv gb gd
          simp_all
        have e : (lineL ⟨5, 0, 4, vol, block, 0, [], []⟩).1 = [114, 101, 97, 100] ++ tl [Lib.itoa vol, Lib.itoa block] := by
          simp [lineL, reqL, tl, sp]
        rw [e]
        exact back_8 vol block gv gb
      · obtain rfl : rk = 5 := hr
        have h2 := h
        simp [lineL, reqL] at h2
        obtain ⟨rfl, rfl, rfl⟩ : n = 0 ∧ size = 0 ∧ keep = [] := by
          clear h gk gn gv gb gd
          simp_all
        have e : (lineL ⟨5, 0, 5, vol, block, 0, data, []⟩).1 = [119, 114, 105, 116, 101] ++ tl [Lib.itoa vol, Lib.itoa block, 120 :: hexOf data] := by
          show ([119, 114, 105, 116, 101] ++ sp vol ++ sp block ++ [32] ++ (120 :: hexOf data)) = _
          simp only [tl, sp, List.flatMap_cons, List.flatMap_nil, List.append_assoc, List.cons_append, List.nil_append, List.append_nil]
        rw [e]
        exact back_9 vol block data gv gb
      · obtain rfl : rk = 6 := hr
        have h2 := h
        simp [lineL, reqL] at h2
        obtain ⟨rfl, rfl, rfl, rfl⟩ : n = 0 ∧ size = 0 ∧ data = [] ∧ keep = [] := by
          clear h gk gn gv gb gd
          simp_all
        have e : (lineL ⟨5, 0, 6, vol, block, 0, [], []⟩).1 = [100, 105, 115, 99, 97, 114, 100] ++ tl [Lib.itoa vol, Lib.itoa block] := by
          simp [lineL, reqL, tl, sp]
        rw [e]
        exact back_10 vol block gv gb
      · obtain rfl : rk = 7 := hr
        have h2 := h
        simp [lineL, reqL] at h2
        obtain ⟨rfl, rfl, rfl, rfl, rfl, rfl⟩ : n = 0 ∧ vol = 0 ∧ block = 0 ∧ size = 0 ∧ data = [] ∧ keep = [] := by
          clear h gk gn gv gb gd
          simp_all
        have e : (lineL ⟨5, 0, 7, 0, 0, 0, [], []⟩).1 = [115, 121, 110, 99] ++ tl [] := by
          simp [lineL, reqL, tl]
        rw [e]
        exact back_11 
      · obtain rfl : rk = 8 := hr
        have h2 := h
        simp [lineL, reqL] at h2
        obtain ⟨rfl, rfl, rfl, rfl, rfl, rfl⟩ : n = 0 ∧ vol = 0 ∧ block = 0 ∧ size = 0 ∧ data = [] ∧ keep = [] := by
          clear h gk gn gv gb gd
          simp_all
        have e : (lineL ⟨5, 0, 8, 0, 0, 0, [], []⟩).1 = [115, 116, 97, 116] ++ tl [] := by
          simp [lineL, reqL, tl]
        rw [e]
        exact back_12 
      · obtain rfl : rk = 9 := hr
        have h2 := h
        simp [lineL, reqL] at h2
        obtain ⟨rfl, rfl, rfl, rfl, rfl⟩ : n = 0 ∧ block = 0 ∧ size = 0 ∧ data = [] ∧ keep = [] := by
          clear h gk gn gv gb gd
          simp_all
        have e : (lineL ⟨5, 0, 9, vol, 0, 0, [], []⟩).1 = [101, 110, 116, 114, 121] ++ tl [Lib.itoa vol] := by
          simp [lineL, reqL, tl, sp]
        rw [e]
        exact back_13 vol gv

end Go.Proofs.YtbnbnccpoeopmaaDoor.Te
