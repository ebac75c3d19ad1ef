/- The plain law of lines: the act of an act's line is that act. -/
import Derived.Test.YtbnbnccpoeopmaaDoorSw
namespace Go.Proofs.YtbnbnccpoeopmaaDoor.St
open Go.RowKit Go.Proofs.YtbnbnccpoeopmaaDoor.Sa Go.Proofs.YtbnbnccpoeopmaaDoor.Sb Go.Proofs.YtbnbnccpoeopmaaDoor.Sd Go.Proofs.YtbnbnccpoeopmaaDoor.Sf Go.Proofs.YtbnbnccpoeopmaaDoor.Sg Go.Proofs.YtbnbnccpoeopmaaDoor.Sh Go.Proofs.YtbnbnccpoeopmaaDoor.Sj Go.Proofs.YtbnbnccpoeopmaaDoor.Sl Go.Proofs.YtbnbnccpoeopmaaDoor.Sr Go.Proofs.YtbnbnccpoeopmaaDoor.Su Go.Proofs.YtbnbnccpoeopmaaDoor.Sw

theorem words_tl : ∀ (ws : List (List UInt8)) (a : List UInt8), 32 ∉ a → (∀ x ∈ ws, (32 : UInt8) ∉ x) → wordsL (a ++ tl ws) = a :: ws
  | [], a, ha, _ => by
    show wordsL (a ++ []) = _
    rw [List.append_nil]
    exact wordsL_one a ha
  | b :: t, a, ha, hw => by
    show wordsL (a ++ (32 :: b ++ tl t)) = _
    rw [show a ++ (32 :: b ++ tl t) = a ++ 32 :: (b ++ tl t) from rfl, wordsL_head a _ ha, words_tl t b (hw b (List.mem_cons_self ..)) (fun x hx => hw x (List.mem_cons_of_mem _ hx))]

theorem hex_tab : ∀ c : Fin 256, hexByte (digit (c.val / 16)) (digit (c.val % 16)) = some (UInt8.ofNat c.val) := by decide +kernel

theorem hexL_of : ∀ d : List UInt8, hexL (hexOf d) = some d
  | [] => rfl
  | c :: d => by
    have h := hex_tab ⟨c.toNat, c.toNat_lt⟩
    have h : hexByte (digit (c.toNat / 16)) (digit (c.toNat % 16)) = some c := by
      rw [h]
      congr 1
      exact UInt8.ofNat_toNat
    show hexL (digit (c.toNat / 16) :: digit (c.toNat % 16) :: hexOf d) = _
    rw [hexL.eq_3, h, hexL_of d]
    rfl

theorem unhex_of (d : List UInt8) : unhexL (120 :: hexOf d) = some d := by
  have h : unhexL (120 :: hexOf d) = hexL (hexOf d) := by
    unfold unhexL
    rw [if_pos (by simp [Lib.hasPrefix, List.isPrefixOf])]
    rfl
  rw [h, hexL_of]

theorem digit_tab : ∀ n : Fin 16, digit n.val ≠ 32 := by decide +kernel
theorem hex_no32 (d : List UInt8) : (32 : UInt8) ∉ 120 :: hexOf d := by
  intro h
  rcases List.mem_cons.1 h with h | h
  · revert h
    decide
  · unfold hexOf at h
    obtain ⟨c, _, hc⟩ := List.mem_flatMap.1 h
    have hl := c.toNat_lt
    simp only [List.mem_cons, List.mem_nil_iff, or_false] at hc
    rcases hc with hc | hc
    · exact digit_tab ⟨c.toNat / 16, by omega⟩ hc.symm
    · exact digit_tab ⟨c.toNat % 16, by omega⟩ hc.symm

theorem num_ok {n : Int} (h : I64 n) : atoiN (Lib.itoa n) = n ∧ numL (Lib.itoa n) = true := atoiN_itoa n h.1 h.2

theorem fill_0 (size : Int) (block : Int) (h0 : I64 size) (h1 : I64 block) : actTailL (formAt 0) 1 [Lib.itoa size, Lib.itoa block] = some ⟨1, 0, 0, 0, block, size, [], []⟩ := by
  unfold actTailL
  rw [show okPartsL (formAt 0) ([Lib.itoa size, Lib.itoa block] : List (List UInt8)).length = true from rfl, if_pos rfl]
  have s0 : ∀ a, partStepL (Sg.partAt (formAt 0).parts 0) (Lib.itoa size) a = ({ a with size := size }, true) := fun a => by
    show ({ a with size := atoiN (Lib.itoa size) }, numL (Lib.itoa size)) = _
    rw [(num_ok h0).1, (num_ok h0).2]
  have s1 : ∀ a, partStepL (Sg.partAt (formAt 0).parts 1) (Lib.itoa block) a = ({ a with block := block }, true) := fun a => by
    show ({ a with block := atoiN (Lib.itoa block) }, numL (Lib.itoa block)) = _
    rw [(num_ok h1).1, (num_ok h1).2]
  simp only [actLoopL, Nat.zero_add, s0, s1]
  rfl

theorem fill_1   : actTailL (formAt 1) 2 [] = some ⟨2, 0, 0, 0, 0, 0, [], []⟩ := by
  unfold actTailL
  rw [show okPartsL (formAt 1) ([] : List (List UInt8)).length = true from rfl, if_pos rfl]
  rfl

theorem fill_2 (n : Int) (h0 : I64 n) : actTailL (formAt 2) 4 [Lib.itoa n] = some ⟨4, n, 0, 0, 0, 0, [], []⟩ := by
  unfold actTailL
  rw [show okPartsL (formAt 2) ([Lib.itoa n] : List (List UInt8)).length = true from rfl, if_pos rfl]
  have s0 : ∀ a, partStepL (Sg.partAt (formAt 2).parts 0) (Lib.itoa n) a = ({ a with n := n }, true) := fun a => by
    show ({ a with n := atoiN (Lib.itoa n) }, numL (Lib.itoa n)) = _
    rw [(num_ok h0).1, (num_ok h0).2]
  simp only [actLoopL, s0]
  rfl

theorem fill_3 (n : Int) (h0 : I64 n) : actTailL (formAt 3) 6 [Lib.itoa n] = some ⟨6, n, 0, 0, 0, 0, [], []⟩ := by
  unfold actTailL
  rw [show okPartsL (formAt 3) ([Lib.itoa n] : List (List UInt8)).length = true from rfl, if_pos rfl]
  have s0 : ∀ a, partStepL (Sg.partAt (formAt 3).parts 0) (Lib.itoa n) a = ({ a with n := n }, true) := fun a => by
    show ({ a with n := atoiN (Lib.itoa n) }, numL (Lib.itoa n)) = _
    rw [(num_ok h0).1, (num_ok h0).2]
  simp only [actLoopL, s0]
  rfl

theorem fill_5 (kind : Int) (size : Int) (h0 : I64 size) : actTailL (formAt 5) kind [Lib.itoa size] = some ⟨kind, 0, 1, 0, 0, size, [], []⟩ := by
  unfold actTailL
  rw [show okPartsL (formAt 5) ([Lib.itoa size] : List (List UInt8)).length = true from rfl, if_pos rfl]
  have s0 : ∀ a, partStepL (Sg.partAt (formAt 5).parts 0) (Lib.itoa size) a = ({ a with size := size }, true) := fun a => by
    show ({ a with size := atoiN (Lib.itoa size) }, numL (Lib.itoa size)) = _
    rw [(num_ok h0).1, (num_ok h0).2]
  simp only [actLoopL, s0]
  rfl

theorem fill_6 (kind : Int) (vol : Int) (h0 : I64 vol) : actTailL (formAt 6) kind [Lib.itoa vol] = some ⟨kind, 0, 2, vol, 0, 0, [], []⟩ := by
  unfold actTailL
  rw [show okPartsL (formAt 6) ([Lib.itoa vol] : List (List UInt8)).length = true from rfl, if_pos rfl]
  have s0 : ∀ a, partStepL (Sg.partAt (formAt 6).parts 0) (Lib.itoa vol) a = ({ a with vol := vol }, true) := fun a => by
    show ({ a with vol := atoiN (Lib.itoa vol) }, numL (Lib.itoa vol)) = _
    rw [(num_ok h0).1, (num_ok h0).2]
  simp only [actLoopL, s0]
  rfl

theorem fill_7 (kind : Int) (vol : Int) (h0 : I64 vol) : actTailL (formAt 7) kind [Lib.itoa vol] = some ⟨kind, 0, 3, vol, 0, 0, [], []⟩ := by
  unfold actTailL
  rw [show okPartsL (formAt 7) ([Lib.itoa vol] : List (List UInt8)).length = true from rfl, if_pos rfl]
  have s0 : ∀ a, partStepL (Sg.partAt (formAt 7).parts 0) (Lib.itoa vol) a = ({ a with vol := vol }, true) := fun a => by
    show ({ a with vol := atoiN (Lib.itoa vol) }, numL (Lib.itoa vol)) = _
    rw [(num_ok h0).1, (num_ok h0).2]
  simp only [actLoopL, s0]
  rfl

theorem fill_8 (kind : Int) (vol : Int) (block : Int) (h0 : I64 vol) (h1 : I64 block) : actTailL (formAt 8) kind [Lib.itoa vol, Lib.itoa block] = some ⟨kind, 0, 4, vol, block, 0, [], []⟩ := by
  unfold actTailL
  rw [show okPartsL (formAt 8) ([Lib.itoa vol, Lib.itoa block] : List (List UInt8)).length = true from rfl, if_pos rfl]
  have s0 : ∀ a, partStepL (Sg.partAt (formAt 8).parts 0) (Lib.itoa vol) a = ({ a with vol := vol }, true) := fun a => by
    show ({ a with vol := atoiN (Lib.itoa vol) }, numL (Lib.itoa vol)) = _
    rw [(num_ok h0).1, (num_ok h0).2]
  have s1 : ∀ a, partStepL (Sg.partAt (formAt 8).parts 1) (Lib.itoa block) a = ({ a with block := block }, true) := fun a => by
    show ({ a with block := atoiN (Lib.itoa block) }, numL (Lib.itoa block)) = _
    rw [(num_ok h1).1, (num_ok h1).2]
  simp only [actLoopL, Nat.zero_add, s0, s1]
  rfl

theorem fill_9 (kind : Int) (vol : Int) (block : Int) (la : List UInt8) (h0 : I64 vol) (h1 : I64 block) : actTailL (formAt 9) kind [Lib.itoa vol, Lib.itoa block, 120 :: hexOf la] = some ⟨kind, 0, 5, vol, block, 0, la, []⟩ := by
  unfold actTailL
  rw [show okPartsL (formAt 9) ([Lib.itoa vol, Lib.itoa block, 120 :: hexOf la] : List (List UInt8)).length = true from rfl, if_pos rfl]
  have s0 : ∀ a, partStepL (Sg.partAt (formAt 9).parts 0) (Lib.itoa vol) a = ({ a with vol := vol }, true) := fun a => by
    show ({ a with vol := atoiN (Lib.itoa vol) }, numL (Lib.itoa vol)) = _
    rw [(num_ok h0).1, (num_ok h0).2]
  have s1 : ∀ a, partStepL (Sg.partAt (formAt 9).parts 1) (Lib.itoa block) a = ({ a with block := block }, true) := fun a => by
    show ({ a with block := atoiN (Lib.itoa block) }, numL (Lib.itoa block)) = _
    rw [(num_ok h1).1, (num_ok h1).2]
  have s2 : ∀ a, partStepL (Sg.partAt (formAt 9).parts 2) (120 :: hexOf la) a = ({ a with data := la }, true) := fun a => by
    show ({ a with data := (unhexL (120 :: hexOf la)).getD [] }, (unhexL (120 :: hexOf la)).isSome) = _
    rw [unhex_of]
    rfl
  simp only [actLoopL, Nat.zero_add, s0, s1, s2]
  rfl

theorem fill_10 (kind : Int) (vol : Int) (block : Int) (h0 : I64 vol) (h1 : I64 block) : actTailL (formAt 10) kind [Lib.itoa vol, Lib.itoa block] = some ⟨kind, 0, 6, vol, block, 0, [], []⟩ := by
  unfold actTailL
  rw [show okPartsL (formAt 10) ([Lib.itoa vol, Lib.itoa block] : List (List UInt8)).length = true from rfl, if_pos rfl]
  have s0 : ∀ a, partStepL (Sg.partAt (formAt 10).parts 0) (Lib.itoa vol) a = ({ a with vol := vol }, true) := fun a => by
    show ({ a with vol := atoiN (Lib.itoa vol) }, numL (Lib.itoa vol)) = _
    rw [(num_ok h0).1, (num_ok h0).2]
  have s1 : ∀ a, partStepL (Sg.partAt (formAt 10).parts 1) (Lib.itoa block) a = ({ a with block := block }, true) := fun a => by
    show ({ a with block := atoiN (Lib.itoa block) }, numL (Lib.itoa block)) = _
    rw [(num_ok h1).1, (num_ok h1).2]
  simp only [actLoopL, Nat.zero_add, s0, s1]
  rfl

theorem fill_11 (kind : Int)   : actTailL (formAt 11) kind [] = some ⟨kind, 0, 7, 0, 0, 0, [], []⟩ := by
  unfold actTailL
  rw [show okPartsL (formAt 11) ([] : List (List UInt8)).length = true from rfl, if_pos rfl]
  rfl

theorem fill_12 (kind : Int)   : actTailL (formAt 12) kind [] = some ⟨kind, 0, 8, 0, 0, 0, [], []⟩ := by
  unfold actTailL
  rw [show okPartsL (formAt 12) ([] : List (List UInt8)).length = true from rfl, if_pos rfl]
  rfl

theorem fill_13 (kind : Int) (vol : Int) (h0 : I64 vol) : actTailL (formAt 13) kind [Lib.itoa vol] = some ⟨kind, 0, 9, vol, 0, 0, [], []⟩ := by
  unfold actTailL
  rw [show okPartsL (formAt 13) ([Lib.itoa vol] : List (List UInt8)).length = true from rfl, if_pos rfl]
  have s0 : ∀ a, partStepL (Sg.partAt (formAt 13).parts 0) (Lib.itoa vol) a = ({ a with vol := vol }, true) := fun a => by
    show ({ a with vol := atoiN (Lib.itoa vol) }, numL (Lib.itoa vol)) = _
    rw [(num_ok h0).1, (num_ok h0).2]
  simp only [actLoopL, s0]
  rfl

theorem crash_fill : ∀ (lk : List Int) (i : Nat) (a : Acc), (∀ x ∈ lk, I64 x) → actLoopL (formAt 4).parts i (lk.map Lib.itoa) a = some { a with keep := a.keep ++ lk }
  | [], _, a, _ => by simp [actLoopL]
  | x :: r, i, a, h => by
    have hp : Sg.partAt (formAt 4).parts i = 107 := by
      unfold Sg.partAt
      rw [show (formAt 4).parts.size - 1 = 0 from rfl, Nat.min_zero]
      rfl
    have s : partStepL (Sg.partAt (formAt 4).parts i) (Lib.itoa x) a = ({ a with keep := a.keep ++ [x] }, true) := by
      rw [hp]
      show ({ a with keep := a.keep ++ [atoiN (Lib.itoa x)] }, numL (Lib.itoa x)) = _
      rw [(num_ok (h x (List.mem_cons_self ..))).1, (num_ok (h x (List.mem_cons_self ..))).2]
    rw [List.map_cons]
    simp only [actLoopL, s, if_true]
    rw [crash_fill r (i + 1) _ (fun y hy => h y (List.mem_cons_of_mem _ hy))]
    simp

theorem fill_4 (lk : List Int) (h : ∀ x ∈ lk, I64 x) : actTailL (formAt 4) 7 (lk.map Lib.itoa) = some ⟨7, 0, 0, 0, 0, 0, [], lk⟩ := by
  unfold actTailL
  rw [show okPartsL (formAt 4) (lk.map Lib.itoa).length = true from rfl, if_pos rfl, crash_fill lk 0 _ h]
  rfl

theorem keep_tl (lk : List Int) : keepL lk = tl (lk.map Lib.itoa) := by
  unfold keepL tl sp
  rw [List.flatMap_map]

theorem back_0 (size : Int) (block : Int) (h0 : I64 size) (h1 : I64 block) : actL ([102, 111, 114, 109, 97, 116] ++ tl [Lib.itoa size, Lib.itoa block]) = some ⟨1, 0, 0, 0, block, size, [], []⟩ := by
  unfold actL
  rw [words_tl [Lib.itoa size, Lib.itoa block] [102, 111, 114, 109, 97, 116] (by decide) (fun x hx => by
    simp only [List.mem_cons, List.mem_nil_iff, or_false] at hx
    rcases hx with rfl | rfl
    all_goals first | exact itoa_no32 _ | exact hex_no32 _)]
  exact fill_0 size block h0 h1

theorem back_1   : actL ([111, 112, 101, 110] ++ tl []) = some ⟨2, 0, 0, 0, 0, 0, [], []⟩ := by
  unfold actL
  rw [words_tl [] [111, 112, 101, 110] (by decide) (fun x hx => by cases hx)]
  exact fill_1 

theorem back_2 (n : Int) (h0 : I64 n) : actL ([115, 116, 101, 112] ++ tl [Lib.itoa n]) = some ⟨4, n, 0, 0, 0, 0, [], []⟩ := by
  unfold actL
  rw [words_tl [Lib.itoa n] [115, 116, 101, 112] (by decide) (fun x hx => by
    simp only [List.mem_cons, List.mem_nil_iff, or_false] at hx
    rcases hx with rfl
    all_goals first | exact itoa_no32 _ | exact hex_no32 _)]
  exact fill_2 n h0

theorem back_3 (n : Int) (h0 : I64 n) : actL ([102, 97, 105, 108] ++ tl [Lib.itoa n]) = some ⟨6, n, 0, 0, 0, 0, [], []⟩ := by
  unfold actL
  rw [words_tl [Lib.itoa n] [102, 97, 105, 108] (by decide) (fun x hx => by
    simp only [List.mem_cons, List.mem_nil_iff, or_false] at hx
    rcases hx with rfl
    all_goals first | exact itoa_no32 _ | exact hex_no32 _)]
  exact fill_3 n h0

theorem back_4 (lk : List Int) (h : ∀ x ∈ lk, I64 x) : actL ([99, 114, 97, 115, 104] ++ tl (lk.map Lib.itoa)) = some ⟨7, 0, 0, 0, 0, 0, [], lk⟩ := by
  unfold actL
  rw [words_tl (lk.map Lib.itoa) [99, 114, 97, 115, 104] (by decide) (fun x hx => by obtain ⟨y, _, rfl⟩ := List.mem_map.1 hx; exact itoa_no32 y)]
  show actOfL ([99, 114, 97, 115, 104] :: lk.map Lib.itoa) 0 5 = _
  rw [show actOfL ([99, 114, 97, 115, 104] :: lk.map Lib.itoa) 0 5 = actTailL (formAt 4) 7 (lk.map Lib.itoa) from rfl, fill_4 lk h]

theorem back_5 (size : Int) (h0 : I64 size) : actL ([99, 114, 101, 97, 116, 101] ++ tl [Lib.itoa size]) = some ⟨5, 0, 1, 0, 0, size, [], []⟩ := by
  unfold actL
  rw [words_tl [Lib.itoa size] [99, 114, 101, 97, 116, 101] (by decide) (fun x hx => by
    simp only [List.mem_cons, List.mem_nil_iff, or_false] at hx
    rcases hx with rfl
    all_goals first | exact itoa_no32 _ | exact hex_no32 _)]
  exact fill_5 5 size h0

theorem backL_5 (size : Int) (h0 : I64 size) : actL (laterB ++ tl ([99, 114, 101, 97, 116, 101] :: [Lib.itoa size])) = some ⟨3, 0, 1, 0, 0, size, [], []⟩ := by
  unfold actL
  rw [words_tl ([99, 114, 101, 97, 116, 101] :: [Lib.itoa size]) laterB (by decide) (fun x hx => by
    simp only [List.mem_cons, List.mem_nil_iff, or_false] at hx
    rcases hx with rfl | rfl
    all_goals first | exact itoa_no32 _ | exact hex_no32 _ | decide)]
  exact fill_5 3 size h0

theorem back_6 (vol : Int) (h0 : I64 vol) : actL ([100, 101, 108, 101, 116, 101] ++ tl [Lib.itoa vol]) = some ⟨5, 0, 2, vol, 0, 0, [], []⟩ := by
  unfold actL
  rw [words_tl [Lib.itoa vol] [100, 101, 108, 101, 116, 101] (by decide) (fun x hx => by
    simp only [List.mem_cons, List.mem_nil_iff, or_false] at hx
    rcases hx with rfl
    all_goals first | exact itoa_no32 _ | exact hex_no32 _)]
  exact fill_6 5 vol h0

theorem backL_6 (vol : Int) (h0 : I64 vol) : actL (laterB ++ tl ([100, 101, 108, 101, 116, 101] :: [Lib.itoa vol])) = some ⟨3, 0, 2, vol, 0, 0, [], []⟩ := by
  unfold actL
  rw [words_tl ([100, 101, 108, 101, 116, 101] :: [Lib.itoa vol]) laterB (by decide) (fun x hx => by
    simp only [List.mem_cons, List.mem_nil_iff, or_false] at hx
    rcases hx with rfl | rfl
    all_goals first | exact itoa_no32 _ | exact hex_no32 _ | decide)]
  exact fill_6 3 vol h0

theorem back_7 (vol : Int) (h0 : I64 vol) : actL ([115, 110, 97, 112] ++ tl [Lib.itoa vol]) = some ⟨5, 0, 3, vol, 0, 0, [], []⟩ := by
  unfold actL
  rw [words_tl [Lib.itoa vol] [115, 110, 97, 112] (by decide) (fun x hx => by
    simp only [List.mem_cons, List.mem_nil_iff, or_false] at hx
    rcases hx with rfl
    all_goals first | exact itoa_no32 _ | exact hex_no32 _)]
  exact fill_7 5 vol h0

theorem backL_7 (vol : Int) (h0 : I64 vol) : actL (laterB ++ tl ([115, 110, 97, 112] :: [Lib.itoa vol])) = some ⟨3, 0, 3, vol, 0, 0, [], []⟩ := by
  unfold actL
  rw [words_tl ([115, 110, 97, 112] :: [Lib.itoa vol]) laterB (by decide) (fun x hx => by
    simp only [List.mem_cons, List.mem_nil_iff, or_false] at hx
    rcases hx with rfl | rfl
    all_goals first | exact itoa_no32 _ | exact hex_no32 _ | decide)]
  exact fill_7 3 vol h0

theorem back_8 (vol : Int) (block : Int) (h0 : I64 vol) (h1 : I64 block) : actL ([114, 101, 97, 100] ++ tl [Lib.itoa vol, Lib.itoa block]) = some ⟨5, 0, 4, vol, block, 0, [], []⟩ := by
  unfold actL
  rw [words_tl [Lib.itoa vol, Lib.itoa block] [114, 101, 97, 100] (by decide) (fun x hx => by
    simp only [List.mem_cons, List.mem_nil_iff, or_false] at hx
    rcases hx with rfl | rfl
    all_goals first | exact itoa_no32 _ | exact hex_no32 _)]
  exact fill_8 5 vol block h0 h1

theorem backL_8 (vol : Int) (block : Int) (h0 : I64 vol) (h1 : I64 block) : actL (laterB ++ tl ([114, 101, 97, 100] :: [Lib.itoa vol, Lib.itoa block])) = some ⟨3, 0, 4, vol, block, 0, [], []⟩ := by
  unfold actL
  rw [words_tl ([114, 101, 97, 100] :: [Lib.itoa vol, Lib.itoa block]) laterB (by decide) (fun x hx => by
    simp only [List.mem_cons, List.mem_nil_iff, or_false] at hx
    rcases hx with rfl | rfl | rfl
    all_goals first | exact itoa_no32 _ | exact hex_no32 _ | decide)]
  exact fill_8 3 vol block h0 h1

theorem back_9 (vol : Int) (block : Int) (la : List UInt8) (h0 : I64 vol) (h1 : I64 block) : actL ([119, 114, 105, 116, 101] ++ tl [Lib.itoa vol, Lib.itoa block, 120 :: hexOf la]) = some ⟨5, 0, 5, vol, block, 0, la, []⟩ := by
  unfold actL
  rw [words_tl [Lib.itoa vol, Lib.itoa block, 120 :: hexOf la] [119, 114, 105, 116, 101] (by decide) (fun x hx => by
    simp only [List.mem_cons, List.mem_nil_iff, or_false] at hx
    rcases hx with rfl | rfl | rfl
    all_goals first | exact itoa_no32 _ | exact hex_no32 _)]
  exact fill_9 5 vol block la h0 h1

theorem backL_9 (vol : Int) (block : Int) (la : List UInt8) (h0 : I64 vol) (h1 : I64 block) : actL (laterB ++ tl ([119, 114, 105, 116, 101] :: [Lib.itoa vol, Lib.itoa block, 120 :: hexOf la])) = some ⟨3, 0, 5, vol, block, 0, la, []⟩ := by
  unfold actL
  rw [words_tl ([119, 114, 105, 116, 101] :: [Lib.itoa vol, Lib.itoa block, 120 :: hexOf la]) laterB (by decide) (fun x hx => by
    simp only [List.mem_cons, List.mem_nil_iff, or_false] at hx
    rcases hx with rfl | rfl | rfl | rfl
    all_goals first | exact itoa_no32 _ | exact hex_no32 _ | decide)]
  exact fill_9 3 vol block la h0 h1

theorem back_10 (vol : Int) (block : Int) (h0 : I64 vol) (h1 : I64 block) : actL ([100, 105, 115, 99, 97, 114, 100] ++ tl [Lib.itoa vol, Lib.itoa block]) = some ⟨5, 0, 6, vol, block, 0, [], []⟩ := by
  unfold actL
  rw [words_tl [Lib.itoa vol, Lib.itoa block] [100, 105, 115, 99, 97, 114, 100] (by decide) (fun x hx => by
    simp only [List.mem_cons, List.mem_nil_iff, or_false] at hx
    rcases hx with rfl | rfl
    all_goals first | exact itoa_no32 _ | exact hex_no32 _)]
  exact fill_10 5 vol block h0 h1

theorem backL_10 (vol : Int) (block : Int) (h0 : I64 vol) (h1 : I64 block) : actL (laterB ++ tl ([100, 105, 115, 99, 97, 114, 100] :: [Lib.itoa vol, Lib.itoa block])) = some ⟨3, 0, 6, vol, block, 0, [], []⟩ := by
  unfold actL
  rw [words_tl ([100, 105, 115, 99, 97, 114, 100] :: [Lib.itoa vol, Lib.itoa block]) laterB (by decide) (fun x hx => by
    simp only [List.mem_cons, List.mem_nil_iff, or_false] at hx
    rcases hx with rfl | rfl | rfl
    all_goals first | exact itoa_no32 _ | exact hex_no32 _ | decide)]
  exact fill_10 3 vol block h0 h1

theorem back_11   : actL ([115, 121, 110, 99] ++ tl []) = some ⟨5, 0, 7, 0, 0, 0, [], []⟩ := by
  unfold actL
  rw [words_tl [] [115, 121, 110, 99] (by decide) (fun x hx => by cases hx)]
  exact fill_11 5 

theorem backL_11   : actL (laterB ++ tl ([115, 121, 110, 99] :: [])) = some ⟨3, 0, 7, 0, 0, 0, [], []⟩ := by
  unfold actL
  rw [words_tl ([115, 121, 110, 99] :: []) laterB (by decide) (fun x hx => by
    simp only [List.mem_cons, List.mem_nil_iff, or_false] at hx
    rcases hx with rfl
    all_goals first | exact itoa_no32 _ | exact hex_no32 _ | decide)]
  exact fill_11 3 

theorem back_12   : actL ([115, 116, 97, 116] ++ tl []) = some ⟨5, 0, 8, 0, 0, 0, [], []⟩ := by
  unfold actL
  rw [words_tl [] [115, 116, 97, 116] (by decide) (fun x hx => by cases hx)]
  exact fill_12 5 

theorem backL_12   : actL (laterB ++ tl ([115, 116, 97, 116] :: [])) = some ⟨3, 0, 8, 0, 0, 0, [], []⟩ := by
  unfold actL
  rw [words_tl ([115, 116, 97, 116] :: []) laterB (by decide) (fun x hx => by
    simp only [List.mem_cons, List.mem_nil_iff, or_false] at hx
    rcases hx with rfl
    all_goals first | exact itoa_no32 _ | exact hex_no32 _ | decide)]
  exact fill_12 3 

theorem back_13 (vol : Int) (h0 : I64 vol) : actL ([101, 110, 116, 114, 121] ++ tl [Lib.itoa vol]) = some ⟨5, 0, 9, vol, 0, 0, [], []⟩ := by
  unfold actL
  rw [words_tl [Lib.itoa vol] [101, 110, 116, 114, 121] (by decide) (fun x hx => by
    simp only [List.mem_cons, List.mem_nil_iff, or_false] at hx
    rcases hx with rfl
    all_goals first | exact itoa_no32 _ | exact hex_no32 _)]
  exact fill_13 5 vol h0

theorem backL_13 (vol : Int) (h0 : I64 vol) : actL (laterB ++ tl ([101, 110, 116, 114, 121] :: [Lib.itoa vol])) = some ⟨3, 0, 9, vol, 0, 0, [], []⟩ := by
  unfold actL
  rw [words_tl ([101, 110, 116, 114, 121] :: [Lib.itoa vol]) laterB (by decide) (fun x hx => by
    simp only [List.mem_cons, List.mem_nil_iff, or_false] at hx
    rcases hx with rfl | rfl
    all_goals first | exact itoa_no32 _ | exact hex_no32 _ | decide)]
  exact fill_13 3 vol h0

end Go.Proofs.YtbnbnccpoeopmaaDoor.St
