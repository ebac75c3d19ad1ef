/- The plain law of lines: the line of the act that a text is, is that text. -/
import Derived.Test.YtbnbnccpoeopmaaDoorSj
import Derived.Test.YtbnbnccpoeopmaaDoorSh
namespace Go.Proofs.YtbnbnccpoeopmaaDoor.Sr
open Go.RowKit Go.Proofs.YtbnbnccpoeopmaaDoor.Sa Go.Proofs.YtbnbnccpoeopmaaDoor.Sb Go.Proofs.YtbnbnccpoeopmaaDoor.Sd Go.Proofs.YtbnbnccpoeopmaaDoor.Sf Go.Proofs.YtbnbnccpoeopmaaDoor.Sg Go.Proofs.YtbnbnccpoeopmaaDoor.Sh Go.Proofs.YtbnbnccpoeopmaaDoor.Sj

/-- A number behind a space. -/
def sp (n : Int) : List UInt8 := 32 :: Lib.itoa n

/-- A request's words. -/
def reqL (rk vol block size : Int) (data : List UInt8) : List UInt8 × Bool :=
  if rk = 1 then ([99, 114, 101, 97, 116, 101] ++ sp size, vol == 0 && block == 0 && data.isEmpty)
  else if rk = 2 then ([100, 101, 108, 101, 116, 101] ++ sp vol, block == 0 && size == 0 && data.isEmpty)
  else if rk = 3 then ([115, 110, 97, 112] ++ sp vol, block == 0 && size == 0 && data.isEmpty)
  else if rk = 4 then ([114, 101, 97, 100] ++ sp vol ++ sp block, size == 0 && data.isEmpty)
  else if rk = 5 then ([119, 114, 105, 116, 101] ++ sp vol ++ sp block ++ [32] ++ (120 :: hexOf data), size == 0)
  else if rk = 6 then ([100, 105, 115, 99, 97, 114, 100] ++ sp vol ++ sp block, size == 0 && data.isEmpty)
  else if rk = 7 then ([115, 121, 110, 99], vol == 0 && block == 0 && size == 0 && data.isEmpty)
  else if rk = 8 then ([115, 116, 97, 116], vol == 0 && block == 0 && size == 0 && data.isEmpty)
  else if rk = 9 then ([101, 110, 116, 114, 121] ++ sp vol, block == 0 && size == 0 && data.isEmpty)
  else ([], false)

def noneL (m : ActM) : Bool := m.rk == 0 && m.vol == 0 && m.data.isEmpty
def bareL (m : ActM) : Bool := noneL m && m.block == 0 && m.size == 0 && m.keep.isEmpty
def keepL (l : List Int) : List UInt8 := l.flatMap sp

/-- An act's line. -/
def lineL (m : ActM) : List UInt8 × Bool :=
  if m.kind = 1 then ([102, 111, 114, 109, 97, 116] ++ [32] ++ Lib.itoa m.size ++ [32] ++ Lib.itoa m.block, noneL m && m.n == 0 && m.keep.isEmpty)
  else if m.kind = 2 then ([111, 112, 101, 110], bareL m && m.n == 0)
  else if m.kind = 4 then ([115, 116, 101, 112] ++ [32] ++ Lib.itoa m.n, bareL m)
  else if m.kind = 6 then ([102, 97, 105, 108] ++ [32] ++ Lib.itoa m.n, bareL m)
  else if m.kind = 7 then ([99, 114, 97, 115, 104] ++ keepL m.keep, noneL m && m.block == 0 && m.size == 0 && m.n == 0)
  else if m.kind = 5 then ((reqL m.rk m.vol m.block m.size m.data).1, (reqL m.rk m.vol m.block m.size m.data).2 && m.n == 0 && m.keep.isEmpty)
  else if m.kind = 3 then (laterB ++ [32] ++ (reqL m.rk m.vol m.block m.size m.data).1, (reqL m.rk m.vol m.block m.size m.data).2 && m.n == 0 && m.keep.isEmpty)
  else ([], false)

/-! ### Words, and back -/
def joinL : List (List UInt8) → List UInt8
  | [] => []
  | [w] => w
  | w :: ws => w ++ 32 :: joinL ws

theorem join_words : ∀ l : List UInt8, joinL (wordsL l) = l
  | [] => rfl
  | c :: l => by
    have ih := join_words l
    unfold wordsL
    cases hw : wordsL l with
    | nil => exact absurd hw (wordsL_ne l)
    | cons a t =>
      rw [hw] at ih
      by_cases hc : c = 32
      · rw [if_pos hc, hc]
        show [] ++ 32 :: joinL (a :: t) = _
        rw [ih]
        rfl
      · rw [if_neg hc]
        cases t with
        | nil =>
          have : a = l := ih
          subst this
          rfl
        | cons b t =>
          show (c :: a) ++ 32 :: joinL (b :: t) = _
          have h2 : a ++ 32 :: joinL (b :: t) = l := ih
          rw [List.cons_append, h2]

theorem indexByte_at : ∀ (l : List UInt8) (c : UInt8) (i : Nat), Lib.indexByte l c = (i : Int) → l.getD i 0 = c
  | [], c, i, h => by
    have : (-1 : Int) = (i : Int) := h
    omega
  | b :: l, c, i, h => by
    unfold Lib.indexByte at h
    split at h
    · rename_i hb
      have : i = 0 := by omega
      subst this
      exact beq_iff_eq.1 hb
    · split at h
      · omega
      · have hge := Lib.indexByte_ge l c
        obtain ⟨k, hk⟩ : ∃ k : Nat, Lib.indexByte l c = (k : Int) := ⟨(Lib.indexByte l c).toNat, by
          rename_i h2
          have : ¬ Lib.indexByte l c = -1 := fun e => h2 (beq_iff_eq.2 e)
          omega⟩
        have := indexByte_at l c k hk
        have e : i = k + 1 := by omega
        subst e
        exact this

theorem hexByte_back {a b c : UInt8} (h : hexByte a b = some c) : a = digit (c.toNat / 16) ∧ b = digit (c.toNat % 16) := by
  unfold hexByte at h
  split at h
  · cases h
  · rename_i hn
    have ha := hexIx_le a
    have hb := hexIx_le b
    obtain ⟨i, hi⟩ : ∃ i : Nat, hexIx a = (i : Int) := ⟨(hexIx a).toNat, by omega⟩
    obtain ⟨j, hj⟩ : ∃ j : Nat, hexIx b = (j : Int) := ⟨(hexIx b).toNat, by omega⟩
    rw [hi, hj, Int.toNat_natCast, Int.toNat_natCast] at h
    have e := (Option.some.inj h).symm
    have hc : c.toNat = i * 16 + j := by
      rw [e, UInt8.toNat_ofNat']
      omega
    have e1 : c.toNat / 16 = i := by omega
    have e2 : c.toNat % 16 = j := by omega
    rw [e1, e2]
    exact ⟨(indexByte_at _ _ _ hi).symm, (indexByte_at _ _ _ hj).symm⟩

theorem hexL_back : ∀ (n : Nat) (r d : List UInt8), r.length ≤ n → hexL r = some d → r = hexOf d
  | _, [], d, _, h => by
    have : d = [] := (Option.some.inj h).symm
    subst this
    rfl
  | _, [_], d, _, h => by cases h
  | 0, a :: b :: r, d, hn, _ => absurd hn (by simp)
  | n + 1, a :: b :: r, d, hn, h => by
    unfold hexL at h
    split at h
    · cases h
    · rename_i c hc
      cases hr : hexL r with
      | none =>
        rw [hr] at h
        cases h
      | some x =>
        rw [hr] at h
        have : d = c :: x := (Option.some.inj h).symm
        subst this
        have ih := hexL_back n r x (by simp at hn; omega) hr
        obtain ⟨e1, e2⟩ := hexByte_back hc
        rw [ih, e1, e2]
        rfl

theorem unhexL_back {l d : List UInt8} (h : unhexL l = some d) : l = 120 :: hexOf d := by
  unfold unhexL at h
  split at h
  · rename_i hp
    have h2 := hexL_back _ _ _ (Nat.le_refl _) h
    cases l with
    | nil => exact absurd hp (by decide)
    | cons c t =>
      have hc : c = 120 := by
        unfold Lib.hasPrefix at hp
        simp [List.isPrefixOf] at hp
        exact hp.symm
      subst hc
      have : t = hexOf d := h2
      rw [this]
  · cases h

/-- The words behind the first. -/
def tl (ws : List (List UInt8)) : List UInt8 := ws.flatMap (32 :: ·)

theorem joinL_cons : ∀ (ws : List (List UInt8)) (w : List UInt8), joinL (w :: ws) = w ++ tl ws
  | [], w => by simp [joinL, tl]
  | a :: t, w => by
    show w ++ 32 :: joinL (a :: t) = _
    rw [joinL_cons t a]
    rfl

theorem okParts_len {j k : Nat} {n : Nat} (h : okPartsL (formAt j) n = true) (h1 : ((formAt j).parts.data.toList == [107]) = false) (h2 : (formAt j).parts.size = k) : n = k := by
  unfold okPartsL at h
  rw [h1, Bool.false_or] at h
  rw [← h2]
  exact beq_iff_eq.1 h

theorem tail_0 (ws : List (List UInt8)) (m : ActM) (h : actTailL (formAt 0) 1 ws = some m) : lineL m = ([102, 111, 114, 109, 97, 116] ++ tl ws, true) := by
  unfold actTailL at h
  split at h
  · rename_i hok
    have hlen := okParts_len hok (k := 2) rfl rfl
    clear hok
    match ws, hlen, h with
    | [x0, x1], _, h =>
      have s0 : ∀ a, partStepL (Sg.partAt (formAt 0).parts 0) x0 a = ({ a with size := atoiN x0 }, numL x0) := fun a => rfl
      have s1 : ∀ a, partStepL (Sg.partAt (formAt 0).parts 1) x1 a = ({ a with block := atoiN x1 }, numL x1) := fun a => rfl
      simp only [actLoopL, s0, s1] at h
      cases n0 : numL x0 with
      | false =>
        rw [n0] at h
        cases h
      | true =>
      rw [n0] at h
      have e0 := numL_itoa n0
      generalize atoiN x0 = v0 at h e0
      cases n1 : numL x1 with
      | false =>
        rw [n1] at h
        cases h
      | true =>
      rw [n1] at h
      have e1 := numL_itoa n1
      generalize atoiN x1 = v1 at h e1
      have hm := (Option.some.inj h).symm
      subst hm
      subst e0
      subst e1
      simp [lineL, mkAct, noneL, tl, formAt, formsL]
  · cases h

theorem tail_1 (ws : List (List UInt8)) (m : ActM) (h : actTailL (formAt 1) 2 ws = some m) : lineL m = ([111, 112, 101, 110] ++ tl ws, true) := by
  unfold actTailL at h
  split at h
  · rename_i hok
    have hlen := okParts_len hok (k := 0) rfl rfl
    clear hok
    match ws, hlen, h with
    | [], _, h =>
      simp only [actLoopL] at h
      have hm := (Option.some.inj h).symm
      subst hm
      simp [lineL, mkAct, bareL, noneL, tl, formAt, formsL]
  · cases h

theorem tail_2 (ws : List (List UInt8)) (m : ActM) (h : actTailL (formAt 2) 4 ws = some m) : lineL m = ([115, 116, 101, 112] ++ tl ws, true) := by
  unfold actTailL at h
  split at h
  · rename_i hok
    have hlen := okParts_len hok (k := 1) rfl rfl
    clear hok
    match ws, hlen, h with
    | [x0], _, h =>
      have s0 : ∀ a, partStepL (Sg.partAt (formAt 2).parts 0) x0 a = ({ a with n := atoiN x0 }, numL x0) := fun a => rfl
      simp only [actLoopL, s0] at h
      cases n0 : numL x0 with
      | false =>
        rw [n0] at h
        cases h
      | true =>
      rw [n0] at h
      have e0 := numL_itoa n0
      generalize atoiN x0 = v0 at h e0
      have hm := (Option.some.inj h).symm
      subst hm
      subst e0
      simp [lineL, mkAct, bareL, noneL, tl, formAt, formsL]
  · cases h

theorem tail_3 (ws : List (List UInt8)) (m : ActM) (h : actTailL (formAt 3) 6 ws = some m) : lineL m = ([102, 97, 105, 108] ++ tl ws, true) := by
  unfold actTailL at h
  split at h
  · rename_i hok
    have hlen := okParts_len hok (k := 1) rfl rfl
    clear hok
    match ws, hlen, h with
    | [x0], _, h =>
      have s0 : ∀ a, partStepL (Sg.partAt (formAt 3).parts 0) x0 a = ({ a with n := atoiN x0 }, numL x0) := fun a => rfl
      simp only [actLoopL, s0] at h
      cases n0 : numL x0 with
      | false =>
        rw [n0] at h
        cases h
      | true =>
      rw [n0] at h
      have e0 := numL_itoa n0
      generalize atoiN x0 = v0 at h e0
      have hm := (Option.some.inj h).symm
      subst hm
      subst e0
      simp [lineL, mkAct, bareL, noneL, tl, formAt, formsL]
  · cases h

theorem tail_5 (kind : Int) (ws : List (List UInt8)) (m : ActM) (h : actTailL (formAt 5) kind ws = some m) : m.kind = kind ∧ m.n = 0 ∧ m.keep = [] ∧ reqL m.rk m.vol m.block m.size m.data = ([99, 114, 101, 97, 116, 101] ++ tl ws, true) := by
  unfold actTailL at h
  split at h
  · rename_i hok
    have hlen := okParts_len hok (k := 1) rfl rfl
    clear hok
    match ws, hlen, h with
    | [x0], _, h =>
      have s0 : ∀ a, partStepL (Sg.partAt (formAt 5).parts 0) x0 a = ({ a with size := atoiN x0 }, numL x0) := fun a => rfl
      simp only [actLoopL, s0] at h
      cases n0 : numL x0 with
      | false =>
        rw [n0] at h
        cases h
      | true =>
      rw [n0] at h
      have e0 := numL_itoa n0
      generalize atoiN x0 = v0 at h e0
      have hm := (Option.some.inj h).symm
      subst hm
      subst e0
      exact ⟨rfl, rfl, rfl, by simp [reqL, mkAct, tl, sp, formAt, formsL]⟩
  · cases h

theorem tail_6 (kind : Int) (ws : List (List UInt8)) (m : ActM) (h : actTailL (formAt 6) kind ws = some m) : m.kind = kind ∧ m.n = 0 ∧ m.keep = [] ∧ reqL m.rk m.vol m.block m.size m.data = ([100, 101, 108, 101, 116, 101] ++ tl ws, true) := by
  unfold actTailL at h
  split at h
  · rename_i hok
    have hlen := okParts_len hok (k := 1) rfl rfl
    clear hok
    match ws, hlen, h with
    | [x0], _, h =>
      have s0 : ∀ a, partStepL (Sg.partAt (formAt 6).parts 0) x0 a = ({ a with vol := atoiN x0 }, numL x0) := fun a => rfl
      simp only [actLoopL, s0] at h
      cases n0 : numL x0 with
      | false =>
        rw [n0] at h
        cases h
      | true =>
      rw [n0] at h
      have e0 := numL_itoa n0
      generalize atoiN x0 = v0 at h e0
      have hm := (Option.some.inj h).symm
      subst hm
      subst e0
      exact ⟨rfl, rfl, rfl, by simp [reqL, mkAct, tl, sp, formAt, formsL]⟩
  · cases h

theorem tail_7 (kind : Int) (ws : List (List UInt8)) (m : ActM) (h : actTailL (formAt 7) kind ws = some m) : m.kind = kind ∧ m.n = 0 ∧ m.keep = [] ∧ reqL m.rk m.vol m.block m.size m.data = ([115, 110, 97, 112] ++ tl ws, true) := by
  unfold actTailL at h
  split at h
  · rename_i hok
    have hlen := okParts_len hok (k := 1) rfl rfl
    clear hok
    match ws, hlen, h with
    | [x0], _, h =>
      have s0 : ∀ a, partStepL (Sg.partAt (formAt 7).parts 0) x0 a = ({ a with vol := atoiN x0 }, numL x0) := fun a => rfl
      simp only [actLoopL, s0] at h
      cases n0 : numL x0 with
      | false =>
        rw [n0] at h
        cases h
      | true =>
      rw [n0] at h
      have e0 := numL_itoa n0
      generalize atoiN x0 = v0 at h e0
      have hm := (Option.some.inj h).symm
      subst hm
      subst e0
      exact ⟨rfl, rfl, rfl, by simp [reqL, mkAct, tl, sp, formAt, formsL]⟩
  · cases h

theorem tail_8 (kind : Int) (ws : List (List UInt8)) (m : ActM) (h : actTailL (formAt 8) kind ws = some m) : m.kind = kind ∧ m.n = 0 ∧ m.keep = [] ∧ reqL m.rk m.vol m.block m.size m.data = ([114, 101, 97, 100] ++ tl ws, true) := by
  unfold actTailL at h
  split at h
  · rename_i hok
    have hlen := okParts_len hok (k := 2) rfl rfl
    clear hok
    match ws, hlen, h with
    | [x0, x1], _, h =>
      have s0 : ∀ a, partStepL (Sg.partAt (formAt 8).parts 0) x0 a = ({ a with vol := atoiN x0 }, numL x0) := fun a => rfl
      have s1 : ∀ a, partStepL (Sg.partAt (formAt 8).parts 1) x1 a = ({ a with block := atoiN x1 }, numL x1) := fun a => rfl
      simp only [actLoopL, s0, s1] at h
      cases n0 : numL x0 with
      | false =>
        rw [n0] at h
        cases h
      | true =>
      rw [n0] at h
      have e0 := numL_itoa n0
      generalize atoiN x0 = v0 at h e0
      cases n1 : numL x1 with
      | false =>
        rw [n1] at h
        cases h
      | true =>
      rw [n1] at h
      have e1 := numL_itoa n1
      generalize atoiN x1 = v1 at h e1
      have hm := (Option.some.inj h).symm
      subst hm
      subst e0
      subst e1
      exact ⟨rfl, rfl, rfl, by simp [reqL, mkAct, tl, sp, formAt, formsL]⟩
  · cases h

theorem tail_9 (kind : Int) (ws : List (List UInt8)) (m : ActM) (h : actTailL (formAt 9) kind ws = some m) : m.kind = kind ∧ m.n = 0 ∧ m.keep = [] ∧ reqL m.rk m.vol m.block m.size m.data = ([119, 114, 105, 116, 101] ++ tl ws, true) := by
  unfold actTailL at h
  split at h
  · rename_i hok
    have hlen := okParts_len hok (k := 3) rfl rfl
    clear hok
    match ws, hlen, h with
    | [x0, x1, x2], _, h =>
      have s0 : ∀ a, partStepL (Sg.partAt (formAt 9).parts 0) x0 a = ({ a with vol := atoiN x0 }, numL x0) := fun a => rfl
      have s1 : ∀ a, partStepL (Sg.partAt (formAt 9).parts 1) x1 a = ({ a with block := atoiN x1 }, numL x1) := fun a => rfl
      have s2 : ∀ a, partStepL (Sg.partAt (formAt 9).parts 2) x2 a = ({ a with data := (unhexL x2).getD [] }, (unhexL x2).isSome) := fun a => rfl
      simp only [actLoopL, s0, s1, s2] at h
      cases n0 : numL x0 with
      | false =>
        rw [n0] at h
        cases h
      | true =>
      rw [n0] at h
      have e0 := numL_itoa n0
      generalize atoiN x0 = v0 at h e0
      cases n1 : numL x1 with
      | false =>
        rw [n1] at h
        cases h
      | true =>
      rw [n1] at h
      have e1 := numL_itoa n1
      generalize atoiN x1 = v1 at h e1
      cases n2 : unhexL x2 with
      | none =>
        rw [n2] at h
        cases h
      | some dd =>
      rw [n2] at h
      have e2 := unhexL_back n2
      have hm := (Option.some.inj h).symm
      subst hm
      subst e0
      subst e1
      subst e2
      exact ⟨rfl, rfl, rfl, by simp [reqL, mkAct, tl, sp, formAt, formsL]⟩
  · cases h

theorem tail_10 (kind : Int) (ws : List (List UInt8)) (m : ActM) (h : actTailL (formAt 10) kind ws = some m) : m.kind = kind ∧ m.n = 0 ∧ m.keep = [] ∧ reqL m.rk m.vol m.block m.size m.data = ([100, 105, 115, 99, 97, 114, 100] ++ tl ws, true) := by
  unfold actTailL at h
  split at h
  · rename_i hok
    have hlen := okParts_len hok (k := 2) rfl rfl
    clear hok
    match ws, hlen, h with
    | [x0, x1], _, h =>
      have s0 : ∀ a, partStepL (Sg.partAt (formAt 10).parts 0) x0 a = ({ a with vol := atoiN x0 }, numL x0) := fun a => rfl
      have s1 : ∀ a, partStepL (Sg.partAt (formAt 10).parts 1) x1 a = ({ a with block := atoiN x1 }, numL x1) := fun a => rfl
      simp only [actLoopL, s0, s1] at h
      cases n0 : numL x0 with
      | false =>
        rw [n0] at h
        cases h
      | true =>
      rw [n0] at h
      have e0 := numL_itoa n0
      generalize atoiN x0 = v0 at h e0
      cases n1 : numL x1 with
      | false =>
        rw [n1] at h
        cases h
      | true =>
      rw [n1] at h
      have e1 := numL_itoa n1
      generalize atoiN x1 = v1 at h e1
      have hm := (Option.some.inj h).symm
      subst hm
      subst e0
      subst e1
      exact ⟨rfl, rfl, rfl, by simp [reqL, mkAct, tl, sp, formAt, formsL]⟩
  · cases h

theorem tail_11 (kind : Int) (ws : List (List UInt8)) (m : ActM) (h : actTailL (formAt 11) kind ws = some m) : m.kind = kind ∧ m.n = 0 ∧ m.keep = [] ∧ reqL m.rk m.vol m.block m.size m.data = ([115, 121, 110, 99] ++ tl ws, true) := by
  unfold actTailL at h
  split at h
  · rename_i hok
    have hlen := okParts_len hok (k := 0) rfl rfl
    clear hok
    match ws, hlen, h with
    | [], _, h =>
      simp only [actLoopL] at h
      have hm := (Option.some.inj h).symm
      subst hm
      exact ⟨rfl, rfl, rfl, by simp [reqL, mkAct, tl, formAt, formsL]⟩
  · cases h

theorem tail_12 (kind : Int) (ws : List (List UInt8)) (m : ActM) (h : actTailL (formAt 12) kind ws = some m) : m.kind = kind ∧ m.n = 0 ∧ m.keep = [] ∧ reqL m.rk m.vol m.block m.size m.data = ([115, 116, 97, 116] ++ tl ws, true) := by
  unfold actTailL at h
  split at h
  · rename_i hok
    have hlen := okParts_len hok (k := 0) rfl rfl
    clear hok
    match ws, hlen, h with
    | [], _, h =>
      simp only [actLoopL] at h
      have hm := (Option.some.inj h).symm
      subst hm
      exact ⟨rfl, rfl, rfl, by simp [reqL, mkAct, tl, formAt, formsL]⟩
  · cases h

theorem tail_13 (kind : Int) (ws : List (List UInt8)) (m : ActM) (h : actTailL (formAt 13) kind ws = some m) : m.kind = kind ∧ m.n = 0 ∧ m.keep = [] ∧ reqL m.rk m.vol m.block m.size m.data = ([101, 110, 116, 114, 121] ++ tl ws, true) := by
  unfold actTailL at h
  split at h
  · rename_i hok
    have hlen := okParts_len hok (k := 1) rfl rfl
    clear hok
    match ws, hlen, h with
    | [x0], _, h =>
      have s0 : ∀ a, partStepL (Sg.partAt (formAt 13).parts 0) x0 a = ({ a with vol := atoiN x0 }, numL x0) := fun a => rfl
      simp only [actLoopL, s0] at h
      cases n0 : numL x0 with
      | false =>
        rw [n0] at h
        cases h
      | true =>
      rw [n0] at h
      have e0 := numL_itoa n0
      generalize atoiN x0 = v0 at h e0
      have hm := (Option.some.inj h).symm
      subst hm
      subst e0
      exact ⟨rfl, rfl, rfl, by simp [reqL, mkAct, tl, sp, formAt, formsL]⟩
  · cases h

theorem crash_loop : ∀ (ws : List (List UInt8)) (i : Nat) (a b : Acc), actLoopL (formAt 4).parts i ws a = some b → b = { a with keep := a.keep ++ ws.map atoiN } ∧ tl ws = keepL (ws.map atoiN)
  | [], _, a, b, h => by
    have := (Option.some.inj h).symm
    subst this
    exact ⟨by simp, rfl⟩
  | x :: r, i, a, b, h => by
    have hp : Sg.partAt (formAt 4).parts i = 107 := by
      unfold Sg.partAt
      rw [show (formAt 4).parts.size - 1 = 0 from rfl, Nat.min_zero]
      rfl
    have s : partStepL (Sg.partAt (formAt 4).parts i) x a = ({ a with keep := a.keep ++ [atoiN x] }, numL x) := by rw [hp]; rfl
    simp only [actLoopL, s] at h
    cases n : numL x with
    | false =>
      rw [n] at h
      cases h
    | true =>
      rw [n] at h
      obtain ⟨h1, h2⟩ := crash_loop r (i + 1) _ b h
      have e := numL_itoa n
      refine ⟨by rw [h1]; simp, ?_⟩
      show 32 :: x ++ tl r = sp (atoiN x) ++ keepL (r.map atoiN)
      rw [h2]
      unfold sp
      rw [← e]

theorem tail_4 (ws : List (List UInt8)) (m : ActM) (h : actTailL (formAt 4) 7 ws = some m) : lineL m = ([99, 114, 97, 115, 104] ++ tl ws, true) := by
  unfold actTailL at h
  split at h
  · cases hl : actLoopL (formAt 4).parts 0 ws ⟨0, 0, 0, 0, [], []⟩ with
    | none =>
      rw [hl] at h
      cases h
    | some b =>
      rw [hl] at h
      obtain ⟨h1, h2⟩ := crash_loop ws 0 _ b hl
      have hm := (Option.some.inj h).symm
      subst hm
      subst h1
      rw [h2]
      simp [lineL, mkAct, noneL, formAt, formsL]
  · cases h

theorem firstL_cases (xo : Option (List UInt8)) : ∀ (g k : Nat), firstL xo g k = -1 ∨ ∃ j : Nat, j < k + g ∧ firstL xo g k = (j : Int) ∧ fitsL xo (formAt j) = true
  | 0, _ => Or.inl rfl
  | g + 1, k => by
    unfold firstL
    split
    · rename_i h
      exact Or.inr ⟨k, by omega, rfl, h⟩
    · rcases firstL_cases xo g (k + 1) with h | ⟨j, h1, h2⟩
      · exact Or.inl h
      · exact Or.inr ⟨j, by omega, h2⟩

theorem fits_word {xo : Option (List UInt8)} {f : FormD} (h : fitsL xo f = true) : xo = some f.word.data.toList := by
  cases xo with
  | none => cases h
  | some x =>
    have := beq_iff_eq.1 h
    rw [this]

/-- The line of the act that a text is, is that text. -/
theorem line_back (l : List UInt8) (m : ActM) (h : actL l = some m) : lineL m = (l, true) := by
  have hj := join_words l
  unfold actL at h
  cases hw : wordsL l with
  | nil => exact absurd hw (wordsL_ne l)
  | cons x r =>
    rw [hw] at h hj
    rw [joinL_cons] at hj
    have h : actOfL (x :: r) (if x == laterB then 1 else 0) (if x == laterB then 3 else 5) = some m := h
    cases hl : (x == laterB) with
    | false =>
      rw [hl] at h
      have h : actOfL (x :: r) 0 5 = some m := h
      unfold actOfL at h
      rcases firstL_cases (x :: r)[0]? 14 0 with hm | ⟨j, hj14, hjj, hf⟩
      · rw [hm] at h
        cases h
      · rw [hjj, if_neg (by omega), Int.toNat_natCast] at h
        have hx := fits_word hf
        have hx : x = (formAt j).word.data.toList := Option.some.inj hx
        have hd : (x :: r).drop (0 + 1) = r := rfl
        rw [hd] at h
        have : j = 0 ∨ j = 1 ∨ j = 2 ∨ j = 3 ∨ j = 4 ∨ j = 5 ∨ j = 6 ∨ j = 7 ∨ j = 8 ∨ j = 9 ∨ j = 10 ∨ j = 11 ∨ j = 12 ∨ j = 13 := by omega
        rcases this with rfl | rfl | rfl | rfl | rfl | rfl | rfl | rfl | rfl | rfl | rfl | rfl | rfl | rfl
        · rw [tail_0 r m h, ← hj, hx]
          rfl
        · rw [tail_1 r m h, ← hj, hx]
          rfl
        · rw [tail_2 r m h, ← hj, hx]
          rfl
        · rw [tail_3 r m h, ← hj, hx]
          rfl
        · rw [tail_4 r m h, ← hj, hx]
          rfl
        · obtain ⟨h1, h2, h3, h4⟩ := tail_5 5 r m h
          unfold lineL
          rw [h1, h2, h3, h4, ← hj, hx]
          rfl
        · obtain ⟨h1, h2, h3, h4⟩ := tail_6 5 r m h
          unfold lineL
          rw [h1, h2, h3, h4, ← hj, hx]
          rfl
        · obtain ⟨h1, h2, h3, h4⟩ := tail_7 5 r m h
          unfold lineL
          rw [h1, h2, h3, h4, ← hj, hx]
          rfl
        · obtain ⟨h1, h2, h3, h4⟩ := tail_8 5 r m h
          unfold lineL
          rw [h1, h2, h3, h4, ← hj, hx]
          rfl
        · obtain ⟨h1, h2, h3, h4⟩ := tail_9 5 r m h
          unfold lineL
          rw [h1, h2, h3, h4, ← hj, hx]
          rfl
        · obtain ⟨h1, h2, h3, h4⟩ := tail_10 5 r m h
          unfold lineL
          rw [h1, h2, h3, h4, ← hj, hx]
          rfl
        · obtain ⟨h1, h2, h3, h4⟩ := tail_11 5 r m h
          unfold lineL
          rw [h1, h2, h3, h4, ← hj, hx]
          rfl
        · obtain ⟨h1, h2, h3, h4⟩ := tail_12 5 r m h
          unfold lineL
          rw [h1, h2, h3, h4, ← hj, hx]
          rfl
        · obtain ⟨h1, h2, h3, h4⟩ := tail_13 5 r m h
          unfold lineL
          rw [h1, h2, h3, h4, ← hj, hx]
          rfl
    | true =>
      rw [hl] at h
      have hlx := beq_iff_eq.1 hl
      have h : actOfL (x :: r) 1 3 = some m := h
      unfold actOfL at h
      rcases firstL_cases (x :: r)[1]? 14 0 with hm | ⟨j, hj14, hjj, hf⟩
      · rw [hm] at h
        cases h
      · rw [hjj, if_neg (by omega), Int.toNat_natCast] at h
        have hx := fits_word hf
        cases r with
        | nil => cases hx
        | cons y r =>
        have hx : y = (formAt j).word.data.toList := Option.some.inj hx
        have hd : (x :: y :: r).drop (1 + 1) = r := rfl
        rw [hd] at h
        have ht : tl (y :: r) = 32 :: (y ++ tl r) := rfl
        rw [ht] at hj
        have : j = 0 ∨ j = 1 ∨ j = 2 ∨ j = 3 ∨ j = 4 ∨ j = 5 ∨ j = 6 ∨ j = 7 ∨ j = 8 ∨ j = 9 ∨ j = 10 ∨ j = 11 ∨ j = 12 ∨ j = 13 := by omega
        rcases this with rfl | rfl | rfl | rfl | rfl | rfl | rfl | rfl | rfl | rfl | rfl | rfl | rfl | rfl
        · cases h
        · cases h
        · cases h
        · cases h
        · cases h
        · obtain ⟨h1, h2, h3, h4⟩ := tail_5 3 r m h
          unfold lineL
          rw [h1, h2, h3, h4, ← hj, hx, hlx]
          rfl
        · obtain ⟨h1, h2, h3, h4⟩ := tail_6 3 r m h
          unfold lineL
          rw [h1, h2, h3, h4, ← hj, hx, hlx]
          rfl
        · obtain ⟨h1, h2, h3, h4⟩ := tail_7 3 r m h
          unfold lineL
          rw [h1, h2, h3, h4, ← hj, hx, hlx]
          rfl
        · obtain ⟨h1, h2, h3, h4⟩ := tail_8 3 r m h
          unfold lineL
          rw [h1, h2, h3, h4, ← hj, hx, hlx]
          rfl
        · obtain ⟨h1, h2, h3, h4⟩ := tail_9 3 r m h
          unfold lineL
          rw [h1, h2, h3, h4, ← hj, hx, hlx]
          rfl
        · obtain ⟨h1, h2, h3, h4⟩ := tail_10 3 r m h
          unfold lineL
          rw [h1, h2, h3, h4, ← hj, hx, hlx]
          rfl
        · obtain ⟨h1, h2, h3, h4⟩ := tail_11 3 r m h
          unfold lineL
          rw [h1, h2, h3, h4, ← hj, hx, hlx]
          rfl
        · obtain ⟨h1, h2, h3, h4⟩ := tail_12 3 r m h
          unfold lineL
          rw [h1, h2, h3, h4, ← hj, hx, hlx]
          rfl
        · obtain ⟨h1, h2, h3, h4⟩ := tail_13 3 r m h
          unfold lineL
          rw [h1, h2, h3, h4, ← hj, hx, hlx]
          rfl

end Go.Proofs.YtbnbnccpoeopmaaDoor.Sr
