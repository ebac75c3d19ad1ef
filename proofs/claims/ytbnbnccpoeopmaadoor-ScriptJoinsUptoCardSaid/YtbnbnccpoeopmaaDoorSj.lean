/- The plain law of numerals and of the words of a line. -/
import Derived.Test.YtbnbnccpoeopmaaDoorSg
namespace Go.Proofs.YtbnbnccpoeopmaaDoor.Sj
open Go.RowKit Go.Proofs.YtbnbnccpoeopmaaDoor.Sa Go.Proofs.YtbnbnccpoeopmaaDoor.Sb Go.Proofs.YtbnbnccpoeopmaaDoor.Sc Go.Proofs.YtbnbnccpoeopmaaDoor.Sd Go.Proofs.YtbnbnccpoeopmaaDoor.Se Go.Proofs.YtbnbnccpoeopmaaDoor.Sf Go.Proofs.YtbnbnccpoeopmaaDoor.Sg

theorem dec_big {u : Nat} (h : ¬ u < 10) : Lib.decDigits u = Lib.decDigits (u / 10) ++ [UInt8.ofNat (48 + u % 10)] := by
  rw [Lib.decDigits, dif_neg h]

theorem dig_toNat {d : Nat} (h : d < 10) : (UInt8.ofNat (48 + d)).toNat = 48 + d := by
  rw [UInt8.toNat_ofNat']
  omega

theorem parse_dec : ∀ (u : Nat) (r : List UInt8), u < 18446744073709551616 → Lib.parseUint10 0 (Lib.decDigits u ++ r) = Lib.parseUint10 u r := by
  intro u
  induction u using Nat.strongRecOn with
  | ind u ih =>
    intro r hu
    by_cases h : u < 10
    · rw [Lib.decDigits_one h, List.singleton_append, Lib.parseUint10, dig_toNat h, if_pos (by omega), if_neg (by omega), if_neg (by omega)]
      congr 1
      omega
    · rw [dec_big h, List.append_assoc, ih (u / 10) (by omega) _ (by omega), List.singleton_append, Lib.parseUint10, dig_toNat (by omega), if_pos (by omega), if_neg (by omega), if_neg (by omega)]
      congr 1
      omega

theorem dec_ne (u : Nat) : Lib.decDigits u ≠ [] := by
  by_cases h : u < 10
  · rw [Lib.decDigits_one h]
    simp
  · rw [dec_big h]
    simp

theorem dec_all : ∀ (u : Nat) (c : UInt8), c ∈ Lib.decDigits u → 48 ≤ c.toNat ∧ c.toNat ≤ 57 := by
  intro u
  induction u using Nat.strongRecOn with
  | ind u ih =>
    intro c hc
    by_cases h : u < 10
    · rw [Lib.decDigits_one h] at hc
      rw [List.mem_singleton.1 hc, dig_toNat h]
      omega
    · rw [dec_big h] at hc
      rcases List.mem_append.1 hc with hc | hc
      · exact ih (u / 10) (by omega) c hc
      · rw [List.mem_singleton.1 hc, dig_toNat (by omega)]
        omega

theorem dec_zero : ∀ (u : Nat) (r : List UInt8), Lib.decDigits u = 48 :: r → u = 0 := by
  intro u
  induction u using Nat.strongRecOn with
  | ind u ih =>
    intro r hr
    by_cases h : u < 10
    · rw [Lib.decDigits_one h] at hr
      have h1 := congrArg UInt8.toNat (List.cons.inj hr).1
      rw [dig_toNat h] at h1
      have h2 : (48 : UInt8).toNat = 48 := rfl
      omega
    · rw [dec_big h] at hr
      cases hd : Lib.decDigits (u / 10) with
      | nil => exact absurd hd (dec_ne _)
      | cons c t =>
        rw [hd] at hr
        have h1 := (List.cons.inj hr).1
        rw [h1] at hd
        have := ih (u / 10) (by omega) t hd
        omega

theorem parseMag_dec (u : Nat) (hu : u < 18446744073709551616) : Lib.parseMag (Lib.decDigits u) = .ok u := by
  unfold Lib.parseMag
  rw [if_neg (dec_ne u)]
  have h := parse_dec u [] hu
  rw [List.append_nil] at h
  rw [h]
  rfl

theorem itoa_cases (n : Int) : (∃ u : Nat, n = (u : Int) ∧ Lib.itoa n = Lib.decDigits u) ∨ (∃ u : Nat, 1 ≤ u ∧ n = -(u : Int) ∧ Lib.itoa n = 45 :: Lib.decDigits u) := by
  by_cases h : n < 0
  · obtain ⟨u, rfl⟩ : ∃ u : Nat, n = -(u : Int) := ⟨n.natAbs, by omega⟩
    exact Or.inr ⟨u, by omega, rfl, Lib.itoa_neg u (by omega)⟩
  · obtain ⟨u, rfl⟩ : ∃ u : Nat, n = (u : Int) := ⟨n.toNat, by omega⟩
    exact Or.inl ⟨u, rfl, Lib.itoa_nonneg u⟩

theorem atoi_itoa (n : Int) (h0 : -9223372036854775808 ≤ n) (h1 : n ≤ 9223372036854775807) : Lib.atoiAll (Lib.itoa n) = .ok n := by
  rcases itoa_cases n with ⟨u, rfl, hi⟩ | ⟨u, hu, rfl, hi⟩
  · rw [hi]
    cases hd : Lib.decDigits u with
    | nil => exact absurd hd (dec_ne _)
    | cons c t =>
      have hc := dec_all u c (by rw [hd]; exact List.mem_cons_self ..)
      rw [Lib.atoiAll_plain c t (by omega) (by omega), ← hd, parseMag_dec u (by omega)]
      unfold Lib.signless
      simp
      omega
  · rw [hi, Lib.atoiAll_minus, parseMag_dec u (by omega)]
    unfold Lib.signed
    simp
    omega

/-- Is it a numeral, as number takes it? -/
def numL (l : List UInt8) : Bool := atoiE l && (Lib.itoa (atoiN l) == l)

theorem numB_L (s : ByteArray) : numB s = numL s.data.toList := by
  rw [numB_eq, ByteArray.toList_eq]
  rfl

theorem atoiN_itoa (n : Int) (h0 : -9223372036854775808 ≤ n) (h1 : n ≤ 9223372036854775807) : atoiN (Lib.itoa n) = n ∧ numL (Lib.itoa n) = true := by
  have h := atoi_itoa n h0 h1
  have e1 : atoiN (Lib.itoa n) = n := by unfold atoiN; rw [h]
  have e2 : atoiE (Lib.itoa n) = true := by unfold atoiE; rw [h]
  refine ⟨e1, ?_⟩
  unfold numL
  rw [e1, e2]
  simp

theorem numL_itoa {l : List UInt8} (h : numL l = true) : l = Lib.itoa (atoiN l) := by
  unfold numL at h
  exact (beq_iff_eq.1 (Bool.and_eq_true _ _ ▸ h).2).symm

theorem itoa_ne (n : Int) : Lib.itoa n ≠ [] := by
  rcases itoa_cases n with ⟨u, _, hi⟩ | ⟨u, _, _, hi⟩ <;> rw [hi]
  · exact dec_ne u
  · simp

/-- No byte of a numeral but digits and a '-' at its head. -/
theorem itoa_mem (n : Int) (c : UInt8) (h : c ∈ Lib.itoa n) : (48 ≤ c.toNat ∧ c.toNat ≤ 57) ∨ c = 45 := by
  rcases itoa_cases n with ⟨u, _, hi⟩ | ⟨u, _, _, hi⟩ <;> rw [hi] at h
  · exact Or.inl (dec_all u c h)
  · rcases List.mem_cons.1 h with h | h
    · exact Or.inr h
    · exact Or.inl (dec_all u c h)

theorem itoa_last (n : Int) (l : List UInt8) (c : UInt8) (h : Lib.itoa n = l ++ [c]) : 48 ≤ c.toNat ∧ c.toNat ≤ 57 := by
  rcases itoa_cases n with ⟨u, _, hi⟩ | ⟨u, _, _, hi⟩ <;> rw [hi] at h
  · exact dec_all u c (by rw [h]; simp)
  · cases l with
    | nil =>
      have := (List.cons.inj h).2
      exact absurd this (dec_ne u)
    | cons x t =>
      have := (List.cons.inj h).2
      exact dec_all u c (by rw [this]; simp)

theorem itoa_zero {n : Int} {r : List UInt8} (h : Lib.itoa n = 48 :: r) : r = [] := by
  rcases itoa_cases n with ⟨u, _, hi⟩ | ⟨u, _, _, hi⟩ <;> rw [hi] at h
  · have := dec_zero u r h
    subst this
    rw [Lib.decDigits_one (by decide)] at h
    exact (List.cons.inj h).2.symm
  · exact absurd (List.cons.inj h).1 (by decide)

theorem itoa_plus {n : Int} {r : List UInt8} : Lib.itoa n ≠ 43 :: r := by
  intro h
  have := itoa_mem n 43 (by rw [h]; exact List.mem_cons_self ..)
  revert this
  decide

/-- A 0 behind a numeral: ten times the number. -/
theorem itoa_ten (n : Int) (h : n ≠ 0) : Lib.itoa (10 * n) = Lib.itoa n ++ [48] := by
  have key : ∀ u : Nat, 1 ≤ u → Lib.decDigits (10 * u) = Lib.decDigits u ++ [48] := by
    intro u hu
    rw [dec_big (by omega), show 10 * u / 10 = u by omega, show 10 * u % 10 = 0 by omega]
    rfl
  rcases itoa_cases n with ⟨u, rfl, hi⟩ | ⟨u, hu, rfl, hi⟩
  · rw [hi, show (10 * (u : Int)) = ((10 * u : Nat) : Int) by omega, Lib.itoa_nonneg, key u (by omega)]
  · rw [hi, show (10 * -(u : Int)) = -((10 * u : Nat) : Int) by omega, Lib.itoa_neg _ (by omega), key u hu]
    rfl

/-! ### The words -/

def wordsL : List UInt8 → List (List UInt8)
  | [] => [[]]
  | c :: l => if c = 32 then [] :: wordsL l else match wordsL l with
    | [] => [[c]]
    | w :: ws => (c :: w) :: ws

theorem splitK_words : ∀ s : List UInt8, Lib.splitK [32] 0 (Lib.count s [32]) s = wordsL s
  | [] => by
    rw [Lib.count_one]
    rfl
  | c :: l => by
    have ih := splitK_words l
    by_cases hc : c = 32
    · subst hc
      rw [Lib.count_cons_eq, Nat.add_comm]
      have hix : Lib.index (32 :: l) [32] = 0 := by rw [Lib.index]; simp [List.isPrefixOf]
      unfold Lib.splitK wordsL
      rw [hix, if_neg (by decide), if_pos rfl, ← ih]
      rfl
    · rw [Lib.count_cons_ne c 32 l hc]
      have hp : ([32] : List UInt8).isPrefixOf (c :: l) = false := by simp [List.isPrefixOf, Ne.symm hc]
      have hix : Lib.index (c :: l) [32] = if Lib.index l [32] == -1 then -1 else Lib.index l [32] + 1 := by rw [Lib.index, hp]; simp
      unfold wordsL
      rw [if_neg hc, ← ih]
      cases hk : Lib.count l [32] with
      | zero => rfl
      | succ k =>
        by_cases hm : Lib.index l [32] = -1
        · have : Lib.count l [32] = 0 := Lib.count_miss hm
          omega
        · have hge := Lib.index_ge l [32]
          obtain ⟨j, hj⟩ : ∃ j : Nat, Lib.index l [32] = j := ⟨(Lib.index l [32]).toNat, by omega⟩
          have hix2 : Lib.index (c :: l) [32] = ((j + 1 : Nat) : Int) := by rw [hix, if_neg (fun e => hm (beq_iff_eq.1 e)), hj]; omega
          have n1 : ¬ (((j + 1 : Nat) : Int) == -1) = true := fun e => by have := beq_iff_eq.1 e; omega
          have n2 : ¬ (((j : Nat) : Int) == -1) = true := fun e => by have := beq_iff_eq.1 e; omega
          unfold Lib.splitK
          rw [hix2, hj, if_neg n1, if_neg n2, Int.toNat_natCast, Int.toNat_natCast]
          rfl

theorem wordsB_map (s : ByteArray) : (wordsB s).map (·.data.toList) = wordsL s.data.toList := by
  unfold wordsB
  rw [Lib.splitB_data]
  exact splitK_words s.data.toList

theorem wordsL_ne (l : List UInt8) : wordsL l ≠ [] := by
  cases l with
  | nil => simp [wordsL]
  | cons c l =>
    unfold wordsL
    split
    · simp
    · split <;> simp

theorem wordsL_head : ∀ (a b : List UInt8), 32 ∉ a → wordsL (a ++ 32 :: b) = a :: wordsL b
  | [], b, _ => by
    show wordsL (32 :: b) = _
    rw [wordsL, if_pos rfl]
  | c :: a, b, h => by
    have hc : c ≠ 32 := fun e => h (by rw [e]; exact List.mem_cons_self ..)
    have ih := wordsL_head a b (fun e => h (List.mem_cons_of_mem _ e))
    show wordsL (c :: (a ++ 32 :: b)) = _
    rw [wordsL, if_neg hc, ih]

theorem wordsL_one : ∀ (a : List UInt8), 32 ∉ a → wordsL a = [a]
  | [], _ => rfl
  | c :: a, h => by
    have hc : c ≠ 32 := fun e => h (by rw [e]; exact List.mem_cons_self ..)
    rw [wordsL, if_neg hc, wordsL_one a (fun e => h (List.mem_cons_of_mem _ e))]

/-! ### The act of a line, over lists of bytes -/

def fitsL (x : Option (List UInt8)) (f : FormD) : Bool := match x with
  | none => false
  | some x => f.word.data.toList == x

def firstL (x : Option (List UInt8)) : Nat → Nat → Int
  | 0, _ => -1
  | g + 1, k => if fitsL x (formAt k) then (k : Int) else firstL x g (k + 1)

theorem firstFrom_L (x : Option ByteArray) : ∀ (g k : Nat), firstFrom x g k = firstL (x.map (·.data.toList)) g k
  | 0, _ => rfl
  | g + 1, k => by
    have hf : fits x (formAt k) = fitsL (x.map (·.data.toList)) (formAt k) := by
      cases x with
      | none => rfl
      | some x =>
        show ((formAt k).word.toList == x.toList) = _
        rw [ByteArray.toList_eq, ByteArray.toList_eq]
        rfl
    unfold firstFrom firstL
    rw [hf, firstFrom_L x g (k + 1)]

def partStepL (p : UInt8) (x : List UInt8) (a : Acc) : Acc × Bool :=
  if p = 98 then ({ a with vol := atoiN x }, numL x)
  else if p = 99 then ({ a with block := atoiN x }, numL x)
  else if p = 100 then ({ a with size := atoiN x }, numL x)
  else if p = 110 then ({ a with n := atoiN x }, numL x)
  else if p = 120 then ({ a with data := (unhexL x).getD [] }, (unhexL x).isSome)
  else ({ a with keep := a.keep ++ [atoiN x] }, numL x)

def actLoopL (parts : ByteArray) : Nat → List (List UInt8) → Acc → Option Acc
  | _, [], a => some a
  | i, x :: r, a => if (partStepL (Sg.partAt parts i) x a).2 then actLoopL parts (i + 1) r (partStepL (Sg.partAt parts i) x a).1 else none

theorem actLoop_L (parts : ByteArray) : ∀ (ws : List ByteArray) (i : Nat) (a : Acc), actLoop parts i ws a = actLoopL parts i (ws.map (·.data.toList)) a
  | [], _, _ => rfl
  | x :: r, i, a => by
    have h : partStep (Sg.partAt parts i) x a = partStepL (Sg.partAt parts i) x.data.toList a := by
      unfold partStep partStepL
      rw [numB_L]
    rw [List.map_cons]
    simp only [actLoop, actLoopL]
    rw [h, actLoop_L parts r]

def okPartsL (f : FormD) (n : Nat) : Bool := f.parts.data.toList == [107] || n == f.parts.size

def actTailL (f : FormD) (kind : Int) (ws : List (List UInt8)) : Option ActM :=
  if okPartsL f ws.length then (actLoopL f.parts 0 ws ⟨0, 0, 0, 0, [], []⟩).map (mkAct kind f.ask) else none

def actOfL (ws : List (List UInt8)) (o : Nat) (kind : Int) : Option ActM :=
  if firstL ws[o]? 14 0 < 0 then none
  else if (formAt (firstL ws[o]? 14 0).toNat).act ≠ 0 then
    if kind = 3 then none else actTailL (formAt (firstL ws[o]? 14 0).toNat) (formAt (firstL ws[o]? 14 0).toNat).act (ws.drop (o + 1))
  else actTailL (formAt (firstL ws[o]? 14 0).toNat) kind (ws.drop (o + 1))

def actL (l : List UInt8) : Option ActM := match wordsL l with
  | [] => none
  | x :: r => actOfL (x :: r) (if x == laterB then 1 else 0) (if x == laterB then 3 else 5)

theorem actTail_L (f : FormD) (kind : Int) (ws : List ByteArray) : actTail f kind ws = actTailL f kind (ws.map (·.data.toList)) := by
  unfold actTail actTailL okParts okPartsL
  rw [actLoop_L, ByteArray.toList_eq, List.length_map]

theorem actOf_L (ws : List ByteArray) (o : Nat) (kind : Int) : actOf ws o kind = actOfL (ws.map (·.data.toList)) o kind := by
  unfold actOf actOfL
  rw [firstFrom_L, List.getElem?_map, ← List.map_drop]
  simp only [actTail_L]

theorem actM_L (s : ByteArray) : actM? s = actL s.data.toList := by
  unfold actM? actL
  rw [← wordsB_map]
  cases wordsB s with
  | nil => rfl
  | cons x r =>
    have h : (x.toList == laterB) = (x.data.toList == laterB) := by rw [ByteArray.toList_eq]
    show actOf (x :: r) (laterN x) (laterK x) = actOfL (x.data.toList :: r.map (·.data.toList)) (if x.data.toList == laterB then 1 else 0) (if x.data.toList == laterB then 3 else 5)
    rw [actOf_L]
    unfold laterN laterK
    rw [h]
    rfl

end Go.Proofs.YtbnbnccpoeopmaaDoor.Sj
