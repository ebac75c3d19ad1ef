/- Texts joined: KTc. -/
import Derived.Test.YtjohhjdicbeojaaGreatDoorZag
namespace Go.Proofs.YtjohhjdicbeojaaGreatDoor.KTc
open Go.RowKit Go.Proofs.YtjohhjdicbeojaaGreatDoor.KSa Go.Proofs.YtjohhjdicbeojaaGreatDoor.KSb Go.Proofs.YtjohhjdicbeojaaGreatDoor.KSd Go.Proofs.YtjohhjdicbeojaaGreatDoor.KSf Go.Proofs.YtjohhjdicbeojaaGreatDoor.KSg Go.Proofs.YtjohhjdicbeojaaGreatDoor.KSh Go.Proofs.YtjohhjdicbeojaaGreatDoor.KSi Go.Proofs.YtjohhjdicbeojaaGreatDoor.KSj Go.Proofs.YtjohhjdicbeojaaGreatDoor.KSr Go.Proofs.YtjohhjdicbeojaaGreatDoor.KSt Go.Proofs.YtjohhjdicbeojaaGreatDoor.KSu Go.Proofs.YtjohhjdicbeojaaGreatDoor.KSv Go.Proofs.YtjohhjdicbeojaaGreatDoor.KTa
def outs0 (m : ActM) (f : FormD) : List ByteArray := if m.kind = 3 then [laterS, f.word] else [f.word]
def rest0 (m : ActM) : RestD := ⟨m.n, m.vol, m.block, m.size, false, false⟩
/-- Does a form not take all of an act? -/
def testB (f : FormD) (m : ActM) (r : RestD) : Bool := (f.act != 0 && m.rk != 0) || r.n != 0 || (!r.kz && !m.keep.isEmpty) || r.vol != 0 || r.block != 0 || r.size != 0 || (!r.dz && !m.data.isEmpty)
/-- What Line answers. -/
def lineOut (m : ActM) : ByteArray × Int := if (lineL m).2 then (mkB (lineL m).1, 0) else (⟨#[]⟩, 1)
theorem find_1 (rk : Int) : findFrom 1 rk 14 0 = some (formAt 0) := rfl
theorem find_2 (rk : Int) : findFrom 2 rk 14 0 = some (formAt 1) := rfl
theorem find_4 (rk : Int) : findFrom 4 rk 14 0 = some (formAt 2) := rfl
theorem find_6 (rk : Int) : findFrom 6 rk 14 0 = some (formAt 3) := rfl
theorem find_7 (rk : Int) : findFrom 7 rk 14 0 = some (formAt 4) := rfl
/-- Which of the forms have an act, which an ask. -/
theorem forms_kinds (j : Nat) (hj : j < 14) : ((formAt j).act = 0 ∨ (formAt j).act = 1 ∨ (formAt j).act = 2 ∨ (formAt j).act = 4 ∨ (formAt j).act = 6 ∨ (formAt j).act = 7) ∧ ((formAt j).ask = 0 ∨ (1 ≤ (formAt j).ask ∧ (formAt j).ask ≤ 9)) := by
  have : j = 0 ∨ j = 1 ∨ j = 2 ∨ j = 3 ∨ j = 4 ∨ j = 5 ∨ j = 6 ∨ j = 7 ∨ j = 8 ∨ j = 9 ∨ j = 10 ∨ j = 11 ∨ j = 12 ∨ j = 13 := by omega
  rcases this with rfl | rfl | rfl | rfl | rfl | rfl | rfl | rfl | rfl | rfl | rfl | rfl | rfl | rfl <;> exact ⟨by decide, by decide⟩
theorem find_mem (kind rk : Int) : ∀ (g k : Nat) (f : FormD), findFrom kind rk g k = some f → ∃ j, j < k + g ∧ f = formAt j
  | 0, _, _, h => by cases h
  | g + 1, k, f, h => by
    unfold findFrom at h
    split at h
    · exact ⟨k, by omega, (Option.some.inj h).symm⟩
    · obtain ⟨j, hj, e⟩ := find_mem kind rk g (k + 1) f h
      exact ⟨j, by omega, e⟩
theorem find_none (kind rk : Int) (h : ∀ j, j < 14 → fitsF kind rk (formAt j) = false) : ∀ (g k : Nat), k + g ≤ 14 → findFrom kind rk g k = none
  | 0, _, _ => rfl
  | g + 1, k, hk => by
    unfold findFrom
    rw [h k (by omega), find_none kind rk h g (k + 1) (by omega)]
    rfl
theorem fits_no (kind rk : Int) (h1 : kind ≠ 1 ∧ kind ≠ 2 ∧ kind ≠ 4 ∧ kind ≠ 6 ∧ kind ≠ 7) (h2 : (kind = 3 ∨ kind = 5) → ¬ (1 ≤ rk ∧ rk ≤ 9)) (j : Nat) (hj : j < 14) : fitsF kind rk (formAt j) = false := by
  obtain ⟨a, b⟩ := forms_kinds j hj
  unfold fitsF
  generalize (formAt j).act = x at *
  generalize (formAt j).ask = y at *
  rw [Bool.eq_false_iff]
  intro h
  simp only [Bool.or_eq_true, Bool.and_eq_true, bne_iff_ne, beq_iff_eq, ne_eq] at h
  omega
/-- Each act either has no form, or one of these fourteen. -/
theorem find_cases (m : ActM) : (findFrom m.kind m.rk 14 0 = none ∧ (lineL m).2 = false) ∨
    (m.kind = 1 ∧ findFrom m.kind m.rk 14 0 = some (formAt 0)) ∨ (m.kind = 2 ∧ findFrom m.kind m.rk 14 0 = some (formAt 1)) ∨ (m.kind = 4 ∧ findFrom m.kind m.rk 14 0 = some (formAt 2)) ∨ (m.kind = 6 ∧ findFrom m.kind m.rk 14 0 = some (formAt 3)) ∨ (m.kind = 7 ∧ findFrom m.kind m.rk 14 0 = some (formAt 4)) ∨
    ((m.kind = 3 ∨ m.kind = 5) ∧ ∃ q : Nat, q < 9 ∧ m.rk = (q : Int) + 1 ∧ findFrom m.kind m.rk 14 0 = some (formAt (5 + q))) := by
  obtain ⟨kind, n, rk, vol, block, size, data, keep⟩ := m
  show (findFrom kind rk 14 0 = none ∧ _) ∨ (kind = 1 ∧ findFrom kind rk 14 0 = _) ∨ (kind = 2 ∧ findFrom kind rk 14 0 = _) ∨ (kind = 4 ∧ findFrom kind rk 14 0 = _) ∨ (kind = 6 ∧ findFrom kind rk 14 0 = _) ∨ (kind = 7 ∧ findFrom kind rk 14 0 = _) ∨ ((kind = 3 ∨ kind = 5) ∧ ∃ q : Nat, q < 9 ∧ rk = (q : Int) + 1 ∧ findFrom kind rk 14 0 = _)
  by_cases h1 : kind = 1
  · subst h1; exact Or.inr (Or.inl ⟨rfl, find_1 rk⟩)
  by_cases h2 : kind = 2
  · subst h2; exact Or.inr (Or.inr (Or.inl ⟨rfl, find_2 rk⟩))
  by_cases h4 : kind = 4
  · subst h4; exact Or.inr (Or.inr (Or.inr (Or.inl ⟨rfl, find_4 rk⟩)))
  by_cases h6 : kind = 6
  · subst h6; exact Or.inr (Or.inr (Or.inr (Or.inr (Or.inl ⟨rfl, find_6 rk⟩))))
  by_cases h7 : kind = 7
  · subst h7; exact Or.inr (Or.inr (Or.inr (Or.inr (Or.inr (Or.inl ⟨rfl, find_7 rk⟩)))))
  by_cases h35 : kind = 3 ∨ kind = 5
  · by_cases hr : 1 ≤ rk ∧ rk ≤ 9
    · refine Or.inr (Or.inr (Or.inr (Or.inr (Or.inr (Or.inr ⟨h35, rk.toNat - 1, by omega, by omega, ?_⟩)))))
      have : rk = 1 ∨ rk = 2 ∨ rk = 3 ∨ rk = 4 ∨ rk = 5 ∨ rk = 6 ∨ rk = 7 ∨ rk = 8 ∨ rk = 9 := by omega
      rcases h35 with rfl | rfl <;> rcases this with rfl | rfl | rfl | rfl | rfl | rfl | rfl | rfl | rfl <;> rfl
    · refine Or.inl ⟨find_none kind rk (fits_no kind rk ⟨h1, h2, h4, h6, h7⟩ (fun _ => hr)) 14 0 (by decide), ?_⟩
      have hq : reqL rk vol block size data = ([], false) := by
        unfold reqL
        rw [if_neg (by omega), if_neg (by omega), if_neg (by omega), if_neg (by omega), if_neg (by omega), if_neg (by omega), if_neg (by omega), if_neg (by omega), if_neg (by omega)]
      rcases h35 with rfl | rfl
      · show ((reqL rk vol block size data).2 && n == 0 && keep.isEmpty) = false
        rw [hq]; rfl
      · show ((reqL rk vol block size data).2 && n == 0 && keep.isEmpty) = false
        rw [hq]; rfl
  · refine Or.inl ⟨find_none kind rk (fits_no kind rk ⟨h1, h2, h4, h6, h7⟩ (fun h => absurd h h35)) 14 0 (by decide), ?_⟩
    have h3 : kind ≠ 3 := fun e => h35 (Or.inl e)
    have h5 : kind ≠ 5 := fun e => h35 (Or.inr e)
    simp [lineL, h1, h2, h3, h4, h5, h6, h7]
theorem join_tl (ws : List (List UInt8)) (a : List UInt8) : Lib.join (a :: ws) [32] = a ++ tl ws := by
  induction ws generalizing a with
  | nil => simp [Lib.join_one, tl]
  | cons b t ih =>
    have h : Lib.join (a :: b :: t) [32] = a ++ ([32] ++ Lib.join (b :: t) [32]) := by simp [Lib.join, List.intercalate, List.intersperse]
    rw [h, ih b]
    simp [tl]
theorem bb_0 (a v d n k : Bool) : ((a && v && d) && n && k) = !((true && !a) || (!n) || (!false && !k) || (!v) || false || false || (!false && !d)) := by
  cases a <;> cases v <;> cases d <;> cases n <;> cases k <;> rfl
theorem bb_1 (a v b s d n k : Bool) : (((a && v && d) && b && s && k) && n) = !((true && !a) || (!n) || (!false && !k) || (!v) || (!b) || (!s) || (!false && !d)) := by
  cases a <;> cases v <;> cases b <;> cases s <;> cases d <;> cases n <;> cases k <;> rfl
theorem bb_2 (a v b s d k : Bool) : ((a && v && d) && b && s && k) = !((true && !a) || false || (!false && !k) || (!v) || (!b) || (!s) || (!false && !d)) := by
  cases a <;> cases v <;> cases b <;> cases s <;> cases d <;> cases k <;> rfl
theorem bb_3 (a v b s d k : Bool) : ((a && v && d) && b && s && k) = !((true && !a) || false || (!false && !k) || (!v) || (!b) || (!s) || (!false && !d)) := by
  cases a <;> cases v <;> cases b <;> cases s <;> cases d <;> cases k <;> rfl
theorem bb_4 (a v b s d n k : Bool) : ((a && v && d) && b && s && n) = !((true && !a) || (!n) || (!true && !k) || (!v) || (!b) || (!s) || (!false && !d)) := by
  cases a <;> cases v <;> cases b <;> cases s <;> cases d <;> cases n <;> cases k <;> rfl
theorem bb_5 (a v b d n k : Bool) : ((v && b && d) && n && k) = !((false && !a) || (!n) || (!false && !k) || (!v) || (!b) || false || (!false && !d)) := by
  cases a <;> cases v <;> cases b <;> cases d <;> cases n <;> cases k <;> rfl
theorem bb_6 (a b s d n k : Bool) : ((b && s && d) && n && k) = !((false && !a) || (!n) || (!false && !k) || false || (!b) || (!s) || (!false && !d)) := by
  cases a <;> cases b <;> cases s <;> cases d <;> cases n <;> cases k <;> rfl
theorem bb_7 (a b s d n k : Bool) : ((b && s && d) && n && k) = !((false && !a) || (!n) || (!false && !k) || false || (!b) || (!s) || (!false && !d)) := by
  cases a <;> cases b <;> cases s <;> cases d <;> cases n <;> cases k <;> rfl
theorem bb_8 (a s d n k : Bool) : ((s && d) && n && k) = !((false && !a) || (!n) || (!false && !k) || false || false || (!s) || (!false && !d)) := by
  cases a <;> cases s <;> cases d <;> cases n <;> cases k <;> rfl
theorem bb_9 (a s d n k : Bool) : (s && n && k) = !((false && !a) || (!n) || (!false && !k) || false || false || (!s) || (!true && !d)) := by
  cases a <;> cases s <;> cases d <;> cases n <;> cases k <;> rfl
theorem bb_10 (a s d n k : Bool) : ((s && d) && n && k) = !((false && !a) || (!n) || (!false && !k) || false || false || (!s) || (!false && !d)) := by
  cases a <;> cases s <;> cases d <;> cases n <;> cases k <;> rfl
theorem bb_11 (a v b s d n k : Bool) : ((v && b && s && d) && n && k) = !((false && !a) || (!n) || (!false && !k) || (!v) || (!b) || (!s) || (!false && !d)) := by
  cases a <;> cases v <;> cases b <;> cases s <;> cases d <;> cases n <;> cases k <;> rfl
theorem bb_12 (a v b s d n k : Bool) : ((v && b && s && d) && n && k) = !((false && !a) || (!n) || (!false && !k) || (!v) || (!b) || (!s) || (!false && !d)) := by
  cases a <;> cases v <;> cases b <;> cases s <;> cases d <;> cases n <;> cases k <;> rfl
theorem bb_13 (a b s d n k : Bool) : ((b && s && d) && n && k) = !((false && !a) || (!n) || (!false && !k) || false || (!b) || (!s) || (!false && !d)) := by
  cases a <;> cases b <;> cases s <;> cases d <;> cases n <;> cases k <;> rfl
/-- A form that takes all of an act gives its line. -/
theorem plain_some (m : ActM) (f : FormD) (hf : findFrom m.kind m.rk 14 0 = some f) :
    (lineL m).2 = !testB f m (runParts m f.parts.data.toList (outs0 m f, rest0 m)).2 ∧
    Lib.join ((runParts m f.parts.data.toList (outs0 m f, rest0 m)).1.map (·.data.toList)) [32] = (lineL m).1 := by
  obtain ⟨kind, n, rk, vol, block, size, data, keep⟩ := m
  have hs : ∀ x : Int, (strN x).data.toList = Lib.itoa x := fun x => by simp [strN, mkB]
  have hx : ∀ l : List UInt8, (mkB l).data.toList = l := fun x => by simp [mkB]
  have hsk : ∀ l : List Int, (l.map strN).map (fun x => x.data.toList) = l.map Lib.itoa := fun l => by
    rw [List.map_map]
    exact List.map_congr_left fun x _ => hs x
  rcases find_cases ⟨kind, n, rk, vol, block, size, data, keep⟩ with ⟨h1, _⟩ | ⟨hk, h1⟩ | ⟨hk, h1⟩ | ⟨hk, h1⟩ | ⟨hk, h1⟩ | ⟨hk, h1⟩ | ⟨hk, q, hq, hr, h1⟩
  · rw [hf] at h1
    cases h1
  · obtain rfl : kind = 1 := hk
    obtain rfl : f = formAt 0 := Option.some.inj (hf.symm.trans h1)
    have e : runParts ⟨1, n, rk, vol, block, size, data, keep⟩ (formAt 0).parts.data.toList (outs0 ⟨1, n, rk, vol, block, size, data, keep⟩ (formAt 0), rest0 ⟨1, n, rk, vol, block, size, data, keep⟩) = ([(formAt 0).word, strN size, strN block], ⟨n, vol, 0, 0, false, false⟩) := rfl
    rw [e]
    refine ⟨bb_0 (rk == 0) (vol == 0) data.isEmpty (n == 0) keep.isEmpty, ?_⟩
    show Lib.join [[102, 111, 114, 109, 97, 116], (strN size).data.toList, (strN block).data.toList] [32] = [102, 111, 114, 109, 97, 116] ++ [32] ++ Lib.itoa size ++ [32] ++ Lib.itoa block
    rw [hs, hs, join_tl]
    simp [tl]
  · obtain rfl : kind = 2 := hk
    obtain rfl : f = formAt 1 := Option.some.inj (hf.symm.trans h1)
    have e : runParts ⟨2, n, rk, vol, block, size, data, keep⟩ (formAt 1).parts.data.toList (outs0 ⟨2, n, rk, vol, block, size, data, keep⟩ (formAt 1), rest0 ⟨2, n, rk, vol, block, size, data, keep⟩) = ([(formAt 1).word], ⟨n, vol, block, size, false, false⟩) := rfl
    rw [e]
    refine ⟨bb_1 (rk == 0) (vol == 0) (block == 0) (size == 0) data.isEmpty (n == 0) keep.isEmpty, ?_⟩
    show Lib.join [[111, 112, 101, 110]] [32] = [111, 112, 101, 110]
    rw [join_tl]
    simp [tl]
  · obtain rfl : kind = 4 := hk
    obtain rfl : f = formAt 2 := Option.some.inj (hf.symm.trans h1)
    have e : runParts ⟨4, n, rk, vol, block, size, data, keep⟩ (formAt 2).parts.data.toList (outs0 ⟨4, n, rk, vol, block, size, data, keep⟩ (formAt 2), rest0 ⟨4, n, rk, vol, block, size, data, keep⟩) = ([(formAt 2).word, strN n], ⟨0, vol, block, size, false, false⟩) := rfl
    rw [e]
    refine ⟨bb_2 (rk == 0) (vol == 0) (block == 0) (size == 0) data.isEmpty keep.isEmpty, ?_⟩
    show Lib.join [[115, 116, 101, 112], (strN n).data.toList] [32] = [115, 116, 101, 112] ++ [32] ++ Lib.itoa n
    rw [hs, join_tl]
    simp [tl]
  · obtain rfl : kind = 6 := hk
    obtain rfl : f = formAt 3 := Option.some.inj (hf.symm.trans h1)
    have e : runParts ⟨6, n, rk, vol, block, size, data, keep⟩ (formAt 3).parts.data.toList (outs0 ⟨6, n, rk, vol, block, size, data, keep⟩ (formAt 3), rest0 ⟨6, n, rk, vol, block, size, data, keep⟩) = ([(formAt 3).word, strN n], ⟨0, vol, block, size, false, false⟩) := rfl
    rw [e]
    refine ⟨bb_3 (rk == 0) (vol == 0) (block == 0) (size == 0) data.isEmpty keep.isEmpty, ?_⟩
    show Lib.join [[102, 97, 105, 108], (strN n).data.toList] [32] = [102, 97, 105, 108] ++ [32] ++ Lib.itoa n
    rw [hs, join_tl]
    simp [tl]
  · obtain rfl : kind = 7 := hk
    obtain rfl : f = formAt 4 := Option.some.inj (hf.symm.trans h1)
    have e : runParts ⟨7, n, rk, vol, block, size, data, keep⟩ (formAt 4).parts.data.toList (outs0 ⟨7, n, rk, vol, block, size, data, keep⟩ (formAt 4), rest0 ⟨7, n, rk, vol, block, size, data, keep⟩) = (([(formAt 4).word] ++ keep.map strN), ⟨n, vol, block, size, false, true⟩) := rfl
    rw [e]
    refine ⟨bb_4 (rk == 0) (vol == 0) (block == 0) (size == 0) data.isEmpty (n == 0) keep.isEmpty, ?_⟩
    have e2 : ([(formAt 4).word] ++ keep.map strN).map (·.data.toList) = [99, 114, 97, 115, 104] :: keep.map Lib.itoa := by
      rw [List.map_append, hsk]
      rfl
    show Lib.join (([(formAt 4).word] ++ keep.map strN).map (·.data.toList)) [32] = [99, 114, 97, 115, 104] ++ keepL keep
    rw [e2, join_tl, keep_tl]
  · obtain rfl : f = formAt (5 + q) := Option.some.inj (hf.symm.trans h1)
    have hq9 : q = 0 ∨ q = 1 ∨ q = 2 ∨ q = 3 ∨ q = 4 ∨ q = 5 ∨ q = 6 ∨ q = 7 ∨ q = 8 := by omega
    have hk : kind = 3 ∨ kind = 5 := hk
    have hr : rk = (q : Int) + 1 := hr
    clear hf h1 hq
    rcases hk with rfl | rfl
    · rcases hq9 with rfl | rfl | rfl | rfl | rfl | rfl | rfl | rfl | rfl
      · obtain rfl : rk = 1 := hr
        have e : runParts ⟨3, n, 1, vol, block, size, data, keep⟩ (formAt 5).parts.data.toList (outs0 ⟨3, n, 1, vol, block, size, data, keep⟩ (formAt 5), rest0 ⟨3, n, 1, vol, block, size, data, keep⟩) = ([laterS, (formAt 5).word, strN size], ⟨n, vol, block, 0, false, false⟩) := rfl
        rw [e]
        refine ⟨bb_5 ((1 : Int) == 0) (vol == 0) (block == 0) data.isEmpty (n == 0) keep.isEmpty, ?_⟩
        show Lib.join [laterB, [99, 114, 101, 97, 116, 101], (strN size).data.toList] [32] = laterB ++ [32] ++ ([99, 114, 101, 97, 116, 101] ++ sp size)
        rw [hs, join_tl]
        simp [tl, sp]
      · obtain rfl : rk = 2 := hr
        have e : runParts ⟨3, n, 2, vol, block, size, data, keep⟩ (formAt 6).parts.data.toList (outs0 ⟨3, n, 2, vol, block, size, data, keep⟩ (formAt 6), rest0 ⟨3, n, 2, vol, block, size, data, keep⟩) = ([laterS, (formAt 6).word, strN vol], ⟨n, 0, block, size, false, false⟩) := rfl
        rw [e]
        refine ⟨bb_6 ((2 : Int) == 0) (block == 0) (size == 0) data.isEmpty (n == 0) keep.isEmpty, ?_⟩
        show Lib.join [laterB, [100, 101, 108, 101, 116, 101], (strN vol).data.toList] [32] = laterB ++ [32] ++ ([100, 101, 108, 101, 116, 101] ++ sp vol)
        rw [hs, join_tl]
        simp [tl, sp]
      · obtain rfl : rk = 3 := hr
        have e : runParts ⟨3, n, 3, vol, block, size, data, keep⟩ (formAt 7).parts.data.toList (outs0 ⟨3, n, 3, vol, block, size, data, keep⟩ (formAt 7), rest0 ⟨3, n, 3, vol, block, size, data, keep⟩) = ([laterS, (formAt 7).word, strN vol], ⟨n, 0, block, size, false, false⟩) := rfl
        rw [e]
        refine ⟨bb_7 ((3 : Int) == 0) (block == 0) (size == 0) data.isEmpty (n == 0) keep.isEmpty, ?_⟩
        show Lib.join [laterB, [115, 110, 97, 112], (strN vol).data.toList] [32] = laterB ++ [32] ++ ([115, 110, 97, 112] ++ sp vol)
        rw [hs, join_tl]
        simp [tl, sp]
      · obtain rfl : rk = 4 := hr
        have e : runParts ⟨3, n, 4, vol, block, size, data, keep⟩ (formAt 8).parts.data.toList (outs0 ⟨3, n, 4, vol, block, size, data, keep⟩ (formAt 8), rest0 ⟨3, n, 4, vol, block, size, data, keep⟩) = ([laterS, (formAt 8).word, strN vol, strN block], ⟨n, 0, 0, size, false, false⟩) := rfl
        rw [e]
        refine ⟨bb_8 ((4 : Int) == 0) (size == 0) data.isEmpty (n == 0) keep.isEmpty, ?_⟩
        show Lib.join [laterB, [114, 101, 97, 100], (strN vol).data.toList, (strN block).data.toList] [32] = laterB ++ [32] ++ ([114, 101, 97, 100] ++ sp vol ++ sp block)
        rw [hs, hs, join_tl]
        simp [tl, sp]
      · obtain rfl : rk = 5 := hr
        have e : runParts ⟨3, n, 5, vol, block, size, data, keep⟩ (formAt 9).parts.data.toList (outs0 ⟨3, n, 5, vol, block, size, data, keep⟩ (formAt 9), rest0 ⟨3, n, 5, vol, block, size, data, keep⟩) = ([laterS, (formAt 9).word, strN vol, strN block, mkB (120 :: hexOf data)], ⟨n, 0, 0, size, true, false⟩) := rfl
        rw [e]
        refine ⟨bb_9 ((5 : Int) == 0) (size == 0) data.isEmpty (n == 0) keep.isEmpty, ?_⟩
        show Lib.join [laterB, [119, 114, 105, 116, 101], (strN vol).data.toList, (strN block).data.toList, (mkB (120 :: hexOf data)).data.toList] [32] = laterB ++ [32] ++ ([119, 114, 105, 116, 101] ++ sp vol ++ sp block ++ [32] ++ (120 :: hexOf data))
        rw [hs, hs, hx, join_tl]
        simp [tl, sp]
      · obtain rfl : rk = 6 := hr
        have e : runParts ⟨3, n, 6, vol, block, size, data, keep⟩ (formAt 10).parts.data.toList (outs0 ⟨3, n, 6, vol, block, size, data, keep⟩ (formAt 10), rest0 ⟨3, n, 6, vol, block, size, data, keep⟩) = ([laterS, (formAt 10).word, strN vol, strN block], ⟨n, 0, 0, size, false, false⟩) := rfl
        rw [e]
        refine ⟨bb_10 ((6 : Int) == 0) (size == 0) data.isEmpty (n == 0) keep.isEmpty, ?_⟩
        show Lib.join [laterB, [100, 105, 115, 99, 97, 114, 100], (strN vol).data.toList, (strN block).data.toList] [32] = laterB ++ [32] ++ ([100, 105, 115, 99, 97, 114, 100] ++ sp vol ++ sp block)
        rw [hs, hs, join_tl]
        simp [tl, sp]
      · obtain rfl : rk = 7 := hr
        have e : runParts ⟨3, n, 7, vol, block, size, data, keep⟩ (formAt 11).parts.data.toList (outs0 ⟨3, n, 7, vol, block, size, data, keep⟩ (formAt 11), rest0 ⟨3, n, 7, vol, block, size, data, keep⟩) = ([laterS, (formAt 11).word], ⟨n, vol, block, size, false, false⟩) := rfl
        rw [e]
        refine ⟨bb_11 ((7 : Int) == 0) (vol == 0) (block == 0) (size == 0) data.isEmpty (n == 0) keep.isEmpty, ?_⟩
        show Lib.join [laterB, [115, 121, 110, 99]] [32] = laterB ++ [32] ++ ([115, 121, 110, 99])
        rw [join_tl]
        simp [tl]
      · obtain rfl : rk = 8 := hr
        have e : runParts ⟨3, n, 8, vol, block, size, data, keep⟩ (formAt 12).parts.data.toList (outs0 ⟨3, n, 8, vol, block, size, data, keep⟩ (formAt 12), rest0 ⟨3, n, 8, vol, block, size, data, keep⟩) = ([laterS, (formAt 12).word], ⟨n, vol, block, size, false, false⟩) := rfl
        rw [e]
        refine ⟨bb_12 ((8 : Int) == 0) (vol == 0) (block == 0) (size == 0) data.isEmpty (n == 0) keep.isEmpty, ?_⟩
        show Lib.join [laterB, [115, 116, 97, 116]] [32] = laterB ++ [32] ++ ([115, 116, 97, 116])
        rw [join_tl]
        simp [tl]
      · obtain rfl : rk = 9 := hr
        have e : runParts ⟨3, n, 9, vol, block, size, data, keep⟩ (formAt 13).parts.data.toList (outs0 ⟨3, n, 9, vol, block, size, data, keep⟩ (formAt 13), rest0 ⟨3, n, 9, vol, block, size, data, keep⟩) = ([laterS, (formAt 13).word, strN vol], ⟨n, 0, block, size, false, false⟩) := rfl
        rw [e]
        refine ⟨bb_13 ((9 : Int) == 0) (block == 0) (size == 0) data.isEmpty (n == 0) keep.isEmpty, ?_⟩
        show Lib.join [laterB, [101, 110, 116, 114, 121], (strN vol).data.toList] [32] = laterB ++ [32] ++ ([101, 110, 116, 114, 121] ++ sp vol)
        rw [hs, join_tl]
        simp [tl, sp]
    · rcases hq9 with rfl | rfl | rfl | rfl | rfl | rfl | rfl | rfl | rfl
      · obtain rfl : rk = 1 := hr
        have e : runParts ⟨5, n, 1, vol, block, size, data, keep⟩ (formAt 5).parts.data.toList (outs0 ⟨5, n, 1, vol, block, size, data, keep⟩ (formAt 5), rest0 ⟨5, n, 1, vol, block, size, data, keep⟩) = ([(formAt 5).word, strN size], ⟨n, vol, block, 0, false, false⟩) := rfl
        rw [e]
        refine ⟨bb_5 ((1 : Int) == 0) (vol == 0) (block == 0) data.isEmpty (n == 0) keep.isEmpty, ?_⟩
        show Lib.join [[99, 114, 101, 97, 116, 101], (strN size).data.toList] [32] = [99, 114, 101, 97, 116, 101] ++ sp size
        rw [hs, join_tl]
        simp [tl, sp]
      · obtain rfl : rk = 2 := hr
        have e : runParts ⟨5, n, 2, vol, block, size, data, keep⟩ (formAt 6).parts.data.toList (outs0 ⟨5, n, 2, vol, block, size, data, keep⟩ (formAt 6), rest0 ⟨5, n, 2, vol, block, size, data, keep⟩) = ([(formAt 6).word, strN vol], ⟨n, 0, block, size, false, false⟩) := rfl
        rw [e]
        refine ⟨bb_6 ((2 : Int) == 0) (block == 0) (size == 0) data.isEmpty (n == 0) keep.isEmpty, ?_⟩
        show Lib.join [[100, 101, 108, 101, 116, 101], (strN vol).data.toList] [32] = [100, 101, 108, 101, 116, 101] ++ sp vol
        rw [hs, join_tl]
        simp [tl, sp]
      · obtain rfl : rk = 3 := hr
        have e : runParts ⟨5, n, 3, vol, block, size, data, keep⟩ (formAt 7).parts.data.toList (outs0 ⟨5, n, 3, vol, block, size, data, keep⟩ (formAt 7), rest0 ⟨5, n, 3, vol, block, size, data, keep⟩) = ([(formAt 7).word, strN vol], ⟨n, 0, block, size, false, false⟩) := rfl
        rw [e]
        refine ⟨bb_7 ((3 : Int) == 0) (block == 0) (size == 0) data.isEmpty (n == 0) keep.isEmpty, ?_⟩
        show Lib.join [[115, 110, 97, 112], (strN vol).data.toList] [32] = [115, 110, 97, 112] ++ sp vol
        rw [hs, join_tl]
        simp [tl, sp]
      · obtain rfl : rk = 4 := hr
        have e : runParts ⟨5, n, 4, vol, block, size, data, keep⟩ (formAt 8).parts.data.toList (outs0 ⟨5, n, 4, vol, block, size, data, keep⟩ (formAt 8), rest0 ⟨5, n, 4, vol, block, size, data, keep⟩) = ([(formAt 8).word, strN vol, strN block], ⟨n, 0, 0, size, false, false⟩) := rfl
        rw [e]
        refine ⟨bb_8 ((4 : Int) == 0) (size == 0) data.isEmpty (n == 0) keep.isEmpty, ?_⟩
        show Lib.join [[114, 101, 97, 100], (strN vol).data.toList, (strN block).data.toList] [32] = [114, 101, 97, 100] ++ sp vol ++ sp block
        rw [hs, hs, join_tl]
        simp [tl, sp]
      · obtain rfl : rk = 5 := hr
        have e : runParts ⟨5, n, 5, vol, block, size, data, keep⟩ (formAt 9).parts.data.toList (outs0 ⟨5, n, 5, vol, block, size, data, keep⟩ (formAt 9), rest0 ⟨5, n, 5, vol, block, size, data, keep⟩) = ([(formAt 9).word, strN vol, strN block, mkB (120 :: hexOf data)], ⟨n, 0, 0, size, true, false⟩) := rfl
        rw [e]
        refine ⟨bb_9 ((5 : Int) == 0) (size == 0) data.isEmpty (n == 0) keep.isEmpty, ?_⟩
        show Lib.join [[119, 114, 105, 116, 101], (strN vol).data.toList, (strN block).data.toList, (mkB (120 :: hexOf data)).data.toList] [32] = [119, 114, 105, 116, 101] ++ sp vol ++ sp block ++ [32] ++ (120 :: hexOf data)
        rw [hs, hs, hx, join_tl]
        simp [tl, sp]
      · obtain rfl : rk = 6 := hr
        have e : runParts ⟨5, n, 6, vol, block, size, data, keep⟩ (formAt 10).parts.data.toList (outs0 ⟨5, n, 6, vol, block, size, data, keep⟩ (formAt 10), rest0 ⟨5, n, 6, vol, block, size, data, keep⟩) = ([(formAt 10).word, strN vol, strN block], ⟨n, 0, 0, size, false, false⟩) := rfl
        rw [e]
        refine ⟨bb_10 ((6 : Int) == 0) (size == 0) data.isEmpty (n == 0) keep.isEmpty, ?_⟩
        show Lib.join [[100, 105, 115, 99, 97, 114, 100], (strN vol).data.toList, (strN block).data.toList] [32] = [100, 105, 115, 99, 97, 114, 100] ++ sp vol ++ sp block
        rw [hs, hs, join_tl]
        simp [tl, sp]
      · obtain rfl : rk = 7 := hr
        have e : runParts ⟨5, n, 7, vol, block, size, data, keep⟩ (formAt 11).parts.data.toList (outs0 ⟨5, n, 7, vol, block, size, data, keep⟩ (formAt 11), rest0 ⟨5, n, 7, vol, block, size, data, keep⟩) = ([(formAt 11).word], ⟨n, vol, block, size, false, false⟩) := rfl
        rw [e]
        refine ⟨bb_11 ((7 : Int) == 0) (vol == 0) (block == 0) (size == 0) data.isEmpty (n == 0) keep.isEmpty, ?_⟩
        show Lib.join [[115, 121, 110, 99]] [32] = [115, 121, 110, 99]
        rw [join_tl]
        simp [tl]
      · obtain rfl : rk = 8 := hr
        have e : runParts ⟨5, n, 8, vol, block, size, data, keep⟩ (formAt 12).parts.data.toList (outs0 ⟨5, n, 8, vol, block, size, data, keep⟩ (formAt 12), rest0 ⟨5, n, 8, vol, block, size, data, keep⟩) = ([(formAt 12).word], ⟨n, vol, block, size, false, false⟩) := rfl
        rw [e]
        refine ⟨bb_12 ((8 : Int) == 0) (vol == 0) (block == 0) (size == 0) data.isEmpty (n == 0) keep.isEmpty, ?_⟩
        show Lib.join [[115, 116, 97, 116]] [32] = [115, 116, 97, 116]
        rw [join_tl]
        simp [tl]
      · obtain rfl : rk = 9 := hr
        have e : runParts ⟨5, n, 9, vol, block, size, data, keep⟩ (formAt 13).parts.data.toList (outs0 ⟨5, n, 9, vol, block, size, data, keep⟩ (formAt 13), rest0 ⟨5, n, 9, vol, block, size, data, keep⟩) = ([(formAt 13).word, strN vol], ⟨n, 0, block, size, false, false⟩) := rfl
        rw [e]
        refine ⟨bb_13 ((9 : Int) == 0) (block == 0) (size == 0) data.isEmpty (n == 0) keep.isEmpty, ?_⟩
        show Lib.join [[101, 110, 116, 114, 121], (strN vol).data.toList] [32] = [101, 110, 116, 114, 121] ++ sp vol
        rw [hs, join_tl]
        simp [tl, sp]
/-- What Line answers, by the form. -/
theorem out_some (m : ActM) (f : FormD) (hf : findFrom m.kind m.rk 14 0 = some f) (o : List ByteArray) (r : RestD) (h : runParts m f.parts.data.toList (outs0 m f, rest0 m) = (o, r)) :
    (lineOut m).2 = (if testB f m r then 1 else 0) ∧ (testB f m r = true → (lineOut m).1 = ⟨#[]⟩) ∧ (testB f m r = false → (lineOut m).1 = ⟨(Lib.join (o.map (·.data.toList)) [32]).toArray⟩ ∧ (Lib.join (o.map (·.data.toList)) [32]).length = (lineOut m).1.size) := by
  obtain ⟨h1, h2⟩ := plain_some m f hf
  rw [h] at h1 h2
  simp only at h1 h2
  unfold lineOut
  rw [h1, h2]
  cases testB f m r
  · refine ⟨rfl, fun e => (by cases e), fun _ => ⟨rfl, ?_⟩⟩
    show _ = (lineL m).1.toArray.size
    simp
  · exact ⟨rfl, fun _ => rfl, fun e => (by cases e)⟩
theorem keepL_len : ∀ l : List Int, (∀ x ∈ l, I64 x) → (keepL l).length ≤ 65 * l.length
  | [], _ => Nat.le_refl _
  | x :: l, h => by
    have h1 := keepL_len l (fun y hy => h y (List.mem_cons_of_mem _ hy))
    have h2 := itoa_len x (h x (List.mem_cons_self ..))
    show (sp x ++ keepL l).length ≤ _
    rw [List.length_append, List.length_cons]
    show (Lib.itoa x).length + 1 + _ ≤ _
    omega
theorem out_size (m : ActM) (hn : I64 m.n) (hv : I64 m.vol) (hb : I64 m.block) (hd : I64 m.size) (hla : m.data.length ≤ 1099511627776) (hk : ∀ x ∈ m.keep, I64 x) (hlk : m.keep.length ≤ 1099511627776) : (lineOut m).1.size ≤ 140737488355328 := by
  unfold lineOut
  split
  · show (lineL m).1.toArray.size ≤ _
    have z0 := itoa_len m.n hn
    have z2 := itoa_len m.block hb
    have z3 := itoa_len m.size hd
    have z4 := keepL_len m.keep hk
    have z5 := req_size m.rk m.vol m.block m.size m.data hv hb hd hla
    have z6 : (mkB (reqL m.rk m.vol m.block m.size m.data).1).size = (reqL m.rk m.vol m.block m.size m.data).1.length := by
      show ((reqL m.rk m.vol m.block m.size m.data).1).toArray.size = _
      simp
    rw [List.size_toArray]
    unfold lineL laterB
    repeat' split
    all_goals simp only [List.length_append, List.length_cons, List.length_nil]
    all_goals omega
  · exact Nat.zero_le _
end Go.Proofs.YtjohhjdicbeojaaGreatDoor.KTc
