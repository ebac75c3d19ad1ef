/- Texts joined: KSi KSp KSj KSr KSq KSl KSu KSv. -/
import Derived.Lib.OthersKept
import Derived.Outline
import Derived.Deep.Light
import Derived.Lib.SlBytesConst
import Derived.Deep.RegionHeld3
import Derived.Test.YtjohhjdicbeojaaGreatDoorZac
import Derived.Test.YtjohhjdicbeojaaGreatDoorZad
import Derived.Test.YtjohhjdicbeojaaGreatDoorZae
namespace Go.Proofs.YtjohhjdicbeojaaGreatDoor.KSi
open Go.RowKit Go.Proofs.YtjohhjdicbeojaaGreatDoor.KSa Go.Proofs.YtjohhjdicbeojaaGreatDoor.KSb Go.Proofs.YtjohhjdicbeojaaGreatDoor.KSd Go.Proofs.YtjohhjdicbeojaaGreatDoor.KSe Go.Proofs.YtjohhjdicbeojaaGreatDoor.KSf Go.Proofs.YtjohhjdicbeojaaGreatDoor.KSg Go.Proofs.YtjohhjdicbeojaaGreatDoor.KSh
def strVals (l : List ByteArray) : List Value := l.map Value.string
def writeB : ByteArray := ⟨#[119, 114, 105, 116, 101]⟩
def laterS : ByteArray := ⟨#[108, 97, 116, 101, 114]⟩
def bcx : ByteArray := ⟨#[98, 99, 120]⟩
/-- The words that are laid, k of the form's parts being done. -/
def outs (k : Nat) : List ByteArray := [laterS, writeB] ++ ([⟨(Lib.itoa 1).toArray⟩, ⟨(Lib.itoa 2).toArray⟩, ⟨(120 :: hexOf [97, 98]).toArray⟩] : List ByteArray).take k
def restCells (k : Nat) (dv : Value) : Array Value := #[.int .i64 0, .int .i64 0, .int .i64 0, .int .i64 (if k = 0 then 1 else 0), .int .i64 (if k ≤ 1 then 2 else 0), .int .i64 0, (if k ≤ 2 then dv else .slice none 0 0), .slice none 0 0]
structure LineSt (w wr : World) (B H i k : Nat) (dv s6 : Value) : Prop where
  below : Below B w wr
  lt : B < H
  size : H + 5 ≤ wr.heap.size
  act : wr.heap[B]? = some (.cells #[.int .i64 3, .int .i64 0, .int .i64 5, .int .i64 1, .int .i64 2, .int .i64 0, dv, .slice none 0 0] 34 (0, 0))
  form : wr.heap[H]? = some (.cells #[.string writeB, .string bcx, .int .i64 0, .int .i64 5] 49 (0, 0))
  rest : wr.heap[H + 1 + 1 + 1]? = some (.cells (restCells k dv) 34 (0, 0))
  iter : wr.heap[H + 1 + 1 + 1 + 1]? = some (.stringIter bcx i)
  row : wr.ownsRow (H + 1 + 1) 9 1 s6 (2 + k) (strVals (outs k))
  off : ∀ q, s6.ownBlock = some q → q = H + 1 + 1 ∨ H + 5 ≤ q
theorem LineSt.later {w wr wy : World} {B H i k : Nat} {dv v : Value} (h : LineSt w wr B H i k dv v) (hb : Below wr.heap.size wr wy) : LineSt w wy B H i k dv v := by
  have h1 := h.lt
  have h2 := h.size
  exact ⟨h.below.trans (hb.mono (by omega)), h1, Nat.le_trans h2 hb.size, blk_below h.act hb (by omega), blk_below h.form hb (by omega), blk_below h.rest hb (by omega), blk_below h.iter hb (by omega), row_below h.row hb, h.off⟩
theorem LineSt.next {w wr wn : World} {B H i k : Nat} {dv v : Value} (h : LineSt w wr B H i k dv v) (hn : wn = wr.iterAt (H + 1 + 1 + 1 + 1) bcx (i + 1)) : LineSt w wn B H (i + 1) k dv v := by
  subst hn
  have h1 := h.lt
  have h2 := h.size
  have ot := fun j (hj : j ≠ H + 1 + 1 + 1 + 1) => Lib.iterAt_other wr (H + 1 + 1 + 1 + 1) j bcx (i + 1) hj
  refine ⟨Lib.below_iterAt h.below (by omega) _ _, h1, by rw [Lib.iterAt_size]; exact h2, (ot _ (by omega)).trans h.act, (ot _ (by omega)).trans h.form, (ot _ (by omega)).trans h.rest, Lib.iterAt_heap wr _ bcx i (i + 1) h.iter, ?_, h.off⟩
  refine ⟨h.row.1, ?_⟩
  rcases h.row.2 with hn | ⟨g, cap, cur, hv, hg, hh, r⟩
  · exact Or.inl hn
  · refine Or.inr ⟨g, cap, cur, hv, hg, (ot g ?_).trans hh, r⟩
    have := h.off g (by rw [hv]; rfl)
    omega
theorem LineSt.put {w w5 w6 : World} {B H i k : Nat} {dv v : Value} (h : LineSt w w5 B H i k dv v) {ob : Obj} (hg : (w5.alloc ob).grownBy w6 v.ownBlock) {v' : Value} {x : ByteArray} {g : Nat} (hv' : v'.ownBlock = some g)
    (hown : w6.ownsRow (H + 1 + 1) 9 1 v' (2 + k + 1) (strVals (outs k) ++ [.string x])) (hat : v.ownBlock = some g ∨ g = w5.heap.size + 1) (hx : outs (k + 1) = outs k ++ [x]) (j : Nat) (u : Value) (hc : (restCells k dv).setIfInBounds j u = restCells (k + 1) dv) :
    LineSt w (w6.setCell ⟨H + 1 + 1 + 1, j, none⟩ u) B H i (k + 1) dv v' := by
  have h1 := h.lt
  have h2 := h.size
  have gb : ∀ b, b < H + 5 → b ≠ H + 1 + 1 → w6.heap[b]? = w5.heap[b]? := by
    intro b hb hne
    rw [hg.block b (by rw [sz_alloc]; omega) (fun e => by have := h.off b (by first | exact e | exact e.symm); omega)]
    exact Below.heap_alloc w5 ob b (by omega)
  have hs6 : w5.heap.size + 1 ≤ w6.heap.size := by rw [← sz_alloc w5 ob]; exact hg.size
  have hof : ∀ q, v'.ownBlock = some q → q = H + 1 + 1 ∨ H + 5 ≤ q := by
    intro q hq
    rw [hv'] at hq
    have hqq : g = q := Option.some.inj hq
    rcases hat with e | e
    · rw [← hqq]
      exact h.off g e
    · right
      omega
  have hb6 : Below B w w6 := (h.below.alloc (by omega) ob).grown hg (by rw [sz_alloc]; omega) (fun q hq => by have := h.off q hq; omega)
  have e := blk_set ((gb (H + 1 + 1 + 1) (by omega) (by omega)).trans h.rest) j u
  rw [hc] at e
  refine ⟨hb6.setCell (by show B ≤ H + 1 + 1 + 1; omega) _, h1, by rw [sz_set]; omega, blk_set_other ((gb _ (by omega) (by omega)).trans h.act) (by show B ≠ H + 1 + 1 + 1; omega) _, blk_set_other ((gb _ (by omega) (by omega)).trans h.form) (by show H ≠ H + 1 + 1 + 1; omega) _, e, blk_set_other ((gb _ (by omega) (by omega)).trans h.iter) (by show H + 1 + 1 + 1 + 1 ≠ H + 1 + 1 + 1; omega) _, ?_, hof⟩
  rw [hx]
  have e2 : strVals (outs k ++ [x]) = strVals (outs k) ++ [.string x] := by
    unfold strVals
    rw [List.map_append]
    rfl
  rw [e2]
  exact ownsRow_setCell_other hown (fun e3 => by have := hof _ e3; have h5 : (⟨H + 1 + 1 + 1, j, none⟩ : Addr).block = H + 1 + 1 + 1 := rfl; omega) _
theorem info9 : (Tryz.prog.info? 9).map (fun i => (i.zero, i.size, i.bytes)) = some (some (.string ⟨#[]⟩), 1, 16) := by kernel_rfl
end Go.Proofs.YtjohhjdicbeojaaGreatDoor.KSi
namespace Go.Proofs.YtjohhjdicbeojaaGreatDoor.KSp
open Go.RowKit Go.Proofs.YtjohhjdicbeojaaGreatDoor.KSa Go.Proofs.YtjohhjdicbeojaaGreatDoor.KSb Go.Proofs.YtjohhjdicbeojaaGreatDoor.KSd Go.Proofs.YtjohhjdicbeojaaGreatDoor.KSe Go.Proofs.YtjohhjdicbeojaaGreatDoor.KSf Go.Proofs.YtjohhjdicbeojaaGreatDoor.KSg Go.Proofs.YtjohhjdicbeojaaGreatDoor.KSh
/-- The ints that a slice value shows. -/
def IntsIn (w : World) (v : Value) (l : List Int) : Prop :=
  ∃ p c, v = .slice p l.length c ∧ (l ≠ [] → ∃ b o, p = some ⟨b, o, none⟩ ∧ b < w.heap.size ∧ ∀ j x, l[j]? = some x → w.cell? ⟨b, o + j, none⟩ = some (.int .i64 x))
theorem IntsIn.below {w w' : World} {v : Value} {l : List Int} (h : IntsIn w v l) (hb : Below w.heap.size w w') : IntsIn w' v l := by
  obtain ⟨p, c, hv, h⟩ := h
  refine ⟨p, c, hv, fun hl => ?_⟩
  obtain ⟨b, o, hp, hlt, hc⟩ := h hl
  exact ⟨b, o, hp, Nat.lt_of_lt_of_le hlt hb.size, fun j x hx => (hb.cell (p := ⟨b, o + j, none⟩) hlt).trans (hc j x hx)⟩
end Go.Proofs.YtjohhjdicbeojaaGreatDoor.KSp
namespace Go.Proofs.YtjohhjdicbeojaaGreatDoor.KSj
open Go.RowKit Go.Proofs.YtjohhjdicbeojaaGreatDoor.KSa Go.Proofs.YtjohhjdicbeojaaGreatDoor.KSb Go.Proofs.YtjohhjdicbeojaaGreatDoor.KSc Go.Proofs.YtjohhjdicbeojaaGreatDoor.KSd Go.Proofs.YtjohhjdicbeojaaGreatDoor.KSe Go.Proofs.YtjohhjdicbeojaaGreatDoor.KSf Go.Proofs.YtjohhjdicbeojaaGreatDoor.KSg
theorem dec_big {u : Nat} (h : ¬ u < 10) : Lib.decDigits u = Lib.decDigits (u / 10) ++ [UInt8.ofNat (48 + u % 10)] := by
  rw [Lib.decDigits, dif_neg h]
theorem dig_toNat {d : Nat} (h : d < 10) : (UInt8.ofNat (48 + d)).toNat = 48 + d := by
  rw [UInt8.toNat_ofNat']
  omega
theorem parse_dec : ∀ (u : Nat) (r : List UInt8), u < 18446744073709551616 → Lib.parseUint10 0 (Lib.decDigits u ++ r) = Lib.parseUint10 u r := by
  intro u
  induction u using Nat.strongRecOn with
  | ind u ih =>
    intro r hu
    by_cases h : u < 10
    · rw [Lib.decDigits_one h, List.singleton_append, Lib.parseUint10, dig_toNat h, if_pos (by omega), if_neg (by omega), if_neg (by omega)]
      congr 1
      omega
    · rw [dec_big h, List.append_assoc, ih (u / 10) (by omega) _ (by omega), List.singleton_append, Lib.parseUint10, dig_toNat (by omega), if_pos (by omega), if_neg (by omega), if_neg (by omega)]
      congr 1
      omega
theorem dec_ne (u : Nat) : Lib.decDigits u ≠ [] := by
  by_cases h : u < 10
  · rw [Lib.decDigits_one h]
    simp
  · rw [dec_big h]
    simp
theorem dec_all : ∀ (u : Nat) (c : UInt8), c ∈ Lib.decDigits u → 48 ≤ c.toNat ∧ c.toNat ≤ 57 := by
  intro u
  induction u using Nat.strongRecOn with
  | ind u ih =>
    intro c hc
    by_cases h : u < 10
    · rw [Lib.decDigits_one h] at hc
      rw [List.mem_singleton.1 hc, dig_toNat h]
      omega
    · rw [dec_big h] at hc
      rcases List.mem_append.1 hc with hc | hc
      · exact ih (u / 10) (by omega) c hc
      · rw [List.mem_singleton.1 hc, dig_toNat (by omega)]
        omega
theorem parseMag_dec (u : Nat) (hu : u < 18446744073709551616) : Lib.parseMag (Lib.decDigits u) = .ok u := by
  unfold Lib.parseMag
  rw [if_neg (dec_ne u)]
  have h := parse_dec u [] hu
  rw [List.append_nil] at h
  rw [h]
  rfl
theorem itoa_cases (n : Int) : (∃ u : Nat, n = (u : Int) ∧ Lib.itoa n = Lib.decDigits u) ∨ (∃ u : Nat, 1 ≤ u ∧ n = -(u : Int) ∧ Lib.itoa n = 45 :: Lib.decDigits u) := by
  by_cases h : n < 0
  · obtain ⟨u, rfl⟩ : ∃ u : Nat, n = -(u : Int) := ⟨n.natAbs, by omega⟩
    exact Or.inr ⟨u, by omega, rfl, Lib.itoa_neg u (by omega)⟩
  · obtain ⟨u, rfl⟩ : ∃ u : Nat, n = (u : Int) := ⟨n.toNat, by omega⟩
    exact Or.inl ⟨u, rfl, Lib.itoa_nonneg u⟩
theorem atoi_itoa (n : Int) (h0 : -9223372036854775808 ≤ n) (h1 : n ≤ 9223372036854775807) : Lib.atoiAll (Lib.itoa n) = .ok n := by
  rcases itoa_cases n with ⟨u, rfl, hi⟩ | ⟨u, hu, rfl, hi⟩
  · rw [hi]
    cases hd : Lib.decDigits u with
    | nil => exact absurd hd (dec_ne _)
    | cons c t =>
      have hc := dec_all u c (by rw [hd]; exact List.mem_cons_self ..)
      rw [Lib.atoiAll_plain c t (by omega) (by omega), ← hd, parseMag_dec u (by omega)]
      unfold Lib.signless
      simp
      omega
  · rw [hi, Lib.atoiAll_minus, parseMag_dec u (by omega)]
    unfold Lib.signed
    simp
    omega
/-- Is it a numeral, as number takes it? -/
def numL (l : List UInt8) : Bool := atoiE l && (Lib.itoa (atoiN l) == l)
theorem numB_L (s : ByteArray) : numB s = numL s.data.toList := by
  rw [numB_eq, ByteArray.toList_eq]
  rfl
theorem atoiN_itoa (n : Int) (h0 : -9223372036854775808 ≤ n) (h1 : n ≤ 9223372036854775807) : atoiN (Lib.itoa n) = n ∧ numL (Lib.itoa n) = true := by
  have h := atoi_itoa n h0 h1
  have e1 : atoiN (Lib.itoa n) = n := by unfold atoiN; rw [h]
  have e2 : atoiE (Lib.itoa n) = true := by unfold atoiE; rw [h]
  refine ⟨e1, ?_⟩
  unfold numL
  rw [e1, e2]
  simp
/-- No byte of a numeral but digits and a '-' at its head. -/
theorem itoa_mem (n : Int) (c : UInt8) (h : c ∈ Lib.itoa n) : (48 ≤ c.toNat ∧ c.toNat ≤ 57) ∨ c = 45 := by
  rcases itoa_cases n with ⟨u, _, hi⟩ | ⟨u, _, _, hi⟩ <;> rw [hi] at h
  · exact Or.inl (dec_all u c h)
  · rcases List.mem_cons.1 h with h | h
    · exact Or.inr h
    · exact Or.inl (dec_all u c h)
/-! ### The words -/
def wordsL : List UInt8 → List (List UInt8)
  | [] => [[]]
  | c :: l => if c = 32 then [] :: wordsL l else match wordsL l with
    | [] => [[c]]
    | w :: ws => (c :: w) :: ws
theorem splitK_words : ∀ s : List UInt8, Lib.splitK [32] 0 (Lib.count s [32]) s = wordsL s
  | [] => by
    rw [Lib.count_one]
    rfl
  | c :: l => by
    have ih := splitK_words l
    by_cases hc : c = 32
    · subst hc
      rw [Lib.count_cons_eq, Nat.add_comm]
      have hix : Lib.index (32 :: l) [32] = 0 := by rw [Lib.index]; simp [List.isPrefixOf]
      unfold Lib.splitK wordsL
      rw [hix, if_neg (by decide), if_pos rfl, ← ih]
      rfl
    · rw [Lib.count_cons_ne c 32 l hc]
      have hp : ([32] : List UInt8).isPrefixOf (c :: l) = false := by simp [List.isPrefixOf, Ne.symm hc]
      have hix : Lib.index (c :: l) [32] = if Lib.index l [32] == -1 then -1 else Lib.index l [32] + 1 := by rw [Lib.index, hp]; simp
      unfold wordsL
      rw [if_neg hc, ← ih]
      cases hk : Lib.count l [32] with
      | zero => rfl
      | succ k =>
        by_cases hm : Lib.index l [32] = -1
        · have : Lib.count l [32] = 0 := Lib.count_miss hm
          omega
        · have hge := Lib.index_ge l [32]
          obtain ⟨j, hj⟩ : ∃ j : Nat, Lib.index l [32] = j := ⟨(Lib.index l [32]).toNat, by omega⟩
          have hix2 : Lib.index (c :: l) [32] = ((j + 1 : Nat) : Int) := by rw [hix, if_neg (fun e => hm (beq_iff_eq.1 e)), hj]; omega
          have n1 : ¬ (((j + 1 : Nat) : Int) == -1) = true := fun e => by have := beq_iff_eq.1 e; omega
          have n2 : ¬ (((j : Nat) : Int) == -1) = true := fun e => by have := beq_iff_eq.1 e; omega
          unfold Lib.splitK
          rw [hix2, hj, if_neg n1, if_neg n2, Int.toNat_natCast, Int.toNat_natCast]
          rfl
theorem wordsB_map (s : ByteArray) : (wordsB s).map (·.data.toList) = wordsL s.data.toList := by
  unfold wordsB
  rw [Lib.splitB_data]
  exact splitK_words s.data.toList
theorem wordsL_head : ∀ (a b : List UInt8), 32 ∉ a → wordsL (a ++ 32 :: b) = a :: wordsL b
  | [], b, _ => by
    show wordsL (32 :: b) = _
    rw [wordsL, if_pos rfl]
  | c :: a, b, h => by
    have hc : c ≠ 32 := fun e => h (by rw [e]; exact List.mem_cons_self ..)
    have ih := wordsL_head a b (fun e => h (List.mem_cons_of_mem _ e))
    show wordsL (c :: (a ++ 32 :: b)) = _
    rw [wordsL, if_neg hc, ih]
theorem wordsL_one : ∀ (a : List UInt8), 32 ∉ a → wordsL a = [a]
  | [], _ => rfl
  | c :: a, h => by
    have hc : c ≠ 32 := fun e => h (by rw [e]; exact List.mem_cons_self ..)
    rw [wordsL, if_neg hc, wordsL_one a (fun e => h (List.mem_cons_of_mem _ e))]
/-! ### The act of a line, over lists of bytes -/
def fitsL (x : Option (List UInt8)) (f : FormD) : Bool := match x with
  | none => false
  | some x => f.word.data.toList == x
def firstL (x : Option (List UInt8)) : Nat → Nat → Int
  | 0, _ => -1
  | g + 1, k => if fitsL x (formAt k) then (k : Int) else firstL x g (k + 1)
theorem firstFrom_L (x : Option ByteArray) : ∀ (g k : Nat), firstFrom x g k = firstL (x.map (·.data.toList)) g k
  | 0, _ => rfl
  | g + 1, k => by
    have hf : fits x (formAt k) = fitsL (x.map (·.data.toList)) (formAt k) := by
      cases x with
      | none => rfl
      | some x =>
        show ((formAt k).word.toList == x.toList) = _
        rw [ByteArray.toList_eq, ByteArray.toList_eq]
        rfl
    unfold firstFrom firstL
    rw [hf, firstFrom_L x g (k + 1)]
def partStepL (p : UInt8) (x : List UInt8) (a : Acc) : Acc × Bool :=
  if p = 98 then ({ a with vol := atoiN x }, numL x)
  else if p = 99 then ({ a with block := atoiN x }, numL x)
  else if p = 100 then ({ a with size := atoiN x }, numL x)
  else if p = 110 then ({ a with n := atoiN x }, numL x)
  else if p = 120 then ({ a with data := (unhexL x).getD [] }, (unhexL x).isSome)
  else ({ a with keep := a.keep ++ [atoiN x] }, numL x)
def actLoopL (parts : ByteArray) : Nat → List (List UInt8) → Acc → Option Acc
  | _, [], a => some a
  | i, x :: r, a => if (partStepL (KSg.partAt parts i) x a).2 then actLoopL parts (i + 1) r (partStepL (KSg.partAt parts i) x a).1 else none
theorem actLoop_L (parts : ByteArray) : ∀ (ws : List ByteArray) (i : Nat) (a : Acc), actLoop parts i ws a = actLoopL parts i (ws.map (·.data.toList)) a
  | [], _, _ => rfl
  | x :: r, i, a => by
    have h : partStep (KSg.partAt parts i) x a = partStepL (KSg.partAt parts i) x.data.toList a := by
      unfold partStep partStepL
      rw [numB_L]
    rw [List.map_cons]
    simp only [actLoop, actLoopL]
    rw [h, actLoop_L parts r]
def okPartsL (f : FormD) (n : Nat) : Bool := f.parts.data.toList == [107] || n == f.parts.size
def actTailL (f : FormD) (kind : Int) (ws : List (List UInt8)) : Option ActM :=
  if okPartsL f ws.length then (actLoopL f.parts 0 ws ⟨0, 0, 0, 0, [], []⟩).map (mkAct kind f.ask) else none
def actOfL (ws : List (List UInt8)) (o : Nat) (kind : Int) : Option ActM :=
  if firstL ws[o]? 14 0 < 0 then none
  else if (formAt (firstL ws[o]? 14 0).toNat).act ≠ 0 then
    if kind = 3 then none else actTailL (formAt (firstL ws[o]? 14 0).toNat) (formAt (firstL ws[o]? 14 0).toNat).act (ws.drop (o + 1))
  else actTailL (formAt (firstL ws[o]? 14 0).toNat) kind (ws.drop (o + 1))
def actL (l : List UInt8) : Option ActM := match wordsL l with
  | [] => none
  | x :: r => actOfL (x :: r) (if x == laterB then 1 else 0) (if x == laterB then 3 else 5)
theorem actTail_L (f : FormD) (kind : Int) (ws : List ByteArray) : actTail f kind ws = actTailL f kind (ws.map (·.data.toList)) := by
  unfold actTail actTailL okParts okPartsL
  rw [actLoop_L, ByteArray.toList_eq, List.length_map]
theorem actOf_L (ws : List ByteArray) (o : Nat) (kind : Int) : actOf ws o kind = actOfL (ws.map (·.data.toList)) o kind := by
  unfold actOf actOfL
  rw [firstFrom_L, List.getElem?_map, ← List.map_drop]
  simp only [actTail_L]
theorem actM_L (s : ByteArray) : actM? s = actL s.data.toList := by
  unfold actM? actL
  rw [← wordsB_map]
  cases wordsB s with
  | nil => rfl
  | cons x r =>
    have h : (x.toList == laterB) = (x.data.toList == laterB) := by rw [ByteArray.toList_eq]
    show actOf (x :: r) (laterN x) (laterK x) = actOfL (x.data.toList :: r.map (·.data.toList)) (if x.data.toList == laterB then 1 else 0) (if x.data.toList == laterB then 3 else 5)
    rw [actOf_L]
    unfold laterN laterK
    rw [h]
    rfl
end Go.Proofs.YtjohhjdicbeojaaGreatDoor.KSj
namespace Go.Proofs.YtjohhjdicbeojaaGreatDoor.KSr
open Go.RowKit Go.Proofs.YtjohhjdicbeojaaGreatDoor.KSa Go.Proofs.YtjohhjdicbeojaaGreatDoor.KSb Go.Proofs.YtjohhjdicbeojaaGreatDoor.KSd Go.Proofs.YtjohhjdicbeojaaGreatDoor.KSf Go.Proofs.YtjohhjdicbeojaaGreatDoor.KSg Go.Proofs.YtjohhjdicbeojaaGreatDoor.KSh Go.Proofs.YtjohhjdicbeojaaGreatDoor.KSj
/-- A number behind a space. -/
def sp (n : Int) : List UInt8 := 32 :: Lib.itoa n
/-- A request's words. -/
def reqL (rk vol block size : Int) (data : List UInt8) : List UInt8 × Bool :=
  if rk = 1 then ([99, 114, 101, 97, 116, 101] ++ sp size, vol == 0 && block == 0 && data.isEmpty)
  else if rk = 2 then ([100, 101, 108, 101, 116, 101] ++ sp vol, block == 0 && size == 0 && data.isEmpty)
  else if rk = 3 then ([115, 110, 97, 112] ++ sp vol, block == 0 && size == 0 && data.isEmpty)
  else if rk = 4 then ([114, 101, 97, 100] ++ sp vol ++ sp block, size == 0 && data.isEmpty)
  else if rk = 5 then ([119, 114, 105, 116, 101] ++ sp vol ++ sp block ++ [32] ++ (120 :: hexOf data), size == 0)
  else if rk = 6 then ([100, 105, 115, 99, 97, 114, 100] ++ sp vol ++ sp block, size == 0 && data.isEmpty)
  else if rk = 7 then ([115, 121, 110, 99], vol == 0 && block == 0 && size == 0 && data.isEmpty)
  else if rk = 8 then ([115, 116, 97, 116], vol == 0 && block == 0 && size == 0 && data.isEmpty)
  else if rk = 9 then ([101, 110, 116, 114, 121] ++ sp vol, block == 0 && size == 0 && data.isEmpty)
  else ([], false)
def noneL (m : ActM) : Bool := m.rk == 0 && m.vol == 0 && m.data.isEmpty
def bareL (m : ActM) : Bool := noneL m && m.block == 0 && m.size == 0 && m.keep.isEmpty
def keepL (l : List Int) : List UInt8 := l.flatMap sp
/-- An act's line. -/
def lineL (m : ActM) : List UInt8 × Bool :=
  if m.kind = 1 then ([102, 111, 114, 109, 97, 116] ++ [32] ++ Lib.itoa m.size ++ [32] ++ Lib.itoa m.block, noneL m && m.n == 0 && m.keep.isEmpty)
  else if m.kind = 2 then ([111, 112, 101, 110], bareL m && m.n == 0)
  else if m.kind = 4 then ([115, 116, 101, 112] ++ [32] ++ Lib.itoa m.n, bareL m)
  else if m.kind = 6 then ([102, 97, 105, 108] ++ [32] ++ Lib.itoa m.n, bareL m)
  else if m.kind = 7 then ([99, 114, 97, 115, 104] ++ keepL m.keep, noneL m && m.block == 0 && m.size == 0 && m.n == 0)
  else if m.kind = 5 then ((reqL m.rk m.vol m.block m.size m.data).1, (reqL m.rk m.vol m.block m.size m.data).2 && m.n == 0 && m.keep.isEmpty)
  else if m.kind = 3 then (laterB ++ [32] ++ (reqL m.rk m.vol m.block m.size m.data).1, (reqL m.rk m.vol m.block m.size m.data).2 && m.n == 0 && m.keep.isEmpty)
  else ([], false)
/-! ### Words, and back -/
theorem indexByte_at : ∀ (l : List UInt8) (c : UInt8) (i : Nat), Lib.indexByte l c = (i : Int) → l.getD i 0 = c
  | [], c, i, h => by
    have : (-1 : Int) = (i : Int) := h
    omega
  | b :: l, c, i, h => by
    unfold Lib.indexByte at h
    split at h
    · rename_i hb
      have : i = 0 := by omega
      subst this
      exact beq_iff_eq.1 hb
    · split at h
      · omega
      · have hge := Lib.indexByte_ge l c
        obtain ⟨k, hk⟩ : ∃ k : Nat, Lib.indexByte l c = (k : Int) := ⟨(Lib.indexByte l c).toNat, by
          rename_i h2
          have : ¬ Lib.indexByte l c = -1 := fun e => h2 (beq_iff_eq.2 e)
          omega⟩
        have := indexByte_at l c k hk
        have e : i = k + 1 := by omega
        subst e
        exact this
theorem hexByte_back {a b c : UInt8} (h : hexByte a b = some c) : a = digit (c.toNat / 16) ∧ b = digit (c.toNat % 16) := by
  unfold hexByte at h
  split at h
  · cases h
  · rename_i hn
    have ha := hexIx_le a
    have hb := hexIx_le b
    obtain ⟨i, hi⟩ : ∃ i : Nat, hexIx a = (i : Int) := ⟨(hexIx a).toNat, by omega⟩
    obtain ⟨j, hj⟩ : ∃ j : Nat, hexIx b = (j : Int) := ⟨(hexIx b).toNat, by omega⟩
    rw [hi, hj, Int.toNat_natCast, Int.toNat_natCast] at h
    have e := (Option.some.inj h).symm
    have hc : c.toNat = i * 16 + j := by
      rw [e, UInt8.toNat_ofNat']
      omega
    have e1 : c.toNat / 16 = i := by omega
    have e2 : c.toNat % 16 = j := by omega
    rw [e1, e2]
    exact ⟨(indexByte_at _ _ _ hi).symm, (indexByte_at _ _ _ hj).symm⟩
theorem hexL_back : ∀ (n : Nat) (r d : List UInt8), r.length ≤ n → hexL r = some d → r = hexOf d
  | _, [], d, _, h => by
    have : d = [] := (Option.some.inj h).symm
    subst this
    rfl
  | _, [_], d, _, h => by cases h
  | 0, a :: b :: r, d, hn, _ => absurd hn (by simp)
  | n + 1, a :: b :: r, d, hn, h => by
    unfold hexL at h
    split at h
    · cases h
    · rename_i c hc
      cases hr : hexL r with
      | none =>
        rw [hr] at h
        cases h
      | some x =>
        rw [hr] at h
        have : d = c :: x := (Option.some.inj h).symm
        subst this
        have ih := hexL_back n r x (by simp at hn; omega) hr
        obtain ⟨e1, e2⟩ := hexByte_back hc
        rw [ih, e1, e2]
        rfl
theorem unhexL_back {l d : List UInt8} (h : unhexL l = some d) : l = 120 :: hexOf d := by
  unfold unhexL at h
  split at h
  · rename_i hp
    have h2 := hexL_back _ _ _ (Nat.le_refl _) h
    cases l with
    | nil => exact absurd hp (by decide)
    | cons c t =>
      have hc : c = 120 := by
        unfold Lib.hasPrefix at hp
        simp [List.isPrefixOf] at hp
        exact hp.symm
      subst hc
      have : t = hexOf d := h2
      rw [this]
  · cases h
/-- The words behind the first. -/
def tl (ws : List (List UInt8)) : List UInt8 := ws.flatMap (32 :: ·)
end Go.Proofs.YtjohhjdicbeojaaGreatDoor.KSr
namespace Go.Proofs.YtjohhjdicbeojaaGreatDoor.KSq
open Go.RowKit Go.Proofs.YtjohhjdicbeojaaGreatDoor.KSa Go.Proofs.YtjohhjdicbeojaaGreatDoor.KSb Go.Proofs.YtjohhjdicbeojaaGreatDoor.KSd Go.Proofs.YtjohhjdicbeojaaGreatDoor.KSe Go.Proofs.YtjohhjdicbeojaaGreatDoor.KSf Go.Proofs.YtjohhjdicbeojaaGreatDoor.KSg Go.Proofs.YtjohhjdicbeojaaGreatDoor.KSh Go.Proofs.YtjohhjdicbeojaaGreatDoor.KSp
theorem conv_in {w : World} {p : Option Addr} {n c : Nat} {l : List UInt8} (h : BytesIn w (.slice p n c) l) : (convert 22 9 (.slice p n c)).run Tryz.prog w = .ok (.string ⟨l.toArray⟩) w := by
  obtain ⟨p', c', hv, hp⟩ := h
  cases hv
  cases l with
  | nil =>
    have h1 : Tryz.prog.underlying 22 = some (.slice 5) := by kernel_rfl
    have h2 : Tryz.prog.underlying 5 = some (.int .u8) := by kernel_rfl
    have h3 : Tryz.prog.underlying 9 = some .string := by kernel_rfl
    show (convert 22 9 (.slice p 0 c)).run Tryz.prog w = _
    rw [run_convert_bytes_string w 22 9 5 p 0 c h1 h2 h3]
    cases p <;> simp [Conv.bytesToString, loadCells]
    all_goals rfl
  | cons x t =>
    obtain ⟨b, o, rfl, hb, hc⟩ := hp (by simp)
    refine run_convert_bytes_back (P := Tryz.prog) w 22 9 5 ⟨b, o, none⟩ c (x :: t) (by kernel_rfl) (by kernel_rfl) (by kernel_rfl) (fun j hj => ?_)
    rw [Lib.add_plain]
    exact hc j _ (List.getElem?_eq_getElem hj)
end Go.Proofs.YtjohhjdicbeojaaGreatDoor.KSq
namespace Go.Proofs.YtjohhjdicbeojaaGreatDoor.KSl
open Go.RowKit Go.Proofs.YtjohhjdicbeojaaGreatDoor.KSa Go.Proofs.YtjohhjdicbeojaaGreatDoor.KSb Go.Proofs.YtjohhjdicbeojaaGreatDoor.KSc Go.Proofs.YtjohhjdicbeojaaGreatDoor.KSd Go.Proofs.YtjohhjdicbeojaaGreatDoor.KSe Go.Proofs.YtjohhjdicbeojaaGreatDoor.KSf Go.Proofs.YtjohhjdicbeojaaGreatDoor.KSg Go.Proofs.YtjohhjdicbeojaaGreatDoor.KSj
theorem itoa_no32 (n : Int) : (32 : UInt8) ∉ Lib.itoa n := fun h => by
  have := itoa_mem n 32 h
  revert this
  decide
def numS (n : Int) : ByteArray := ⟨(Lib.itoa n).toArray⟩
theorem numS_size (n : Int) (h0 : -9223372036854775808 ≤ n) (h1 : n ≤ 9223372036854775807) : (numS n).size ≤ 64 := by
  have h : (numS n).size = (Lib.itoa n).length := by
    show (Lib.itoa n).toArray.size = _
    simp
  rw [h]
  rcases itoa_cases n with ⟨u, rfl, hi⟩ | ⟨u, hu, rfl, hi⟩ <;> rw [hi]
  · have := dec_len u (by omega)
    omega
  · have := dec_len u (by omega)
    rw [List.length_cons]
    omega
end Go.Proofs.YtjohhjdicbeojaaGreatDoor.KSl
namespace Go.Proofs.YtjohhjdicbeojaaGreatDoor.KSu
open Go.RowKit Go.Proofs.YtjohhjdicbeojaaGreatDoor.KSa Go.Proofs.YtjohhjdicbeojaaGreatDoor.KSb Go.Proofs.YtjohhjdicbeojaaGreatDoor.KSc Go.Proofs.YtjohhjdicbeojaaGreatDoor.KSd Go.Proofs.YtjohhjdicbeojaaGreatDoor.KSe Go.Proofs.YtjohhjdicbeojaaGreatDoor.KSf Go.Proofs.YtjohhjdicbeojaaGreatDoor.KSg Go.Proofs.YtjohhjdicbeojaaGreatDoor.KSh Go.Proofs.YtjohhjdicbeojaaGreatDoor.KSl Go.Proofs.YtjohhjdicbeojaaGreatDoor.KSp Go.Proofs.YtjohhjdicbeojaaGreatDoor.KSq Go.Proofs.YtjohhjdicbeojaaGreatDoor.KSr
def mkB (l : List UInt8) : ByteArray := ⟨l.toArray⟩
def I64 (n : Int) : Prop := -9223372036854775808 ≤ n ∧ n ≤ 9223372036854775807
end Go.Proofs.YtjohhjdicbeojaaGreatDoor.KSu
namespace Go.Proofs.YtjohhjdicbeojaaGreatDoor.KSv
open Go.RowKit Go.Proofs.YtjohhjdicbeojaaGreatDoor.KSa Go.Proofs.YtjohhjdicbeojaaGreatDoor.KSb Go.Proofs.YtjohhjdicbeojaaGreatDoor.KSc Go.Proofs.YtjohhjdicbeojaaGreatDoor.KSd Go.Proofs.YtjohhjdicbeojaaGreatDoor.KSe Go.Proofs.YtjohhjdicbeojaaGreatDoor.KSf Go.Proofs.YtjohhjdicbeojaaGreatDoor.KSg Go.Proofs.YtjohhjdicbeojaaGreatDoor.KSh Go.Proofs.YtjohhjdicbeojaaGreatDoor.KSl Go.Proofs.YtjohhjdicbeojaaGreatDoor.KSp Go.Proofs.YtjohhjdicbeojaaGreatDoor.KSq Go.Proofs.YtjohhjdicbeojaaGreatDoor.KSr Go.Proofs.YtjohhjdicbeojaaGreatDoor.KSu
theorem itoa_len (n : Int) (h : I64 n) : (Lib.itoa n).length ≤ 64 := by
  have h2 := numS_size n h.1 h.2
  have e : (numS n).size = (Lib.itoa n).length := by
    show (Lib.itoa n).toArray.size = _
    simp
  omega
theorem req_size (rk vol block size : Int) (la : List UInt8) (hv : I64 vol) (hb : I64 block) (hd : I64 size) (hla : la.length ≤ 1099511627776) : (mkB (reqL rk vol block size la).1).size ≤ 17592186044416 := by
  have e : (mkB (reqL rk vol block size la).1).size = (reqL rk vol block size la).1.length := by
    show ((reqL rk vol block size la).1).toArray.size = _
    simp
  rw [e]
  have z1 := itoa_len vol hv
  have z2 := itoa_len block hb
  have z3 := itoa_len size hd
  have z4 := hexOf_length la
  unfold reqL sp
  repeat' split
  all_goals simp only [List.length_append, List.length_cons, List.length_nil]
  all_goals omega
end Go.Proofs.YtjohhjdicbeojaaGreatDoor.KSv
