/- The walk of ScriptReads. -/
import Derived.Test.YtbnbnccpoeopmaaDoorSv
import Derived.Test.YtbnbnccpoeopmaaDoorSk
namespace Go.Proofs.YtbnbnccpoeopmaaDoor.Sw
open Go.RowKit Go.Proofs.YtbnbnccpoeopmaaDoor.Sa Go.Proofs.YtbnbnccpoeopmaaDoor.Sb Go.Proofs.YtbnbnccpoeopmaaDoor.Sc Go.Proofs.YtbnbnccpoeopmaaDoor.Sd Go.Proofs.YtbnbnccpoeopmaaDoor.Se Go.Proofs.YtbnbnccpoeopmaaDoor.Sf Go.Proofs.YtbnbnccpoeopmaaDoor.Sg Go.Proofs.YtbnbnccpoeopmaaDoor.Sh Go.Proofs.YtbnbnccpoeopmaaDoor.Sj Go.Proofs.YtbnbnccpoeopmaaDoor.Sk Go.Proofs.YtbnbnccpoeopmaaDoor.Sp Go.Proofs.YtbnbnccpoeopmaaDoor.Sq Go.Proofs.YtbnbnccpoeopmaaDoor.Sr Go.Proofs.YtbnbnccpoeopmaaDoor.Su Go.Proofs.YtbnbnccpoeopmaaDoor.Sv

/-- What an act's numbers are, and how long its bytes. -/
structure AccOk (N : Nat) (n vol block size : Int) (data : List UInt8) (keep : List Int) : Prop where
  n : I64 n
  vol : I64 vol
  block : I64 block
  size : I64 size
  keep : ∀ x ∈ keep, I64 x
  data : data.length ≤ N

theorem i64_atoi (l : List UInt8) : I64 (atoiN l) := atoiN_bounds l

theorem unhex_len (x : List UInt8) : ((unhexL x).getD []).length ≤ x.length := by
  cases h : unhexL x with
  | none => exact Nat.zero_le _
  | some d =>
    have e := unhexL_back h
    rw [Option.getD_some, e, List.length_cons, hexOf_length]
    omega

theorem step_ok {N : Nat} (p : UInt8) (x : List UInt8) (a : Acc) (hx : x.length ≤ N) (h : AccOk N a.n a.vol a.block a.size a.data a.keep) :
    AccOk N (partStepL p x a).1.n (partStepL p x a).1.vol (partStepL p x a).1.block (partStepL p x a).1.size (partStepL p x a).1.data (partStepL p x a).1.keep ∧ (partStepL p x a).1.keep.length ≤ a.keep.length + 1 := by
  unfold partStepL
  split
  · exact ⟨⟨h.n, i64_atoi x, h.block, h.size, h.keep, h.data⟩, Nat.le_succ _⟩
  · split
    · exact ⟨⟨h.n, h.vol, i64_atoi x, h.size, h.keep, h.data⟩, Nat.le_succ _⟩
    · split
      · exact ⟨⟨h.n, h.vol, h.block, i64_atoi x, h.keep, h.data⟩, Nat.le_succ _⟩
      · split
        · exact ⟨⟨i64_atoi x, h.vol, h.block, h.size, h.keep, h.data⟩, Nat.le_succ _⟩
        · split
          · exact ⟨⟨h.n, h.vol, h.block, h.size, h.keep, Nat.le_trans (unhex_len x) hx⟩, Nat.le_succ _⟩
          · refine ⟨⟨h.n, h.vol, h.block, h.size, fun y hy => ?_, h.data⟩, by rw [List.length_append]; exact Nat.le_refl _⟩
            rcases List.mem_append.1 hy with hy | hy
            · exact h.keep y hy
            · rw [List.mem_singleton.1 hy]
              exact i64_atoi x

theorem loop_ok {N : Nat} (parts : ByteArray) : ∀ (ws : List (List UInt8)) (i : Nat) (a b : Acc), (∀ x ∈ ws, x.length ≤ N) → AccOk N a.n a.vol a.block a.size a.data a.keep → actLoopL parts i ws a = some b →
    AccOk N b.n b.vol b.block b.size b.data b.keep ∧ b.keep.length ≤ a.keep.length + ws.length
  | [], _, a, b, _, h, e => by
    have := Option.some.inj e
    subst this
    exact ⟨h, Nat.le_refl _⟩
  | x :: r, i, a, b, hw, h, e => by
    simp only [actLoopL] at e
    split at e
    · obtain ⟨h1, h2⟩ := step_ok (Sg.partAt parts i) x a (hw x (List.mem_cons_self ..)) h
      obtain ⟨h3, h4⟩ := loop_ok parts r (i + 1) _ b (fun y hy => hw y (List.mem_cons_of_mem _ hy)) h1 e
      exact ⟨h3, by rw [List.length_cons]; omega⟩
    · cases e

theorem i64_zero : I64 0 := ⟨by decide, by decide⟩

theorem tail_ok {N : Nat} (f : FormD) (kind : Int) (ws : List (List UInt8)) (m : ActM) (hw : ∀ x ∈ ws, x.length ≤ N) (h : actTailL f kind ws = some m) : AccOk N m.n m.vol m.block m.size m.data m.keep ∧ m.keep.length ≤ ws.length := by
  unfold actTailL at h
  split at h
  · cases hl : actLoopL f.parts 0 ws ⟨0, 0, 0, 0, [], []⟩ with
    | none =>
      rw [hl] at h
      cases h
    | some b =>
      rw [hl] at h
      have hm := Option.some.inj h
      subst hm
      obtain ⟨h1, h2⟩ := loop_ok f.parts ws 0 ⟨0, 0, 0, 0, [], []⟩ b hw ⟨i64_zero, i64_zero, i64_zero, i64_zero, (fun x hx => by cases hx), Nat.zero_le _⟩ hl
      exact ⟨h1, by show b.keep.length ≤ ws.length; simpa using h2⟩
  · cases h

theorem words_len : ∀ (l : List UInt8), (wordsL l).length ≤ l.length + 1 ∧ ∀ x ∈ wordsL l, x.length ≤ l.length
  | [] => ⟨Nat.le_refl _, fun x hx => by rw [List.mem_singleton.1 hx]; exact Nat.le_refl _⟩
  | c :: l => by
    obtain ⟨h1, h2⟩ := words_len l
    unfold wordsL
    split
    · refine ⟨by rw [List.length_cons, List.length_cons]; omega, fun x hx => ?_⟩
      rcases List.mem_cons.1 hx with hx | hx
      · rw [hx]
        exact Nat.zero_le _
      · exact Nat.le_succ_of_le (h2 x hx)
    · cases hw : wordsL l with
      | nil => exact absurd hw (wordsL_ne l)
      | cons a t =>
        rw [hw] at h1 h2
        refine ⟨by rw [List.length_cons] at h1 ⊢; rw [List.length_cons]; omega, fun x hx => ?_⟩
        rcases List.mem_cons.1 hx with hx | hx
        · rw [hx, List.length_cons, List.length_cons]
          exact Nat.succ_le_succ (h2 a (List.mem_cons_self ..))
        · exact Nat.le_succ_of_le (h2 x (List.mem_cons_of_mem _ hx))

theorem actOf_tail (ws : List (List UInt8)) (o : Nat) (kind : Int) (m : ActM) (h : actOfL ws o kind = some m) : ∃ f k, actTailL f k (ws.drop (o + 1)) = some m := by
  unfold actOfL at h
  by_cases h1 : firstL ws[o]? 14 0 < 0
  · rw [if_pos h1] at h
    cases h
  · rw [if_neg h1] at h
    by_cases h2 : (formAt (firstL ws[o]? 14 0).toNat).act ≠ 0
    · rw [if_pos h2] at h
      by_cases h3 : kind = 3
      · rw [if_pos h3] at h
        cases h
      · rw [if_neg h3] at h
        exact ⟨_, _, h⟩
    · rw [if_neg h2] at h
      exact ⟨_, _, h⟩

theorem act_ok (l : List UInt8) (m : ActM) (h : actL l = some m) : AccOk l.length m.n m.vol m.block m.size m.data m.keep ∧ m.keep.length ≤ l.length + 1 := by
  obtain ⟨w1, w2⟩ := words_len l
  unfold actL at h
  cases hw : wordsL l with
  | nil => exact absurd hw (wordsL_ne l)
  | cons x r =>
    rw [hw] at h w1 w2
    have hd : ∀ o, ∀ y ∈ (x :: r).drop o, y.length ≤ l.length := fun o y hy => w2 y (List.mem_of_mem_drop hy)
    have hl : ∀ o, ((x :: r).drop o).length ≤ l.length + 1 := fun o => by rw [List.length_drop]; omega
    have h : actOfL (x :: r) (if x == laterB then 1 else 0) (if x == laterB then 3 else 5) = some m := h
    obtain ⟨f, k, h⟩ := actOf_tail _ _ _ m h
    obtain ⟨h1, h2⟩ := tail_ok _ _ _ m (hd _) h
    exact ⟨h1, Nat.le_trans h2 (hl _)⟩

theorem bytes_of_row {w : World} {base : Nat} {v : Value} {l : List UInt8} (h : w.ownsRow base 5 1 v l.length (byteVals l)) : BytesIn w v l := by
  obtain ⟨p, c, rfl⟩ := own_slice h
  refine ⟨p, c, rfl, fun hne => ?_⟩
  have hpos : 0 < l.length := List.length_pos_iff.2 hne
  obtain ⟨g, cap, hv, _, hg⟩ := h.form hpos
  obtain ⟨rfl, _⟩ : p = some ⟨g, 0, none⟩ ∧ c = cap := by simpa using hv
  refine ⟨g, 0, rfl, hg, fun j x hx => ?_⟩
  have := h.cells (g := g) rfl j (.int .u8 (x.toNat : Int)) (by unfold byteVals; rw [List.getElem?_map, hx]; rfl)
  rw [Lib.add_plain] at this
  exact this

theorem ints_of_row {w : World} {base : Nat} {v : Value} {l : List Int} (h : w.ownsRow base 3 1 v l.length (intVals l)) : IntsIn w v l := by
  obtain ⟨p, c, rfl⟩ := own_slice h
  refine ⟨p, c, rfl, fun hne => ?_⟩
  have hpos : 0 < l.length := List.length_pos_iff.2 hne
  obtain ⟨g, cap, hv, _, hg⟩ := h.form hpos
  obtain ⟨rfl, _⟩ : p = some ⟨g, 0, none⟩ ∧ c = cap := by simpa using hv
  refine ⟨g, 0, rfl, hg, fun j x hx => ?_⟩
  have := h.cells (g := g) rfl j (.int .i64 x) (by unfold intVals; rw [List.getElem?_map, hx]; rfl)
  rw [Lib.add_plain] at this
  exact this

theorem bytes_nil (w : World) (p : Option Addr) (c : Nat) : BytesIn w (.slice p 0 c) [] := ⟨p, c, rfl, fun h => absurd rfl h⟩
theorem ints_nil (w : World) (p : Option Addr) (c : Nat) : IntsIn w (.slice p 0 c) [] := ⟨p, c, rfl, fun h => absurd rfl h⟩

theorem act_none (s : ByteArray) (hs : s.size ≤ 4000) (w : World) (hE : Env w) (hm : actM? s = none) :
    Calls Tryd.prog 12 #[.string s] w fun e w' => ∃ pd cd pk ck, e = .returned (.tuple #[.agg #[.int .i64 0, .int .i64 0, .int .i64 0, .int .i64 0, .int .i64 0, .int .i64 0, .slice pd 0 cd, .slice pk 0 ck], .int .i64 14]) ∧ Below w.heap.size w w' := by
  refine (act_c s (by omega) w hE).mono ?_
  rintro e w' ⟨dv, kv, he, hd, hk, hb⟩
  rw [hm] at he hd hk
  obtain ⟨pd, cd, rfl⟩ := own_slice hd
  obtain ⟨pk, ck, rfl⟩ := own_slice hk
  exact ⟨pd, cd, pk, ck, he, hb⟩

theorem act_some (s : ByteArray) (hs : s.size ≤ 4000) (w : World) (hE : Env w) (m : ActM) (hm : actM? s = some m) :
    Calls Tryd.prog 12 #[.string s] w fun e w' => ∃ pd cd pk ck, e = .returned (.tuple #[.agg #[.int .i64 m.kind, .int .i64 m.n, .int .i64 m.rk, .int .i64 m.vol, .int .i64 m.block, .int .i64 m.size, .slice pd m.data.length cd, .slice pk m.keep.length ck], .int .i64 0]) ∧ BytesIn w' (.slice pd m.data.length cd) m.data ∧ IntsIn w' (.slice pk m.keep.length ck) m.keep ∧ Below w.heap.size w w' := by
  refine (act_c s (by omega) w hE).mono ?_
  rintro e w' ⟨dv, kv, he, hd, hk, hb⟩
  rw [hm] at he hd hk
  have b1 := bytes_of_row hd
  have b2 := ints_of_row hk
  obtain ⟨pd, cd, rfl⟩ := own_slice hd
  obtain ⟨pk, ck, rfl⟩ := own_slice hk
  exact ⟨pd, cd, pk, ck, he, b1, b2, hb⟩

theorem same_zero (pd pk : Option Addr) (cd ck : Nat) (W : World) :
    Calls Tryd.prog 13 #[.agg #[.int .i64 0, .int .i64 0, .int .i64 0, .int .i64 0, .int .i64 0, .int .i64 0, .slice pd 0 cd, .slice pk 0 ck], .agg #[.int .i64 0, .int .i64 0, .int .i64 0, .int .i64 0, .int .i64 0, .int .i64 0, .slice none 0 0, .slice none 0 0]] W fun e w' => e = .returned (.bool true) ∧ Below W.heap.size W w' :=
  same_c 0 0 0 0 0 0 (.slice pd 0 cd) (.slice none 0 0) (.slice pk 0 ck) (.slice none 0 0) [] [] W (bytes_nil _ _ _) (bytes_nil _ _ _) (ints_nil _ _ _) (ints_nil _ _ _) (Nat.zero_le _)

theorem line_of (s : ByteArray) (hs : s.size ≤ 4000) (m : ActM) (hm : actM? s = some m) (pd pk : Option Addr) (cd ck : Nat) (W : World) (h1 : BytesIn W (.slice pd m.data.length cd) m.data) (h2 : IntsIn W (.slice pk m.keep.length ck) m.keep) :
    Calls Tryd.prog 11 #[.agg #[.int .i64 m.kind, .int .i64 m.n, .int .i64 m.rk, .int .i64 m.vol, .int .i64 m.block, .int .i64 m.size, .slice pd m.data.length cd, .slice pk m.keep.length ck]] W fun e w' => e = .returned (.tuple #[.string s, .bool true]) ∧ Below W.heap.size W w' := by
  rw [actM_L] at hm
  have hl := line_back _ _ hm
  obtain ⟨ho, hkl⟩ := act_ok _ _ hm
  have hsl : s.data.toList.length = s.size := by rw [Array.length_toList]; rfl
  have h := line_ok m.kind m.n m.rk m.vol m.block m.size (.slice pd m.data.length cd) (.slice pk m.keep.length ck) m.data m.keep W ho.n ho.vol ho.block ho.size ho.keep h1 (by have := ho.data; omega) h2 (by omega) (by show (lineL m).2 = true; rw [hl])
  have e1 : mkB (lineL ⟨m.kind, m.n, m.rk, m.vol, m.block, m.size, m.data, m.keep⟩).1 = s := by
    show mkB (lineL m).1 = s
    rw [hl]
    rfl
  have e2 : (lineL ⟨m.kind, m.n, m.rk, m.vol, m.block, m.size, m.data, m.keep⟩).2 = true := by
    show (lineL m).2 = true
    rw [hl]
  rw [e1, e2] at h
  exact h

set_option maxHeartbeats 4000000 in
set_option maxRecDepth 100000 in
theorem reads_c (s : ByteArray) (w : World) (hE : Env w) : Calls Tryd.prog 4 #[.string s] w fun e w' => e = .returned (.bool true) ∧ Below w.heap.size w w' := by
  have HW : Hid (∀ W, Below w.heap.size w W → Calls Tryd.prog 9 #[] W fun e w' => e = .returned (.bool true) ∧ Below W.heap.size W w') := Lib.hid (fun W h => awake_c W (hE.below h))
  by_cases hs : s.size ≤ 4000
  · have hl : ¬ (4000 : Int) < (s.size : Int) := by omega
    cases hm : actM? s with
    | none =>
      have ka := act_none s hs w hE hm
      have KS := Lib.hid same_zero
      clear hE hm
      go_enter Tryd.func4, Tryd.ntmps4
      go_wp2_with (first
        | (go_at_call 12; (with_reducible refine ka.mono ?_); rintro e w1 ⟨pd, cd, pk, ck, rfl, hb⟩; have B1 := Lib.hid hb; have Q1 : Hid ((w1.alloc (.cells #[.int .i64 0, .int .i64 0, .int .i64 0, .int .i64 0, .int .i64 0, .int .i64 0, .slice pd 0 cd, .slice pk 0 ck] 27)).heap[w1.heap.size]? = _) := Lib.hid (blk_new _ _ _); clear hb)
        | (go_at_call 9; (with_reducible refine (HW.out _ (by exact B1.out.alloc B1.out.size _)).mono ?_); rintro e w2 ⟨rfl, hb⟩; have B2 := Lib.hid ((B1.out.alloc B1.out.size _).trans (hb.mono (by rw [sz_alloc]; exact Nat.le_succ_of_le B1.out.size))); obtain ⟨⟨c0, c1, c2, c3, c4, c5, c6, c7⟩, _, _, _, _, _, _, _, _⟩ := cells8 (blk_below Q1.out hb (by rw [sz_alloc]; exact Nat.lt_succ_self _)); clear hb)
        | (go_at_call 13; (with_reducible refine (KS.out _ _ _ _ _).mono ?_); rintro e w3 ⟨rfl, hb⟩; have B3 := Lib.hid (B2.out.trans (hb.mono B2.out.size)); clear hb))
      go_ret
      exact ⟨rfl, B3.out⟩
    | some m =>
      have ka := act_some s hs w hE m hm
      have KL := Lib.hid (line_of s hs m hm)
      clear hE hm
      go_enter Tryd.func4, Tryd.ntmps4
      go_wp2_with (first
        | (go_at_call 12; (with_reducible refine ka.mono ?_); rintro e w1 ⟨pd, cd, pk, ck, rfl, hd, hk, hb⟩; have B1 := Lib.hid hb; have D1 := Lib.hid hd; have K1 := Lib.hid hk; clear hb hd hk)
        | (go_at_call 11; (with_reducible refine (KL.out _ _ _ _ _ (by exact D1.out.below ((Below.refl _ _).alloc (Nat.le_refl _) _)) (by exact K1.out.below ((Below.refl _ _).alloc (Nat.le_refl _) _))).mono ?_); rintro e w2 ⟨rfl, hb⟩; have B2 := Lib.hid ((B1.out.alloc B1.out.size _).trans (hb.mono (by rw [sz_alloc]; exact Nat.le_succ_of_le B1.out.size))); clear hb)
        | (go_at_call 9; (with_reducible refine (HW.out _ B2.out).mono ?_); rintro e w3 ⟨rfl, hb⟩; have B3 := Lib.hid (B2.out.trans (hb.mono B2.out.size)); clear hb))
      go_ret
      exact ⟨rfl, B3.out⟩
  · have hl : (4000 : Int) < (s.size : Int) := by omega
    clear hE
    go_enter Tryd.func4, Tryd.ntmps4
    go_wp2_with (go_at_call 9; (with_reducible refine (HW.out _ (Below.refl _ _)).mono ?_); rintro e w3 ⟨rfl, hb⟩)
    go_ret
    exact ⟨rfl, hb⟩

end Go.Proofs.YtbnbnccpoeopmaaDoor.Sw
