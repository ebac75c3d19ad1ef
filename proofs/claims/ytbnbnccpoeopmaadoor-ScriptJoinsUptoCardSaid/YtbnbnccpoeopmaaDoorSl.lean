/- The plain law of ScriptNumbers, and its walk. -/
import Derived.Test.YtbnbnccpoeopmaaDoorSk
import Derived.Test.YtbnbnccpoeopmaaDoorSc
import Derived.Outline
namespace Go.Proofs.YtbnbnccpoeopmaaDoor.Sl
open Go.RowKit Go.Proofs.YtbnbnccpoeopmaaDoor.Sa Go.Proofs.YtbnbnccpoeopmaaDoor.Sb Go.Proofs.YtbnbnccpoeopmaaDoor.Sc Go.Proofs.YtbnbnccpoeopmaaDoor.Sd Go.Proofs.YtbnbnccpoeopmaaDoor.Se Go.Proofs.YtbnbnccpoeopmaaDoor.Sf Go.Proofs.YtbnbnccpoeopmaaDoor.Sg Go.Proofs.YtbnbnccpoeopmaaDoor.Sj Go.Proofs.YtbnbnccpoeopmaaDoor.Sk

theorem act_fail1 (t : List UInt8) (h : 32 ∉ t) : actL ([102, 97, 105, 108] ++ 32 :: t) = if numL t then some ⟨6, atoiN t, 0, 0, 0, 0, [], []⟩ else none := by
  have h1 : wordsL ([102, 97, 105, 108] ++ 32 :: t) = [[102, 97, 105, 108], t] := by rw [wordsL_head _ _ (by decide), wordsL_one t h]
  have h2 : actL ([102, 97, 105, 108] ++ 32 :: t) = actTailL (formAt 3) 6 [t] := by
    unfold actL
    rw [h1]
    rfl
  rw [h2]
  unfold actTailL
  rw [show okPartsL (formAt 3) [t].length = true from rfl, if_pos rfl]
  have s1 : ∀ a, partStepL (Sg.partAt (formAt 3).parts 0) t a = ({ a with n := atoiN t }, numL t) := fun a => rfl
  simp only [actLoopL, s1]
  cases numL t <;> rfl

theorem act_fail2 (t u : List UInt8) (h : 32 ∉ t) : actL ([102, 97, 105, 108] ++ 32 :: (t ++ 32 :: u)) = none := by
  have h1 : wordsL ([102, 97, 105, 108] ++ 32 :: (t ++ 32 :: u)) = [102, 97, 105, 108] :: t :: wordsL u := by rw [wordsL_head _ _ (by decide), wordsL_head t u h]
  have h2 : actL ([102, 97, 105, 108] ++ 32 :: (t ++ 32 :: u)) = actTailL (formAt 3) 6 (t :: wordsL u) := by
    unfold actL
    rw [h1]
    rfl
  rw [h2]
  unfold actTailL
  have h3 : okPartsL (formAt 3) (t :: wordsL u).length = false := by
    have hne := wordsL_ne u
    cases hw : wordsL u with
    | nil => exact absurd hw hne
    | cons a b => 
      show (false || ((t :: a :: b).length == 1)) = false
      simp
  rw [h3]
  rfl

theorem itoa_no32 (n : Int) : (32 : UInt8) ∉ Lib.itoa n := fun h => by
  have := itoa_mem n 32 h
  revert this
  decide

theorem cat_list (a b : ByteArray) : (a ++ b).data.toList = a.data.toList ++ b.data.toList := by rw [ByteArray.data_append, Array.toList_append]

/-- What Act answers: its code. -/
def codeOf (s : ByteArray) : Int := if (actM? s).isSome then 0 else 14

def failB : ByteArray := ⟨#[102, 97, 105, 108, 32]⟩
def numS (n : Int) : ByteArray := ⟨(Lib.itoa n).toArray⟩

theorem fail_list (n : Int) (x : ByteArray) : (failB ++ numS n ++ x).data.toList = [102, 97, 105, 108] ++ 32 :: (Lib.itoa n ++ x.data.toList) := by
  rw [cat_list, cat_list]
  rfl

theorem code_a (n : Int) (h0 : -9223372036854775808 ≤ n) (h1 : n ≤ 9223372036854775807) : actM? (failB ++ numS n) = some ⟨6, n, 0, 0, 0, 0, [], []⟩ := by
  rw [actM_L, cat_list]
  show actL ([102, 97, 105, 108] ++ 32 :: Lib.itoa n) = _
  rw [act_fail1 _ (itoa_no32 n), (atoiN_itoa n h0 h1).1, (atoiN_itoa n h0 h1).2, if_pos rfl]

theorem code_sp (n : Int) (x : ByteArray) (u : List UInt8) (hx : x.data.toList = 32 :: u) : codeOf (failB ++ numS n ++ x) = 14 := by
  unfold codeOf
  rw [actM_L, fail_list, hx, act_fail2 _ _ (itoa_no32 n)]
  rfl

theorem code_end (n : Int) (x : ByteArray) (c : UInt8) (hx : x.data.toList = [c]) (h32 : c ≠ 32) (hc : ¬ (48 ≤ c.toNat ∧ c.toNat ≤ 57)) : codeOf (failB ++ numS n ++ x) = 14 := by
  unfold codeOf
  have h2 : (32 : UInt8) ∉ Lib.itoa n ++ [c] := fun h => by
    rcases List.mem_append.1 h with h | h
    · exact itoa_no32 n h
    · exact h32 (List.mem_singleton.1 h).symm
  rw [actM_L, fail_list, hx, act_fail1 _ h2]
  have hn : numL (Lib.itoa n ++ [c]) = false := by
    cases hb : numL (Lib.itoa n ++ [c]) with
    | false => rfl
    | true => exact absurd (itoa_last _ _ _ (numL_itoa hb).symm) hc
  rw [hn]
  rfl

theorem code_zero (n : Int) (x : ByteArray) (hx : x.data.toList = [48]) : (codeOf (failB ++ numS n ++ x) = 0 ∨ codeOf (failB ++ numS n ++ x) = 14) ∧ (n ≠ 0 → n < 576460752303423488 → -576460752303423488 < n → codeOf (failB ++ numS n ++ x) = 0) := by
  unfold codeOf
  have h2 : (32 : UInt8) ∉ Lib.itoa n ++ [48] := fun h => by
    rcases List.mem_append.1 h with h | h
    · exact itoa_no32 n h
    · revert h
      decide
  rw [actM_L, fail_list, hx, act_fail1 _ h2]
  constructor
  · cases numL (Lib.itoa n ++ [48])
    · exact Or.inr rfl
    · exact Or.inl rfl
  · intro hn hl hg
    have := (atoiN_itoa (10 * n) (by omega) (by omega)).2
    rw [itoa_ten n hn] at this
    rw [this]
    rfl

theorem code_lead (n : Int) (x : ByteArray) (c : UInt8) (hx : x.data.toList = [102, 97, 105, 108, 32, c]) (hc : c = 48 ∨ c = 43) : codeOf (x ++ numS n) = 14 := by
  unfold codeOf
  have e : (x ++ numS n).data.toList = [102, 97, 105, 108] ++ 32 :: (c :: Lib.itoa n) := by
    rw [cat_list, hx]
    rfl
  have h2 : (32 : UInt8) ∉ c :: Lib.itoa n := fun h => by
    rcases List.mem_cons.1 h with h | h
    · rcases hc with e | e <;> rw [e] at h <;> revert h <;> decide
    · exact itoa_no32 n h
  rw [actM_L, e, act_fail1 _ h2]
  have hn : numL (c :: Lib.itoa n) = false := by
    cases hb : numL (c :: Lib.itoa n) with
    | false => rfl
    | true =>
      have h3 := numL_itoa hb
      rcases hc with e | e
      · subst e
        exact absurd (itoa_zero h3.symm) (itoa_ne n)
      · subst e
        exact absurd h3.symm itoa_plus
  rw [hn]
  rfl

theorem numS_size (n : Int) (h0 : -9223372036854775808 ≤ n) (h1 : n ≤ 9223372036854775807) : (numS n).size ≤ 64 := by
  have h : (numS n).size = (Lib.itoa n).length := by
    show (Lib.itoa n).toArray.size = _
    simp
  rw [h]
  rcases itoa_cases n with ⟨u, rfl, hi⟩ | ⟨u, hu, rfl, hi⟩ <;> rw [hi]
  · have := dec_len u (by omega)
    omega
  · have := dec_len u (by omega)
    rw [List.length_cons]
    omega

/-- Act's answer, written out. -/
theorem act_r (s : ByteArray) (hs : s.size ≤ 1024) (w : World) (hE : Env w) :
    Calls Tryd.prog 12 #[.string s] w fun e w' => ∃ pd nd cd pk nk ck, e = .returned (.tuple #[.agg #[.int .i64 ((actM? s).getD zeroM).kind, .int .i64 ((actM? s).getD zeroM).n, .int .i64 ((actM? s).getD zeroM).rk, .int .i64 ((actM? s).getD zeroM).vol, .int .i64 ((actM? s).getD zeroM).block, .int .i64 ((actM? s).getD zeroM).size, .slice pd nd cd, .slice pk nk ck], .int .i64 (codeOf s)]) ∧ Below w.heap.size w w' := by
  refine (act_c s (by omega) w hE).mono ?_
  rintro e w' ⟨dv, kv, he, hd, hk, hb⟩
  obtain ⟨pd, cd, rfl⟩ := own_slice hd
  obtain ⟨pk, ck, rfl⟩ := own_slice hk
  exact ⟨pd, _, cd, pk, _, ck, he, hb⟩

end Go.Proofs.YtbnbnccpoeopmaaDoor.Sl
