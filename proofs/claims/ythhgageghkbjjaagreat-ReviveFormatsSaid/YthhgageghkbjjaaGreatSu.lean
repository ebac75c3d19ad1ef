/- What a formatted device holds (plain law). -/
import Derived.Test.YthhgageghkbjjaaGreatSt
namespace Go.Proofs.YthhgageghkbjjaaGreat.Su
open Go.RowKit Go.Proofs.YthhgageghkbjjaaGreat.Ra Go.Proofs.YthhgageghkbjjaaGreat.Rc Go.Proofs.YthhgageghkbjjaaGreat.Re Go.Proofs.YthhgageghkbjjaaGreat.Rf Go.Proofs.YthhgageghkbjjaaGreat.Rg Go.Proofs.YthhgageghkbjjaaGreat.Rh Go.Proofs.YthhgageghkbjjaaGreat.Ri Go.Proofs.YthhgageghkbjjaaGreat.Rj Go.Proofs.YthhgageghkbjjaaGreat.Rk Go.Proofs.YthhgageghkbjjaaGreat.Rl Go.Proofs.YthhgageghkbjjaaGreat.Sf Go.Proofs.YthhgageghkbjjaaGreat.Sg Go.Proofs.YthhgageghkbjjaaGreat.Sj Go.Proofs.YthhgageghkbjjaaGreat.Sq Go.Proofs.YthhgageghkbjjaaGreat.Ss Go.Proofs.YthhgageghkbjjaaGreat.St
set_option maxRecDepth 8000

theorem splice_get (l : List UInt8) (o : Nat) (x : List UInt8) (h : o + x.length ≤ l.length) (m : Nat) : (Ri.splice l o x)[m]? = if m < o then l[m]? else if m < o + x.length then x[m - o]? else l[m]? := by
  unfold Ri.splice
  rw [List.append_assoc, List.getElem?_append, List.length_take, Nat.min_eq_left (by omega)]
  by_cases h1 : m < o
  · rw [if_pos h1, if_pos h1, List.getElem?_take, if_pos h1]
  · rw [if_neg h1, if_neg h1, List.getElem?_append]
    by_cases h2 : m < o + x.length
    · rw [if_pos h2, if_pos (by omega)]
    · rw [if_neg h2, if_neg (by omega), List.getElem?_drop]
      congr 1
      omega
theorem secL_get (l : List UInt8) (j k : Nat) : (secL l j)[k]? = if k < 64 then l[j * 64 + k]? else none := by
  unfold secL
  rw [List.getElem?_take]
  split
  · rw [List.getElem?_drop]
  · rfl
theorem secL_put (l : List UInt8) (i j : Nat) (x : List UInt8) (hx : x.length = 64) (hi : (i + 1) * 64 ≤ l.length) : secL (Ri.splice l (i * 64) x) j = if j = i then x else secL l j := by
  apply List.ext_getElem?
  intro k
  rw [secL_get, splice_get _ _ _ (by omega)]
  by_cases hk : k < 64
  · rw [if_pos hk]
    by_cases hj : j = i
    · subst hj
      rw [if_neg (by omega), if_pos (by omega), if_pos rfl]
      congr 1
      omega
    · rw [if_neg hj, secL_get, if_pos hk]
      rcases Nat.lt_or_gt_of_ne hj with h | h
      · have : (j + 1) * 64 ≤ i * 64 := Nat.mul_le_mul_right _ h
        rw [if_pos (by omega)]
      · have : (i + 1) * 64 ≤ j * 64 := Nat.mul_le_mul_right _ h
        rw [if_neg (by omega), if_neg (by omega)]
  · rw [if_neg hk]
    by_cases hj : j = i
    · rw [if_pos hj, List.getElem?_eq_none (by omega)]
    · rw [if_neg hj, secL_get, if_neg hk]

/-- Its sectors are all there. -/
def Whole (d : Dev) : Prop := d.now.length = d.n * 64
theorem sec_one {d : Dev} (h : Whole d) (i : Nat) (v : Value) (l : List UInt8) (hl : l.length = 64) (hi : i < d.n) (j : Nat) : secL (putAll d [⟨(i : Int), v, l⟩]).now j = if j = i then l else secL d.now j :=
  secL_put d.now i j l hl (by rw [h]; exact Nat.mul_le_mul_right _ hi)
theorem whole_one {d : Dev} (h : Whole d) (i : Nat) (v : Value) (l : List UInt8) (hl : l.length = 64) (hi : i < d.n) : Whole (putAll d [⟨(i : Int), v, l⟩]) := by
  show (Ri.splice d.now (i * 64) l).length = d.n * 64
  have := Nat.mul_le_mul_right 64 (show i + 1 ≤ d.n from hi)
  rw [splice_len _ _ _ (by rw [h, hl]; omega)]
  exact h
theorem z64_len : z64.length = 64 := List.length_replicate
theorem sec_wz {d : Dev} (h : Whole d) (i : Nat) (hi : i < d.n) (j : Nat) : secL (putAll d [wz i]).now j = if j = i then z64 else secL d.now j := sec_one h i _ z64 z64_len hi j
theorem whole_wz {d : Dev} (h : Whole d) (i : Nat) (hi : i < d.n) : Whole (putAll d [wz i]) := whole_one h i _ z64 z64_len hi
theorem putAll_two (d : Dev) (x y : Wr) : putAll d [x, y] = putAll (putAll d [x]) [y] := rfl
theorem fmt0_now (d : Dev) : (fmtK d 0).now = (putAll (putAll d [wz 0]) [wz 12]).now := rfl
theorem fmtK_succ (d : Dev) (k : Nat) : fmtK d (k + 1) = putAll (fmtK d k) [wz (24 + k)] := rfl
theorem fmtK_whole {d : Dev} (h : Whole d) (hn : 40 ≤ d.n) : ∀ k, k ≤ 16 → Whole (fmtK d k)
  | 0, _ => by
    have h1 := whole_wz (whole_wz h 0 (by omega)) 12 (by rw [putAll_n]; omega)
    unfold Whole at h1 ⊢
    rw [fmt0_now, h1, putAll_n, putAll_n, fmtK_n]
  | k + 1, hk => by
    rw [fmtK_succ]
    exact whole_wz (fmtK_whole h hn k (by omega)) (24 + k) (by rw [fmtK_n]; omega)
theorem fmt_0 {d : Dev} (h : Whole d) (hn : 40 ≤ d.n) : ∀ k, k ≤ 16 → secL (fmtK d k).now 0 = z64
  | 0, _ => by
    rw [fmt0_now, sec_wz (whole_wz h 0 (by omega)) 12 (by rw [putAll_n]; omega), if_neg (by decide), sec_wz h 0 (by omega), if_pos rfl]
  | k + 1, hk => by
    rw [fmtK_succ, sec_wz (fmtK_whole h hn k (by omega)) (24 + k) (by rw [fmtK_n]; omega), if_neg (by omega), fmt_0 h hn k (by omega)]
theorem fmt_24 {d : Dev} (h : Whole d) (hn : 40 ≤ d.n) : ∀ k, k + 1 ≤ 16 → secL (fmtK d (k + 1)).now 24 = z64
  | 0, _ => by
    rw [fmtK_succ, sec_wz (fmtK_whole h hn 0 (by omega)) (24 + 0) (by rw [fmtK_n]; omega), if_pos rfl]
  | k + 1, hk => by
    rw [fmtK_succ, sec_wz (fmtK_whole h hn (k + 1) (by omega)) (24 + (k + 1)) (by rw [fmtK_n]; omega), if_neg (by omega), fmt_24 h hn k (by omega)]

theorem two_now (d : Dev) (a b : Int) (v u : Value) (l m : List UInt8) : (flushed (putAll (flushed (putAll d [⟨a, v, l⟩])) [⟨b, u, m⟩])).now = (putAll (putAll d [⟨a, v, l⟩]) [⟨b, u, m⟩]).now := rfl
theorem saved_sec {d : Dev} (h : Whole d) (hn : 40 ≤ d.n) (s b : Int) (j : Nat) : secL (savedDev s b d).now j = if j = 12 then closeL (headL s b) else if j = 13 then closeL leafL else secL d.now j := by
  unfold savedDev
  have hl := leaf_len
  have hh := headc_len s b
  generalize closeL leafL = l at *
  generalize closeL (headL s b) = m at *
  have h1 := whole_one h 13 (.slice none 0 0) l hl (by omega)
  have h2 := sec_one h1 12 (.slice none 0 0) m hh (by rw [putAll_n]; omega) j
  rw [sec_one h 13 (.slice none 0 0) l hl (by omega) j] at h2
  rw [two_now]
  exact h2

theorem saved_n (s b : Int) (d : Dev) : (savedDev s b d).n = d.n := rfl
theorem saved_on {d : Dev} (h : OnDev d) (s b : Int) : OnDev (savedDev s b d) := ⟨h.off, h.after⟩
theorem formed {d : Dev} (h : Whole d) (hd : OnDev d) (hn : 40 ≤ d.n) (s b : Int) : Formed s b (savedDev s b (fmtK d 16)) := by
  have hw := fmtK_whole h hn 16 (by omega)
  have hn' : 40 ≤ (fmtK d 16).n := by rw [fmtK_n]; exact hn
  have hz : z64 = List.replicate 64 0 := rfl
  refine ⟨(saved_on (fmtK_on hd 16) s b).off, by rw [saved_n]; exact hn', ?_, ?_, ?_, ?_⟩
  · rw [saved_sec hw hn', if_neg (by decide), if_neg (by decide), fmt_0 h hn 16 (by omega), hz]
  · rw [saved_sec hw hn', if_pos rfl]
  · rw [saved_sec hw hn', if_neg (by decide), if_pos rfl]
  · rw [saved_sec hw hn', if_neg (by decide), if_neg (by decide), fmt_24 h hn 15 (by omega), hz]
end Go.Proofs.YthhgageghkbjjaaGreat.Su
