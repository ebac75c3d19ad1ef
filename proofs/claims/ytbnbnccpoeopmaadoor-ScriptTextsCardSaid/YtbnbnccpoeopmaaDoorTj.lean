/- The plain law of texts: the acts of the text of acts that have lines. -/
import Derived.Test.YtbnbnccpoeopmaaDoorTi
import Derived.Test.YtbnbnccpoeopmaaDoorSz
namespace Go.Proofs.YtbnbnccpoeopmaaDoor.Tj
open Go.RowKit Go.Proofs.YtbnbnccpoeopmaaDoor.Sa Go.Proofs.YtbnbnccpoeopmaaDoor.Sb Go.Proofs.YtbnbnccpoeopmaaDoor.Sd Go.Proofs.YtbnbnccpoeopmaaDoor.Se Go.Proofs.YtbnbnccpoeopmaaDoor.Sf Go.Proofs.YtbnbnccpoeopmaaDoor.Sg Go.Proofs.YtbnbnccpoeopmaaDoor.Sh Go.Proofs.YtbnbnccpoeopmaaDoor.Sj Go.Proofs.YtbnbnccpoeopmaaDoor.Sk Go.Proofs.YtbnbnccpoeopmaaDoor.Sl Go.Proofs.YtbnbnccpoeopmaaDoor.Sp Go.Proofs.YtbnbnccpoeopmaaDoor.Sq Go.Proofs.YtbnbnccpoeopmaaDoor.Sr Go.Proofs.YtbnbnccpoeopmaaDoor.Su Go.Proofs.YtbnbnccpoeopmaaDoor.Sv Go.Proofs.YtbnbnccpoeopmaaDoor.Sw Go.Proofs.YtbnbnccpoeopmaaDoor.Sx Go.Proofs.YtbnbnccpoeopmaaDoor.Sy Go.Proofs.YtbnbnccpoeopmaaDoor.Sz Go.Proofs.YtbnbnccpoeopmaaDoor.Tc Go.Proofs.YtbnbnccpoeopmaaDoor.Td Go.Proofs.YtbnbnccpoeopmaaDoor.Te Go.Proofs.YtbnbnccpoeopmaaDoor.Tf Go.Proofs.YtbnbnccpoeopmaaDoor.Tg Go.Proofs.YtbnbnccpoeopmaaDoor.Th Go.Proofs.YtbnbnccpoeopmaaDoor.Ti

theorem itoa_no10 (n : Int) : (10 : UInt8) ∉ Lib.itoa n := fun h => by
  have := itoa_mem n 10 h
  revert this
  decide
theorem sp_no10 (n : Int) : (10 : UInt8) ∉ sp n := by
  unfold sp
  intro h
  rcases List.mem_cons.1 h with h | h
  · revert h; decide
  · exact itoa_no10 n h
theorem digit_no10 : ∀ n : Fin 16, digit n.val ≠ 10 := by decide +kernel
theorem hex_no10 (d : List UInt8) : (10 : UInt8) ∉ 120 :: hexOf d := by
  intro h
  rcases List.mem_cons.1 h with h | h
  · revert h
    decide
  · unfold hexOf at h
    obtain ⟨c, _, hc⟩ := List.mem_flatMap.1 h
    have hl := c.toNat_lt
    simp only [List.mem_cons, List.mem_nil_iff, or_false] at hc
    rcases hc with hc | hc
    · exact digit_no10 ⟨c.toNat / 16, by omega⟩ hc.symm
    · exact digit_no10 ⟨c.toNat % 16, by omega⟩ hc.symm
theorem no10_app {a b : List UInt8} (h1 : (10 : UInt8) ∉ a) (h2 : (10 : UInt8) ∉ b) : (10 : UInt8) ∉ a ++ b := fun h => (List.mem_append.1 h).elim h1 h2
theorem keep_no10 (l : List Int) : (10 : UInt8) ∉ keepL l := by
  unfold keepL
  intro h
  obtain ⟨x, _, hx⟩ := List.mem_flatMap.1 h
  exact sp_no10 x hx
theorem req_no10 (rk vol block size : Int) (la : List UInt8) : (10 : UInt8) ∉ (reqL rk vol block size la).1 := by
  have n1 := sp_no10 vol
  have n2 := sp_no10 block
  have n3 := sp_no10 size
  have n4 := hex_no10 la
  unfold reqL
  repeat' split
  all_goals first | decide | skip
  all_goals (try simp only)
  all_goals repeat' (first | assumption | exact (by decide) | refine no10_app ?_ ?_)
theorem line_no10 (m : ActM) : (10 : UInt8) ∉ (lineL m).1 := by
  have n1 := itoa_no10 m.n
  have n2 := itoa_no10 m.block
  have n3 := itoa_no10 m.size
  have n4 := keep_no10 m.keep
  have n5 := req_no10 m.rk m.vol m.block m.size m.data
  unfold lineL laterB
  repeat' split
  all_goals first | decide | skip
  all_goals (try simp only)
  all_goals repeat' (first | assumption | exact (by decide) | refine no10_app ?_ ?_)

theorem cut_line (a b : List UInt8) (h : (10 : UInt8) ∉ a) : cutL (a ++ ([10] ++ b)) = (a, b, true) := by
  rw [cutL_pre a _ h]
  have e : cutL ([10] ++ b) = ([], b, true) := by
    show cutL (10 :: b) = _
    rw [cutL, if_pos rfl]
  rw [e, List.append_nil]

theorem fin_text : ∀ (ms : List ActM) (g cnt : Nat) (acc : List ActM), (∀ m ∈ ms, NumsOk m) → goodL ms = true → ms.length < g → fin g (textL ms) cnt acc = (some (acc ++ ms), 0)
  | [], g, cnt, acc, _, _, hg => by
    obtain ⟨k, rfl⟩ : ∃ k, g = k + 1 := ⟨g - 1, by simp at hg; omega⟩
    rw [fin, if_pos (show textL [] = [] from rfl), List.append_nil]
  | m :: ms, g, cnt, acc, hok, hgd, hg => by
    obtain ⟨k, rfl⟩ : ∃ k, g = k + 1 := ⟨g - 1, by simp at hg; omega⟩
    have hm : (lineL m).2 = true ∧ goodL ms = true := by
      unfold goodL at *
      rw [List.all_cons, Bool.and_eq_true] at hgd
      exact hgd
    have e : textL (m :: ms) = (lineL m).1 ++ ([10] ++ textL ms) := by
      unfold textL
      rw [List.flatMap_cons, List.append_assoc]
    have hc : cutL (textL (m :: ms)) = ((lineL m).1, textL ms, true) := by rw [e, cut_line _ _ (line_no10 m)]
    have hne : textL (m :: ms) ≠ [] := by
      rw [e]
      simp
    rw [fin, if_neg hne, hc]
    simp only [line_forth m (hok m (List.mem_cons_self ..)) hm.1]
    rw [fin_text ms k (cnt + 1) (acc ++ [m]) (fun x hx => hok x (List.mem_cons_of_mem _ hx)) hm.2 (by rw [List.length_cons] at hg; omega), List.append_assoc]
    rfl

theorem textL_ge (ms : List ActM) : ms.length ≤ (textL ms).length := by
  induction ms with
  | nil => exact Nat.zero_le _
  | cons m ms ih =>
    unfold textL at *
    rw [List.flatMap_cons, List.length_append, List.length_append, List.length_cons]
    show _ ≤ _ + 1 + _
    omega

end Go.Proofs.YtbnbnccpoeopmaaDoor.Tj
