/- Encode's header is a good header (plain law). -/
import Derived.Test.YthhgageghkbjjaaGreatSi
namespace Go.Proofs.YthhgageghkbjjaaGreat.Sj
open Go.RowKit Go.Proofs.YthhgageghkbjjaaGreat.Ra Go.Proofs.YthhgageghkbjjaaGreat.Rb Go.Proofs.YthhgageghkbjjaaGreat.Rc Go.Proofs.YthhgageghkbjjaaGreat.Rd Go.Proofs.YthhgageghkbjjaaGreat.Re Go.Proofs.YthhgageghkbjjaaGreat.Rl Go.Proofs.YthhgageghkbjjaaGreat.Sf Go.Proofs.YthhgageghkbjjaaGreat.Sg Go.Proofs.YthhgageghkbjjaaGreat.Si
set_option maxRecDepth 8000

theorem take60 (x : List UInt8) (h : x.length ≤ 60) : (closeL x).take 60 = padL x := by
  unfold closeL
  exact List.take_left' (padL_len x h)
theorem pad_pad (x : List UInt8) (h : x.length ≤ 60) : padL (padL x) = padL x := by
  have := padL_len x h
  show padL x ++ List.replicate (60 - (padL x).length) 0 = padL x
  rw [this]
  simp
theorem close_shut (x : List UInt8) (h : x.length ≤ 60) : closeL ((closeL x).take 60) = closeL x := by
  rw [take60 x h]
  show padL (padL x) ++ sum4 (sumL (padL (padL x))) = _
  rw [pad_pad x h]
  rfl
/-- One byte. -/
def by1 (x : Int) : UInt8 := UInt8.ofNat x.toNat
theorem by1_nat (x : Int) (h : 0 ≤ x ∧ x < 256) : ((by1 x).toNat : Int) = x := by
  unfold by1
  rw [UInt8.toNat_ofNat']
  omega

theorem headL_is (s b : Int) : ∃ t, headL s b = 83 :: 76 :: 65 :: 84 :: 0 :: 0 :: 0 :: 1 :: by1 s :: by1 b :: 1 :: 0 :: 16 :: t := by
  refine ⟨rowL 4 [sumL (List.replicate 16 0)], ?_⟩
  have e1 : rowL 4 [1] = [0, 0, 0, 1] := by decide
  have e2 : rowL 2 [16] = [0, 16] := by decide
  have e3 : rowL 1 [s, b, 1] = [by1 s, by1 b, 1] := by
    unfold rowL
    simp only [List.flatMap_cons, List.flatMap_nil, beL, Int.pow_zero, Int.ediv_one, List.cons_append, List.nil_append]
    rfl
  unfold headL head9 head7 head4 slatL
  rw [e1, e2, e3]
  rfl

theorem head_good (s b : Int) (hm : MayP s b) : Head s b (closeL (headL s b)) := by
  have hl : (headL s b).length ≤ 60 := by rw [headL_len]; decide
  obtain ⟨h1, h2, h3, h4⟩ := hm
  have hs := by1_nat s ⟨by omega, by omega⟩
  have hb := by1_nat b ⟨by omega, by omega⟩
  obtain ⟨t, ht⟩ := headL_is s b
  have hp : padL (headL s b) = 83 :: 76 :: 65 :: 84 :: 0 :: 0 :: 0 :: 1 :: by1 s :: by1 b :: 1 :: 0 :: 16 :: (t ++ List.replicate (60 - (headL s b).length) 0) := by
    unfold padL
    conv => lhs; arg 1; rw [ht]
    rfl
  refine ⟨closeL_len _ hl, close_shut _ hl, ?_, ?_, ?_, ?_, ?_, ?_⟩ <;> rw [take60 _ hl, hp]
  · rfl
  · rfl
  · show 0 * 256 + ((by1 s).toNat : Int) = s
    omega
  · show 0 * 256 + ((by1 b).toNat : Int) = b
    omega
  · rfl
  · rfl

theorem leaf_shut : closeL ((closeL leafL).take 60) = closeL leafL := close_shut _ (by decide)
theorem leaf_60 : (closeL leafL).take 60 = padL leafL := take60 _ (by decide)
theorem leaf_len : (closeL leafL).length = 64 := closeL_len _ (by decide)
theorem headc_len (s b : Int) : (closeL (headL s b)).length = 64 := closeL_len _ (by rw [headL_len]; decide)
end Go.Proofs.YthhgageghkbjjaaGreat.Sj
