/- A request that is read as data. -/
import Derived.Test.YtjohhjdicbeojaaGreatDoorZaj
import Derived.ProofKit
namespace Go.Proofs.YtjohhjdicbeojaaGreatDoor.Wf
open Go.RowKit Go.ChangeShapes Go.WideShapes Go.Proofs.YtjohhjdicbeojaaGreatDoor.KTg
open Go.Proofs.YtjohhjdicbeojaaGreatDoor.KSg (ActM)
open Go.Proofs.YtjohhjdicbeojaaGreatDoor.KSu (mkB I64)
section
variable {H : Type} {enc : TypeId × Value → H} {w : World} {base : Nat} {spare : Nat → Bool} {held : Bool}
theorem i0 : I64 0 := ⟨by decide, by decide⟩
set_option maxRecDepth 100000 in
theorem open_req {fuel : Nat} {cs : List Value} {x : DataW H × List MemPlace} (h : DataW.trod enc Tryz.prog w base spare held fuel 24 cs = some x) :
    ∃ rk v b s p l c, ∃ la : List UInt8, cs = [.int .i64 rk, .int .i64 v, .int .i64 b, .int .i64 s, .slice p l c] ∧ la.length = l ∧ ActIn w ⟨5, 0, rk, v, b, s, la, []⟩ (.slice p l c) (.slice none 0 0) := by
  obtain ⟨zs, n2, _, _, hl, hlen2, hf2⟩ := DataW.trod_struct Tryz.underlying24 h
  have c24 : Tryz.prog.cellsOf 24 = 5 := by kernel_rfl
  have c3 : Tryz.prog.cellsOf 3 = 1 := by kernel_rfl
  have c22 : Tryz.prog.cellsOf 22 = 1 := by kernel_rfl
  rw [c24] at hl
  match cs, hl, zs, hlen2 with
  | [u2, u3, u4, u5, u6], _, [z0, z1, z2, z3, z4], _ =>
    have k0 : DataW.trod enc Tryz.prog w base spare held n2 3 [u2] = some z0 := by
      have g := hf2 0 _ rfl
      simpa [c3] using g
    have k1 : DataW.trod enc Tryz.prog w base spare held n2 3 [u3] = some z1 := by
      have g := hf2 1 _ rfl
      simpa [c3] using g
    have k2 : DataW.trod enc Tryz.prog w base spare held n2 3 [u4] = some z2 := by
      have g := hf2 2 _ rfl
      simpa [c3] using g
    have k3 : DataW.trod enc Tryz.prog w base spare held n2 3 [u5] = some z3 := by
      have g := hf2 3 _ rfl
      simpa [c3] using g
    have k4 : DataW.trod enc Tryz.prog w base spare held n2 22 [u6] = some z4 := by
      have g := hf2 4 _ rfl
      simpa [c22] using g
    obtain ⟨rk, rfl, _⟩ := open_one k0
    obtain ⟨vol, rfl, hv⟩ := open_one k1
    obtain ⟨block, rfl, hb⟩ := open_one k2
    obtain ⟨size, rfl, hd⟩ := open_one k3
    obtain ⟨la, ha, _⟩ := open_bytesIn k4
    have ha2 := ha
    obtain ⟨p, c, rfl, -⟩ := ha2
    exact ⟨rk, vol, block, size, p, la.length, c, la, rfl, rfl, i0, hv, hb, hd, (fun x hx => by cases hx), ha, ⟨none, 0, rfl, fun h => absurd rfl h⟩⟩
theorem open_keep {fuel : Nat} {v : Value} {x : DataW H × List MemPlace} (h : DataW.trod enc Tryz.prog w base spare held fuel 25 [v] = some x) :
    ∃ p l c, ∃ lk : List Int, v = .slice p l c ∧ lk.length = l ∧ ActIn w ⟨7, 0, 0, 0, 0, 0, [], lk⟩ (.slice none 0 0) (.slice p l c) := by
  obtain ⟨lk, hk, _, hi⟩ := open_intsIn h
  have hk2 := hk
  obtain ⟨p, c, rfl, -⟩ := hk2
  exact ⟨p, lk.length, c, lk, rfl, rfl, i0, i0, i0, i0, hi, ⟨none, 0, rfl, fun h => absurd rfl h⟩, hk⟩
end
end Go.Proofs.YtjohhjdicbeojaaGreatDoor.Wf
