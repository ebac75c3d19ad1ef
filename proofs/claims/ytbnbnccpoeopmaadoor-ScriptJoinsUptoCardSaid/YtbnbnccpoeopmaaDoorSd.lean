/- The walk of unhex. -/
import Derived.Test.YtbnbnccpoeopmaaDoorSc
import Derived.OwnWalk
import Derived.Maps.AppendAt
import Derived.OneCell
import Derived.Laws.OwnMore
import Derived.Test.YtbnbnccpoeopmaaDoorSe
namespace Go.Proofs.YtbnbnccpoeopmaaDoor.Sd
open Go.RowKit Go.Proofs.YtbnbnccpoeopmaaDoor.Sa Go.Proofs.YtbnbnccpoeopmaaDoor.Sb Go.Proofs.YtbnbnccpoeopmaaDoor.Se

def hexDigits : ByteArray := ⟨#[48, 49, 50, 51, 52, 53, 54, 55, 56, 57, 97, 98, 99, 100, 101, 102]⟩
def hexIx (c : UInt8) : Int := Lib.indexByte hexDigits.data.toList c
def hexByte (a b : UInt8) : Option UInt8 := if hexIx a < 0 ∨ hexIx b < 0 then none else some (UInt8.ofNat ((hexIx a).toNat * 16 + (hexIx b).toNat))
/-- The bytes that pairs of digits are. -/
def hexL : List UInt8 → Option (List UInt8)
  | [] => some []
  | [_] => none
  | a :: b :: r => match hexByte a b with
    | none => none
    | some c => (hexL r).map (c :: ·)
def unhexL (l : List UInt8) : Option (List UInt8) := if Lib.hasPrefix l [120] then hexL (l.drop 1) else none
def byteVals (l : List UInt8) : List Value := l.map fun b => .int .u8 (b.toNat : Int)

theorem ix_c (c : Int) (w : World) :
    Calls Tryd.prog 40 #[.string hexDigits, .int .u8 c] w fun e w' => e = .returned (.int .i64 (hexIx c.toNat.toUInt8)) ∧ w' = w := Tryd.strings_IndexByte hexDigits c w

theorem hexIx_le (c : UInt8) : -1 ≤ hexIx c ∧ hexIx c < 16 := ⟨Lib.indexByte_ge _ _, by
  have key : ∀ l : List UInt8, Lib.indexByte l c < (l.length : Int) ∨ Lib.indexByte l c = -1 := by
    intro l
    induction l with
    | nil => exact Or.inr rfl
    | cons b l ih =>
      unfold Lib.indexByte
      split
      · left
        simp only [List.length_cons]
        omega
      · split
        · exact Or.inr rfl
        · simp only [List.length_cons]
          rename_i h2
          rcases ih with h | h
          · left
            omega
          · rw [h] at h2
            exact absurd rfl h2
  have h := key hexDigits.data.toList
  have e : (hexDigits.data.toList.length : Int) = 16 := rfl
  rw [e] at h
  unfold hexIx
  omega⟩


theorem or_fin : ∀ x : Fin 16, ∀ y : Fin 16, bits .or .i64 ((x.val : Int) * 16) (y.val : Int) % 256 = ((x.val * 16 + y.val : Nat) : Int) := by decide +kernel
theorem byteVals_snoc (l : List UInt8) (b : UInt8) : byteVals (l ++ [b]) = byteVals l ++ [.int .u8 (b.toNat : Int)] := by
  unfold byteVals
  rw [List.map_append]
  rfl

/-- Where the loop is: k pairs are read. -/
def HexAt (r done : List UInt8) (k : Nat) : Prop := hexL r = (hexL (r.drop (2 * k))).map (done ++ ·)

theorem hexAt_zero (r : List UInt8) : HexAt r [] 0 := by
  unfold HexAt
  rw [Nat.mul_zero, List.drop_zero]
  cases hexL r <;> rfl

theorem drop_two (r : List UInt8) (k : Nat) (h : 2 * k + 1 < r.length) : r.drop (2 * k) = r.getD (2 * k) 0 :: r.getD (2 * k + 1) 0 :: r.drop (2 * (k + 1)) := by
  rw [List.drop_eq_getElem_cons (by omega : 2 * k < r.length), List.drop_eq_getElem_cons (by omega : 2 * k + 1 < r.length)]
  simp [List.getD_eq_getElem?_getD, h, (by omega : 2 * k < r.length), Nat.mul_add]

theorem hex_bad {r done : List UInt8} {k : Nat} (h : HexAt r done k) (hk : 2 * k + 1 < r.length) (hb : hexByte (r.getD (2 * k) 0) (r.getD (2 * k + 1) 0) = none) : hexL r = none := by
  unfold HexAt at h
  rw [h, drop_two r k hk]
  unfold hexL
  rw [hb]
  rfl

theorem hex_next {r done : List UInt8} {k : Nat} {c : UInt8} (h : HexAt r done k) (hk : 2 * k + 1 < r.length) (hb : hexByte (r.getD (2 * k) 0) (r.getD (2 * k + 1) 0) = some c) : HexAt r (done ++ [c]) (k + 1) := by
  unfold HexAt at h ⊢
  rw [h, drop_two r k hk]
  rw [show hexL (r.getD (2 * k) 0 :: r.getD (2 * k + 1) 0 :: r.drop (2 * (k + 1))) = (hexL (r.drop (2 * (k + 1)))).map (c :: ·) by
    rw [hexL.eq_3, hb]]
  cases hexL (r.drop (2 * (k + 1))) with
  | none => rfl
  | some x => simp

theorem hex_end {r done : List UInt8} {k : Nat} (h : HexAt r done k) (hk : 2 * k = r.length) : hexL r = some done := by
  unfold HexAt at h
  rw [h, hk, List.drop_length]
  simp [hexL]

theorem hexL_odd : ∀ (n : Nat) (r : List UInt8), r.length ≤ n → r.length % 2 ≠ 0 → hexL r = none
  | 0, r, hn, h => absurd (by rw [Nat.le_zero.1 hn]) h
  | n + 1, [], _, h => absurd rfl h
  | n + 1, [_], _, _ => rfl
  | n + 1, a :: b :: r, hn, h => by
    have := hexL_odd n r (by simp at hn; omega) (by simp at h; omega)
    unfold hexL
    split
    · rfl
    · rw [this]; rfl

theorem byte_at (r : ByteArray) (i : Nat) (h : i < r.size) (b : UInt8) (hb : b = r.data.toList.getD i 0) : hexIx (((r[i]'h).toNat : Int).toNat.toUInt8) = hexIx b := by
  have e : r[i]'h = b := by
    rw [hb]
    have h2 : i < r.data.toList.length := by rw [Array.length_toList]; exact h
    rw [List.getD_eq_getElem?_getD, List.getElem?_eq_getElem h2]
    rfl
  rw [e, Int.toNat_natCast]
  congr 1
  exact UInt8.ofNat_toNat

theorem info5 : (Tryd.prog.info? 5).map (fun i => (i.zero, i.size, i.bytes)) = some (some (.int .u8 0), 1, 1) := by kernel_rfl

set_option maxRecDepth 100000 in
theorem unhex_c (s : ByteArray) (hs : s.size ≤ 281474976710656) (w : World) :
    Calls Tryd.prog 27 #[.string s] w fun e w' => ∃ v, e = .returned (.tuple #[v, .bool (unhexL s.data.toList).isSome]) ∧ w'.ownsRow w.heap.size 5 1 v ((unhexL s.data.toList).getD []).length (byteVals ((unhexL s.data.toList).getD [])) ∧ Below w.heap.size w w' := by
  have hcp := Tryd.strings_CutPrefix s ⟨#[120]⟩ w
  by_cases hp : Lib.hasPrefix s.data.toList [120] = true
  · obtain ⟨r, hr⟩ : ∃ r : ByteArray, r = ⟨(s.data.toList.drop 1).toArray⟩ := ⟨_, rfl⟩
    have hcp2 : Calls Tryd.prog 39 #[.string s, .string ⟨#[120]⟩] w fun e w' => e = .returned (.tuple #[.string r, .bool true]) ∧ w' = w := by
      have e1 : Lib.trimPrefix s.data.toList [120] = s.data.toList.drop 1 := by unfold Lib.trimPrefix; rw [if_pos hp]; rfl
      have e2 : ((⟨#[120]⟩ : ByteArray).data.toList) = [120] := rfl
      rw [e2, hp, e1, ← hr] at hcp
      exact hcp
    have hu : unhexL s.data.toList = hexL r.data.toList := by
      unfold unhexL
      rw [if_pos hp, hr]
    have hrs : r.size ≤ 281474976710656 := by
      rw [hr]
      have : (⟨(s.data.toList.drop 1).toArray⟩ : ByteArray).size = s.size - 1 := by
        show (s.data.toList.drop 1).toArray.size = s.size - 1
        simp
      omega
    have hrl : r.data.toList.length = r.size := by rw [Array.length_toList]; rfl
    rw [hu]
    clear hcp hr hu
    by_cases hodd : r.size % 2 = 0
    · have HODD := Lib.hid hodd
      have e0 : ¬ ((r.size : Int) % 2 ≠ 0) := by omega
      clear hodd
      go_enter Tryd.func27, Tryd.ntmps27
      go_wp2_with (go_at_call 39; (with_reducible refine hcp2.mono ?_); rintro e w1 ⟨rfl, rfl⟩)
      clear e0
      rename_i hpar _ _
      have HPAR := Lib.hid hpar
      clear hpar
      obtain ⟨i5, hi5, hz0, hz1, hz2⟩ := info_parts info5
      have HZ0 := Lib.hid hz0
      have HZ1 := Lib.hid hz1
      have HZ2 := Lib.hid hz2
      have HI5 := Lib.hid hi5
      clear hz0 hz1 hz2 hi5
      have O0 : Hid (w1.ownsRow w1.heap.size 5 1 (.slice none 0 0) 0 (byteVals [])) := Lib.hid ⟨rfl, Or.inl ⟨rfl, rfl⟩⟩
      go_loopg [5, 6] (r.size + 1) (fun gg s5 s6 wr => ∃ (k : Nat) (done : List UInt8), 2 * k ≤ r.size ∧ r.size - 2 * k < gg ∧ s6 = .int .i64 ((2 * k : Nat) : Int) ∧ Hid (HexAt r.data.toList done k) ∧ Hid (done.length = k) ∧ Hid (wr.ownsRow w1.heap.size 5 1 s5 k (byteVals done)) ∧ Hid (Below w1.heap.size w1 wr))
      case atStart => exact ⟨0, [], by omega, by omega, rfl, Lib.hid (hexAt_zero _), Lib.hid rfl, O0, Lib.hid (Below.refl _ _)⟩
      case round =>
        obtain ⟨k, done, hk, hgg, rfl, HA, HD, OW, BR⟩ := hrel
        by_cases e : 2 * k < r.size
        · obtain ⟨i, hi⟩ : ∃ i : Nat, i = 2 * k := ⟨_, rfl⟩
          obtain ⟨j, hj⟩ : ∃ j : Nat, j = 2 * k + 1 := ⟨_, rfl⟩
          have hk1 : 2 * k + 1 < r.data.toList.length := by have := HODD.out; omega
          have hlt : (i : Int) < (r.size : Int) := by omega
          have hlt2 : (j : Int) < (r.size : Int) := by omega
          have hadd : (i : Int) + 1 = (j : Int) := by omega
          rw [← hi]
          obtain ⟨ba, hba⟩ : ∃ ba : UInt8, ba = r.data.toList.getD i 0 := ⟨_, rfl⟩
          obtain ⟨bb, hbb⟩ : ∃ bb : UInt8, bb = r.data.toList.getD j 0 := ⟨_, rfl⟩
          have hba2 : r.data.toList.getD ((i : Int).toNat) 0 = ba := by rw [Int.toNat_natCast]; exact hba.symm
          have hbb2 : r.data.toList.getD ((j : Int).toNat) 0 = bb := by rw [Int.toNat_natCast]; exact hbb.symm
          have HBA := Lib.hid hba
          have HBB := Lib.hid hbb
          have HI := Lib.hid hi
          have HJ := Lib.hid hj
          clear hba hbb hi hj
          go_wp2
          go_quiet (first | (go_at_call 40; refine Calls.quiet_of_same (ix_c _ _)))
          rw [byte_at r i (by omega) ba HBA.out, byte_at r j (by omega) bb HBB.out]
          have hx := hexIx_le ba
          have hy := hexIx_le bb
          have hby : ∀ x, x = hexByte ba bb → x = if hexIx ba < 0 ∨ hexIx bb < 0 then none else some (UInt8.ofNat ((hexIx ba).toNat * 16 + (hexIx bb).toNat)) := fun x h => h
          have HBY := Lib.hid hby
          clear hby hba2 hbb2
          generalize hexIx ba = x at hx HBY ⊢
          generalize hexIx bb = y at hy HBY ⊢
          by_cases hx0 : x < 0
          · have hn : hexByte ba bb = none := (HBY.out _ rfl).trans (if_pos (Or.inl hx0))
            have hno := hex_bad HA.out hk1 (by rw [← HJ.out, ← HI.out, ← HBA.out, ← HBB.out]; exact hn)
            have HNO := Lib.hid hno
            clear hno hn
            go_wp2
            go_ret2
            rw [HNO.out]
            exact ⟨_, rfl, ⟨rfl, Or.inl ⟨rfl, rfl⟩⟩, below_drewN BR.out _⟩
          · by_cases hy0 : y < 0
            · have hn : hexByte ba bb = none := (HBY.out _ rfl).trans (if_pos (Or.inr hy0))
              have hno := hex_bad HA.out hk1 (by rw [← HJ.out, ← HI.out, ← HBA.out, ← HBB.out]; exact hn)
              have HNO := Lib.hid hno
              clear hno hn
              go_wp2
              go_ret2
              rw [HNO.out]
              exact ⟨_, rfl, ⟨rfl, Or.inl ⟨rfl, rfl⟩⟩, below_drewN BR.out _⟩
            · obtain ⟨xn, rfl⟩ : ∃ xn : Nat, x = (xn : Int) := ⟨x.toNat, by omega⟩
              obtain ⟨yn, rfl⟩ : ∃ yn : Nat, y = (yn : Int) := ⟨y.toNat, by omega⟩
              have hn : hexByte ba bb = some (UInt8.ofNat (xn * 16 + yn)) := (HBY.out _ rfl).trans (if_neg (by omega))
              clear HBY
              have hnx := hex_next HA.out hk1 (by rw [← HJ.out, ← HI.out, ← HBA.out, ← HBB.out]; exact hn)
              have HNX := Lib.hid hnx
              clear hnx hn
              have hxl : xn < 16 := by omega
              have hyl : yn < 16 := by omega
              have own2 : Hid ((wr.drewN nq).ownsRow w1.heap.size 5 1 u5 k (byteVals done)) := Lib.hid OW.out
              generalize hw2 : wr.drewN nq = w2 at own2 ⊢
              have HW2 := Lib.hid hw2
              clear hw2
              have hor : bits .or .i64 ((xn : Int) * 16) (yn : Int) % 256 = ((xn * 16 + yn : Nat) : Int) := or_fin ⟨xn, hxl⟩ ⟨yn, hyl⟩
              have hcb : ((UInt8.ofNat (xn * 16 + yn)).toNat) = xn * 16 + yn := by
                rw [UInt8.toNat_ofNat']
                omega
              have hbv := byteVals_snoc done (UInt8.ofNat (xn * 16 + yn))
              rw [hcb, Int.natCast_add, Int.natCast_mul] at hbv
              have HBV := Lib.hid hbv
              clear hbv hcb
              have hz0 := HZ0.out
              have hz1 := HZ1.out
              have hz2 := HZ2.out
              have hi5 := HI5.out
              have hB : Hid (w1.heap.size ≤ w2.heap.size) := Lib.hid (by have := HW2.out; subst this; exact BR.out.size)
              have hkk : (k + 1) * 1 ≤ 140737488355328 := by omega
              have hml : k + 1 ≤ maxLen := by simp only [maxLen]; omega
              clear hz0 hz1 hz2 hi5
              go_wp2_with (at_builtin; go_loud (refine wpList_append_own _ rfl _ _ 22 rfl w1.heap.size 5 i5 (.int .u8 0) 1 1 Tryd.underlying22 HI5.out HZ0.out HZ1.out HZ2.out rfl (by decide) _ k (byteVals done) rfl (own2.out.alloc _) ⟨w2.heap.size, 0, none⟩ 1 1 [.int .u8 ((xn : Int) * 16 + (yn : Int))] rfl rfl (cell_one_new _ _ _) (by simp [Value.oneCell']) hml hkk (by rw [sz_alloc]; exact Nat.le_succ_of_le hB.out) ?_))
              intro v' w3 hown' hgrow _; have HOW := Lib.hid hown'; have HGR := Lib.hid hgrow; clear hown' hgrow
              have BR3 : Hid (Below w1.heap.size w1 w3) := by
                have b2 : Below w1.heap.size w1 w2 := by have := HW2.out; subst this; exact below_drewN BR.out _
                have hr : ∀ q, u5.ownBlock = some q → w1.heap.size ≤ q := fun q hq => (own2.out.lt q hq).1
                exact Lib.hid ((b2.alloc hB.out _).grown HGR.out (by rw [sz_alloc]; exact Nat.le_succ_of_le hB.out) hr)
              have HOW2 : Hid (w3.ownsRow w1.heap.size 5 1 v' (k + 1) (byteVals (done ++ [UInt8.ofNat (xn * 16 + yn)]))) := Lib.hid (by rw [HBV.out]; exact HOW.out)
              go_wp2
              go_roundg (r.size - 2 * (k + 1) + 1)
              case measure => have := HODD.out; omega
              case rel => exact ⟨k + 1, done ++ [UInt8.ofNat (xn * 16 + yn)], by omega, by omega, by have := HI.out; congr 1; omega, HNX, Lib.hid (by rw [List.length_append, HD.out]; rfl), HOW2, BR3⟩
        · have hlt : ¬ (((2 * k : Nat) : Int) < (r.size : Int)) := by omega
          have hend := hex_end HA.out (by omega)
          have HE := Lib.hid hend
          clear hend
          go_wp2
          go_ret2
          rw [HE.out]
          exact ⟨_, rfl, by rw [Option.getD_some, HD.out]; exact OW.out, BR.out⟩
    · have hno : hexL r.data.toList = none := hexL_odd _ _ (Nat.le_refl _) (by rw [hrl]; exact hodd)
      rw [hno]
      have e0 : ((r.size : Int) % 2 ≠ 0) := by omega
      go_enter Tryd.func27, Tryd.ntmps27
      go_wp2_with (go_at_call 39; (with_reducible refine hcp2.mono ?_); rintro e w1 ⟨rfl, rfl⟩)
      go_ret2
      exact ⟨_, rfl, ⟨rfl, Or.inl ⟨rfl, rfl⟩⟩, Below.refl _ _⟩
  · have hn : unhexL s.data.toList = none := if_neg hp
    have hp2 := Bool.eq_false_iff.2 hp
    have e2 : ((⟨#[120]⟩ : ByteArray).data.toList) = [120] := rfl
    rw [e2, hp2] at hcp
    rw [hn]
    generalize (⟨(Lib.trimPrefix s.data.toList [120]).toArray⟩ : ByteArray) = tp at hcp
    go_enter Tryd.func27, Tryd.ntmps27
    go_wp2_with (go_at_call 39; (with_reducible refine hcp.mono ?_); rintro e w1 ⟨rfl, rfl⟩)
    go_ret2
    exact ⟨_, rfl, ⟨rfl, Or.inl ⟨rfl, rfl⟩⟩, Below.refl _ _⟩

end Go.Proofs.YtbnbnccpoeopmaaDoor.Sd
