/- Texts joined: Rc. -/
import Derived.Test.YtjohhjdicbeojaaGreatDoorZal
namespace Go.Proofs.YtjohhjdicbeojaaGreatDoor.Rc
open Go.RowKit Go.Proofs.YtjohhjdicbeojaaGreatDoor.Ra
theorem size_c (n : Int) (w : World) (h1 : 1 ≤ n) (h4 : n ≤ 4) : Calls Tryz.prog 241 #[.int .i64 n] w fun e w' => e = .returned (.bool true) ∧ w = w' := by
  have h1' : decide ((1 : Int) ≤ n) = true := decide_eq_true h1
  have h4' : decide (n ≤ (4 : Int)) = true := decide_eq_true h4
  go_enter Tryz.func241, Tryz.ntmps241
  go_wp2
  go_ret
  exact ⟨rfl, rfl⟩
/-- A number's bytes, the highest first. -/
def beL : Nat → Int → List UInt8
  | 0, _ => []
  | k + 1, n => UInt8.ofNat (n / 256 ^ k).toNat :: beL k n
theorem beL_len : ∀ (k : Nat) (n : Int), (beL k n).length = k
  | 0, _ => rfl
  | k + 1, n => by show (beL k n).length + 1 = _; rw [beL_len k n]
theorem byte_of (x : Int) (h : 0 ≤ x) : x % 256 = ((UInt8.ofNat x.toNat).toNat : Int) := by
  rw [UInt8.toNat_ofNat']
  omega
/-- What put leaves of a row of one's own. -/
structure PutOk (base : Nat) (xs ys : List UInt8) (v : Value) (w : World) (v' : Value) (w' : World) : Prop where
  row : w'.ownsRow base 5 1 v' (xs ++ ys).length (byteVals (xs ++ ys))
  grown : w.grownBy w' v.ownBlock
  same : v'.ownBlock = v.ownBlock ∨ ∀ g, v'.ownBlock = some g → w.heap.size ≤ g
theorem PutOk.start {base : Nat} {xs : List UInt8} {v : Value} {w : World} (h : w.ownsRow base 5 1 v xs.length (byteVals xs)) : PutOk base xs [] v w v w :=
  ⟨by rw [List.append_nil]; exact h, World.grownBy.refl _ _, Or.inl rfl⟩
/-- Bytes more, by an append. -/
theorem PutOk.more {base g : Nat} {xs ys zs : List UInt8} {v vc v' : Value} {w wr wx w' : World} (h : PutOk base xs ys v w vc wr) (hx : Below wr.heap.size wr wx) (hr : w'.ownsRow base 5 1 v' ((xs ++ ys).length + zs.length) (byteVals (xs ++ ys) ++ byteVals zs)) (hg : wx.grownBy w' vc.ownBlock)
    (hv : v'.ownBlock = some g) (hat : vc.ownBlock = some g ∨ wr.heap.size ≤ g) : PutOk base xs (ys ++ zs) v w v' w' := by
  have h0 : wr.grownBy wx (v.ownBlock) := ⟨hx.os, hx.tape, hx.output, hx.size, fun k hk _ => hx.block k hk⟩
  refine ⟨?_, ?_, ?_⟩
  · rw [← List.append_assoc, byteVals_app, show (xs ++ ys ++ zs).length = (xs ++ ys).length + zs.length from List.length_append]
    exact hr
  · refine (h.grown.trans h0).andThen hg (fun j hj => ?_)
    rcases h.same with e | e
    · exact Or.inr (e.symm.trans hj)
    · exact Or.inl (e j hj)
  · rcases hat with e | e
    · rcases h.same with e2 | e2
      · exact Or.inl (by rw [hv, ← e2, e])
      · exact Or.inr (fun q hq => by rw [hv] at hq; obtain rfl := Option.some.inj hq; exact e2 g e)
    · exact Or.inr (fun q hq => by rw [hv] at hq; obtain rfl := Option.some.inj hq; exact Nat.le_trans h.grown.size e)
theorem PutOk.trans {base : Nat} {xs ys zs : List UInt8} {v vc v' : Value} {w wr w' : World} (h : PutOk base xs ys v w vc wr) (k : PutOk base (xs ++ ys) zs vc wr v' w') : PutOk base xs (ys ++ zs) v w v' w' := by
  refine ⟨?_, ?_, ?_⟩
  · rw [← List.append_assoc]
    exact k.row
  · refine h.grown.andThen k.grown (fun j hj => ?_)
    rcases h.same with e | e
    · exact Or.inr (e.symm.trans hj)
    · exact Or.inl (e j hj)
  · rcases k.same with e | e
    · rcases h.same with e2 | e2
      · exact Or.inl (e.trans e2)
      · exact Or.inr (fun g hg => e2 g (e.symm.trans hg))
    · exact Or.inr (fun g hg => Nat.le_trans h.grown.size (e g hg))
theorem below_of_grown {w w' : World} (h : w.grownBy w' none) : Below w.heap.size w w' := ⟨h.os, h.tape, h.output, h.size, fun k hk => h.block k hk (by simp)⟩
theorem PutOk.below {base : Nat} {xs ys : List UInt8} {w w' : World} {v' : Value} (h : PutOk base xs ys (.slice none 0 0) w v' w') : Below w.heap.size w w' := below_of_grown h.grown
set_option maxHeartbeats 2000000 in
theorem put_1 (base : Nat) (v : Value) (xs : List UInt8) (n : Int) (w : World) (hb : base ≤ w.heap.size) (hown : w.ownsRow base 5 1 v xs.length (byteVals xs)) (hn0 : 0 ≤ n) (hn1 : n < 256) (hx : xs.length ≤ 1099511627776) :
    Calls Tryz.prog 242 #[v, .int .i64 1, .int .i64 n] w fun e w' => ∃ v', e = .returned (.tuple #[v', .int .i64 0]) ∧ PutOk base xs (beL 1 n) v w v' w' := by
  have ht : (n / 256 != 0) = false := by
    rw [bne_eq_false_iff_eq]
    omega
  have ht2 : ¬ n < 0 := by omega
  have P0 := Lib.hid (PutOk.start hown)
  clear hown
  obtain ⟨i0, hi, hz0, hz1, hz2⟩ := info_parts info_u8
  have HI := Lib.hid hi
  have HZ0 := Lib.hid hz0
  have HZ1 := Lib.hid hz1
  have HZ2 := Lib.hid hz2
  clear hi hz0 hz1 hz2
  go_enter Tryz.func242, Tryz.ntmps242
  go_wp2
  go_loopg [0, 8] 3 (fun gg s0 s8 wr => ∃ (ys : List UInt8), Hid (PutOk base xs ys v w s0 wr) ∧ ((1 < gg ∧ s8 = .int .i64 (0) ∧ Hid (ys = [])) ∨ (0 < gg ∧ s8 = .int .i64 (-1) ∧ Hid (ys = [UInt8.ofNat (n / 256 ^ 0).toNat]))))
  case atStart => exact ⟨[], P0, Or.inl ⟨by omega, rfl, Lib.hid rfl⟩⟩
  case round =>
    obtain ⟨ys, PR, hrel⟩ := hrel
    obtain ⟨pc, nc, cc, rfl⟩ : ∃ p n c, u0 = .slice p n c := by
      rcases PR.out.row.2 with ⟨h, _⟩ | ⟨_, _, _, h, _⟩
      · exact ⟨_, _, _, h⟩
      · exact ⟨_, _, _, h⟩
    have HNC : Hid (nc = (xs ++ ys).length) := Lib.hid (by
      rcases PR.out.row.2 with ⟨h, h0⟩ | ⟨_, _, _, h, _⟩
      · rw [h0]
        cases h
        rfl
      · cases h
        rfl)
    have OWR : Hid (wr.ownsRow base 5 1 (.slice pc nc cc) nc (byteVals (xs ++ ys))) := Lib.hid (by
      have h := PR.out.row
      rw [← HNC.out] at h
      exact h)
    have hbr : base ≤ wr.heap.size + 1 := Nat.le_succ_of_le (Nat.le_trans hb PR.out.grown.size)
    rcases hrel with ⟨hgg, rfl, HY⟩ | ⟨hgg, rfl, HY⟩
    · have hyl : ys.length = 0 := by rw [HY.out]; rfl
      have hml : Hid (nc + 1 ≤ maxLen) := Lib.hid (by rw [HNC.out, List.length_append]; unfold maxLen; omega)
      have hbs : Hid ((nc + 1) * 1 ≤ 140737488355328) := Lib.hid (by rw [HNC.out, List.length_append]; omega)
      have HBV : Hid (((UInt8.ofNat (n / 256 ^ 0).toNat).toNat : Int) = n) := Lib.hid (by
        rw [← byte_of _ (by omega)]
        omega)
      have AX : Hid (Below wr.heap.size wr (wr.alloc (.cells #[.int .u8 (n)] 5))) := Lib.hid ((Below.refl _ _).alloc (Nat.le_refl _) _)
      clear hyl
      go_wp2_with (first | (at_builtin; go_loud (refine wpList_append_lies _ rfl _ _ 22 rfl base 5 i0 (.int .u8 0) 1 1 Tryz.underlying22 HI.out HZ0.out HZ1.out HZ2.out rfl (by decide) _ nc (byteVals (xs ++ ys)) rfl (OWR.out.alloc _) ⟨wr.heap.size, 0, none⟩ 1 1 [.int .u8 (n)] rfl rfl (cell_one_new _ _ _) (by simp [Value.oneCell']) (by decide) hml.out hbs.out (by rw [sz_alloc]; exact hbr) _ rfl ?_)))
      intro g cap w6 hown hgrow hat _
      rw [HNC.out] at hown
      have PN : PutOk base xs (ys ++ [UInt8.ofNat (n / 256 ^ 0).toNat]) v w (.slice (some ⟨g, 0, none⟩) (nc + 1) cap) w6 := by
        rw [HNC.out]
        refine PR.out.more (g := g) AX.out ?_ hgrow rfl (hat.elim Or.inl (fun h => Or.inr (by omega)))
        have e : byteVals [UInt8.ofNat (n / 256 ^ 0).toNat] = [.int .u8 (n)] := by
          unfold byteVals
          rw [List.map_cons, List.map_nil, HBV.out]
        rw [e]
        exact hown
      have HPN := Lib.hid PN
      have HY2 : Hid (ys ++ [UInt8.ofNat (n / 256 ^ 0).toNat] = _) := Lib.hid (by rw [HY.out])
      clear hown hgrow hat PN
      go_wp2
      go_roundg 1
      case measure => omega
      case rel => exact ⟨_, HPN, Or.inr (⟨by omega, rfl, HY2⟩)⟩
    · have HE : Hid (ys = beL 1 n) := Lib.hid HY.out
      go_wp2
      refine bodyPost_ret (v := .tuple #[.slice pc nc cc, .int .i64 0]) (by simp [results, Tryz.results242, go_sem]) rfl ⟨_, rfl, ?_⟩
      rw [← HE.out]
      exact PR.out
set_option maxHeartbeats 2000000 in
theorem put_2 (base : Nat) (v : Value) (xs : List UInt8) (n : Int) (w : World) (hb : base ≤ w.heap.size) (hown : w.ownsRow base 5 1 v xs.length (byteVals xs)) (hn0 : 0 ≤ n) (hn1 : n < 65536) (hx : xs.length ≤ 1099511627776) :
    Calls Tryz.prog 242 #[v, .int .i64 2, .int .i64 n] w fun e w' => ∃ v', e = .returned (.tuple #[v', .int .i64 0]) ∧ PutOk base xs (beL 2 n) v w v' w' := by
  have ht : (n / 65536 != 0) = false := by
    rw [bne_eq_false_iff_eq]
    omega
  have ht2 : ¬ n < 0 := by omega
  have P0 := Lib.hid (PutOk.start hown)
  clear hown
  obtain ⟨i0, hi, hz0, hz1, hz2⟩ := info_parts info_u8
  have HI := Lib.hid hi
  have HZ0 := Lib.hid hz0
  have HZ1 := Lib.hid hz1
  have HZ2 := Lib.hid hz2
  clear hi hz0 hz1 hz2
  go_enter Tryz.func242, Tryz.ntmps242
  go_wp2
  go_loopg [0, 8] 4 (fun gg s0 s8 wr => ∃ (ys : List UInt8), Hid (PutOk base xs ys v w s0 wr) ∧ ((2 < gg ∧ s8 = .int .i64 (1) ∧ Hid (ys = [])) ∨ (1 < gg ∧ s8 = .int .i64 (0) ∧ Hid (ys = [UInt8.ofNat (n / 256 ^ 1).toNat])) ∨ (0 < gg ∧ s8 = .int .i64 (-1) ∧ Hid (ys = [UInt8.ofNat (n / 256 ^ 1).toNat, UInt8.ofNat (n / 256 ^ 0).toNat]))))
  case atStart => exact ⟨[], P0, Or.inl ⟨by omega, rfl, Lib.hid rfl⟩⟩
  case round =>
    obtain ⟨ys, PR, hrel⟩ := hrel
    obtain ⟨pc, nc, cc, rfl⟩ : ∃ p n c, u0 = .slice p n c := by
      rcases PR.out.row.2 with ⟨h, _⟩ | ⟨_, _, _, h, _⟩
      · exact ⟨_, _, _, h⟩
      · exact ⟨_, _, _, h⟩
    have HNC : Hid (nc = (xs ++ ys).length) := Lib.hid (by
      rcases PR.out.row.2 with ⟨h, h0⟩ | ⟨_, _, _, h, _⟩
      · rw [h0]
        cases h
        rfl
      · cases h
        rfl)
    have OWR : Hid (wr.ownsRow base 5 1 (.slice pc nc cc) nc (byteVals (xs ++ ys))) := Lib.hid (by
      have h := PR.out.row
      rw [← HNC.out] at h
      exact h)
    have hbr : base ≤ wr.heap.size + 1 := Nat.le_succ_of_le (Nat.le_trans hb PR.out.grown.size)
    rcases hrel with ⟨hgg, rfl, HY⟩ | ⟨hgg, rfl, HY⟩ | ⟨hgg, rfl, HY⟩
    · have hyl : ys.length = 0 := by rw [HY.out]; rfl
      have hml : Hid (nc + 1 ≤ maxLen) := Lib.hid (by rw [HNC.out, List.length_append]; unfold maxLen; omega)
      have hbs : Hid ((nc + 1) * 1 ≤ 140737488355328) := Lib.hid (by rw [HNC.out, List.length_append]; omega)
      have HBV : Hid (((UInt8.ofNat (n / 256 ^ 1).toNat).toNat : Int) = n / 256) := Lib.hid (by
        rw [← byte_of _ (by omega)]
        omega)
      have AX : Hid (Below wr.heap.size wr (wr.alloc (.cells #[.int .u8 (n / 256)] 5))) := Lib.hid ((Below.refl _ _).alloc (Nat.le_refl _) _)
      clear hyl
      go_wp2_with (first | (at_builtin; go_loud (refine wpList_append_lies _ rfl _ _ 22 rfl base 5 i0 (.int .u8 0) 1 1 Tryz.underlying22 HI.out HZ0.out HZ1.out HZ2.out rfl (by decide) _ nc (byteVals (xs ++ ys)) rfl (OWR.out.alloc _) ⟨wr.heap.size, 0, none⟩ 1 1 [.int .u8 (n / 256)] rfl rfl (cell_one_new _ _ _) (by simp [Value.oneCell']) (by decide) hml.out hbs.out (by rw [sz_alloc]; exact hbr) _ rfl ?_)))
      intro g cap w6 hown hgrow hat _
      rw [HNC.out] at hown
      have PN : PutOk base xs (ys ++ [UInt8.ofNat (n / 256 ^ 1).toNat]) v w (.slice (some ⟨g, 0, none⟩) (nc + 1) cap) w6 := by
        rw [HNC.out]
        refine PR.out.more (g := g) AX.out ?_ hgrow rfl (hat.elim Or.inl (fun h => Or.inr (by omega)))
        have e : byteVals [UInt8.ofNat (n / 256 ^ 1).toNat] = [.int .u8 (n / 256)] := by
          unfold byteVals
          rw [List.map_cons, List.map_nil, HBV.out]
        rw [e]
        exact hown
      have HPN := Lib.hid PN
      have HY2 : Hid (ys ++ [UInt8.ofNat (n / 256 ^ 1).toNat] = _) := Lib.hid (by rw [HY.out])
      clear hown hgrow hat PN
      go_wp2
      go_roundg 2
      case measure => omega
      case rel => exact ⟨_, HPN, Or.inr (Or.inl ⟨by omega, rfl, HY2⟩)⟩
    · have hyl : ys.length = 1 := by rw [HY.out]; rfl
      have hml : Hid (nc + 1 ≤ maxLen) := Lib.hid (by rw [HNC.out, List.length_append]; unfold maxLen; omega)
      have hbs : Hid ((nc + 1) * 1 ≤ 140737488355328) := Lib.hid (by rw [HNC.out, List.length_append]; omega)
      have HBV : Hid (((UInt8.ofNat (n / 256 ^ 0).toNat).toNat : Int) = n % 256) := Lib.hid (by
        rw [← byte_of _ (by omega)]
        omega)
      have AX : Hid (Below wr.heap.size wr (wr.alloc (.cells #[.int .u8 (n % 256)] 5))) := Lib.hid ((Below.refl _ _).alloc (Nat.le_refl _) _)
      clear hyl
      go_wp2_with (first | (at_builtin; go_loud (refine wpList_append_lies _ rfl _ _ 22 rfl base 5 i0 (.int .u8 0) 1 1 Tryz.underlying22 HI.out HZ0.out HZ1.out HZ2.out rfl (by decide) _ nc (byteVals (xs ++ ys)) rfl (OWR.out.alloc _) ⟨wr.heap.size, 0, none⟩ 1 1 [.int .u8 (n % 256)] rfl rfl (cell_one_new _ _ _) (by simp [Value.oneCell']) (by decide) hml.out hbs.out (by rw [sz_alloc]; exact hbr) _ rfl ?_)))
      intro g cap w6 hown hgrow hat _
      rw [HNC.out] at hown
      have PN : PutOk base xs (ys ++ [UInt8.ofNat (n / 256 ^ 0).toNat]) v w (.slice (some ⟨g, 0, none⟩) (nc + 1) cap) w6 := by
        rw [HNC.out]
        refine PR.out.more (g := g) AX.out ?_ hgrow rfl (hat.elim Or.inl (fun h => Or.inr (by omega)))
        have e : byteVals [UInt8.ofNat (n / 256 ^ 0).toNat] = [.int .u8 (n % 256)] := by
          unfold byteVals
          rw [List.map_cons, List.map_nil, HBV.out]
        rw [e]
        exact hown
      have HPN := Lib.hid PN
      have HY2 : Hid (ys ++ [UInt8.ofNat (n / 256 ^ 0).toNat] = _) := Lib.hid (by rw [HY.out])
      clear hown hgrow hat PN
      go_wp2
      go_roundg 1
      case measure => omega
      case rel => exact ⟨_, HPN, Or.inr (Or.inr (⟨by omega, rfl, HY2⟩))⟩
    · have HE : Hid (ys = beL 2 n) := Lib.hid HY.out
      go_wp2
      refine bodyPost_ret (v := .tuple #[.slice pc nc cc, .int .i64 0]) (by simp [results, Tryz.results242, go_sem]) rfl ⟨_, rfl, ?_⟩
      rw [← HE.out]
      exact PR.out
set_option maxHeartbeats 2000000 in
theorem put_3 (base : Nat) (v : Value) (xs : List UInt8) (n : Int) (w : World) (hb : base ≤ w.heap.size) (hown : w.ownsRow base 5 1 v xs.length (byteVals xs)) (hn0 : 0 ≤ n) (hn1 : n < 16777216) (hx : xs.length ≤ 1099511627776) :
    Calls Tryz.prog 242 #[v, .int .i64 3, .int .i64 n] w fun e w' => ∃ v', e = .returned (.tuple #[v', .int .i64 0]) ∧ PutOk base xs (beL 3 n) v w v' w' := by
  have ht : (n / 16777216 != 0) = false := by
    rw [bne_eq_false_iff_eq]
    omega
  have ht2 : ¬ n < 0 := by omega
  have P0 := Lib.hid (PutOk.start hown)
  clear hown
  obtain ⟨i0, hi, hz0, hz1, hz2⟩ := info_parts info_u8
  have HI := Lib.hid hi
  have HZ0 := Lib.hid hz0
  have HZ1 := Lib.hid hz1
  have HZ2 := Lib.hid hz2
  clear hi hz0 hz1 hz2
  go_enter Tryz.func242, Tryz.ntmps242
  go_wp2
  go_loopg [0, 8] 5 (fun gg s0 s8 wr => ∃ (ys : List UInt8), Hid (PutOk base xs ys v w s0 wr) ∧ ((3 < gg ∧ s8 = .int .i64 (2) ∧ Hid (ys = [])) ∨ (2 < gg ∧ s8 = .int .i64 (1) ∧ Hid (ys = [UInt8.ofNat (n / 256 ^ 2).toNat])) ∨ (1 < gg ∧ s8 = .int .i64 (0) ∧ Hid (ys = [UInt8.ofNat (n / 256 ^ 2).toNat, UInt8.ofNat (n / 256 ^ 1).toNat])) ∨ (0 < gg ∧ s8 = .int .i64 (-1) ∧ Hid (ys = [UInt8.ofNat (n / 256 ^ 2).toNat, UInt8.ofNat (n / 256 ^ 1).toNat, UInt8.ofNat (n / 256 ^ 0).toNat]))))
  case atStart => exact ⟨[], P0, Or.inl ⟨by omega, rfl, Lib.hid rfl⟩⟩
  case round =>
    obtain ⟨ys, PR, hrel⟩ := hrel
    obtain ⟨pc, nc, cc, rfl⟩ : ∃ p n c, u0 = .slice p n c := by
      rcases PR.out.row.2 with ⟨h, _⟩ | ⟨_, _, _, h, _⟩
      · exact ⟨_, _, _, h⟩
      · exact ⟨_, _, _, h⟩
    have HNC : Hid (nc = (xs ++ ys).length) := Lib.hid (by
      rcases PR.out.row.2 with ⟨h, h0⟩ | ⟨_, _, _, h, _⟩
      · rw [h0]
        cases h
        rfl
      · cases h
        rfl)
    have OWR : Hid (wr.ownsRow base 5 1 (.slice pc nc cc) nc (byteVals (xs ++ ys))) := Lib.hid (by
      have h := PR.out.row
      rw [← HNC.out] at h
      exact h)
    have hbr : base ≤ wr.heap.size + 1 := Nat.le_succ_of_le (Nat.le_trans hb PR.out.grown.size)
    rcases hrel with ⟨hgg, rfl, HY⟩ | ⟨hgg, rfl, HY⟩ | ⟨hgg, rfl, HY⟩ | ⟨hgg, rfl, HY⟩
    · have hyl : ys.length = 0 := by rw [HY.out]; rfl
      have hml : Hid (nc + 1 ≤ maxLen) := Lib.hid (by rw [HNC.out, List.length_append]; unfold maxLen; omega)
      have hbs : Hid ((nc + 1) * 1 ≤ 140737488355328) := Lib.hid (by rw [HNC.out, List.length_append]; omega)
      have HBV : Hid (((UInt8.ofNat (n / 256 ^ 2).toNat).toNat : Int) = n / 65536) := Lib.hid (by
        rw [← byte_of _ (by omega)]
        omega)
      have AX : Hid (Below wr.heap.size wr (wr.alloc (.cells #[.int .u8 (n / 65536)] 5))) := Lib.hid ((Below.refl _ _).alloc (Nat.le_refl _) _)
      clear hyl
      go_wp2_with (first | (at_builtin; go_loud (refine wpList_append_lies _ rfl _ _ 22 rfl base 5 i0 (.int .u8 0) 1 1 Tryz.underlying22 HI.out HZ0.out HZ1.out HZ2.out rfl (by decide) _ nc (byteVals (xs ++ ys)) rfl (OWR.out.alloc _) ⟨wr.heap.size, 0, none⟩ 1 1 [.int .u8 (n / 65536)] rfl rfl (cell_one_new _ _ _) (by simp [Value.oneCell']) (by decide) hml.out hbs.out (by rw [sz_alloc]; exact hbr) _ rfl ?_)))
      intro g cap w6 hown hgrow hat _
      rw [HNC.out] at hown
      have PN : PutOk base xs (ys ++ [UInt8.ofNat (n / 256 ^ 2).toNat]) v w (.slice (some ⟨g, 0, none⟩) (nc + 1) cap) w6 := by
        rw [HNC.out]
        refine PR.out.more (g := g) AX.out ?_ hgrow rfl (hat.elim Or.inl (fun h => Or.inr (by omega)))
        have e : byteVals [UInt8.ofNat (n / 256 ^ 2).toNat] = [.int .u8 (n / 65536)] := by
          unfold byteVals
          rw [List.map_cons, List.map_nil, HBV.out]
        rw [e]
        exact hown
      have HPN := Lib.hid PN
      have HY2 : Hid (ys ++ [UInt8.ofNat (n / 256 ^ 2).toNat] = _) := Lib.hid (by rw [HY.out])
      clear hown hgrow hat PN
      go_wp2
      go_roundg 3
      case measure => omega
      case rel => exact ⟨_, HPN, Or.inr (Or.inl ⟨by omega, rfl, HY2⟩)⟩
    · have hyl : ys.length = 1 := by rw [HY.out]; rfl
      have hml : Hid (nc + 1 ≤ maxLen) := Lib.hid (by rw [HNC.out, List.length_append]; unfold maxLen; omega)
      have hbs : Hid ((nc + 1) * 1 ≤ 140737488355328) := Lib.hid (by rw [HNC.out, List.length_append]; omega)
      have HBV : Hid (((UInt8.ofNat (n / 256 ^ 1).toNat).toNat : Int) = n / 256 % 256) := Lib.hid (by
        rw [← byte_of _ (by omega)]
        omega)
      have AX : Hid (Below wr.heap.size wr (wr.alloc (.cells #[.int .u8 (n / 256 % 256)] 5))) := Lib.hid ((Below.refl _ _).alloc (Nat.le_refl _) _)
      clear hyl
      go_wp2_with (first | (at_builtin; go_loud (refine wpList_append_lies _ rfl _ _ 22 rfl base 5 i0 (.int .u8 0) 1 1 Tryz.underlying22 HI.out HZ0.out HZ1.out HZ2.out rfl (by decide) _ nc (byteVals (xs ++ ys)) rfl (OWR.out.alloc _) ⟨wr.heap.size, 0, none⟩ 1 1 [.int .u8 (n / 256 % 256)] rfl rfl (cell_one_new _ _ _) (by simp [Value.oneCell']) (by decide) hml.out hbs.out (by rw [sz_alloc]; exact hbr) _ rfl ?_)))
      intro g cap w6 hown hgrow hat _
      rw [HNC.out] at hown
      have PN : PutOk base xs (ys ++ [UInt8.ofNat (n / 256 ^ 1).toNat]) v w (.slice (some ⟨g, 0, none⟩) (nc + 1) cap) w6 := by
        rw [HNC.out]
        refine PR.out.more (g := g) AX.out ?_ hgrow rfl (hat.elim Or.inl (fun h => Or.inr (by omega)))
        have e : byteVals [UInt8.ofNat (n / 256 ^ 1).toNat] = [.int .u8 (n / 256 % 256)] := by
          unfold byteVals
          rw [List.map_cons, List.map_nil, HBV.out]
        rw [e]
        exact hown
      have HPN := Lib.hid PN
      have HY2 : Hid (ys ++ [UInt8.ofNat (n / 256 ^ 1).toNat] = _) := Lib.hid (by rw [HY.out])
      clear hown hgrow hat PN
      go_wp2
      go_roundg 2
      case measure => omega
      case rel => exact ⟨_, HPN, Or.inr (Or.inr (Or.inl ⟨by omega, rfl, HY2⟩))⟩
    · have hyl : ys.length = 2 := by rw [HY.out]; rfl
      have hml : Hid (nc + 1 ≤ maxLen) := Lib.hid (by rw [HNC.out, List.length_append]; unfold maxLen; omega)
      have hbs : Hid ((nc + 1) * 1 ≤ 140737488355328) := Lib.hid (by rw [HNC.out, List.length_append]; omega)
      have HBV : Hid (((UInt8.ofNat (n / 256 ^ 0).toNat).toNat : Int) = n % 256) := Lib.hid (by
        rw [← byte_of _ (by omega)]
        omega)
      have AX : Hid (Below wr.heap.size wr (wr.alloc (.cells #[.int .u8 (n % 256)] 5))) := Lib.hid ((Below.refl _ _).alloc (Nat.le_refl _) _)
      clear hyl
      go_wp2_with (first | (at_builtin; go_loud (refine wpList_append_lies _ rfl _ _ 22 rfl base 5 i0 (.int .u8 0) 1 1 Tryz.underlying22 HI.out HZ0.out HZ1.out HZ2.out rfl (by decide) _ nc (byteVals (xs ++ ys)) rfl (OWR.out.alloc _) ⟨wr.heap.size, 0, none⟩ 1 1 [.int .u8 (n % 256)] rfl rfl (cell_one_new _ _ _) (by simp [Value.oneCell']) (by decide) hml.out hbs.out (by rw [sz_alloc]; exact hbr) _ rfl ?_)))
      intro g cap w6 hown hgrow hat _
      rw [HNC.out] at hown
      have PN : PutOk base xs (ys ++ [UInt8.ofNat (n / 256 ^ 0).toNat]) v w (.slice (some ⟨g, 0, none⟩) (nc + 1) cap) w6 := by
        rw [HNC.out]
        refine PR.out.more (g := g) AX.out ?_ hgrow rfl (hat.elim Or.inl (fun h => Or.inr (by omega)))
        have e : byteVals [UInt8.ofNat (n / 256 ^ 0).toNat] = [.int .u8 (n % 256)] := by
          unfold byteVals
          rw [List.map_cons, List.map_nil, HBV.out]
        rw [e]
        exact hown
      have HPN := Lib.hid PN
      have HY2 : Hid (ys ++ [UInt8.ofNat (n / 256 ^ 0).toNat] = _) := Lib.hid (by rw [HY.out])
      clear hown hgrow hat PN
      go_wp2
      go_roundg 1
      case measure => omega
      case rel => exact ⟨_, HPN, Or.inr (Or.inr (Or.inr (⟨by omega, rfl, HY2⟩)))⟩
    · have HE : Hid (ys = beL 3 n) := Lib.hid HY.out
      go_wp2
      refine bodyPost_ret (v := .tuple #[.slice pc nc cc, .int .i64 0]) (by simp [results, Tryz.results242, go_sem]) rfl ⟨_, rfl, ?_⟩
      rw [← HE.out]
      exact PR.out
set_option maxHeartbeats 2000000 in
theorem put_4 (base : Nat) (v : Value) (xs : List UInt8) (n : Int) (w : World) (hb : base ≤ w.heap.size) (hown : w.ownsRow base 5 1 v xs.length (byteVals xs)) (hn0 : 0 ≤ n) (hn1 : n < 4294967296) (hx : xs.length ≤ 1099511627776) :
    Calls Tryz.prog 242 #[v, .int .i64 4, .int .i64 n] w fun e w' => ∃ v', e = .returned (.tuple #[v', .int .i64 0]) ∧ PutOk base xs (beL 4 n) v w v' w' := by
  have ht : (n / 4294967296 != 0) = false := by
    rw [bne_eq_false_iff_eq]
    omega
  have ht2 : ¬ n < 0 := by omega
  have P0 := Lib.hid (PutOk.start hown)
  clear hown
  obtain ⟨i0, hi, hz0, hz1, hz2⟩ := info_parts info_u8
  have HI := Lib.hid hi
  have HZ0 := Lib.hid hz0
  have HZ1 := Lib.hid hz1
  have HZ2 := Lib.hid hz2
  clear hi hz0 hz1 hz2
  go_enter Tryz.func242, Tryz.ntmps242
  go_wp2
  go_loopg [0, 8] 6 (fun gg s0 s8 wr => ∃ (ys : List UInt8), Hid (PutOk base xs ys v w s0 wr) ∧ ((4 < gg ∧ s8 = .int .i64 (3) ∧ Hid (ys = [])) ∨ (3 < gg ∧ s8 = .int .i64 (2) ∧ Hid (ys = [UInt8.ofNat (n / 256 ^ 3).toNat])) ∨ (2 < gg ∧ s8 = .int .i64 (1) ∧ Hid (ys = [UInt8.ofNat (n / 256 ^ 3).toNat, UInt8.ofNat (n / 256 ^ 2).toNat])) ∨ (1 < gg ∧ s8 = .int .i64 (0) ∧ Hid (ys = [UInt8.ofNat (n / 256 ^ 3).toNat, UInt8.ofNat (n / 256 ^ 2).toNat, UInt8.ofNat (n / 256 ^ 1).toNat])) ∨ (0 < gg ∧ s8 = .int .i64 (-1) ∧ Hid (ys = [UInt8.ofNat (n / 256 ^ 3).toNat, UInt8.ofNat (n / 256 ^ 2).toNat, UInt8.ofNat (n / 256 ^ 1).toNat, UInt8.ofNat (n / 256 ^ 0).toNat]))))
  case atStart => exact ⟨[], P0, Or.inl ⟨by omega, rfl, Lib.hid rfl⟩⟩
  case round =>
    obtain ⟨ys, PR, hrel⟩ := hrel
    obtain ⟨pc, nc, cc, rfl⟩ : ∃ p n c, u0 = .slice p n c := by
      rcases PR.out.row.2 with ⟨h, _⟩ | ⟨_, _, _, h, _⟩
      · exact ⟨_, _, _, h⟩
      · exact ⟨_, _, _, h⟩
    have HNC : Hid (nc = (xs ++ ys).length) := Lib.hid (by
      rcases PR.out.row.2 with ⟨h, h0⟩ | ⟨_, _, _, h, _⟩
      · rw [h0]
        cases h
        rfl
      · cases h
        rfl)
    have OWR : Hid (wr.ownsRow base 5 1 (.slice pc nc cc) nc (byteVals (xs ++ ys))) := Lib.hid (by
      have h := PR.out.row
      rw [← HNC.out] at h
      exact h)
    have hbr : base ≤ wr.heap.size + 1 := Nat.le_succ_of_le (Nat.le_trans hb PR.out.grown.size)
    rcases hrel with ⟨hgg, rfl, HY⟩ | ⟨hgg, rfl, HY⟩ | ⟨hgg, rfl, HY⟩ | ⟨hgg, rfl, HY⟩ | ⟨hgg, rfl, HY⟩
    · have hyl : ys.length = 0 := by rw [HY.out]; rfl
      have hml : Hid (nc + 1 ≤ maxLen) := Lib.hid (by rw [HNC.out, List.length_append]; unfold maxLen; omega)
      have hbs : Hid ((nc + 1) * 1 ≤ 140737488355328) := Lib.hid (by rw [HNC.out, List.length_append]; omega)
      have HBV : Hid (((UInt8.ofNat (n / 256 ^ 3).toNat).toNat : Int) = n / 16777216) := Lib.hid (by
        rw [← byte_of _ (by omega)]
        omega)
      have AX : Hid (Below wr.heap.size wr (wr.alloc (.cells #[.int .u8 (n / 16777216)] 5))) := Lib.hid ((Below.refl _ _).alloc (Nat.le_refl _) _)
      clear hyl
      go_wp2_with (first | (at_builtin; go_loud (refine wpList_append_lies _ rfl _ _ 22 rfl base 5 i0 (.int .u8 0) 1 1 Tryz.underlying22 HI.out HZ0.out HZ1.out HZ2.out rfl (by decide) _ nc (byteVals (xs ++ ys)) rfl (OWR.out.alloc _) ⟨wr.heap.size, 0, none⟩ 1 1 [.int .u8 (n / 16777216)] rfl rfl (cell_one_new _ _ _) (by simp [Value.oneCell']) (by decide) hml.out hbs.out (by rw [sz_alloc]; exact hbr) _ rfl ?_)))
      intro g cap w6 hown hgrow hat _
      rw [HNC.out] at hown
      have PN : PutOk base xs (ys ++ [UInt8.ofNat (n / 256 ^ 3).toNat]) v w (.slice (some ⟨g, 0, none⟩) (nc + 1) cap) w6 := by
        rw [HNC.out]
        refine PR.out.more (g := g) AX.out ?_ hgrow rfl (hat.elim Or.inl (fun h => Or.inr (by omega)))
        have e : byteVals [UInt8.ofNat (n / 256 ^ 3).toNat] = [.int .u8 (n / 16777216)] := by
          unfold byteVals
          rw [List.map_cons, List.map_nil, HBV.out]
        rw [e]
        exact hown
      have HPN := Lib.hid PN
      have HY2 : Hid (ys ++ [UInt8.ofNat (n / 256 ^ 3).toNat] = _) := Lib.hid (by rw [HY.out])
      clear hown hgrow hat PN
      go_wp2
      go_roundg 4
      case measure => omega
      case rel => exact ⟨_, HPN, Or.inr (Or.inl ⟨by omega, rfl, HY2⟩)⟩
    · have hyl : ys.length = 1 := by rw [HY.out]; rfl
      have hml : Hid (nc + 1 ≤ maxLen) := Lib.hid (by rw [HNC.out, List.length_append]; unfold maxLen; omega)
      have hbs : Hid ((nc + 1) * 1 ≤ 140737488355328) := Lib.hid (by rw [HNC.out, List.length_append]; omega)
      have HBV : Hid (((UInt8.ofNat (n / 256 ^ 2).toNat).toNat : Int) = n / 65536 % 256) := Lib.hid (by
        rw [← byte_of _ (by omega)]
        omega)
      have AX : Hid (Below wr.heap.size wr (wr.alloc (.cells #[.int .u8 (n / 65536 % 256)] 5))) := Lib.hid ((Below.refl _ _).alloc (Nat.le_refl _) _)
      clear hyl
      go_wp2_with (first | (at_builtin; go_loud (refine wpList_append_lies _ rfl _ _ 22 rfl base 5 i0 (.int .u8 0) 1 1 Tryz.underlying22 HI.out HZ0.out HZ1.out HZ2.out rfl (by decide) _ nc (byteVals (xs ++ ys)) rfl (OWR.out.alloc _) ⟨wr.heap.size, 0, none⟩ 1 1 [.int .u8 (n / 65536 % 256)] rfl rfl (cell_one_new _ _ _) (by simp [Value.oneCell']) (by decide) hml.out hbs.out (by rw [sz_alloc]; exact hbr) _ rfl ?_)))
      intro g cap w6 hown hgrow hat _
      rw [HNC.out] at hown
      have PN : PutOk base xs (ys ++ [UInt8.ofNat (n / 256 ^ 2).toNat]) v w (.slice (some ⟨g, 0, none⟩) (nc + 1) cap) w6 := by
        rw [HNC.out]
        refine PR.out.more (g := g) AX.out ?_ hgrow rfl (hat.elim Or.inl (fun h => Or.inr (by omega)))
        have e : byteVals [UInt8.ofNat (n / 256 ^ 2).toNat] = [.int .u8 (n / 65536 % 256)] := by
          unfold byteVals
          rw [List.map_cons, List.map_nil, HBV.out]
        rw [e]
        exact hown
      have HPN := Lib.hid PN
      have HY2 : Hid (ys ++ [UInt8.ofNat (n / 256 ^ 2).toNat] = _) := Lib.hid (by rw [HY.out])
      clear hown hgrow hat PN
      go_wp2
      go_roundg 3
      case measure => omega
      case rel => exact ⟨_, HPN, Or.inr (Or.inr (Or.inl ⟨by omega, rfl, HY2⟩))⟩
    · have hyl : ys.length = 2 := by rw [HY.out]; rfl
      have hml : Hid (nc + 1 ≤ maxLen) := Lib.hid (by rw [HNC.out, List.length_append]; unfold maxLen; omega)
      have hbs : Hid ((nc + 1) * 1 ≤ 140737488355328) := Lib.hid (by rw [HNC.out, List.length_append]; omega)
      have HBV : Hid (((UInt8.ofNat (n / 256 ^ 1).toNat).toNat : Int) = n / 256 % 256) := Lib.hid (by
        rw [← byte_of _ (by omega)]
        omega)
      have AX : Hid (Below wr.heap.size wr (wr.alloc (.cells #[.int .u8 (n / 256 % 256)] 5))) := Lib.hid ((Below.refl _ _).alloc (Nat.le_refl _) _)
      clear hyl
      go_wp2_with (first | (at_builtin; go_loud (refine wpList_append_lies _ rfl _ _ 22 rfl base 5 i0 (.int .u8 0) 1 1 Tryz.underlying22 HI.out HZ0.out HZ1.out HZ2.out rfl (by decide) _ nc (byteVals (xs ++ ys)) rfl (OWR.out.alloc _) ⟨wr.heap.size, 0, none⟩ 1 1 [.int .u8 (n / 256 % 256)] rfl rfl (cell_one_new _ _ _) (by simp [Value.oneCell']) (by decide) hml.out hbs.out (by rw [sz_alloc]; exact hbr) _ rfl ?_)))
      intro g cap w6 hown hgrow hat _
      rw [HNC.out] at hown
      have PN : PutOk base xs (ys ++ [UInt8.ofNat (n / 256 ^ 1).toNat]) v w (.slice (some ⟨g, 0, none⟩) (nc + 1) cap) w6 := by
        rw [HNC.out]
        refine PR.out.more (g := g) AX.out ?_ hgrow rfl (hat.elim Or.inl (fun h => Or.inr (by omega)))
        have e : byteVals [UInt8.ofNat (n / 256 ^ 1).toNat] = [.int .u8 (n / 256 % 256)] := by
          unfold byteVals
          rw [List.map_cons, List.map_nil, HBV.out]
        rw [e]
        exact hown
      have HPN := Lib.hid PN
      have HY2 : Hid (ys ++ [UInt8.ofNat (n / 256 ^ 1).toNat] = _) := Lib.hid (by rw [HY.out])
      clear hown hgrow hat PN
      go_wp2
      go_roundg 2
      case measure => omega
      case rel => exact ⟨_, HPN, Or.inr (Or.inr (Or.inr (Or.inl ⟨by omega, rfl, HY2⟩)))⟩
    · have hyl : ys.length = 3 := by rw [HY.out]; rfl
      have hml : Hid (nc + 1 ≤ maxLen) := Lib.hid (by rw [HNC.out, List.length_append]; unfold maxLen; omega)
      have hbs : Hid ((nc + 1) * 1 ≤ 140737488355328) := Lib.hid (by rw [HNC.out, List.length_append]; omega)
      have HBV : Hid (((UInt8.ofNat (n / 256 ^ 0).toNat).toNat : Int) = n % 256) := Lib.hid (by
        rw [← byte_of _ (by omega)]
        omega)
      have AX : Hid (Below wr.heap.size wr (wr.alloc (.cells #[.int .u8 (n % 256)] 5))) := Lib.hid ((Below.refl _ _).alloc (Nat.le_refl _) _)
      clear hyl
      go_wp2_with (first | (at_builtin; go_loud (refine wpList_append_lies _ rfl _ _ 22 rfl base 5 i0 (.int .u8 0) 1 1 Tryz.underlying22 HI.out HZ0.out HZ1.out HZ2.out rfl (by decide) _ nc (byteVals (xs ++ ys)) rfl (OWR.out.alloc _) ⟨wr.heap.size, 0, none⟩ 1 1 [.int .u8 (n % 256)] rfl rfl (cell_one_new _ _ _) (by simp [Value.oneCell']) (by decide) hml.out hbs.out (by rw [sz_alloc]; exact hbr) _ rfl ?_)))
      intro g cap w6 hown hgrow hat _
      rw [HNC.out] at hown
      have PN : PutOk base xs (ys ++ [UInt8.ofNat (n / 256 ^ 0).toNat]) v w (.slice (some ⟨g, 0, none⟩) (nc + 1) cap) w6 := by
        rw [HNC.out]
        refine PR.out.more (g := g) AX.out ?_ hgrow rfl (hat.elim Or.inl (fun h => Or.inr (by omega)))
        have e : byteVals [UInt8.ofNat (n / 256 ^ 0).toNat] = [.int .u8 (n % 256)] := by
          unfold byteVals
          rw [List.map_cons, List.map_nil, HBV.out]
        rw [e]
        exact hown
      have HPN := Lib.hid PN
      have HY2 : Hid (ys ++ [UInt8.ofNat (n / 256 ^ 0).toNat] = _) := Lib.hid (by rw [HY.out])
      clear hown hgrow hat PN
      go_wp2
      go_roundg 1
      case measure => omega
      case rel => exact ⟨_, HPN, Or.inr (Or.inr (Or.inr (Or.inr (⟨by omega, rfl, HY2⟩))))⟩
    · have HE : Hid (ys = beL 4 n) := Lib.hid HY.out
      go_wp2
      refine bodyPost_ret (v := .tuple #[.slice pc nc cc, .int .i64 0]) (by simp [results, Tryz.results242, go_sem]) rfl ⟨_, rfl, ?_⟩
      rw [← HE.out]
      exact PR.out
theorem put_c (base : Nat) (v : Value) (xs : List UInt8) (k : Nat) (n : Int) (w : World) (hb : base ≤ w.heap.size) (hown : w.ownsRow base 5 1 v xs.length (byteVals xs)) (hk : 1 ≤ k ∧ k ≤ 4) (hn : 0 ≤ n ∧ n < 256 ^ k) (hx : xs.length ≤ 1099511627776) :
    Calls Tryz.prog 242 #[v, .int .i64 (k : Int), .int .i64 n] w fun e w' => ∃ v', e = .returned (.tuple #[v', .int .i64 0]) ∧ PutOk base xs (beL k n) v w v' w' := by
  have hkk : k = 1 ∨ k = 2 ∨ k = 3 ∨ k = 4 := by omega
  rcases hkk with rfl | rfl | rfl | rfl
  · exact put_1 base v xs n w hb hown hn.1 (by simpa using hn.2) hx
  · exact put_2 base v xs n w hb hown hn.1 (by simpa using hn.2) hx
  · exact put_3 base v xs n w hb hown hn.1 (by simpa using hn.2) hx
  · exact put_4 base v xs n w hb hown hn.1 (by simpa using hn.2) hx
end Go.Proofs.YtjohhjdicbeojaaGreatDoor.Rc
