/- Texts joined: Vw Wa. -/
import Derived.Test.YtjohhjdicbeojaaGreatDoorZbo
namespace Go.Proofs.YtjohhjdicbeojaaGreatDoor.Vw
open Go.RowKit Go.Proofs.YtjohhjdicbeojaaGreatDoor.Ra Go.Proofs.YtjohhjdicbeojaaGreatDoor.Rf Go.Proofs.YtjohhjdicbeojaaGreatDoor.Rj Go.Proofs.YtjohhjdicbeojaaGreatDoor.Rl Go.Proofs.YtjohhjdicbeojaaGreatDoor.Va Go.Proofs.YtjohhjdicbeojaaGreatDoor.Vo Go.Proofs.YtjohhjdicbeojaaGreatDoor.Vp Go.Proofs.YtjohhjdicbeojaaGreatDoor.Vq
open Go.Proofs.YtjohhjdicbeojaaGreatDoor.KSb (Env itoa_c)
open Go.Proofs.YtjohhjdicbeojaaGreatDoor.KSu (mkB I64)
set_option maxRecDepth 8000
theorem run_nil (text : ByteArray) (w : World) : Calls Tryz.prog 11 #[.pointer none, .string text] w fun e w' => e = .returned (.tuple #[.string ⟨#[]⟩, .int .i64 1]) ∧ w = w' := by
  go_enter Tryz.func11, Tryz.ntmps11
  go_wp2
  go_ret2
  exact ⟨rfl, rfl⟩
theorem pool_nil (w : World) : Calls Tryz.prog 10 #[.pointer none] w fun e w' => e = .returned (.pointer none) ∧ w = w' := by
  go_enter Tryz.func10, Tryz.ntmps10
  go_wp2
  go_ret
  exact ⟨rfl, rfl⟩
theorem pool_c {SH D : Nat} {w : World} {q : Option Addr} (h : ShAt w SH D (.pointer q)) : Calls Tryz.prog 10 #[.pointer (some ⟨SH, 0, none⟩)] w fun e w' => e = .returned (.pointer q) ∧ w = w' := by
  obtain ⟨c0, c1, f1⟩ := h.cells
  go_enter Tryz.func10, Tryz.ntmps10
  go_wp2
  go_ret
  exact ⟨rfl, rfl⟩
theorem sdo_nil (k n rk v b s : Int) (dv kv : Value) (w : World) (hE : Env w) : Calls Tryz.prog 8 #[.pointer none, .agg #[.int .i64 k, .int .i64 n, .int .i64 rk, .int .i64 v, .int .i64 b, .int .i64 s, dv, kv]] w fun e w' => e = .returned (.string (errL 1)) ∧ Below w.heap.size w w' := by
  have hbb : Below w.heap.size w (w.alloc (.cells #[.int .i64 k, .int .i64 n, .int .i64 rk, .int .i64 v, .int .i64 b, .int .i64 s, dv, kv] 34)) := (Below.refl _ _).alloc (Nat.le_refl _) _
  have HB := Lib.hid hbb
  have KA := Lib.hid (answer_err 1 (.slice none 0 0) (by decide) (by decide) (by decide) _ (hE.below hbb))
  clear hbb hE
  go_enter Tryz.func8, Tryz.ntmps8
  go_wp2_with (go_at_call 18; (with_reducible refine KA.out.mono ?_); rintro e w1 ⟨rfl, hb1⟩)
  go_ret
  exact ⟨rfl, HB.out.trans (hb1.mono HB.out.size)⟩
/-- A shell over a new device. -/
theorem snew_c (n : Nat) (w : World) (h1 : 1 ≤ n) (h2 : n ≤ 424) :
    Calls Tryz.prog 5 #[.int .i64 (n : Int)] w fun e w' => (∃ SH D S N, e = .returned (.tuple #[.pointer (some ⟨SH, 0, none⟩), .int .i64 0]) ∧ w.heap.size ≤ SH ∧ ShAt w' SH D (.pointer none) ∧ DevAt w.heap.size w' D S N (.slice none 0 0) (newDev n)) ∧ Below w.heap.size w w' := by
  have KN := Lib.hid (new_c n w h1 h2)
  clear h1 h2
  go_enter Tryz.func5, Tryz.ntmps5
  go_wp2_with (go_at_call 12; (with_reducible refine KN.out.mono ?_); rintro e w1 ⟨D, S, N, rfl, hd, hb1⟩; have HD := Lib.hid hd; have HB := Lib.hid hb1; clear hd hb1)
  go_ret2
  have hb2 : Below w1.heap.size w1 (w1.alloc (.cells #[.pointer (some ⟨D, 0, none⟩), .pointer none] 46)) := (Below.refl _ _).alloc (Nat.le_refl _) _
  exact ⟨⟨w1.heap.size, D, S, N, rfl, HB.out.size, ⟨blk_new _ _ _⟩, HD.out.later hb2⟩, HB.out.trans (hb2.mono HB.out.size)⟩
/-- 128 digits 0. -/
def zerosB : ByteArray := mkB (List.replicate 128 48)
def z8 : ByteArray := ⟨#[48, 48, 48, 48, 48, 48, 48, 48]⟩
theorem zeros_is : z8 ++ z8 ++ z8 ++ z8 ++ z8 ++ z8 ++ z8 ++ z8 ++ z8 ++ z8 ++ z8 ++ z8 ++ z8 ++ z8 ++ z8 ++ z8 = zerosB := by
  apply ByteArray.ext
  simp only [ByteArray.data_append]
  rfl
theorem z8_size : z8.size = 8 := rfl
set_option maxHeartbeats 4000000 in
theorem zeros_c (w : World) : Calls Tryz.prog 13 #[] w fun e w' => e = .returned (.string zerosB) ∧ Below w.heap.size w w' := by
  have hz := zeros_is
  have hs := z8_size
  rw [← hz]
  go_enter Tryz.func13, Tryz.ntmps13
  go_upto_region 2 with fail
  rw [show (⟨#[48, 48, 48, 48, 48, 48, 48, 48]⟩ : ByteArray) = z8 from rfl]
  generalize z8 = z at *
  go_wp2
  go_ret
  exact ⟨rfl, Below.refl _ _⟩
end Go.Proofs.YtjohhjdicbeojaaGreatDoor.Vw
namespace Go.Proofs.YtjohhjdicbeojaaGreatDoor.Wa
open Go.RowKit Go.Proofs.YtjohhjdicbeojaaGreatDoor.Vo Go.Proofs.YtjohhjdicbeojaaGreatDoor.Vp
open Go.Proofs.YtjohhjdicbeojaaGreatDoor.KSb (Env)
open Go.Proofs.YtjohhjdicbeojaaGreatDoor.KSg (ActM)
open Go.Proofs.YtjohhjdicbeojaaGreatDoor.KSh (hexOf)
open Go.Proofs.YtjohhjdicbeojaaGreatDoor.KSr (lineL reqL sp)
open Go.Proofs.YtjohhjdicbeojaaGreatDoor.KSu (mkB I64)
open Go.Proofs.YtjohhjdicbeojaaGreatDoor.KSx Go.Proofs.YtjohhjdicbeojaaGreatDoor.KSy Go.Proofs.YtjohhjdicbeojaaGreatDoor.KTd Go.Proofs.YtjohhjdicbeojaaGreatDoor.KTi Go.Proofs.YtjohhjdicbeojaaGreatDoor.KTj
set_option maxRecDepth 8000
theorem itoa_dig (i : Nat) (h : i < 10) : Lib.itoa (i : Int) = [UInt8.ofNat (48 + i)] := by rw [Lib.itoa_nonneg, Lib.decDigits_one h]
theorem i0 : Lib.itoa 0 = [48] := itoa_dig 0 (by decide)
theorem i1 : Lib.itoa 1 = [49] := itoa_dig 1 (by decide)
theorem i2 : Lib.itoa 2 = [50] := itoa_dig 2 (by decide)
theorem i3 : Lib.itoa 3 = [51] := itoa_dig 3 (by decide)
theorem i4 : Lib.itoa 4 = [52] := itoa_dig 4 (by decide)
theorem i5 : Lib.itoa 5 = [53] := itoa_dig 5 (by decide)
theorem i6 : Lib.itoa 6 = [54] := itoa_dig 6 (by decide)
theorem i9 : Lib.itoa 9 = [57] := itoa_dig 9 (by decide)
def acts7 : List ActM := [⟨1, 0, 0, 0, 2, 6, [], []⟩, ⟨2, 0, 0, 0, 0, 0, [], []⟩, ⟨5, 0, 1, 0, 0, 3, [], []⟩, ⟨3, 0, 4, 0, 1, 0, [], []⟩, ⟨4, 1, 0, 0, 0, 0, [], []⟩, ⟨5, 0, 8, 0, 0, 0, [], []⟩, ⟨5, 0, 4, 0, 9, 0, [], []⟩]
def ans7 : Nat → ByteArray
  | 0 => okL []
  | 1 => okL []
  | 2 => okL [.num 0]
  | 3 => okL [.num 2]
  | 4 => mkB (Lib.itoa 2 ++ [32]) ++ okL [.num 0, .bytes (List.replicate 64 0)]
  | 5 => okL [.num 0, .num 4]
  | _ => errL 5
def textB : ByteArray := ⟨#[102, 111, 114, 109, 97, 116, 32, 54, 32, 50, 10, 111, 112, 101, 110, 10, 99, 114, 101, 97, 116, 101, 32, 51, 10, 108, 97, 116, 101, 114, 32, 114, 101, 97, 100, 32, 48, 32, 49, 10, 115, 116, 101, 112, 32, 49, 10, 115, 116, 97, 116, 10, 114, 101, 97, 100, 32, 48, 32, 57, 10]⟩
theorem text7 : textB.data.toList = textL acts7 := by
  have l0 : (lineL ⟨1, 0, 0, 0, 2, 6, [], []⟩).1 = [102, 111, 114, 109, 97, 116, 32, 54, 32, 50] := by
    show [102, 111, 114, 109, 97, 116] ++ [32] ++ Lib.itoa 6 ++ [32] ++ Lib.itoa 2 = _
    rw [i6, i2]; rfl
  have l1 : (lineL ⟨2, 0, 0, 0, 0, 0, [], []⟩).1 = [111, 112, 101, 110] := rfl
  have l2 : (lineL ⟨5, 0, 1, 0, 0, 3, [], []⟩).1 = [99, 114, 101, 97, 116, 101, 32, 51] := by
    show [99, 114, 101, 97, 116, 101] ++ (32 :: Lib.itoa 3) = _
    rw [i3]; rfl
  have l3 : (lineL ⟨3, 0, 4, 0, 1, 0, [], []⟩).1 = [108, 97, 116, 101, 114, 32, 114, 101, 97, 100, 32, 48, 32, 49] := by
    show [108, 97, 116, 101, 114] ++ [32] ++ ([114, 101, 97, 100] ++ (32 :: Lib.itoa 0) ++ (32 :: Lib.itoa 1)) = _
    rw [i0, i1]; rfl
  have l4 : (lineL ⟨4, 1, 0, 0, 0, 0, [], []⟩).1 = [115, 116, 101, 112, 32, 49] := by
    show [115, 116, 101, 112] ++ [32] ++ Lib.itoa 1 = _
    rw [i1]; rfl
  have l5 : (lineL ⟨5, 0, 8, 0, 0, 0, [], []⟩).1 = [115, 116, 97, 116] := rfl
  have l6 : (lineL ⟨5, 0, 4, 0, 9, 0, [], []⟩).1 = [114, 101, 97, 100, 32, 48, 32, 57] := by
    show [114, 101, 97, 100] ++ (32 :: Lib.itoa 0) ++ (32 :: Lib.itoa 9) = _
    rw [i0, i9]; rfl
  unfold textL acts7
  simp only [List.flatMap_cons, List.flatMap_nil, l0, l1, l2, l3, l4, l5, l6]
  rfl
theorem nums7 : ∀ m ∈ acts7, NumsOk m := by
  have go : ∀ k n rk v b s : Int, (0 ≤ n ∧ n ≤ 1000) → (0 ≤ v ∧ v ≤ 1000) → (0 ≤ b ∧ b ≤ 1000) → (0 ≤ s ∧ s ≤ 1000) → NumsOk ⟨k, n, rk, v, b, s, [], []⟩ := by
    intro k n rk v b s h1 h2 h3 h4
    refine ⟨?_, ?_, ?_, ?_, (fun x hx => by cases hx), Nat.zero_le _, Nat.zero_le _⟩ <;> (unfold I64; simp only; omega)
  intro m hm
  simp only [acts7, List.mem_cons, List.mem_nil_iff, or_false] at hm
  rcases hm with rfl | rfl | rfl | rfl | rfl | rfl | rfl <;> exact go _ _ _ _ _ _ (by decide) (by decide) (by decide) (by decide)
theorem good7 : goodL acts7 = true := rfl
theorem fin7 : fin (textB.size + 1) textB.data.toList 0 [] = (some acts7, 0) := by
  rw [text7, fin_text acts7 _ 0 [] nums7 good7 (by show 7 < 61 + 1; decide), List.nil_append]
/-- No act of them writes or crashes. -/
theorem mild7 : ∀ m ∈ acts7, m.rk ≠ 5 ∧ m.kind ≠ 7 := by
  intro m hm
  simp only [acts7, List.mem_cons, List.mem_nil_iff, or_false] at hm
  rcases hm with rfl | rfl | rfl | rfl | rfl | rfl | rfl <;> exact ⟨by decide, by decide⟩
/-! ### The answers -/
theorem w0 : okL [] = mkB [111, 107] := rfl
theorem w2 : okL [.num 0] = mkB [111, 107, 32, 48] := by
  simp [okL, wordsOf, Itm.word, okB, Lib.join, List.intercalate, i0]
theorem w3 : okL [.num 2] = mkB [111, 107, 32, 50] := by
  simp [okL, wordsOf, Itm.word, okB, Lib.join, List.intercalate, i2]
theorem w4 : okL [.num 0, .bytes (List.replicate 64 0)] = mkB ([111, 107, 32, 48, 32, 120] ++ List.replicate 128 48) := by
  show mkB ([111, 107] ++ ([32] ++ (Lib.itoa 0 ++ ([32] ++ (120 :: hexOf (List.replicate 64 0)))))) = _
  rw [i0]; rfl
theorem w5 : okL [.num 0, .num 4] = mkB [111, 107, 32, 48, 32, 52] := by
  simp [okL, wordsOf, Itm.word, okB, Lib.join, List.intercalate, i0, i4]
theorem w6 : errL 5 = mkB [101, 114, 114, 111, 114, 32, 53] := by
  show mkB ([101, 114, 114, 111, 114, 32] ++ Lib.itoa 5) = _
  rw [i5]; rfl
theorem e1 : errL 1 = mkB [101, 114, 114, 111, 114, 32, 49] := by
  show mkB ([101, 114, 114, 111, 114, 32] ++ Lib.itoa 1) = _
  rw [i1]; rfl
/-- They, as bytes. -/
def ansL : Nat → List UInt8
  | 0 => [111, 107]
  | 1 => [111, 107]
  | 2 => [111, 107, 32, 48]
  | 3 => [111, 107, 32, 50]
  | 4 => [50, 32, 111, 107, 32, 48, 32, 120] ++ List.replicate 128 48
  | 5 => [111, 107, 32, 48, 32, 52]
  | _ => [101, 114, 114, 111, 114, 32, 53]
theorem ans_L : ∀ k, ans7 k = mkB (ansL k)
  | 0 => w0
  | 1 => w0
  | 2 => w2
  | 3 => w3
  | 4 => by
    show mkB (Lib.itoa 2 ++ [32]) ++ okL [.num 0, .bytes (List.replicate 64 0)] = _
    rw [w4, i2, mkB_app]; rfl
  | 5 => w5
  | _ + 6 => w6
theorem ans_len : ∀ k, (ansL k).length ≤ 200
  | 0 => by decide
  | 1 => by decide
  | 2 => by decide
  | 3 => by decide
  | 4 => by decide
  | 5 => by decide
  | _ + 6 => by show 7 ≤ 200; decide
theorem ans_size (k : Nat) : (ans7 k).size ≤ 200 := by
  rw [ans_L, mkB_size]
  exact ans_len k
def outN : Nat → List UInt8
  | 0 => []
  | k + 1 => outN k ++ (ansL k ++ [10])
theorem outN_len : ∀ k, (outN k).length ≤ k * 201
  | 0 => Nat.zero_le _
  | k + 1 => by
    have h1 := outN_len k
    have h2 := ans_len k
    show (outN k ++ (ansL k ++ [10])).length ≤ _
    rw [List.length_append, List.length_append, Nat.succ_mul]
    show _ + (_ + 1) ≤ _
    omega
/-- A line more. -/
theorem out_more (k : Nat) : Lib.byteCells (outN k) ++ Lib.strCells (ans7 k ++ ⟨#[10]⟩) = Lib.byteCells (outN (k + 1)) := by
  have e : (ans7 k ++ (⟨#[10]⟩ : ByteArray)).data.toList = ansL k ++ [10] := by
    rw [ans_L, show (⟨#[10]⟩ : ByteArray) = mkB [10] from rfl, mkB_app]
    simp [mkB]
  unfold Lib.strCells
  rw [e]
  show _ = Lib.byteCells (outN k ++ (ansL k ++ [10]))
  simp [Lib.byteCells]
def tB1 : ByteArray := ⟨#[111, 107, 10, 111, 107, 10, 111, 107, 32, 48, 10, 111, 107, 32, 50, 10, 50, 32, 111, 107, 32, 48, 32, 120]⟩
def tB2 : ByteArray := ⟨#[10, 111, 107, 32, 48, 32, 52, 10, 101, 114, 114, 111, 114, 32, 53, 10]⟩
theorem out7 : tB1 ++ mkB (List.replicate 128 48) ++ tB2 = mkB (outN 7) := by
  apply ByteArray.ext
  rw [ByteArray.data_append, ByteArray.data_append]
  rfl
end Go.Proofs.YtjohhjdicbeojaaGreatDoor.Wa
