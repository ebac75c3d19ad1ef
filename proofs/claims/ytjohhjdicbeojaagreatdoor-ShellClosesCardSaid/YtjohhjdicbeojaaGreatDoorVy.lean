/- (*Shell).Run: the walk, on the law's text. -/
import Derived.Test.YtjohhjdicbeojaaGreatDoorVx
namespace Go.Proofs.YtjohhjdicbeojaaGreatDoor.Vy
open Go.RowKit Go.Proofs.YtjohhjdicbeojaaGreatDoor.Ra Go.Proofs.YtjohhjdicbeojaaGreatDoor.Rf Go.Proofs.YtjohhjdicbeojaaGreatDoor.Rj Go.Proofs.YtjohhjdicbeojaaGreatDoor.Rl Go.Proofs.YtjohhjdicbeojaaGreatDoor.Va Go.Proofs.YtjohhjdicbeojaaGreatDoor.Vk Go.Proofs.YtjohhjdicbeojaaGreatDoor.Vo Go.Proofs.YtjohhjdicbeojaaGreatDoor.Vp Go.Proofs.YtjohhjdicbeojaaGreatDoor.Vq Go.Proofs.YtjohhjdicbeojaaGreatDoor.Vw Go.Proofs.YtjohhjdicbeojaaGreatDoor.Vx Go.Proofs.YtjohhjdicbeojaaGreatDoor.Wa
open Go.Proofs.YtjohhjdicbeojaaGreatDoor.KSb (Env itoa_c)
open Go.Proofs.YtjohhjdicbeojaaGreatDoor.KSg (ActM NilOf)
open Go.Proofs.YtjohhjdicbeojaaGreatDoor.KSu (mkB I64)
open Go.Proofs.YtjohhjdicbeojaaGreatDoor.KSx Go.Proofs.YtjohhjdicbeojaaGreatDoor.KSy
set_option maxRecDepth 8000

def cellsOf (m : ActM) : List Value := [.int .i64 m.kind, .int .i64 m.n, .int .i64 m.rk, .int .i64 m.vol, .int .i64 m.block, .int .i64 m.size, .slice none 0 0, .slice none 0 0]
/-- The seven acts lie in a row. -/
structure Listed (w : World) (g : Nat) : Prop where
  blk : ∃ cs, w.heap[g]? = some (.cells cs 34 (0, 0))
  cell : ∀ k m, acts7[k]? = some m → ∀ i u, (cellsOf m)[i]? = some u → w.cell? ⟨g, k * 8 + i, none⟩ = some u
theorem Listed.kept {ts : List TypeId} {C g : Nat} {w w' : World} (h : Listed w g) (hk : Kept ts C w w') (ht : ts.contains 34 = false) : Listed w' g := by
  obtain ⟨cs, hb⟩ := h.blk
  have hb2 := hk.at hb ht
  refine ⟨⟨cs, hb2⟩, fun k m hm i u hu => (World.cell?_of_block (w := w) (hb2.trans hb.symm)).trans (h.cell k m hm i u hu)⟩
theorem Listed.below {g : Nat} {w w' : World} (h : Listed w g) (hb : Below w.heap.size w w') : Listed w' g := h.kept (Kept.of (ts := []) hb (Nat.le_refl _)) (by rfl)

theorem acts_7 (w : World) (hE : Env w) : Calls Tryz.prog 27 #[.string textB] w fun e w' => (∃ g, e = .returned (.tuple #[.slice (some ⟨g, 0, none⟩) 7 7, .int .i64 0, .int .i64 0]) ∧ Listed w' g) ∧ Below w.heap.size w w' := by
  refine (acts_c textB (by show 61 ≤ 65536; decide) w hE).mono ?_
  intro e w' h
  rw [fin7] at h
  obtain ⟨p, es, hes, rfl, hl, hb⟩ := h
  have hlen : es.length = 7 := by
    have := congrArg List.length hes
    rw [List.length_map] at this
    exact this.symm
  have hne : es ≠ [] := fun e => by rw [e] at hlen; cases hlen
  obtain ⟨g, cs, rfl, hh⟩ := hl.typ hne
  rw [hlen]
  refine ⟨⟨g, rfl, ⟨cs, hh⟩, fun k m hm i u hu => ?_⟩, hb⟩
  have hk : k < es.length := by
    have := (List.getElem?_eq_some_iff.1 hm).1
    rw [hlen]
    exact this
  have he : es[k]? = some es[k] := List.getElem?_eq_getElem hk
  have hmm : es[k].m = m := by
    have h2 : (es.map (·.m))[k]? = some es[k].m := by rw [List.getElem?_map, he]; rfl
    rw [← hes, hm] at h2
    exact (Option.some.inj h2).symm
  have hn := hl.nil k es[k] he
  have hmild := mild7 m (List.mem_of_getElem? hm)
  have hd := hn.d (by rw [hmm]; exact hmild.1)
  have hkv := hn.k (by rw [hmm]; exact hmild.2)
  obtain ⟨g2, h1, _, h3, _⟩ := hl.ent k es[k] he
  obtain rfl : g = g2 := by simpa using h1
  refine h3 i u ?_
  unfold Ent.cells
  rw [hmm, hd, hkv]
  exact hu

theorem bld_blk {T e : TypeId} {B b : Nat} {bs : List Value} {w : World} (h : Lib.IsBuilderF T e B b bs w) : ∃ p v, w.heap[b]? = some (.cells #[p, v] T (0, 0)) := by
  rcases h with ⟨_, v, hb, _⟩ | ⟨_, v, hb, _⟩
  · exact ⟨_, v, hb⟩
  · exact ⟨_, v, hb⟩
theorem Kept.base {ts : List TypeId} {B C : Nat} {w w' : World} (h : Kept ts C w w') (hB : B ≤ C) : Kept ts B w w' := ⟨h.below.mono hB, h.kept⟩
/-- A line is written. -/
theorem write7 (C b k : Nat) (w : World) (h : Lib.IsBuilderF 77 5 C b (Lib.byteCells (outN k)) w) (hk : k < 7) (hC : C ≤ w.heap.size) :
    Calls Tryz.prog 28 #[.pointer (some ⟨b, 0, none⟩), .string (ans7 k ++ ⟨#[10]⟩)] w fun e w' => (∃ r, e = .returned r) ∧ Lib.IsBuilderF 77 5 C b (Lib.byteCells (outN (k + 1))) w' ∧ Kept tsB C w w' := by
  have hl : (Lib.byteCells (outN k)).length = (outN k).length := by simp [Lib.byteCells]
  have hs : (ans7 k ++ (⟨#[10]⟩ : ByteArray)).size ≤ 201 := by
    have := ans_size k
    rw [ByteArray.size_append]
    have e : (⟨#[10]⟩ : ByteArray).size = 1 := rfl
    omega
  have ho := outN_len k
  obtain ⟨p, v, hb⟩ := bld_blk h
  refine (Any.Builder_WriteString_k KTi.lays166 Tryz.Builder_Extra_156 C b _ _ w h (by rw [hl]; omega) hC).mono ?_
  rintro e w' ⟨rfl, h1, h2, h3⟩
  rw [out_more] at h1
  exact ⟨⟨_, rfl⟩, Or.inr h1, kept_of_others hb h2 h3⟩

/-- The builder's text. -/
theorem string7 (C : Nat) (w : World) (h : Lib.IsBuilderF 77 5 C C (Lib.byteCells (outN 7)) w) (hC : C ≤ w.heap.size) :
    Calls Tryz.prog 29 #[.pointer (some ⟨C, 0, none⟩)] w fun e w' => e = .returned (.string (mkB (outN 7))) ∧ Lib.IsBuilderF 77 5 C C (Lib.byteCells (outN 7)) w' ∧ Below C w w' ∧ Lib.OthersKept 5 (some C) w w' :=
  Any.Builder_String_any_k Tryz.lays169 Tryz.Builder_Extra_169 C C (outN 7) w h hC

/-- Where the loop stands. -/
structure RunSt (B SH D S N C g : Nat) (w wr : World) (k : Nat) : Prop where
  st : Stand B SH D S N k wr
  bld : Lib.IsBuilderF 77 5 C C (Lib.byteCells (outN k)) wr
  list : Listed wr g
  kept : Kept (ts7 ++ tsB) B w wr
  size : C ≤ wr.heap.size
theorem RunSt.below {B SH D S N C g k : Nat} {w wr wy : World} (h : RunSt B SH D S N C g w wr k) (hb : Below wr.heap.size wr wy) (hBw : B ≤ w.heap.size) : RunSt B SH D S N C g w wy k :=
  ⟨h.st.below hb (Nat.le_trans hBw h.kept.size), bld_kept h.bld (Kept.of (ts := []) hb (Nat.le_refl _)) (by rfl) (by rfl), h.list.below hb, h.kept.step hb (Nat.le_trans hBw h.kept.size), Nat.le_trans h.size hb.size⟩
theorem RunSt.act {B SH D S N C g k : Nat} {w wr wy : World} (h : RunSt B SH D S N C g w wr k) (hs : Stand B SH D S N (k + 1) wy) (hk : Kept ts7 B wr wy) : Stand B SH D S N (k + 1) wy ∧ Lib.IsBuilderF 77 5 C C (Lib.byteCells (outN k)) wy ∧ Listed wy g ∧ Kept (ts7 ++ tsB) B w wy ∧ C ≤ wy.heap.size :=
  ⟨hs, bld_kept h.bld hk (by rfl) (by rfl), h.list.kept hk (by rfl), h.kept.trans (hk.mono (by rfl)), Nat.le_trans h.size hk.size⟩
theorem runSt_more {B SH D S N C g k : Nat} {w wy wz : World} (h : Stand B SH D S N (k + 1) wy ∧ Lib.IsBuilderF 77 5 C C (Lib.byteCells (outN k)) wy ∧ Listed wy g ∧ Kept (ts7 ++ tsB) B w wy ∧ C ≤ wy.heap.size) (hBC : B ≤ C)
    (hb : Lib.IsBuilderF 77 5 C C (Lib.byteCells (outN (k + 1))) wz) (hk : Kept tsB C wy wz) : RunSt B SH D S N C g w wz (k + 1) := by
  obtain ⟨h1, _, h3, h4, h5⟩ := h
  exact ⟨h1.built (Kept.base hk hBC), hb, h3.kept hk (by rfl), h4.trans ((Kept.base hk hBC).mono (by rfl)), Nat.le_trans h5 hk.size⟩

set_option maxHeartbeats 8000000 in
theorem run_c {B SH D S N : Nat} {w : World} (hBS : B ≤ SH) (h : Stand B SH D S N 0 w) (hE : EnvOn B w) (hBw : B ≤ w.heap.size) :
    Calls Tryz.prog 11 #[.pointer (some ⟨SH, 0, none⟩), .string textB] w fun e w' => e = .returned (.tuple #[.string (mkB (outN 7)), .int .i64 0]) ∧ Stand B SH D S N 7 w' ∧ Kept (ts7 ++ tsB) B w w' := by
  have KA := Lib.hid (acts_7 w (hE w (Below.refl _ _)))
  have KD := Lib.hid (fun (k : Nat) (m : ActM) (hm : acts7[k]? = some m) (W : World) (hs : Stand B SH D S N k W) (hb : Below B w W) (hs2 : B ≤ W.heap.size) => do7 hBS k m hm W hs (hE.later hb) hs2)
  have HS := Lib.hid h
  have HBw := Lib.hid hBw
  clear h hE hBw hBS
  generalize textB = tx at *
  go_enter Tryz.func11, Tryz.ntmps11
  go_upto_region 6 with (go_at_call 27; (with_reducible refine KA.out.mono ?_); rintro e w1 ⟨⟨g, rfl, hl⟩, hb1⟩; have HL1 := Lib.hid hl; have HB1 := Lib.hid hb1; clear hl hb1)
  have HR0 : Hid (RunSt B SH D S N w1.heap.size g w (w1.alloc (.cells #[.pointer none, .slice none 0 0] 77)) 0) := Lib.hid (by
    have ha : Below w1.heap.size w1 (w1.alloc (.cells #[.pointer none, .slice none 0 0] 77)) := (Below.refl _ _).alloc (Nat.le_refl _) _
    have hs1 := HS.out.below HB1.out HBw.out
    have hB1 := Nat.le_trans HBw.out HB1.out.size
    exact ⟨hs1.below ha hB1, Lib.IsBuilderF.of (Lib.fresh_isBuilder 77 5 w1), HL1.out.below ha, (Kept.of HB1.out HBw.out).step ha hB1, ha.size⟩)
  have HC : Hid (B ≤ w1.heap.size) := Lib.hid (Nat.le_trans HBw.out HB1.out.size)
  go_upto_region 8 with fail
  generalize (w1.alloc (.cells #[.pointer none, .slice none 0 0] 77)) = w2 at *
  generalize w1.heap.size = C at *
  clear HL1 HB1 HS KA
  go_loopg [11, 25] 8 (fun gg _ s25 wr => ∃ k : Nat, k ≤ 7 ∧ 7 - k < gg ∧ s25 = .int .i64 (k : Int) ∧ Hid (RunSt B SH D S N C g w wr k))
  case atStart => exact ⟨0, by omega, by omega, rfl, HR0⟩
  case round =>
    obtain ⟨k, hk7, hgg, rfl, HR⟩ := hrel
    clear HR0
    by_cases hk : k < 7
    · have hkl : (k : Int) < 7 := by omega
      obtain ⟨m, hm⟩ : ∃ m, acts7[k]? = some m := ⟨_, List.getElem?_eq_getElem hk⟩
      have HM := Lib.hid hm
      have hc := HR.out.list.cell k m hm
      have q0 : wr.cell? ⟨g, k * 8, none⟩ = some (.int .i64 m.kind) := hc 0 _ rfl
      have q1 : wr.cell? ⟨g, k * 8 + 1, none⟩ = some (.int .i64 m.n) := hc 1 _ rfl
      have q2 : wr.cell? ⟨g, k * 8 + 2, none⟩ = some (.int .i64 m.rk) := hc 2 _ rfl
      have q3 : wr.cell? ⟨g, k * 8 + 3, none⟩ = some (.int .i64 m.vol) := hc 3 _ rfl
      have q4 : wr.cell? ⟨g, k * 8 + 4, none⟩ = some (.int .i64 m.block) := hc 4 _ rfl
      have q5 : wr.cell? ⟨g, k * 8 + 5, none⟩ = some (.int .i64 m.size) := hc 5 _ rfl
      have q6 : wr.cell? ⟨g, k * 8 + 6, none⟩ = some (.slice none 0 0) := hc 6 _ rfl
      have q7 : wr.cell? ⟨g, k * 8 + 7, none⟩ = some (.slice none 0 0) := hc 7 _ rfl
      have ba : Below wr.heap.size wr (wr.alloc (.cells #[.int .i64 m.kind, .int .i64 m.n, .int .i64 m.rk, .int .i64 m.vol, .int .i64 m.block, .int .i64 m.size, .slice none 0 0, .slice none 0 0] 34)) := (Below.refl _ _).alloc (Nat.le_refl _) _
      have HR1 := Lib.hid (HR.out.below ba HBw.out)
      have KD1 := Lib.hid (KD.out k m hm _ HR1.out.st HR1.out.kept.below (Nat.le_trans HBw.out HR1.out.kept.size))
      have n1 : ¬ 9223372036854775807 < (ans7 k).size + (⟨#[10]⟩ : ByteArray).size := by
        have := ans_size k
        have h1 : (⟨#[10]⟩ : ByteArray).size = 1 := rfl
        omega
      have n2 : ¬ 9223372036854775807 < (ans7 k).size + 1 := by
        have := ans_size k
        omega
      clear hm hc ba
      obtain ⟨kind, n, rk, vol, block, size, data, keep⟩ := m
      simp only at q0 q1 q2 q3 q4 q5 q6 q7 KD1 HR1
      go_wp2_with (first
        | (go_at_call 8; (with_reducible refine KD1.out.mono ?_); rintro e w3 ⟨rfl, hs3, hk3⟩; have H3 := Lib.hid (HR1.out.act hs3 hk3); clear hs3 hk3)
        | (go_at_call 28; (with_reducible refine (write7 C C k _ H3.out.2.1 hk H3.out.2.2.2.2).mono ?_); rintro e w4 ⟨⟨r, rfl⟩, hb4, hk4⟩; have H4 := Lib.hid (runSt_more H3.out HC.out hb4 hk4); clear hb4 hk4))
      go_roundg (7 - (k + 1) + 1)
      case measure => omega
      case rel => exact ⟨k + 1, by omega, by omega, by go_num, H4⟩
    · have hkl : ¬ (k : Int) < 7 := by omega
      obtain rfl : k = 7 := by omega
      have KS := Lib.hid (string7 C wr HR.out.bld HR.out.size)
      go_wp2_with (go_at_call 29; (with_reducible refine KS.out.mono ?_); rintro e w5 ⟨rfl, hb5, hl5, ho5⟩)
      go_ret2
      obtain ⟨p, v, hbb⟩ := bld_blk HR.out.bld
      have hk5 := Kept.base (kept_of_others hbb hl5 ho5) HC.out
      exact ⟨rfl, HR.out.st.built hk5, HR.out.kept.trans (hk5.mono (by rfl))⟩
end Go.Proofs.YtjohhjdicbeojaaGreatDoor.Vy
