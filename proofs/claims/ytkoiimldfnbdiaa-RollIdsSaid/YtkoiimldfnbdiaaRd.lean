/- The walk of the law RollIds. No conditions. -/
import Derived.Test.YtkoiimldfnbdiaaRc
import Derived.DataShut
namespace Go.Proofs.Ytkoiimldfnbdiaa.Rd
open Go.RowKit Go.Proofs.Ytkoiimldfnbdiaa.Ra Go.Proofs.Ytkoiimldfnbdiaa.Rb Go.Proofs.Ytkoiimldfnbdiaa.Rc

/-- The law's own row of bools at block d: which ids are there. -/
structure There (w : World) (d : Nat) (k : Nat → Int) : Prop where
  lt : d < w.heap.size
  cell : ∀ j, j < 8 → w.cell? ⟨d, j, none⟩ = some (.bool (decide (k j ≠ 0)))
  free : ∀ j, j < 8 → w.frozen? ⟨d, j, none⟩ = false

theorem There.grown {w w' : World} {d b : Nat} {k : Nat → Int} (h : There w d k) (hg : w.grownBy w' (some b)) (hne : d ≠ b) : There w' d k :=
  ⟨Nat.lt_of_lt_of_le h.lt hg.size, fun j hj => hg.cell (h.cell j hj) (by simpa using hne), fun j hj => (World.frozen?_of_block (hg.block d h.lt (by simpa using hne))).trans (h.free j hj)⟩
theorem There.below {w w' : World} {d : Nat} {k : Nat → Int} (h : There w d k) (hb : Below w.heap.size w w') : There w' d k :=
  ⟨Nat.lt_of_lt_of_le h.lt hb.size, fun j hj => (hb.cell (p := ⟨d, j, none⟩) h.lt).trans (h.cell j hj), fun j hj => (hb.frozen (p := ⟨d, j, none⟩) h.lt).trans (h.free j hj)⟩
theorem There.put {w : World} {d : Nat} {k : Nat → Int} (h : There w d k) (i : Nat) (hi : i < 8) (x : Int) : There (w.setCell ⟨d, i, none⟩ (.bool (decide (x ≠ 0)))) d (upd k i x) := by
  refine ⟨by simpa using h.lt, fun j hj => ?_, fun j hj => by simpa using h.free j hj⟩
  by_cases e : j = i
  · subst e
    rw [upd_at]
    exact World.cell?_setCell_same _ _ _ (h.cell j hj)
  · rw [upd_ne _ _ e, World.cell?_setCell_other (h := fun e' => by injection e' with _ e2 _; exact e e2.symm)]
    exact h.cell j hj

/-- What holds between the law's steps. -/
structure St (w wr : World) (b d : Nat) (k : Nat → Int) (s p : Nat → Value) : Prop where
  roll : RollAt wr b k s p
  ints : ∀ j, j < 8 → ∃ z, s j = .int .i64 z
  there : There wr d k
  ne : d ≠ b
  bel : Below w.heap.size w wr
  bw : w.heap.size ≤ b
  dw : w.heap.size ≤ d

theorem set_roll {w : World} {b d o : Nat} {k : Nat → Int} {s p : Nat → Value} (h : RollAt w b k s p) (hne : d ≠ b) (v : Value) : RollAt (w.setCell ⟨d, o, none⟩ v) b k s p := by
  have far : ∀ {o' : Nat}, (⟨d, o, none⟩ : Addr) ≠ ⟨b, o', none⟩ := fun e => hne (by injection e)
  refine ⟨by simpa using h.lt, fun j hj => ?_, fun j hj => ?_, fun j hj => ?_, fun o ho => by simpa using h.free o ho⟩
  · rw [World.cell?_setCell_other (h := far)]; exact h.kind j hj
  · rw [World.cell?_setCell_other (h := far)]; exact h.size j hj
  · rw [World.cell?_setCell_other (h := far)]; exact h.ptr j hj

theorem upd_ints {s : Nat → Value} (h : ∀ j, j < 8 → ∃ z, s j = .int .i64 z) (i : Nat) (n : Int) : ∀ j, j < 8 → ∃ z, upd s i (.int .i64 n) j = .int .i64 z := by
  intro j hj
  by_cases e : j = i
  · subst e; exact ⟨n, upd_at _ _ _⟩
  · rw [upd_ne _ _ e]; exact h j hj

/-- Behind a call that wrote entry i, and the law's own store. -/
theorem St.turn {w wr w' : World} {b d : Nat} {k : Nat → Int} {s p : Nat → Value} (h : St w wr b d k s p) (i : Nat) (hi : i < 8) (x n : Int) (q : Value) (hL : Ra.Left wr b (upd k i x) (upd s i (.int .i64 n)) (upd p i q) w') :
    St w (w'.setCell ⟨d, i, none⟩ (.bool (decide (x ≠ 0)))) b d (upd k i x) (upd s i (.int .i64 n)) (upd p i q) :=
  ⟨set_roll hL.1 h.ne _, upd_ints h.ints i n, (h.there.grown hL.2 h.ne).put i hi x, h.ne, ((h.bel.grown hL.2 h.bel.size (fun k hk => by cases hk; exact h.bw)).setCell (p := ⟨d, i, none⟩) h.dw _), h.bw, h.dw⟩

/-- Behind a call that wrote nothing, and the law's own store. -/
theorem St.stay {w wr w' : World} {b d : Nat} {k : Nat → Int} {s p : Nat → Value} (h : St w wr b d k s p) (i : Nat) (hi : i < 8) (hk : k i = 0) (hB : Below wr.heap.size wr w') :
    St w (w'.setCell ⟨d, i, none⟩ (.bool false)) b d k s p := by
  have e : upd k i 0 = k := by
    funext j
    by_cases e : j = i
    · subst e; rw [upd_at, hk]
    · rw [upd_ne _ _ e]
  have t := (h.there.below hB).put i hi 0
  rw [e] at t
  exact ⟨set_roll (h.roll.below hB) h.ne _, h.ints, t, h.ne, ((h.bel.trans (hB.mono h.bel.size)).setCell (p := ⟨d, i, none⟩) h.dw _), h.bw, h.dw⟩

theorem St.below {w wr w' : World} {b d : Nat} {k : Nat → Int} {s p : Nat → Value} (h : St w wr b d k s p) (hB : Below wr.heap.size wr w') : St w w' b d k s p :=
  ⟨h.roll.below hB, h.ints, h.there.below hB, h.ne, h.bel.trans (hB.mono h.bel.size), h.bw, h.dw⟩

theorem least_of {k : Nat → Int} {m : Nat} (hm : m < 8) (h : k m = 0) : ∃ i, least k 8 i := by
  have key : ∀ n, (∃ i, i < n ∧ k i = 0 ∧ ∀ j, j < i → k j ≠ 0) ∨ ∀ j, j < n → k j ≠ 0 := by
    intro n
    induction n with
    | zero => exact .inr fun j hj => by omega
    | succ n ih =>
      rcases ih with ⟨i, h1, h2, h3⟩ | ih
      · exact .inl ⟨i, by omega, h2, h3⟩
      · by_cases e : k n = 0
        · exact .inl ⟨n, by omega, e, ih⟩
        · refine .inr fun j hj => ?_
          by_cases e' : j = n
          · subst e'; exact e
          · exact ih j (by omega)
  rcases key 8 with ⟨i, h1, h2, h3⟩ | h'
  · exact ⟨i, h1, h2, h3⟩
  · exact absurd h (h' m hm)

/-- The first kk ids are volumes. -/
def kin (kk : Nat) : Nat → Int := fun j => if j < kk then 1 else 0
theorem kin_least {kk : Nat} (h : kk < 8) : least (kin kk) 8 kk := ⟨h, if_neg (by omega), fun j hj => by unfold kin; rw [if_pos hj]; decide⟩
theorem kin_next (kk : Nat) : upd (kin kk) kk 1 = kin (kk + 1) := by
  funext j
  unfold upd kin
  by_cases e : j = kk
  · rw [if_pos e, if_pos (by omega)]
  · rw [if_neg e]
    by_cases e' : j < kk
    · rw [if_pos e', if_pos (by omega)]
    · rw [if_neg e', if_neg (by omega)]
theorem kin_full (j : Nat) (h : j < 8) : kin 8 j ≠ 0 := by unfold kin; rw [if_pos h]; decide

theorem st_start {w w1 wm : World} {b : Nat} {k : Nat → Int} (R : RollAt w1 b (fun _ => 0) (fun _ => .int .i64 0) (fun _ => .pointer none)) (hb : Below w.heap.size w w1) (bw : w.heap.size ≤ b) (hk : k = kin 0)
    (hm : wm = w1.alloc (.cells #[.bool false, .bool false, .bool false, .bool false, .bool false, .bool false, .bool false, .bool false] 4)) : St w wm b w1.heap.size k (fun _ => .int .i64 0) (fun _ => .pointer none) := by
  have e : k = fun _ => 0 := by
    rw [hk]
    funext j
    exact if_neg (by omega)
  subst e
  subst hm
  have L := R.lt
  refine ⟨R.alloc _, fun _ _ => ⟨0, rfl⟩, ⟨by simp, fun j hj => ?_, fun j _ => by simp⟩, by omega, hb.alloc hb.size _, bw, hb.size⟩
  have : j = 0 ∨ j = 1 ∨ j = 2 ∨ j = 3 ∨ j = 4 ∨ j = 5 ∨ j = 6 ∨ j = 7 := by omega
  rcases this with rfl | rfl | rfl | rfl | rfl | rfl | rfl | rfl <;> simp

/-- The list that came in. -/
structure Gone (w : World) (A : Option Addr) (n : Nat) (g : Nat → Int) : Prop where
  big : n ≤ 9223372036854775807
  cells : 0 < n → ∃ b off, A = some ⟨b, off, none⟩ ∧ b < w.heap.size ∧ ∀ j, j < n → w.cell? ⟨b, off + j, none⟩ = some (.int .u8 (g j))
  nums : ∀ j, j < n → 0 ≤ g j ∧ g j ≤ 255

set_option maxHeartbeats 4000000 in
set_option maxRecDepth 100000 in
theorem ids {w : World} {A : Option Addr} {n c : Nat} {g : Nat → Int} (hg : Gone w A n g) : Calls Try.prog 3 #[.slice A n c] w fun e w' => e = .returned (.bool true) ∧ Below w.heap.size w w' := by
  have hmk : ∀ w : World, (Instr.makeSlice 26 (.int .i64 8) (.int .i64 8)).run Try.prog w = .ok (.slice (some ⟨w.heap.size, 0, none⟩) 8 8) (w.alloc (.cells #[.bool false, .bool false, .bool false, .bool false, .bool false, .bool false, .bool false, .bool false] 4)) := fun _ => by kernel_rfl
  have HG := Lib.hid hg
  have hn := hg.big
  clear hg
  go_enter Try.func3, Try.ntmps3
  go_wp2_with fail
  refine (roll_new w).mono ?_
  rintro e w1 ⟨rfl, hb1, hz1, R1⟩
  go_wp2_with fail
  refine (awake w1).mono ?_
  rintro e w2 ⟨rfl, hb2⟩
  have S0 := Lib.hid (st_start (w := w) (R1.below hb2) (hb1.trans (hb2.mono hb1.size)) (Nat.le_refl _) (k := kin 0) rfl rfl)
  clear hb1 hz1 R1 hb2
  go_wp2
  go_loopg [5, 6, 7] 8 (fun gg s5 _ _ wr => ∃ (kk : Nat) (s p : Nat → Value), kk ≤ 8 ∧ 8 - kk ≤ gg ∧ s5 = .int .i64 kk ∧ Hid (St w wr w.heap.size w2.heap.size (kin kk) s p))
  case atStart => exact ⟨0, _, _, by omega, by omega, rfl, S0⟩
  case round =>
    obtain ⟨kk, s, p, hkk, hgg, rfl, S⟩ := hrel
    by_cases e : kk < 8
    · have hlt : (kk : Int) < 8 := by omega
      have cc := create_yes S.out.roll kk (kin_least e) (1 + (kk : Int)) (by omega) (by omega)
      go_wp2_with fail
      refine cc.mono ?_
      rintro e' w3 ⟨rfl, hL, _, _⟩
      have X := Lib.hid (S.out.turn kk e 1 (1 + (kk : Int)) _ hL)
      have T := S.out.there.grown hL.2 S.out.ne
      have tc := T.cell kk e
      have tf := T.free kk e
      have tl := T.lt
      clear T cc hL
      go_wp2
      go_roundg (8 - (kk + 1))
      case measure => omega
      case rel =>
        have Y := X.out
        rw [kin_next] at Y
        exact ⟨kk + 1, _, _, by omega, by omega, by go_num, Lib.hid Y⟩
    · have hlt : ¬ (kk : Int) < 8 := by omega
      obtain rfl : kk = 8 := by omega
      go_wp2_with fail
      refine (create_no S.out.roll kin_full 1 (by omega) (by omega)).mono ?_
      rintro e' w3 ⟨rfl, hb3⟩
      have S3 := Lib.hid (S.out.below hb3)
      obtain ⟨z, hz⟩ := S3.out.ints 3 (by omega)
      go_wp2_with fail
      refine (snap_no S3.out.roll kin_full 3 (by omega) z hz).mono ?_
      rintro e' w4 ⟨rfl, hb4⟩
      have S4 := Lib.hid (S3.out.below hb4)
      clear hb3 hb4 hz S3 S
      go_wp2
      go_loopg [12, 13, 14, 15, 16, 17] 40 (fun gg s12 _ _ _ _ _ wr => ∃ (kk : Nat) (k : Nat → Int) (s p : Nat → Value), kk ≤ 40 ∧ 40 - kk ≤ gg ∧ s12 = .int .i64 kk ∧ Hid (St w wr w.heap.size w2.heap.size k s p))
      case atStart => exact ⟨0, _, _, _, by omega, by omega, rfl, S4⟩
      case round =>
        obtain ⟨kk, k, s, p, hkk, hgg, rfl, S⟩ := hrel
        by_cases e1 : kk < n
        · by_cases e2 : kk < 40
          · have hlt1 : decide (kk < n) = true := decide_eq_true e1
            have hlt2 : (kk : Int) < 40 := by omega
            obtain ⟨gb, off, rfl, hgb, hcells⟩ := HG.out.cells (by omega)
            have hnum := HG.out.nums kk e1
            have hx0 := hcells kk e1
            obtain ⟨x, hxq⟩ : ∃ x, g kk = x := ⟨_, rfl⟩
            rw [hxq] at hx0 hnum
            obtain ⟨x0, x1⟩ := hnum
            have hx : wr.cell? ⟨gb, off + kk, none⟩ = some (.int .u8 x) := (S.out.bel.cell (p := ⟨gb, off + kk, none⟩) hgb).trans hx0
            obtain ⟨m, hmq⟩ : ∃ m : Nat, x % 8 = (m : Int) := Int.eq_ofNat_of_zero_le (by omega)
            have m8 : m < 8 := by omega
            obtain ⟨l, hl⟩ := least_of (k := upd k m 0) m8 (upd_at _ _ _)
            clear hcells hxq
            by_cases hk : k m = 0
            · have e0 : upd k m 0 = k := by
                funext j
                by_cases e : j = m
                · subst e; rw [upd_at, hk]
                · rw [upd_ne _ _ e]
              rw [e0] at hl
              have hdel := delete_no S.out.roll m m8 hk
              go_wp2_with fail
              refine hdel.mono ?_
              rintro e' w5 ⟨rfl, hb5⟩
              have X := Lib.hid (S.out.stay m m8 hk hb5)
              have T := S.out.there.below hb5
              have tc := T.cell m m8
              rw [decide_eq_false (fun h => h hk)] at tc
              have tf := T.free m m8
              clear hb5
              have tl := T.lt
              clear T
              by_cases hlt100 : x < 100
              · have d100 : decide (x < 100) = true := decide_eq_true hlt100
                have hx2 : (w5.setCell ⟨w2.heap.size, m, none⟩ (.bool false)).cell? ⟨gb, off + kk, none⟩ = some (.int .u8 x) := (X.out.bel.cell (p := ⟨gb, off + kk, none⟩) hgb).trans hx0
                go_wp2
                go_roundg (40 - (kk + 1))
                case measure => omega
                case rel => exact ⟨kk + 1, _, _, _, by omega, by omega, by go_num, X⟩
              · have d100 : decide (x < 100) = false := decide_eq_false hlt100
                have hx2 : (w5.setCell ⟨w2.heap.size, m, none⟩ (.bool false)).cell? ⟨gb, off + kk, none⟩ = some (.int .u8 x) := (X.out.bel.cell (p := ⟨gb, off + kk, none⟩) hgb).trans hx0
                go_wp2
                clear hx2 tc tf tl hx hdel d100 hlt100
                obtain ⟨wX, hWX⟩ : ∃ wX, wX = w5.setCell ⟨w2.heap.size, m, none⟩ (.bool false) := ⟨_, rfl⟩
                rw [← hWX] at X ⊢
                clear hWX
                go_loopg [15] 8 (fun gg s15 wi => ∃ ll : Nat, ll ≤ l ∧ 8 - ll ≤ gg ∧ s15 = .int .i64 ll ∧ wi = wX)
                case atStart => exact ⟨0, by omega, by omega, rfl, rfl⟩
                case round =>
                  obtain ⟨ll, hll, hgg2, rfl, rfl⟩ := hrel
                  have tl := X.out.there.lt
                  by_cases e3 : ll = l
                  · subst e3
                    have tc := X.out.there.cell ll hl.1
                    rw [decide_eq_false (fun h => h hl.2.1)] at tc
                    have l9 : (ll : Int) < 8 := by have := hl.1; omega
                    go_wp2_with fail
                    refine (create_yes X.out.roll ll hl 5 (by omega) (by omega)).mono ?_
                    rintro e' w6 ⟨rfl, hL6, _, _⟩
                    have X6 := Lib.hid (X.out.turn ll hl.1 1 5 _ hL6)
                    have T6 := X.out.there.grown hL6.2 X.out.ne
                    have tc6 := T6.cell ll hl.1
                    have tf6 := T6.free ll hl.1
                    have tl6 := T6.lt
                    have l8 := hl.1
                    clear T6 hL6 tc tl
                    go_wp2
                    go_roundg (40 - (kk + 1))
                    case measure => omega
                    case rel => exact ⟨kk + 1, _, _, _, by omega, by omega, by go_num, X6⟩
                  · have l8 := hl.1
                    have tc := X.out.there.cell ll (by omega)
                    rw [decide_eq_true (hl.2.2 ll (by omega))] at tc
                    have l9 : (ll : Int) < 8 := by omega
                    go_wp2
                    go_roundg (8 - (ll + 1))
                    case measure => omega
                    case rel => exact ⟨ll + 1, by omega, by omega, by go_num, rfl⟩
            · obtain ⟨z, hz⟩ := S.out.ints m m8
              have hdel := delete_yes S.out.roll m m8 hk z hz
              go_wp2_with fail
              refine hdel.mono ?_
              rintro e' w5 ⟨rfl, hL5⟩
              have X : Hid (St w (w5.setCell ⟨w2.heap.size, m, none⟩ (.bool false)) w.heap.size w2.heap.size (upd k m 0) (upd s m (.int .i64 0)) (upd p m (.pointer none))) := Lib.hid (S.out.turn m m8 0 0 _ hL5)
              have T := S.out.there.grown hL5.2 S.out.ne
              have tc := T.cell m m8
              rw [decide_eq_true hk] at tc
              have tf := T.free m m8
              clear hL5
              have tl := T.lt
              clear T
              by_cases hlt100 : x < 100
              · have d100 : decide (x < 100) = true := decide_eq_true hlt100
                have hx2 : (w5.setCell ⟨w2.heap.size, m, none⟩ (.bool false)).cell? ⟨gb, off + kk, none⟩ = some (.int .u8 x) := (X.out.bel.cell (p := ⟨gb, off + kk, none⟩) hgb).trans hx0
                go_wp2
                go_roundg (40 - (kk + 1))
                case measure => omega
                case rel => exact ⟨kk + 1, _, _, _, by omega, by omega, by go_num, X⟩
              · have d100 : decide (x < 100) = false := decide_eq_false hlt100
                have hx2 : (w5.setCell ⟨w2.heap.size, m, none⟩ (.bool false)).cell? ⟨gb, off + kk, none⟩ = some (.int .u8 x) := (X.out.bel.cell (p := ⟨gb, off + kk, none⟩) hgb).trans hx0
                go_wp2
                clear hx2 tc tf tl hx hdel d100 hlt100
                obtain ⟨wX, hWX⟩ : ∃ wX, wX = w5.setCell ⟨w2.heap.size, m, none⟩ (.bool false) := ⟨_, rfl⟩
                rw [← hWX] at X ⊢
                clear hWX
                go_loopg [15] 8 (fun gg s15 wi => ∃ ll : Nat, ll ≤ l ∧ 8 - ll ≤ gg ∧ s15 = .int .i64 ll ∧ wi = wX)
                case atStart => exact ⟨0, by omega, by omega, rfl, rfl⟩
                case round =>
                  obtain ⟨ll, hll, hgg2, rfl, rfl⟩ := hrel
                  have tl := X.out.there.lt
                  by_cases e3 : ll = l
                  · subst e3
                    have tc := X.out.there.cell ll hl.1
                    rw [decide_eq_false (fun h => h hl.2.1)] at tc
                    have l9 : (ll : Int) < 8 := by have := hl.1; omega
                    go_wp2_with fail
                    refine (create_yes X.out.roll ll hl 5 (by omega) (by omega)).mono ?_
                    rintro e' w6 ⟨rfl, hL6, _, _⟩
                    have X6 := Lib.hid (X.out.turn ll hl.1 1 5 _ hL6)
                    have T6 := X.out.there.grown hL6.2 X.out.ne
                    have tc6 := T6.cell ll hl.1
                    have tf6 := T6.free ll hl.1
                    have tl6 := T6.lt
                    have l8 := hl.1
                    clear T6 hL6 tc tl
                    go_wp2
                    go_roundg (40 - (kk + 1))
                    case measure => omega
                    case rel => exact ⟨kk + 1, _, _, _, by omega, by omega, by go_num, X6⟩
                  · have l8 := hl.1
                    have tc := X.out.there.cell ll (by omega)
                    rw [decide_eq_true (hl.2.2 ll (by omega))] at tc
                    have l9 : (ll : Int) < 8 := by omega
                    go_wp2
                    go_roundg (8 - (ll + 1))
                    case measure => omega
                    case rel => exact ⟨ll + 1, by omega, by omega, by go_num, rfl⟩
          · have hlt1 : decide (kk < n) = true := decide_eq_true e1
            have hlt2 : ¬ (kk : Int) < 40 := by omega
            go_wp2
            go_ret
            exact ⟨rfl, S.out.bel⟩
        · have hlt1 : decide (kk < n) = false := decide_eq_false e1
          go_wp2
          go_ret
          exact ⟨rfl, S.out.bel⟩

theorem in8 {n : Int} (h : (Lit.int .u8 n).wf = true) : 0 ≤ n ∧ n ≤ 255 := by
  have := (Lit.wf_int_iff .u8 n).1 h
  simpa [IntKind.min, IntKind.max, IntKind.signed, IntKind.bits] using this

theorem gone_of_row {w : World} {a : Option Addr} {len cap : Nat} {zs : List Int} (h : (a = none ∧ len = 0 ∧ cap = 0 ∧ zs = []) ∨ ∃ x, a = some x ∧ len ≤ cap ∧ cap ≤ maxLen ∧ zs.length = cap ∧ (∀ i, i < zs.length → w.cell? (x.add i) = some (.int .u8 (zs.getD i 0))) ∧ ∀ n ∈ zs, (Lit.int .u8 n).wf = true) :
    Gone w a len (fun j => zs.getD j 0) := by
  rcases h with ⟨rfl, rfl, _, _⟩ | ⟨x, rfl, h1, h2, h3, h4, h5⟩
  · exact ⟨by omega, fun h => by omega, fun j hj => by omega⟩
  · refine ⟨by unfold maxLen at h2; omega, fun h0 => ?_, fun j hj => ?_⟩
    · obtain ⟨b, off, m⟩ := x
      have hc0 := h4 0 (by omega)
      have hm : m = none := by
        cases m with
        | none => rfl
        | some m =>
          simp only [Addr.add, if_true] at hc0
          unfold World.cell? at hc0
          split at hc0 <;> simp at hc0
      subst hm
      refine ⟨b, off, rfl, World.block_lt_of_cell? w _ hc0, fun j hj => ?_⟩
      have h6 : Addr.add ⟨b, off, none⟩ j = ⟨b, off + j, none⟩ := by
        unfold Addr.add
        by_cases e : j = 0
        · subst e; rfl
        · rw [if_neg e]
      rw [← h6]
      exact h4 j (by omega)
    · show 0 ≤ zs.getD j 0 ∧ zs.getD j 0 ≤ 255
      have hj' : j < zs.length := by omega
      have e : zs.getD j 0 = zs[j] := by rw [List.getD_eq_getElem?_getD, List.getElem?_eq_getElem hj']; rfl
      rw [e]
      exact in8 (h5 _ (List.getElem_mem hj'))

end Go.Proofs.Ytkoiimldfnbdiaa.Rd
