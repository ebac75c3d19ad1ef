/- A device in memory, and the walks of basin's New, Size, ready, spend, Get. -/
import Derived.Test.YthhgageghkbjjaaGreatRe
import Derived.Deep.MidRow
import Derived.Laws.MakeOwn
import Derived.StillTailTactics
import Derived.BigRegion
namespace Go.Proofs.YthhgageghkbjjaaGreat.Rf
open Go.RowKit Go.Proofs.YthhgageghkbjjaaGreat.Ra Go.Proofs.YthhgageghkbjjaaGreat.Re

/-- A device: its sectors, one behind the other, as they last and as they are read; the writes that may not last; when the power goes; is it gone? -/
structure Dev where
  n : Nat
  sure : List UInt8
  now : List UInt8
  loose : List (Int × List UInt8)
  after : Int
  off : Bool

def looseCells (l : List (Int × List UInt8)) : List Value := l.flatMap fun x => .int .i64 x.1 :: byteVals x.2

/-- It lies in memory. -/
structure DevAt (B : Nat) (w : World) (D S N : Nat) (lv : Value) (d : Dev) : Prop where
  baseD : B ≤ D
  baseS : B ≤ S
  baseN : B ≤ N
  ne : S ≠ N
  dev : w.heap[D]? = some (.cells #[.slice (some ⟨S, 0, none⟩) d.n d.n, .slice (some ⟨N, 0, none⟩) d.n d.n, lv, .int .i64 d.after, .bool d.off] 71 (0, 0))
  sure : w.heap[S]? = some (.cells (byteVals d.sure).toArray 75 (0, 0))
  now : w.heap[N]? = some (.cells (byteVals d.now).toArray 75 (0, 0))
  lsure : d.sure.length = d.n * 64
  lnow : d.now.length = d.n * 64
  n1 : 1 ≤ d.n
  n2 : d.n ≤ 424
  loose : w.ownsRow B 77 65 lv d.loose.length (looseCells d.loose)
  each : ∀ x ∈ d.loose, x.2.length = 64 ∧ 0 ≤ x.1 ∧ x.1 < d.n
  few : d.loose.length ≤ 100000
  aft : -1 ≤ d.after ∧ d.after ≤ 9223372036854775807

theorem DevAt.later {B : Nat} {w w' : World} {D S N : Nat} {lv : Value} {d : Dev} (h : DevAt B w D S N lv d) (hb : Below w.heap.size w w') : DevAt B w' D S N lv d :=
  ⟨h.baseD, h.baseS, h.baseN, h.ne, blk_below h.dev hb (lt_of_block h.dev), blk_below h.sure hb (lt_of_block h.sure), blk_below h.now hb (lt_of_block h.now), h.lsure, h.lnow, h.n1, h.n2, row_below h.loose hb, h.each, h.few, h.aft⟩
theorem DevAt.lt {B : Nat} {w : World} {D S N : Nat} {lv : Value} {d : Dev} (h : DevAt B w D S N lv d) : D < w.heap.size := lt_of_block h.dev
theorem DevAt.size {B : Nat} {w : World} {D S N : Nat} {lv : Value} {d : Dev} (h : DevAt B w D S N lv d) : B ≤ w.heap.size := Nat.le_of_lt (Nat.lt_of_le_of_lt h.baseD h.lt)
/-- Its cells. -/
theorem DevAt.cells {B : Nat} {w : World} {D S N : Nat} {lv : Value} {d : Dev} (h : DevAt B w D S N lv d) :
    w.cell? ⟨D, 0, none⟩ = some (.slice (some ⟨S, 0, none⟩) d.n d.n) ∧ w.cell? ⟨D, 1, none⟩ = some (.slice (some ⟨N, 0, none⟩) d.n d.n) ∧ w.cell? ⟨D, 2, none⟩ = some lv ∧ w.cell? ⟨D, 3, none⟩ = some (.int .i64 d.after) ∧ w.cell? ⟨D, 4, none⟩ = some (.bool d.off) :=
  ⟨blk_cell h.dev 0, blk_cell h.dev 1, blk_cell h.dev 2, blk_cell h.dev 3, blk_cell h.dev 4⟩
theorem DevAt.lv {B : Nat} {w : World} {D S N : Nat} {lv : Value} {d : Dev} (h : DevAt B w D S N lv d) : ∃ p c, lv = .slice p d.loose.length c := by
  rcases h.loose.2 with ⟨hv, h0⟩ | ⟨g, cap, _, hv, _⟩
  · exact ⟨none, 0, by rw [hv, h0]⟩
  · exact ⟨_, _, hv⟩

/-- A new device. -/
def zeroL (n : Nat) : List UInt8 := List.replicate n 0
def newDev (n : Nat) : Dev := ⟨n, zeroL (n * 64), zeroL (n * 64), [], -1, false⟩

theorem info_sector : (Tryz.prog.info? 75).map (fun i => (i.zero, i.size, i.bytes)) = some (some (.agg (Array.replicate 64 (.int .u8 0))), 64, 64) := by kernel_rfl
theorem made_zero (n : Nat) : madeCells (Array.replicate 64 (Value.int .u8 0)) n = (byteVals (zeroL n)).toArray := by
  unfold madeCells zeroL
  rw [byteVals_rep]
  unfold zeroVals
  apply Array.ext
  · simp
  · intro i h1 h2
    simp
    rw [getElem!_pos _ _ (by simp; omega)]
    simp

theorem make_sectors (n : Nat) (h1 : n ≤ 424) (u : World) : (Instr.makeSlice 68 (.int .i64 (n : Int)) (.int .i64 (n : Int))).run Tryz.prog u = .ok (.slice (some ⟨u.heap.size, 0, none⟩) n n) (u.alloc (.cells (byteVals (zeroL (n * 64))).toArray 75)) := by
  obtain ⟨i0, hi, hz0, hz1, hz2⟩ := info_parts info_sector
  have := run_makeSlice (P := Tryz.prog) u 68 75 i0 _ Tryz.underlying68 hi hz0 .i64 .i64 (n : Int) (n : Int) (by omega) (Int.le_refl _) (by rw [hz1, Int.toNat_natCast]; omega) (by rw [hz2]; omega) (by omega)
  rw [this, Int.toNat_natCast, hz1]
  show _ = Result.ok _ (u.alloc (.cells _ _))
  rw [← made_zero]
  rfl

theorem new_bad (n : Int) (w : World) (h : n < 1 ∨ 424 < n) : Calls Tryz.prog 10 #[.int .i64 n] w fun e w' => e = .returned (.tuple #[.pointer none, .int .i64 1]) ∧ w = w' := by
  rcases h with h | h
  · go_enter Tryz.func10, Tryz.ntmps10
    go_wp2
    go_ret2
    exact ⟨rfl, rfl⟩
  · have h' : ¬ n < 1 := by omega
    go_enter Tryz.func10, Tryz.ntmps10
    go_wp2
    go_ret2
    exact ⟨rfl, rfl⟩

theorem new_at (w : World) (n : Nat) (h1 : 1 ≤ n) (h2 : n ≤ 424) (S N : Nat) (hsn : (S = w.heap.size ∧ N = w.heap.size + 1) ∨ (S = w.heap.size + 1 ∧ N = w.heap.size)) :
    DevAt w.heap.size ((((w.alloc (.cells (byteVals (zeroL (n * 64))).toArray 75)).alloc (.cells (byteVals (zeroL (n * 64))).toArray 75)).alloc (.cells #[.slice (some ⟨S, 0, none⟩) n n, .slice (some ⟨N, 0, none⟩) n n, .slice none 0 0, .int .i64 (-1), .bool false] 71)).drew) (w.heap.size + 1 + 1) S N (.slice none 0 0) (newDev n) ∧
    Below w.heap.size w ((((w.alloc (.cells (byteVals (zeroL (n * 64))).toArray 75)).alloc (.cells (byteVals (zeroL (n * 64))).toArray 75)).alloc (.cells #[.slice (some ⟨S, 0, none⟩) n n, .slice (some ⟨N, 0, none⟩) n n, .slice none 0 0, .int .i64 (-1), .bool false] 71)).drew) := by
  have z0 := blk_old (blk_old (blk_new w (byteVals (zeroL (n * 64))).toArray 75) (.cells (byteVals (zeroL (n * 64))).toArray 75)) (.cells #[.slice (some ⟨S, 0, none⟩) n n, .slice (some ⟨N, 0, none⟩) n n, .slice none 0 0, .int .i64 (-1), .bool false] 71)
  have z1 := blk_old (blk_new (w.alloc (.cells (byteVals (zeroL (n * 64))).toArray 75)) (byteVals (zeroL (n * 64))).toArray 75) (.cells #[.slice (some ⟨S, 0, none⟩) n n, .slice (some ⟨N, 0, none⟩) n n, .slice none 0 0, .int .i64 (-1), .bool false] 71)
  have z2 := blk_new ((w.alloc (.cells (byteVals (zeroL (n * 64))).toArray 75)).alloc (.cells (byteVals (zeroL (n * 64))).toArray 75)) #[.slice (some ⟨S, 0, none⟩) n n, .slice (some ⟨N, 0, none⟩) n n, .slice none 0 0, .int .i64 (-1), .bool false] 71
  rw [sz_alloc] at z1
  rw [sz_alloc, sz_alloc] at z2
  have hl : (zeroL (n * 64)).length = n * 64 := by unfold zeroL; rw [List.length_replicate]
  refine ⟨⟨by omega, by rcases hsn with h | h <;> omega, by rcases hsn with h | h <;> omega, by rcases hsn with h | h <;> omega, z2, ?_, ?_, hl, hl, h1, h2, World.ownsRow_nil _ _ _ _, (fun x hx => by cases hx), Nat.zero_le _, by show (-1 : Int) ≤ -1 ∧ (-1 : Int) ≤ _; omega⟩, ?_⟩
  · rcases hsn with ⟨rfl, _⟩ | ⟨rfl, _⟩
    · exact z0
    · exact z1
  · rcases hsn with ⟨_, rfl⟩ | ⟨_, rfl⟩
    · exact z1
    · exact z0
  · exact ((((Below.refl _ _).alloc (Nat.le_refl _) _).alloc (by rw [sz_alloc]; omega) _).alloc (by rw [sz_alloc, sz_alloc]; omega) _).drew

set_option maxHeartbeats 1000000 in
theorem new_c (n : Nat) (w : World) (h1 : 1 ≤ n) (h2 : n ≤ 424) :
    Calls Tryz.prog 10 #[.int .i64 (n : Int)] w fun e w' => ∃ D S N, e = .returned (.tuple #[.pointer (some ⟨D, 0, none⟩), .int .i64 0]) ∧ DevAt w.heap.size w' D S N (.slice none 0 0) (newDev n) ∧ Below w.heap.size w w' := by
  have hmk := make_sectors n h2
  have g1 : ¬ (n : Int) < 1 := by omega
  have g2 : ¬ (424 : Int) < (n : Int) := by omega
  have HA := Lib.hid (new_at w n h1 h2 w.heap.size (w.heap.size + 1) (Or.inl ⟨rfl, rfl⟩))
  have HB := Lib.hid (new_at w n h1 h2 (w.heap.size + 1) w.heap.size (Or.inr ⟨rfl, rfl⟩))
  go_enter Tryz.func10, Tryz.ntmps10
  go_wp2
  go_region
  all_goals go_wp2_with fail
  all_goals go_ret2
  · exact ⟨_, _, _, rfl, HA.out⟩
  · exact ⟨_, _, _, rfl, HB.out⟩

theorem size_nil (w : World) : Calls Tryz.prog 15 #[.pointer none] w fun e w' => e = .returned (.int .i64 0) ∧ w = w' := by
  go_enter Tryz.func15, Tryz.ntmps15
  go_wp2
  go_ret
  exact ⟨rfl, rfl⟩
theorem size_c {B : Nat} {w : World} {D S N : Nat} {lv : Value} {d : Dev} (h : DevAt B w D S N lv d) : Calls Tryz.prog 15 #[.pointer (some ⟨D, 0, none⟩)] w fun e w' => e = .returned (.int .i64 (d.n : Int)) ∧ w = w' := by
  have hL := h.lt
  obtain ⟨c0, c1, c2, c3, c4⟩ := h.cells
  clear h
  generalize d.n = n at *
  go_enter Tryz.func15, Tryz.ntmps15
  go_wp2
  go_ret
  exact ⟨rfl, rfl⟩
theorem loose_c {B : Nat} {w : World} {D S N : Nat} {lv : Value} {d : Dev} (h : DevAt B w D S N lv d) : Calls Tryz.prog 12 #[.pointer (some ⟨D, 0, none⟩)] w fun e w' => e = .returned (.int .i64 (d.loose.length : Int)) ∧ w = w' := by
  have hL := h.lt
  obtain ⟨c0, c1, c2, c3, c4⟩ := h.cells
  obtain ⟨pl, cl, rfl⟩ := h.lv
  clear h
  generalize d.loose.length = n at *
  go_enter Tryz.func12, Tryz.ntmps12
  go_wp2
  go_ret
  exact ⟨rfl, rfl⟩

theorem ready_nil (w : World) : Calls Tryz.prog 27 #[.pointer none] w fun e w' => e = .returned (.int .i64 1) ∧ w = w' := by
  go_enter Tryz.func27, Tryz.ntmps27
  go_wp2
  go_ret
  exact ⟨rfl, rfl⟩
theorem ready_c {B : Nat} {w : World} {D S N : Nat} {lv : Value} {d : Dev} (h : DevAt B w D S N lv d) (hd : d.off = false) : Calls Tryz.prog 27 #[.pointer (some ⟨D, 0, none⟩)] w fun e w' => e = .returned (.int .i64 0) ∧ w = w' := by
  have hL := h.lt
  obtain ⟨c0, c1, c2, c3, c4⟩ := h.cells
  rw [hd] at c4
  clear h c0 c1 c2 c3 hd
  go_enter Tryz.func27, Tryz.ntmps27
  go_wp2
  go_ret
  exact ⟨rfl, rfl⟩
/-- A device whose power does not go. -/
structure OnDev (d : Dev) : Prop where
  off : d.off = false
  after : d.after = -1
theorem spend_c {B : Nat} {w : World} {D S N : Nat} {lv : Value} {d : Dev} (h : DevAt B w D S N lv d) (hd : OnDev d) : Calls Tryz.prog 31 #[.pointer (some ⟨D, 0, none⟩)] w fun e w' => e = .returned (.bool false) ∧ w = w' := by
  have hL := h.lt
  obtain ⟨c0, c1, c2, c3, c4⟩ := h.cells
  rw [hd.off] at c4
  rw [hd.after] at c3
  clear h c0 c1 c2 hd
  go_enter Tryz.func31, Tryz.ntmps31
  go_wp2
  go_ret
  exact ⟨rfl, rfl⟩

/-- A sector. -/
def secL (l : List UInt8) (i : Nat) : List UInt8 := (l.drop (i * 64)).take 64
theorem secL_len (l : List UInt8) (n i : Nat) (h : l.length = n * 64) (hi : i < n) : (secL l i).length = 64 := by
  unfold secL
  rw [List.length_take, List.length_drop, h]
  have : (i + 1) * 64 ≤ n * 64 := Nat.mul_le_mul_right _ hi
  omega
/-- The bytes of a sector, as a slice into the device shows them. -/
theorem DevAt.sec {B : Nat} {w : World} {D S N : Nat} {lv : Value} {d : Dev} (h : DevAt B w D S N lv d) (i : Nat) (hi : i < d.n) (j : Nat) (x : UInt8) (hx : (secL d.now i)[j]? = some x) : w.cell? ⟨N, i * 64 + j, none⟩ = some (.int .u8 (x.toNat : Int)) := by
  have hj : j < 64 := by
    have := (List.getElem?_eq_some_iff.1 hx).1
    rw [secL_len d.now d.n i h.lnow hi] at this
    exact this
  unfold secL at hx
  rw [List.getElem?_take, if_pos hj, List.getElem?_drop] at hx
  rw [blk_cell h.now]
  unfold byteVals
  rw [← Array.getElem?_toList, List.toList_toArray, List.getElem?_map, hx]
  rfl

theorem DevAt.bytes {B : Nat} {w : World} {D S N : Nat} {lv : Value} {d : Dev} (h : DevAt B w D S N lv d) (i : Nat) (hi : i < d.n) : BytesIn (N + 1) w (.slice (some ⟨N, i * 64, none⟩) 64 64) (secL d.now i) := by
  have hl := secL_len d.now d.n i h.lnow hi
  refine ⟨some ⟨N, i * 64, none⟩, 64, by rw [hl], by rw [hl]; exact Nat.le_refl _, fun _ => ⟨N, i * 64, rfl, lt_of_block h.now, Or.inl (Nat.lt_succ_self _), fun j x hx => h.sec i hi j x hx⟩⟩

theorem Step.of_grown {B g : Nat} {w w' : World} {cs : Array Value} {t : TypeId} {fz : Nat × Nat} (h : w.grownBy w' (some g)) (hg : w.heap[g]? = some (.cells cs t fz)) (ht : devT t = true) (hB : B ≤ g) : Step B w w' := by
  have hlt := lt_of_block hg
  refine ⟨⟨h.os, h.tape, h.output, h.size, fun k hk => h.block k (by omega) (fun e => by have := Option.some.inj e; omega)⟩, fun b o hb hp => ?_⟩
  have hne : b ≠ g := by
    intro e
    subst e
    rw [hg] at hb
    obtain rfl := Option.some.inj hb
    simp [plainObj, ht] at hp
  rw [h.block b (lt_of_block hb) (fun e => hne (Option.some.inj e))]
  exact hb
theorem Step.set_dev {B : Nat} {w : World} {D : Nat} {cs : Array Value} {t : TypeId} {fz : Nat × Nat} (hg : w.heap[D]? = some (.cells cs t fz)) (ht : devT t = true) (hB : B ≤ D) (j : Nat) (u : Value) : Step B w (w.setCell ⟨D, j, none⟩ u) := by
  refine ⟨(Below.refl _ _).setCell hB _, fun b o hb hp => ?_⟩
  have hne : b ≠ D := by
    intro e
    subst e
    rw [hg] at hb
    obtain rfl := Option.some.inj hb
    simp [plainObj, ht] at hp
  exact blk_set_other hb hne u

/-! ### copy, of elements of more than one cell -/
theorem run_copy_wide {P : Program} (w : World) (dT sT ty elem : TypeId) (g dLen dCap : Nat) (a : Addr) (sLen sCap size : Nat) (cur : Array Value) (t : TypeId) (cs : List Value)
    (hu : P.underlying dT = some (.slice elem)) (hs : (P.info? elem).map (·.size) = some size)
    (hg : w.heap[g]? = some (.cells cur t (0, 0))) (hn : cs.length = Nat.min sLen dLen * size)
    (hsrc : ∀ j v, cs[j]? = some v → w.cell? (a.add j) = some v) (hfit : cs.length ≤ cur.size) (h1 : ∀ v ∈ cs, v.oneCell' = true) :
    (Builtin.copy_ #[dT, sT] ty #[.slice (some ⟨g, 0, none⟩) dLen dCap, .slice (some a) sLen sCap]).run P w =
      .ok (goInt (Nat.min sLen dLen)) (w.setRow g (cs ++ cur.toList.drop cs.length).toArray) := by
  have hl := run_loadCells_list (P := P) w a cs hsrc
  have hst := run_storeCells_at P g 0 t cs 0 cur w hg (by simpa using hfit) h1
  cases hq : P.info? elem with
  | none => simp [hq] at hs
  | some i =>
    have hi : i.size = size := by simpa [hq] using hs
    simp [Builtin.copy_, run_underlying hu, Builtin.lenOf, Builtin.firstCells, sizeOf, typeInfo, hq, hi, ← hn, hl, hst]

theorem grownBy_setRow (w : World) (g : Nat) (cs : Array Value) : w.grownBy (w.setRow g cs) (some g) :=
  ⟨rfl, rfl, rfl, by simp [World.setRow], fun k _ hne => setRow_other w g k cs (fun e => hne (by rw [e]))⟩

theorem wpList_copy_wide {P : Program} {w : World} {ops : Array Oper} {rest : List Oper} {o : Oper} {a : Act} {Q : Exit → Act → World → Prop} (hgd : o.guard = none) (d s : Operand) (dT sT : TypeId)
    (ho : o.op = .call { callee := .builtin .copy, args := #[d, s], argTypes := #[dT, sT] }) (elem : TypeId) (size : Nat) (hu : P.underlying dT = some (.slice elem)) (hsz : (P.info? elem).map (·.size) = some size)
    (g dLen dCap : Nat) (ad : Addr) (sLen sCap : Nat) (hd : a.eval d = .slice (some ⟨g, 0, none⟩) dLen dCap) (hs : a.eval s = .slice (some ad) sLen sCap)
    (cur : Array Value) (t : TypeId) (hg : w.heap[g]? = some (.cells cur t (0, 0))) (cs : List Value) (hn : cs.length = Nat.min sLen dLen * size)
    (hsrc : ∀ j v, cs[j]? = some v → w.cell? (ad.add j) = some v) (hfit : cs.length = cur.size) (h1 : ∀ v ∈ cs, v.oneCell' = true)
    (h : ∀ w', Hid (w'.heap[g]? = some (.cells cs.toArray t (0, 0))) → w.grownBy w' (some g) → w'.heap.size = w.heap.size → wpList P ops Q rest (a.put o.dst (goInt (Nat.min sLen dLen))) w') : wpList P ops Q (o :: rest) a w := by
  refine wpList_plain hgd fun K hK => ?_
  have hrun := run_copy_wide (P := P) w dT sT o.type elem g dLen dCap ad sLen sCap size cur t cs hu hsz hg hn hsrc (Nat.le_of_eq hfit) h1
  have hdr : cs ++ cur.toList.drop cs.length = cs := by
    rw [List.drop_eq_nil_of_le (by rw [hfit, Array.length_toList]; exact Nat.le_refl _), List.append_nil]
  rw [hdr] at hrun
  unfold Oper.wp
  simp [execOp, ho, resolve, invoke, builtin, hd, hs, hrun, Result.andThen]
  exact hK _ _ (h _ (Lib.hid (setRow_heap w g _ cs.toArray t _ hg)) (grownBy_setRow w g _) (by simp [World.setRow]))

end Go.Proofs.YthhgageghkbjjaaGreat.Rf
