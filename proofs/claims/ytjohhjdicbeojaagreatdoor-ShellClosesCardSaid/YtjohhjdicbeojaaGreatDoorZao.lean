/- Texts joined: Rf Rg Rh. -/
import Derived.Deep.MidRow
import Derived.Laws.MakeOwn
import Derived.StillTailTactics
import Derived.BigRegion
import Derived.WalkSpells
import Derived.Test.YtjohhjdicbeojaaGreatDoorZan
namespace Go.Proofs.YtjohhjdicbeojaaGreatDoor.Rf
open Go.RowKit Go.Proofs.YtjohhjdicbeojaaGreatDoor.Ra Go.Proofs.YtjohhjdicbeojaaGreatDoor.Re
/-- A device: its sectors, one behind the other, as they last and as they are read; the writes that may not last; when the power goes; is it gone? -/
structure Dev where
  n : Nat
  sure : List UInt8
  now : List UInt8
  loose : List (Int × List UInt8)
  after : Int
  off : Bool
def looseCells (l : List (Int × List UInt8)) : List Value := l.flatMap fun x => .int .i64 x.1 :: byteVals x.2
/-- It lies in memory. -/
structure DevAt (B : Nat) (w : World) (D S N : Nat) (lv : Value) (d : Dev) : Prop where
  baseD : B ≤ D
  baseS : B ≤ S
  baseN : B ≤ N
  ne : S ≠ N
  dev : w.heap[D]? = some (.cells #[.slice (some ⟨S, 0, none⟩) d.n d.n, .slice (some ⟨N, 0, none⟩) d.n d.n, lv, .int .i64 d.after, .bool d.off] 85 (0, 0))
  sure : w.heap[S]? = some (.cells (byteVals d.sure).toArray 113 (0, 0))
  now : w.heap[N]? = some (.cells (byteVals d.now).toArray 113 (0, 0))
  lsure : d.sure.length = d.n * 64
  lnow : d.now.length = d.n * 64
  n1 : 1 ≤ d.n
  n2 : d.n ≤ 424
  loose : w.ownsRow B 115 65 lv d.loose.length (looseCells d.loose)
  each : ∀ x ∈ d.loose, x.2.length = 64 ∧ 0 ≤ x.1 ∧ x.1 < d.n
  few : d.loose.length ≤ 100000
  aft : -1 ≤ d.after ∧ d.after ≤ 9223372036854775807
theorem DevAt.later {B : Nat} {w w' : World} {D S N : Nat} {lv : Value} {d : Dev} (h : DevAt B w D S N lv d) (hb : Below w.heap.size w w') : DevAt B w' D S N lv d :=
  ⟨h.baseD, h.baseS, h.baseN, h.ne, blk_below h.dev hb (lt_of_block h.dev), blk_below h.sure hb (lt_of_block h.sure), blk_below h.now hb (lt_of_block h.now), h.lsure, h.lnow, h.n1, h.n2, row_below h.loose hb, h.each, h.few, h.aft⟩
theorem DevAt.lt {B : Nat} {w : World} {D S N : Nat} {lv : Value} {d : Dev} (h : DevAt B w D S N lv d) : D < w.heap.size := lt_of_block h.dev
theorem DevAt.size {B : Nat} {w : World} {D S N : Nat} {lv : Value} {d : Dev} (h : DevAt B w D S N lv d) : B ≤ w.heap.size := Nat.le_of_lt (Nat.lt_of_le_of_lt h.baseD h.lt)
/-- Its cells. -/
theorem DevAt.cells {B : Nat} {w : World} {D S N : Nat} {lv : Value} {d : Dev} (h : DevAt B w D S N lv d) :
    w.cell? ⟨D, 0, none⟩ = some (.slice (some ⟨S, 0, none⟩) d.n d.n) ∧ w.cell? ⟨D, 1, none⟩ = some (.slice (some ⟨N, 0, none⟩) d.n d.n) ∧ w.cell? ⟨D, 2, none⟩ = some lv ∧ w.cell? ⟨D, 3, none⟩ = some (.int .i64 d.after) ∧ w.cell? ⟨D, 4, none⟩ = some (.bool d.off) :=
  ⟨blk_cell h.dev 0, blk_cell h.dev 1, blk_cell h.dev 2, blk_cell h.dev 3, blk_cell h.dev 4⟩
theorem DevAt.lv {B : Nat} {w : World} {D S N : Nat} {lv : Value} {d : Dev} (h : DevAt B w D S N lv d) : ∃ p c, lv = .slice p d.loose.length c := by
  rcases h.loose.2 with ⟨hv, h0⟩ | ⟨g, cap, _, hv, _⟩
  · exact ⟨none, 0, by rw [hv, h0]⟩
  · exact ⟨_, _, hv⟩
/-- A new device. -/
def zeroL (n : Nat) : List UInt8 := List.replicate n 0
def newDev (n : Nat) : Dev := ⟨n, zeroL (n * 64), zeroL (n * 64), [], -1, false⟩
theorem info_sector : (Tryz.prog.info? 113).map (fun i => (i.zero, i.size, i.bytes)) = some (some (.agg (Array.replicate 64 (.int .u8 0))), 64, 64) := by kernel_rfl
theorem made_zero (n : Nat) : madeCells (Array.replicate 64 (Value.int .u8 0)) n = (byteVals (zeroL n)).toArray := by
  unfold madeCells zeroL
  rw [byteVals_rep]
  unfold zeroVals
  apply Array.ext
  · simp
  · intro i h1 h2
    simp
    rw [getElem!_pos _ _ (by simp; omega)]
    simp
theorem make_sectors (n : Nat) (h1 : n ≤ 424) (u : World) : (Instr.makeSlice 82 (.int .i64 (n : Int)) (.int .i64 (n : Int))).run Tryz.prog u = .ok (.slice (some ⟨u.heap.size, 0, none⟩) n n) (u.alloc (.cells (byteVals (zeroL (n * 64))).toArray 113)) := by
  obtain ⟨i0, hi, hz0, hz1, hz2⟩ := info_parts info_sector
  have := run_makeSlice (P := Tryz.prog) u 82 113 i0 _ Tryz.underlying82 hi hz0 .i64 .i64 (n : Int) (n : Int) (by omega) (Int.le_refl _) (by rw [hz1, Int.toNat_natCast]; omega) (by rw [hz2]; omega) (by omega)
  rw [this, Int.toNat_natCast, hz1]
  show _ = Result.ok _ (u.alloc (.cells _ _))
  rw [← made_zero]
  rfl
theorem new_at (w : World) (n : Nat) (h1 : 1 ≤ n) (h2 : n ≤ 424) (S N : Nat) (hsn : (S = w.heap.size ∧ N = w.heap.size + 1) ∨ (S = w.heap.size + 1 ∧ N = w.heap.size)) :
    DevAt w.heap.size ((((w.alloc (.cells (byteVals (zeroL (n * 64))).toArray 113)).alloc (.cells (byteVals (zeroL (n * 64))).toArray 113)).alloc (.cells #[.slice (some ⟨S, 0, none⟩) n n, .slice (some ⟨N, 0, none⟩) n n, .slice none 0 0, .int .i64 (-1), .bool false] 85)).drew) (w.heap.size + 1 + 1) S N (.slice none 0 0) (newDev n) ∧
    Below w.heap.size w ((((w.alloc (.cells (byteVals (zeroL (n * 64))).toArray 113)).alloc (.cells (byteVals (zeroL (n * 64))).toArray 113)).alloc (.cells #[.slice (some ⟨S, 0, none⟩) n n, .slice (some ⟨N, 0, none⟩) n n, .slice none 0 0, .int .i64 (-1), .bool false] 85)).drew) := by
  have z0 := blk_old (blk_old (blk_new w (byteVals (zeroL (n * 64))).toArray 113) (.cells (byteVals (zeroL (n * 64))).toArray 113)) (.cells #[.slice (some ⟨S, 0, none⟩) n n, .slice (some ⟨N, 0, none⟩) n n, .slice none 0 0, .int .i64 (-1), .bool false] 85)
  have z1 := blk_old (blk_new (w.alloc (.cells (byteVals (zeroL (n * 64))).toArray 113)) (byteVals (zeroL (n * 64))).toArray 113) (.cells #[.slice (some ⟨S, 0, none⟩) n n, .slice (some ⟨N, 0, none⟩) n n, .slice none 0 0, .int .i64 (-1), .bool false] 85)
  have z2 := blk_new ((w.alloc (.cells (byteVals (zeroL (n * 64))).toArray 113)).alloc (.cells (byteVals (zeroL (n * 64))).toArray 113)) #[.slice (some ⟨S, 0, none⟩) n n, .slice (some ⟨N, 0, none⟩) n n, .slice none 0 0, .int .i64 (-1), .bool false] 85
  rw [sz_alloc] at z1
  rw [sz_alloc, sz_alloc] at z2
  have hl : (zeroL (n * 64)).length = n * 64 := by unfold zeroL; rw [List.length_replicate]
  refine ⟨⟨by omega, by rcases hsn with h | h <;> omega, by rcases hsn with h | h <;> omega, by rcases hsn with h | h <;> omega, z2, ?_, ?_, hl, hl, h1, h2, World.ownsRow_nil _ _ _ _, (fun x hx => by cases hx), Nat.zero_le _, by show (-1 : Int) ≤ -1 ∧ (-1 : Int) ≤ _; omega⟩, ?_⟩
  · rcases hsn with ⟨rfl, _⟩ | ⟨rfl, _⟩
    · exact z0
    · exact z1
  · rcases hsn with ⟨_, rfl⟩ | ⟨_, rfl⟩
    · exact z1
    · exact z0
  · exact ((((Below.refl _ _).alloc (Nat.le_refl _) _).alloc (by rw [sz_alloc]; omega) _).alloc (by rw [sz_alloc, sz_alloc]; omega) _).drew
set_option maxHeartbeats 1000000 in
theorem new_c (n : Nat) (w : World) (h1 : 1 ≤ n) (h2 : n ≤ 424) :
    Calls Tryz.prog 12 #[.int .i64 (n : Int)] w fun e w' => ∃ D S N, e = .returned (.tuple #[.pointer (some ⟨D, 0, none⟩), .int .i64 0]) ∧ DevAt w.heap.size w' D S N (.slice none 0 0) (newDev n) ∧ Below w.heap.size w w' := by
  have hmk := make_sectors n h2
  have g1 : ¬ (n : Int) < 1 := by omega
  have g2 : ¬ (424 : Int) < (n : Int) := by omega
  have HA := Lib.hid (new_at w n h1 h2 w.heap.size (w.heap.size + 1) (Or.inl ⟨rfl, rfl⟩))
  have HB := Lib.hid (new_at w n h1 h2 (w.heap.size + 1) w.heap.size (Or.inr ⟨rfl, rfl⟩))
  go_enter Tryz.func12, Tryz.ntmps12
  go_wp2
  go_region
  all_goals go_wp2_with fail
  all_goals go_ret2
  · exact ⟨_, _, _, rfl, HA.out⟩
  · exact ⟨_, _, _, rfl, HB.out⟩
theorem size_c {B : Nat} {w : World} {D S N : Nat} {lv : Value} {d : Dev} (h : DevAt B w D S N lv d) : Calls Tryz.prog 54 #[.pointer (some ⟨D, 0, none⟩)] w fun e w' => e = .returned (.int .i64 (d.n : Int)) ∧ w = w' := by
  have hL := h.lt
  obtain ⟨c0, c1, c2, c3, c4⟩ := h.cells
  clear h
  generalize d.n = n at *
  go_enter Tryz.func54, Tryz.ntmps54
  go_wp2
  go_ret
  exact ⟨rfl, rfl⟩
theorem ready_nil (w : World) : Calls Tryz.prog 97 #[.pointer none] w fun e w' => e = .returned (.int .i64 1) ∧ w = w' := by
  go_enter Tryz.func97, Tryz.ntmps97
  go_wp2
  go_ret
  exact ⟨rfl, rfl⟩
theorem ready_c {B : Nat} {w : World} {D S N : Nat} {lv : Value} {d : Dev} (h : DevAt B w D S N lv d) (hd : d.off = false) : Calls Tryz.prog 97 #[.pointer (some ⟨D, 0, none⟩)] w fun e w' => e = .returned (.int .i64 0) ∧ w = w' := by
  have hL := h.lt
  obtain ⟨c0, c1, c2, c3, c4⟩ := h.cells
  rw [hd] at c4
  clear h c0 c1 c2 c3 hd
  go_enter Tryz.func97, Tryz.ntmps97
  go_wp2
  go_ret
  exact ⟨rfl, rfl⟩
/-- A device whose power does not go. -/
structure OnDev (d : Dev) : Prop where
  off : d.off = false
  after : d.after = -1
theorem spend_c {B : Nat} {w : World} {D S N : Nat} {lv : Value} {d : Dev} (h : DevAt B w D S N lv d) (hd : OnDev d) : Calls Tryz.prog 101 #[.pointer (some ⟨D, 0, none⟩)] w fun e w' => e = .returned (.bool false) ∧ w = w' := by
  have hL := h.lt
  obtain ⟨c0, c1, c2, c3, c4⟩ := h.cells
  rw [hd.off] at c4
  rw [hd.after] at c3
  clear h c0 c1 c2 hd
  go_enter Tryz.func101, Tryz.ntmps101
  go_wp2
  go_ret
  exact ⟨rfl, rfl⟩
/-- A sector. -/
def secL (l : List UInt8) (i : Nat) : List UInt8 := (l.drop (i * 64)).take 64
theorem secL_len (l : List UInt8) (n i : Nat) (h : l.length = n * 64) (hi : i < n) : (secL l i).length = 64 := by
  unfold secL
  rw [List.length_take, List.length_drop, h]
  have : (i + 1) * 64 ≤ n * 64 := Nat.mul_le_mul_right _ hi
  omega
/-- The bytes of a sector, as a slice into the device shows them. -/
theorem DevAt.sec {B : Nat} {w : World} {D S N : Nat} {lv : Value} {d : Dev} (h : DevAt B w D S N lv d) (i : Nat) (hi : i < d.n) (j : Nat) (x : UInt8) (hx : (secL d.now i)[j]? = some x) : w.cell? ⟨N, i * 64 + j, none⟩ = some (.int .u8 (x.toNat : Int)) := by
  have hj : j < 64 := by
    have := (List.getElem?_eq_some_iff.1 hx).1
    rw [secL_len d.now d.n i h.lnow hi] at this
    exact this
  unfold secL at hx
  rw [List.getElem?_take, if_pos hj, List.getElem?_drop] at hx
  rw [blk_cell h.now]
  unfold byteVals
  rw [← Array.getElem?_toList, List.toList_toArray, List.getElem?_map, hx]
  rfl
theorem DevAt.bytes {B : Nat} {w : World} {D S N : Nat} {lv : Value} {d : Dev} (h : DevAt B w D S N lv d) (i : Nat) (hi : i < d.n) : BytesIn (N + 1) w (.slice (some ⟨N, i * 64, none⟩) 64 64) (secL d.now i) := by
  have hl := secL_len d.now d.n i h.lnow hi
  refine ⟨some ⟨N, i * 64, none⟩, 64, by rw [hl], by rw [hl]; exact Nat.le_refl _, fun _ => ⟨N, i * 64, rfl, lt_of_block h.now, Or.inl (Nat.lt_succ_self _), fun j x hx => h.sec i hi j x hx⟩⟩
theorem Step.of_grown {B g : Nat} {w w' : World} {cs : Array Value} {t : TypeId} {fz : Nat × Nat} (h : w.grownBy w' (some g)) (hg : w.heap[g]? = some (.cells cs t fz)) (ht : devT t = true) (hB : B ≤ g) : Step B w w' := by
  have hlt := lt_of_block hg
  refine ⟨⟨h.os, h.tape, h.output, h.size, fun k hk => h.block k (by omega) (fun e => by have := Option.some.inj e; omega)⟩, fun b o hb hp => ?_⟩
  have hne : b ≠ g := by
    intro e
    subst e
    rw [hg] at hb
    obtain rfl := Option.some.inj hb
    simp [plainObj, ht] at hp
  rw [h.block b (lt_of_block hb) (fun e => hne (Option.some.inj e))]
  exact hb
theorem Step.set_dev {B : Nat} {w : World} {D : Nat} {cs : Array Value} {t : TypeId} {fz : Nat × Nat} (hg : w.heap[D]? = some (.cells cs t fz)) (ht : devT t = true) (hB : B ≤ D) (j : Nat) (u : Value) : Step B w (w.setCell ⟨D, j, none⟩ u) := by
  refine ⟨(Below.refl _ _).setCell hB _, fun b o hb hp => ?_⟩
  have hne : b ≠ D := by
    intro e
    subst e
    rw [hg] at hb
    obtain rfl := Option.some.inj hb
    simp [plainObj, ht] at hp
  exact blk_set_other hb hne u
/-! ### copy, of elements of more than one cell -/
theorem run_copy_wide {P : Program} (w : World) (dT sT ty elem : TypeId) (g dLen dCap : Nat) (a : Addr) (sLen sCap size : Nat) (cur : Array Value) (t : TypeId) (cs : List Value)
    (hu : P.underlying dT = some (.slice elem)) (hs : (P.info? elem).map (·.size) = some size)
    (hg : w.heap[g]? = some (.cells cur t (0, 0))) (hn : cs.length = Nat.min sLen dLen * size)
    (hsrc : ∀ j v, cs[j]? = some v → w.cell? (a.add j) = some v) (hfit : cs.length ≤ cur.size) (h1 : ∀ v ∈ cs, v.oneCell' = true) :
    (Builtin.copy_ #[dT, sT] ty #[.slice (some ⟨g, 0, none⟩) dLen dCap, .slice (some a) sLen sCap]).run P w =
      .ok (goInt (Nat.min sLen dLen)) (w.setRow g (cs ++ cur.toList.drop cs.length).toArray) := by
  have hl := run_loadCells_list (P := P) w a cs hsrc
  have hst := run_storeCells_at P g 0 t cs 0 cur w hg (by simpa using hfit) h1
  cases hq : P.info? elem with
  | none => simp [hq] at hs
  | some i =>
    have hi : i.size = size := by simpa [hq] using hs
    simp [Builtin.copy_, run_underlying hu, Builtin.lenOf, Builtin.firstCells, sizeOf, typeInfo, hq, hi, ← hn, hl, hst]
theorem grownBy_setRow (w : World) (g : Nat) (cs : Array Value) : w.grownBy (w.setRow g cs) (some g) :=
  ⟨rfl, rfl, rfl, by simp [World.setRow], fun k _ hne => setRow_other w g k cs (fun e => hne (by rw [e]))⟩
theorem wpList_copy_wide {P : Program} {w : World} {ops : Array Oper} {rest : List Oper} {o : Oper} {a : Act} {Q : Exit → Act → World → Prop} (hgd : o.guard = none) (d s : Operand) (dT sT : TypeId)
    (ho : o.op = .call { callee := .builtin .copy, args := #[d, s], argTypes := #[dT, sT] }) (elem : TypeId) (size : Nat) (hu : P.underlying dT = some (.slice elem)) (hsz : (P.info? elem).map (·.size) = some size)
    (g dLen dCap : Nat) (ad : Addr) (sLen sCap : Nat) (hd : a.eval d = .slice (some ⟨g, 0, none⟩) dLen dCap) (hs : a.eval s = .slice (some ad) sLen sCap)
    (cur : Array Value) (t : TypeId) (hg : w.heap[g]? = some (.cells cur t (0, 0))) (cs : List Value) (hn : cs.length = Nat.min sLen dLen * size)
    (hsrc : ∀ j v, cs[j]? = some v → w.cell? (ad.add j) = some v) (hfit : cs.length = cur.size) (h1 : ∀ v ∈ cs, v.oneCell' = true)
    (h : ∀ w', Hid (w'.heap[g]? = some (.cells cs.toArray t (0, 0))) → w.grownBy w' (some g) → w'.heap.size = w.heap.size → wpList P ops Q rest (a.put o.dst (goInt (Nat.min sLen dLen))) w') : wpList P ops Q (o :: rest) a w := by
  refine wpList_plain hgd fun K hK => ?_
  have hrun := run_copy_wide (P := P) w dT sT o.type elem g dLen dCap ad sLen sCap size cur t cs hu hsz hg hn hsrc (Nat.le_of_eq hfit) h1
  have hdr : cs ++ cur.toList.drop cs.length = cs := by
    rw [List.drop_eq_nil_of_le (by rw [hfit, Array.length_toList]; exact Nat.le_refl _), List.append_nil]
  rw [hdr] at hrun
  unfold Oper.wp
  simp [execOp, ho, resolve, invoke, builtin, hd, hs, hrun, Result.andThen]
  exact hK _ _ (h _ (Lib.hid (setRow_heap w g _ cs.toArray t _ hg)) (grownBy_setRow w g _) (by simp [World.setRow]))
end Go.Proofs.YtjohhjdicbeojaaGreatDoor.Rf
namespace Go.Proofs.YtjohhjdicbeojaaGreatDoor.Rg
open Go.RowKit Go.Proofs.YtjohhjdicbeojaaGreatDoor.Ra Go.Proofs.YtjohhjdicbeojaaGreatDoor.Re Go.Proofs.YtjohhjdicbeojaaGreatDoor.Rf
set_option maxHeartbeats 1000000 in
theorem get_c {B : Nat} {w : World} {D S N : Nat} {lv : Value} {d : Dev} (h : DevAt B w D S N lv d) (hd : d.off = false) (i : Nat) (hi : i < d.n) :
    Calls Tryz.prog 82 #[.pointer (some ⟨D, 0, none⟩), .int .i64 (i : Int)] w fun e w' => ∃ v', e = .returned (.tuple #[v', .int .i64 0]) ∧ NewBytes w (secL d.now i) v' w' := by
  have hL := h.lt
  obtain ⟨c0, c1, c2, c3, c4⟩ := h.cells
  have KR := Lib.hid (ready_c h hd)
  have hl := secL_len d.now d.n i h.lnow hi
  have KC := Lib.hid (clone_c (N + 1) _ _ w (h.bytes i hi) (by rw [hl]; decide) (by rw [hl]; decide))
  have HL := Lib.hid hl
  have g1 : (0 : Int) ≤ (i : Int) := by omega
  have g2 : ¬ (i : Int) < 0 := by omega
  have g3 : (i : Int) < (d.n : Int) := by omega
  have g4 : ¬ (d.n : Int) ≤ (i : Int) := by omega
  have h2 := h.n2
  clear h hd hl c0 c2 c3 c4
  generalize d.n = n at *
  go_enter Tryz.func82, Tryz.ntmps82
  go_wp2_with (first
    | (go_at_call 97; (with_reducible refine KR.out.mono ?_); rintro e w1 ⟨rfl, rfl⟩)
    | (go_at_call 121; (with_reducible refine KC.out.mono ?_); rintro e w2 ⟨v2, rfl, hn⟩; have HN := Lib.hid hn; clear hn))
  have hr := HN.out.row
  rw [HL.out] at hr
  obtain ⟨g5, c5, rfl, _, _⟩ := hr.form (by decide)
  refine bodyPost_ret (v := .tuple #[.slice (some ⟨g5, 0, none⟩) 64 c5, .int .i64 0]) (by simp [results, Tryz.results82, go_sem]) rfl ⟨_, rfl, HN.out⟩
/-- What flushing makes of a device. -/
def flushed (d : Dev) : Dev := { d with sure := d.now, loose := [] }
theorem flush_at {B : Nat} {w w1 w6 : World} {D S N : Nat} {lv : Value} {d : Dev} (h : DevAt B w D S N lv d) (hw : w1.heap = w.heap ∧ Below B w w1 ∧ w.heap.size = w1.heap.size) (hs : w6.heap[S]? = some (.cells (byteVals d.now).toArray 113 (0, 0))) (hg : w1.grownBy w6 (some S)) :
    DevAt B (w6.setCell ⟨D, 2, none⟩ (.slice none 0 0)) D S N (.slice none 0 0) (flushed d) ∧ Step B w (w6.setCell ⟨D, 2, none⟩ (.slice none 0 0)) := by
  obtain ⟨e1, e2, e3⟩ := hw
  have hDS : D ≠ S := fun e => by
    have h1 := h.dev
    rw [e, h.sure] at h1
    injection (Option.some.inj h1) with _ h2 _
    exact absurd h2 (by decide)
  have hDN : D ≠ N := fun e => by
    have h1 := h.dev
    rw [e, h.now] at h1
    injection (Option.some.inj h1) with _ h2 _
    exact absurd h2 (by decide)
  have hD6 : w6.heap[D]? = some (.cells #[.slice (some ⟨S, 0, none⟩) d.n d.n, .slice (some ⟨N, 0, none⟩) d.n d.n, lv, .int .i64 d.after, .bool d.off] 85 (0, 0)) := by
    rw [hg.block D (by rw [← e3]; exact h.lt) (fun e => hDS (Option.some.inj e)), e1]
    exact h.dev
  have hN6 : w6.heap[N]? = some (.cells (byteVals d.now).toArray 113 (0, 0)) := by
    rw [hg.block N (by rw [← e3]; exact lt_of_block h.now) (fun e => h.ne (Option.some.inj e).symm), e1]
    exact h.now
  refine ⟨⟨h.baseD, h.baseS, h.baseN, h.ne, ?_, blk_set_other hs (fun e => hDS e.symm) _, blk_set_other hN6 (fun e => hDN e.symm) _, h.lnow, h.lnow, h.n1, h.n2, World.ownsRow_nil _ _ _ _, (fun x hx => by cases hx), Nat.zero_le _, h.aft⟩, ?_⟩
  · exact blk_set hD6 2 _
  · have s1 : Step B w w1 := ⟨e2, fun b o hb _ => by rw [e1]; exact hb⟩
    have hS1 : w1.heap[S]? = some (.cells (byteVals d.sure).toArray 113 (0, 0)) := by rw [e1]; exact h.sure
    exact (s1.trans (Step.of_grown hg hS1 rfl h.baseS)).trans (Step.set_dev hD6 rfl h.baseD 2 _)
set_option maxRecDepth 8000 in
set_option maxHeartbeats 2000000 in
theorem flush_c {B : Nat} {w : World} {D S N : Nat} {lv : Value} {d : Dev} (h : DevAt B w D S N lv d) (hd : OnDev d) :
    Calls Tryz.prog 56 #[.pointer (some ⟨D, 0, none⟩)] w fun e w' => e = .returned (.int .i64 0) ∧ DevAt B w' D S N (.slice none 0 0) (flushed d) ∧ Step B w w' := by
  have hL := h.lt
  have KR := Lib.hid (ready_c h hd.off)
  have KS := Lib.hid (spend_c h hd)
  have HD := Lib.hid h
  obtain ⟨pl, cl, hlv⟩ := h.lv
  subst hlv
  have h2 := h.n2
  clear h hd
  go_enter Tryz.func56, Tryz.ntmps56
  go_wp2_with (first
    | (go_at_call 97; (with_reducible refine KR.out.mono ?_); rintro e w1 ⟨rfl, rfl⟩)
    | (go_at_call 101; (with_reducible refine KS.out.mono ?_); rintro e w1 ⟨rfl, rfl⟩))
  clear KR KS
  refine wp_region_still_tail 8 (by kernel_rfl) (by kernel_rfl) ?_
  rw [show ({ w with drawn := w.drawn + 1 } : World) = w.drew from rfl]
  obtain ⟨wd, hwd⟩ : ∃ wd, wd = w.drew := ⟨_, rfl⟩
  rw [← hwd]
  have HW : Hid (wd.heap = w.heap ∧ Below B w wd ∧ w.heap.size = wd.heap.size) := Lib.hid (by rw [hwd]; exact ⟨rfl, (Below.refl _ _).drew, rfl⟩)
  have hLd : D < wd.heap.size := by rw [← HW.out.2.2]; exact hL
  have hdv : wd.heap[D]? = some (.cells #[.slice (some ⟨S, 0, none⟩) d.n d.n, .slice (some ⟨N, 0, none⟩) d.n d.n, .slice pl d.loose.length cl, .int .i64 d.after, .bool d.off] 85 (0, 0)) := by rw [HW.out.1]; exact HD.out.dev
  have c0 : wd.cell? ⟨D, 0, none⟩ = some (.slice (some ⟨S, 0, none⟩) d.n d.n) := blk_cell hdv 0
  have c1 : wd.cell? ⟨D, 1, none⟩ = some (.slice (some ⟨N, 0, none⟩) d.n d.n) := blk_cell hdv 1
  have hS : Hid (wd.heap[S]? = some (.cells (byteVals d.sure).toArray 113 (0, 0))) := Lib.hid (by rw [HW.out.1]; exact HD.out.sure)
  have hN : Hid (∀ j v, (byteVals d.now)[j]? = some v → wd.cell? ((⟨N, 0, none⟩ : Addr).add j) = some v) := Lib.hid (fun j v hv => by
    rw [add_plain, Nat.zero_add]
    have hn : wd.heap[N]? = some (.cells (byteVals d.now).toArray 113 (0, 0)) := by rw [HW.out.1]; exact HD.out.now
    rw [blk_cell hn, ← Array.getElem?_toList, List.toList_toArray]
    exact hv)
  have hcs : Hid ((byteVals d.now).length = Nat.min d.n d.n * 64) := Lib.hid (by rw [byteVals_len, HD.out.lnow]; simp)
  have hft : Hid ((byteVals d.now).length = (byteVals d.sure).toArray.size) := Lib.hid (by rw [List.size_toArray, byteVals_len, byteVals_len, HD.out.lnow, HD.out.lsure])
  have hsz : Hid ((Tryz.prog.info? 113).map (·.size) = some 64) := Lib.hid (by kernel_rfl)
  clear hdv hwd
  generalize d.n = n at *
  simp only [List.take_succ_cons, List.take_zero, List.drop_succ_cons, List.drop_zero]
  repeat still_step
  try refine wpStill_nil ?_
  go_wp2_with (with_reducible refine wpList_copy_wide rfl _ _ 82 82 rfl 113 64 Tryz.underlying82 hsz.out S n n ⟨N, 0, none⟩ n n rfl rfl _ _ hS.out (byteVals d.now) hcs.out hN.out hft.out (byteVals_one _) ?_)
  intro w6 hs6 hg6 hz6
  have HE := Lib.hid (flush_at HD.out HW.out hs6.out hg6)
  have hL6 : D < w6.heap.size := by rw [hz6]; exact hLd
  have d6 : w6.heap[D]? = wd.heap[D]? := hg6.block D hLd (fun e => by
    have h1 := HD.out.dev
    rw [Option.some.inj e, HD.out.sure] at h1
    injection (Option.some.inj h1) with _ h2 _
    exact absurd h2 (by decide))
  have k2 : w6.cell? ⟨D, 2, none⟩ = some (.slice pl d.loose.length cl) := by
    show World.cell? w6 _ = _
    rw [World.cell?_of_block (a := ⟨D, 2, none⟩) (w := wd) (w' := w6) d6]
    exact blk_cell (by rw [HW.out.1]; exact HD.out.dev) 2
  have k3 : w6.frozen? ⟨D, 2, none⟩ = false := by
    rw [World.frozen?_of_block (a := ⟨D, 2, none⟩) (w := wd) (w' := w6) d6]
    exact blk_free (by rw [HW.out.1]; exact HD.out.dev) 2
  clear hs6 hg6 hz6 d6 c0 c1
  go_wp2
  go_ret
  exact ⟨rfl, HE.out⟩
end Go.Proofs.YtjohhjdicbeojaaGreatDoor.Rg
namespace Go.Proofs.YtjohhjdicbeojaaGreatDoor.Rh
set_option maxRecDepth 8000
open Go.RowKit Go.Proofs.YtjohhjdicbeojaaGreatDoor.Ra Go.Proofs.YtjohhjdicbeojaaGreatDoor.Re Go.Proofs.YtjohhjdicbeojaaGreatDoor.Rf Go.Proofs.YtjohhjdicbeojaaGreatDoor.Rg
theorem cell_lt {w : World} {a : Addr} {v : Value} (h : w.cell? a = some v) : a.block < w.heap.size := by
  unfold World.cell? at h
  split at h
  · rename_i hb; exact (Array.getElem?_eq_some_iff.1 hb).1
  · cases h
/-- A write: its place, its bytes' slice, its bytes. -/
structure Wr where
  at_ : Int
  v : Value
  l : List UInt8
def wrVal (x : Wr) : Value := .agg #[.int .i64 x.at_, x.v]
theorem plen_c (w : World) (at_ : Int) (p : Option Addr) (n c : Nat) :
    Calls Tryz.prog 99 #[.agg #[.int .i64 at_, .slice p n c]] w fun e w' => e = .returned (.bool (decide (n ≠ 64))) ∧ Below w.heap.size w w' := by
  go_enter Tryz.func99, Tryz.ntmps99
  go_wp2
  go_ret
  refine ⟨?_, (Below.refl _ _).alloc (Nat.le_refl _) _⟩
  rw [show ((n : Int) != 64) = decide (n ≠ 64) from by rw [Bool.eq_iff_iff]; simp; omega]
  rfl
theorem prng_c {B : Nat} {w : World} {D S N : Nat} {lv : Value} {d : Dev} (h : DevAt B w D S N lv d) (bx : Nat) (hb : w.cell? ⟨bx, 0, none⟩ = some (.pointer (some ⟨D, 0, none⟩))) (at_ : Int) (v : Value) :
    Calls Tryz.prog 100 #[.agg #[.int .i64 at_, v], .pointer (some ⟨bx, 0, none⟩)] w fun e w' => e = .returned (.bool (decide (at_ < 0 ∨ (d.n : Int) ≤ at_))) ∧ Below w.heap.size w w' := by
  have hL := h.lt
  have hX : bx < w.heap.size := cell_lt hb
  obtain ⟨c0, c1, c2, c3, c4⟩ := h.cells
  clear h c0 c2 c3 c4
  generalize d.n = n at *
  go_enter Tryz.func100, Tryz.ntmps100
  by_cases hn : at_ < 0
  · have hd : decide (at_ < 0) = true := by simp [hn]
    go_wp2_with (go_quiet (fail))
    go_ret
    refine ⟨by simp [hn], below_drewN ((Below.refl _ _).alloc (Nat.le_refl _) _) _⟩
  · have hd : decide (at_ < 0) = false := by simp [hn]
    go_wp2_with (go_quiet (fail))
    go_ret
    refine ⟨by simp, below_drewN ((Below.refl _ _).alloc (Nat.le_refl _) _) _⟩
/-- The writes that a slice value shows. -/
def WritesIn (B : Nat) (w : World) (v : Value) (ws : List Wr) : Prop :=
  (∃ p c, v = .slice p ws.length c ∧ (ws ≠ [] → ∃ b o, p = some ⟨b, o, none⟩ ∧ b < w.heap.size ∧ Ra.Safe B w b ∧ ∀ j x, ws[j]? = some x → w.cell? ⟨b, o + j * 2, none⟩ = some (.int .i64 x.at_) ∧ w.cell? ⟨b, o + j * 2 + 1, none⟩ = some x.v)) ∧
  ∀ x ∈ ws, BytesIn B w x.v x.l
theorem WritesIn.step {B : Nat} {w w' : World} {v : Value} {ws : List Wr} (h : WritesIn B w v ws) (hs : Step B w w') : WritesIn B w' v ws := by
  obtain ⟨⟨p, c, hv, h⟩, hx⟩ := h
  refine ⟨⟨p, c, hv, fun hl => ?_⟩, fun x hm => (hx x hm).step hs⟩
  obtain ⟨b, o, hp, hlt, hsf, hc⟩ := h hl
  exact ⟨b, o, hp, Nat.lt_of_lt_of_le hlt hs.size, hsf.step hs, fun j x hj => ⟨(hsf.cell hs _).trans (hc j x hj).1, (hsf.cell hs _).trans (hc j x hj).2⟩⟩
/-- Which is the first one? -/
def idxW (bad : Wr → Bool) (ws : List Wr) : Int := match ws.findIdx? bad with
  | some i => (i : Int)
  | none => -1
theorem findIdx_at (bad : Wr → Bool) : ∀ (ws : List Wr) (j : Nat) (x : Wr), ws[j]? = some x → bad x = true → (∀ i y, i < j → ws[i]? = some y → bad y = false) → ws.findIdx? bad = some j
  | [], j, x, h, _, _ => by simp at h
  | y :: ws, 0, x, h, hb, _ => by
    obtain rfl : y = x := by simpa using h
    simp [List.findIdx?_cons, hb]
  | y :: ws, j + 1, x, h, hb, hl => by
    have h0 := hl 0 y (Nat.succ_pos _) rfl
    have := findIdx_at bad ws j x (by simpa using h) hb (fun i z hi hz => hl (i + 1) z (Nat.succ_lt_succ hi) (by simpa using hz))
    simp [List.findIdx?_cons, h0, this]
theorem idxW_any (bad : Wr → Bool) (ws : List Wr) : decide ((0 : Int) ≤ idxW bad ws) = ws.any bad := by
  unfold idxW
  cases h : ws.findIdx? bad with
  | none =>
    have := List.findIdx?_eq_none_iff.1 h
    symm
    simpa using this
  | some i =>
    obtain ⟨hi, hb, _⟩ := List.findIdx?_eq_some_iff_getElem.1 h
    have h2 : ws.any bad = true := List.any_eq_true.2 ⟨_, List.getElem_mem hi, hb⟩
    rw [h2]
    simp
set_option maxHeartbeats 2000000 in
theorem index_len_c (B : Nat) (v : Value) (ws : List Wr) (w : World) (hB : B ≤ w.heap.size) (hv : WritesIn B w v ws) (hl : ws.length ≤ 1000000) (bad : Wr → Bool)
    (hf : ∀ x ∈ ws, ∀ w', Below w.heap.size w w' → Calls Tryz.prog 99 #[wrVal x] w' fun e w'' => e = .returned (.bool (bad x)) ∧ Below w'.heap.size w' w'') :
    Calls Tryz.prog 152 #[v, .func (.func 99) #[] #[]] w fun e w' => e = .returned (.int .i64 (idxW bad ws)) ∧ Below w.heap.size w w' := by
  have HV := Lib.hid hv
  obtain ⟨⟨p, c, rfl, -⟩, -⟩ := hv
  have HF := Lib.hid hf
  have HB := Lib.hid hB
  clear hf hB
  obtain ⟨N, hN⟩ : ∃ N, N = ws.length := ⟨_, rfl⟩
  rw [← hN] at hl ⊢
  have HN := Lib.hid hN
  clear hN
  go_enter Tryz.func152, Tryz.ntmps152
  go_wp2
  go_loopg [5, 8] (N + 1) (fun gg _ s8 wr => ∃ j : Nat, j ≤ N ∧ N - j < gg ∧ s8 = .int .i64 (j : Int) ∧ Hid (Below w.heap.size w wr ∧ ∀ i x, i < j → ws[i]? = some x → bad x = false))
  case atStart => exact ⟨0, by omega, by omega, rfl, Lib.hid ⟨Below.refl _ _, fun i x hi => by omega⟩⟩
  case round =>
    obtain ⟨j, hj, hgg, rfl, HR⟩ := hrel
    by_cases hlt : j < N
    · have hil : (j : Int) < (N : Int) := by omega
      obtain ⟨x, hx⟩ : ∃ x, ws[j]? = some x := ⟨_, List.getElem?_eq_getElem (by rw [← HN.out]; exact hlt)⟩
      have hv2 := HV.out.step (Step.of HR.out.1 HB.out)
      obtain ⟨⟨p', c', hv', hp'⟩, -⟩ := hv2
      obtain ⟨rfl, rfl⟩ : p = p' ∧ c = c' := by
        have := HN.out
        simpa using (by rw [← this] at hv'; simpa using hv' : p = p' ∧ c = c')
      obtain ⟨b, o, rfl, _, _, hc⟩ := hp' (fun e => by rw [e] at hx; cases hx)
      obtain ⟨cx, cy⟩ := hc j x hx
      have KF := Lib.hid (HF.out x (List.mem_of_getElem? hx) wr HR.out.1)
      unfold wrVal at KF
      have HX := Lib.hid hx
      clear hc hp' hv' hx
      cases hbad : bad x with
      | false =>
        have HD : Hid (∀ i y, i < j + 1 → ws[i]? = some y → bad y = false) := Lib.hid (fun i y hi hy => by
          rcases Nat.lt_or_ge i j with h' | h'
          · exact HR.out.2 i y h' hy
          · obtain rfl : i = j := by omega
            rw [HX.out] at hy
            rw [← Option.some.inj hy]; exact hbad)
        rw [hbad] at KF
        clear hbad
        go_wp2_with (go_at_call 99; (with_reducible refine KF.out.mono ?_); rintro e w5 ⟨rfl, hb5⟩; have HB5 := Lib.hid (HR.out.1.trans (hb5.mono HR.out.1.size)); clear hb5)
        go_roundg (N - (j + 1) + 1)
        case measure => omega
        case rel => exact ⟨j + 1, by omega, by omega, by go_num, Lib.hid ⟨HB5.out, HD.out⟩⟩
      | true =>
        have HE : Hid (idxW bad ws = (j : Int)) := Lib.hid (by
          unfold idxW
          rw [findIdx_at bad ws j x HX.out hbad HR.out.2])
        rw [hbad] at KF
        clear hbad
        go_wp2_with (go_at_call 99; (with_reducible refine KF.out.mono ?_); rintro e w5 ⟨rfl, hb5⟩; have HB5 := Lib.hid (HR.out.1.trans (hb5.mono HR.out.1.size)); clear hb5)
        go_ret
        rw [HE.out]
        exact ⟨rfl, HB5.out⟩
    · have hil : ¬ (j : Int) < (N : Int) := by omega
      obtain rfl : j = N := by omega
      have HE : Hid (idxW bad ws = -1) := Lib.hid (by
        unfold idxW
        rw [List.findIdx?_eq_none_iff.2 (fun x hx => ?_)]
        obtain ⟨i, hi⟩ := List.getElem?_of_mem hx
        exact HR.out.2 i x (by rw [HN.out]; exact (List.getElem?_eq_some_iff.1 hi).1) hi)
      go_wp2
      go_ret
      rw [HE.out]
      exact ⟨rfl, HR.out.1⟩
theorem contains_len_c (B : Nat) (v : Value) (ws : List Wr) (w : World) (hB : B ≤ w.heap.size) (hv : WritesIn B w v ws) (hl : ws.length ≤ 1000000) (bad : Wr → Bool)
    (hf : ∀ x ∈ ws, ∀ w', Below w.heap.size w w' → Calls Tryz.prog 99 #[wrVal x] w' fun e w'' => e = .returned (.bool (bad x)) ∧ Below w'.heap.size w' w'') :
    Calls Tryz.prog 98 #[v, .func (.func 99) #[] #[]] w fun e w' => e = .returned (.bool (ws.any bad)) ∧ Below w.heap.size w w' := by
  have KI := Lib.hid (index_len_c B v ws w hB hv hl bad hf)
  have HA := Lib.hid (idxW_any bad ws)
  clear hf
  obtain ⟨⟨p, c, rfl, -⟩, -⟩ := hv
  clear hl
  generalize ws.length = n at *
  generalize idxW bad ws = ix at *
  go_enter Tryz.func98, Tryz.ntmps98
  go_wp2_with (go_at_call 152; (with_reducible refine KI.out.mono ?_); rintro e w5 ⟨rfl, hb5⟩)
  go_ret
  rw [← HA.out]
  exact ⟨rfl, hb5⟩
set_option maxHeartbeats 2000000 in
theorem index_rng_c (B : Nat) (v : Value) (ws : List Wr) (w : World) (hB : B ≤ w.heap.size) (hv : WritesIn B w v ws) (hl : ws.length ≤ 1000000) (bx : Nat) (bad : Wr → Bool)
    (hf : ∀ x ∈ ws, ∀ w', Below w.heap.size w w' → Calls Tryz.prog 100 #[wrVal x, .pointer (some ⟨bx, 0, none⟩)] w' fun e w'' => e = .returned (.bool (bad x)) ∧ Below w'.heap.size w' w'') :
    Calls Tryz.prog 152 #[v, .func (.func 100) #[] #[.pointer (some ⟨bx, 0, none⟩)]] w fun e w' => e = .returned (.int .i64 (idxW bad ws)) ∧ Below w.heap.size w w' := by
  have HV := Lib.hid hv
  obtain ⟨⟨p, c, rfl, -⟩, -⟩ := hv
  have HF := Lib.hid hf
  have HB := Lib.hid hB
  clear hf hB
  obtain ⟨N, hN⟩ : ∃ N, N = ws.length := ⟨_, rfl⟩
  rw [← hN] at hl ⊢
  have HN := Lib.hid hN
  clear hN
  go_enter Tryz.func152, Tryz.ntmps152
  go_wp2
  go_loopg [5, 8] (N + 1) (fun gg _ s8 wr => ∃ j : Nat, j ≤ N ∧ N - j < gg ∧ s8 = .int .i64 (j : Int) ∧ Hid (Below w.heap.size w wr ∧ ∀ i x, i < j → ws[i]? = some x → bad x = false))
  case atStart => exact ⟨0, by omega, by omega, rfl, Lib.hid ⟨Below.refl _ _, fun i x hi => by omega⟩⟩
  case round =>
    obtain ⟨j, hj, hgg, rfl, HR⟩ := hrel
    by_cases hlt : j < N
    · have hil : (j : Int) < (N : Int) := by omega
      obtain ⟨x, hx⟩ : ∃ x, ws[j]? = some x := ⟨_, List.getElem?_eq_getElem (by rw [← HN.out]; exact hlt)⟩
      have hv2 := HV.out.step (Step.of HR.out.1 HB.out)
      obtain ⟨⟨p', c', hv', hp'⟩, -⟩ := hv2
      obtain ⟨rfl, rfl⟩ : p = p' ∧ c = c' := by
        have := HN.out
        simpa using (by rw [← this] at hv'; simpa using hv' : p = p' ∧ c = c')
      obtain ⟨b, o, rfl, _, _, hc⟩ := hp' (fun e => by rw [e] at hx; cases hx)
      obtain ⟨cx, cy⟩ := hc j x hx
      have KF := Lib.hid (HF.out x (List.mem_of_getElem? hx) wr HR.out.1)
      unfold wrVal at KF
      have HX := Lib.hid hx
      clear hc hp' hv' hx
      cases hbad : bad x with
      | false =>
        have HD : Hid (∀ i y, i < j + 1 → ws[i]? = some y → bad y = false) := Lib.hid (fun i y hi hy => by
          rcases Nat.lt_or_ge i j with h' | h'
          · exact HR.out.2 i y h' hy
          · obtain rfl : i = j := by omega
            rw [HX.out] at hy
            rw [← Option.some.inj hy]; exact hbad)
        rw [hbad] at KF
        clear hbad
        go_wp2_with (go_at_call 100; (with_reducible refine KF.out.mono ?_); rintro e w5 ⟨rfl, hb5⟩; have HB5 := Lib.hid (HR.out.1.trans (hb5.mono HR.out.1.size)); clear hb5)
        go_roundg (N - (j + 1) + 1)
        case measure => omega
        case rel => exact ⟨j + 1, by omega, by omega, by go_num, Lib.hid ⟨HB5.out, HD.out⟩⟩
      | true =>
        have HE : Hid (idxW bad ws = (j : Int)) := Lib.hid (by
          unfold idxW
          rw [findIdx_at bad ws j x HX.out hbad HR.out.2])
        rw [hbad] at KF
        clear hbad
        go_wp2_with (go_at_call 100; (with_reducible refine KF.out.mono ?_); rintro e w5 ⟨rfl, hb5⟩; have HB5 := Lib.hid (HR.out.1.trans (hb5.mono HR.out.1.size)); clear hb5)
        go_ret
        rw [HE.out]
        exact ⟨rfl, HB5.out⟩
    · have hil : ¬ (j : Int) < (N : Int) := by omega
      obtain rfl : j = N := by omega
      have HE : Hid (idxW bad ws = -1) := Lib.hid (by
        unfold idxW
        rw [List.findIdx?_eq_none_iff.2 (fun x hx => ?_)]
        obtain ⟨i, hi⟩ := List.getElem?_of_mem hx
        exact HR.out.2 i x (by rw [HN.out]; exact (List.getElem?_eq_some_iff.1 hi).1) hi)
      go_wp2
      go_ret
      rw [HE.out]
      exact ⟨rfl, HR.out.1⟩
theorem contains_rng_c (B : Nat) (v : Value) (ws : List Wr) (w : World) (hB : B ≤ w.heap.size) (hv : WritesIn B w v ws) (hl : ws.length ≤ 1000000) (bx : Nat) (bad : Wr → Bool)
    (hf : ∀ x ∈ ws, ∀ w', Below w.heap.size w w' → Calls Tryz.prog 100 #[wrVal x, .pointer (some ⟨bx, 0, none⟩)] w' fun e w'' => e = .returned (.bool (bad x)) ∧ Below w'.heap.size w' w'') :
    Calls Tryz.prog 98 #[v, .func (.func 100) #[] #[.pointer (some ⟨bx, 0, none⟩)]] w fun e w' => e = .returned (.bool (ws.any bad)) ∧ Below w.heap.size w w' := by
  have KI := Lib.hid (index_rng_c B v ws w hB hv hl bx bad hf)
  have HA := Lib.hid (idxW_any bad ws)
  clear hf
  obtain ⟨⟨p, c, rfl, -⟩, -⟩ := hv
  clear hl
  generalize ws.length = n at *
  generalize idxW bad ws = ix at *
  go_enter Tryz.func98, Tryz.ntmps98
  go_wp2_with (go_at_call 152; (with_reducible refine KI.out.mono ?_); rintro e w5 ⟨rfl, hb5⟩)
  go_ret
  rw [← HA.out]
  exact ⟨rfl, hb5⟩
end Go.Proofs.YtjohhjdicbeojaaGreatDoor.Rh
