/- What the acts of a text are; rows of acts. -/
import Derived.Test.YtbnbnccpoeopmaaDoorSw
import Derived.Lib.CutLaws
namespace Go.Proofs.YtbnbnccpoeopmaaDoor.Sx
open Go.RowKit Go.Proofs.YtbnbnccpoeopmaaDoor.Sa Go.Proofs.YtbnbnccpoeopmaaDoor.Sb Go.Proofs.YtbnbnccpoeopmaaDoor.Sc Go.Proofs.YtbnbnccpoeopmaaDoor.Sd Go.Proofs.YtbnbnccpoeopmaaDoor.Se Go.Proofs.YtbnbnccpoeopmaaDoor.Sf Go.Proofs.YtbnbnccpoeopmaaDoor.Sg Go.Proofs.YtbnbnccpoeopmaaDoor.Sh Go.Proofs.YtbnbnccpoeopmaaDoor.Sj Go.Proofs.YtbnbnccpoeopmaaDoor.Sp Go.Proofs.YtbnbnccpoeopmaaDoor.Sr Go.Proofs.YtbnbnccpoeopmaaDoor.Su Go.Proofs.YtbnbnccpoeopmaaDoor.Sw

/-- A line, what is behind it, and whether it is ended. -/
def cutL : List UInt8 → List UInt8 × List UInt8 × Bool
  | [] => ([], [], false)
  | c :: l => if c = 10 then ([], l, true) else ((c :: (cutL l).1), (cutL l).2.1, (cutL l).2.2)

theorem cut_L : ∀ l : List UInt8, Lib.cut l [10] = cutL l
  | [] => rfl
  | c :: l => by
    have ih := cut_L l
    by_cases hc : c = 10
    · subst hc
      have hix : Lib.index (10 :: l) [10] = 0 := by rw [Lib.index]; simp [List.isPrefixOf]
      unfold cutL
      rw [if_pos rfl]
      unfold Lib.cut
      rw [hix]
      simp
    · have hp : ([10] : List UInt8).isPrefixOf (c :: l) = false := by simp [List.isPrefixOf, Ne.symm hc]
      have hix : Lib.index (c :: l) [10] = if Lib.index l [10] == -1 then -1 else Lib.index l [10] + 1 := by rw [Lib.index, hp]; simp
      unfold cutL
      rw [if_neg hc, ← ih]
      unfold Lib.cut
      have hge := Lib.index_ge l [10]
      by_cases hm : Lib.index l [10] = -1
      · rw [hix, hm]
        simp
      · obtain ⟨j, hj⟩ : ∃ j : Nat, Lib.index l [10] = j := ⟨(Lib.index l [10]).toNat, by omega⟩
        have hix2 : Lib.index (c :: l) [10] = ((j + 1 : Nat) : Int) := by
          rw [hix, if_neg (fun e => hm (beq_iff_eq.1 e)), hj]
          omega
        rw [hix2, hj, if_pos (by omega), if_pos (by omega), Int.toNat_natCast, Int.toNat_natCast]
        rfl

theorem cutL_len : ∀ l : List UInt8, (cutL l).1.length ≤ l.length ∧ ((cutL l).2.2 = true → (cutL l).2.1.length < l.length)
  | [] => ⟨Nat.le_refl _, fun h => by cases h⟩
  | c :: l => by
    obtain ⟨h1, h2⟩ := cutL_len l
    unfold cutL
    split
    · exact ⟨Nat.zero_le _, fun _ => Nat.lt_succ_self _⟩
    · exact ⟨Nat.succ_le_succ h1, fun h => Nat.lt_succ_of_lt (h2 h)⟩

/-- What Acts answers of a text: the acts, or none; the number of the line that is none. -/
def fin : Nat → List UInt8 → Nat → List ActM → Option (List ActM) × Nat
  | 0, _, _, acc => (some acc, 0)
  | g + 1, r, cnt, acc =>
    if r = [] then (some acc, 0)
    else match actL (cutL r).1, (cutL r).2.2 with
      | some m, true => fin g (cutL r).2.1 (cnt + 1) (acc ++ [m])
      | _, _ => (none, cnt + 1)

theorem fin_some : ∀ (g : Nat) (r : List UInt8) (cnt : Nat) (acc L : List ActM) (n : Nat), fin g r cnt acc = (some L, n) → n = 0 ∧ ∃ t, L = acc ++ t
  | 0, r, cnt, acc, L, n, h => by
    have h1 := (Prod.mk.inj h)
    exact ⟨h1.2.symm, [], by rw [List.append_nil]; exact (Option.some.inj h1.1).symm⟩
  | g + 1, r, cnt, acc, L, n, h => by
    unfold fin at h
    split at h
    · have h1 := (Prod.mk.inj h)
      exact ⟨h1.2.symm, [], by rw [List.append_nil]; exact (Option.some.inj h1.1).symm⟩
    · split at h
      · rename_i m _ _
        obtain ⟨h1, t, ht⟩ := fin_some g _ _ _ L n h
        exact ⟨h1, m :: t, by rw [ht, List.append_assoc]; rfl⟩
      · cases h

/-- An act in memory: its data's and its keep's slices. -/
structure Ent where
  m : ActM
  dv : Value
  kv : Value
def Ent.cells (e : Ent) : List Value := [.int .i64 e.m.kind, .int .i64 e.m.n, .int .i64 e.m.rk, .int .i64 e.m.vol, .int .i64 e.m.block, .int .i64 e.m.size, e.dv, e.kv]
def entCells (es : List Ent) : List Value := es.flatMap Ent.cells

structure EntOk (w : World) (base : Nat) (e : Ent) : Prop where
  d : w.ownsRow base 5 1 e.dv e.m.data.length (byteVals e.m.data)
  k : w.ownsRow base 3 1 e.kv e.m.keep.length (intVals e.m.keep)

theorem EntOk.below {w w' : World} {base : Nat} {e : Ent} (h : EntOk w base e) (hb : Below w.heap.size w w') : EntOk w' base e := ⟨row_below h.d hb, row_below h.k hb⟩

theorem rows_ne {w : World} {b1 b2 n1 n2 s1 s2 : Nat} {t1 t2 : TypeId} {v u : Value} {xs ys : List Value} (h1 : w.ownsRow b1 t1 s1 v n1 xs) (h2 : w.ownsRow b2 t2 s2 u n2 ys) (ht : t1 ≠ t2) : v.ownBlock = none ∨ v.ownBlock ≠ u.ownBlock := by
  rcases h1.2 with ⟨rfl, _⟩ | ⟨g, cap, cur, rfl, _, hh, _⟩
  · exact Or.inl rfl
  · rcases h2.2 with ⟨rfl, _⟩ | ⟨g2, cap2, cur2, rfl, _, hh2, _⟩
    · exact Or.inr (fun e => by cases e)
    · refine Or.inr (fun e => ?_)
      have : g = g2 := Option.some.inj e
      subst this
      rw [hh] at hh2
      have := Option.some.inj hh2
      injection this with _ h3 _
      exact ht h3

theorem EntOk.grown {w w' : World} {base b2 n : Nat} {e : Ent} {u : Value} {ys : List Value} {ob : Obj} (h : EntOk w base e) (hr : w.ownsRow b2 27 8 u n ys) (hg : (w.alloc ob).grownBy w' u.ownBlock) : EntOk w' base e :=
  ⟨(h.d.alloc ob).kept hg (rows_ne h.d hr (by decide)), (h.k.alloc ob).kept hg (rows_ne h.k hr (by decide))⟩

theorem cells_new (w : World) (vs : Array Value) (t : TypeId) : ∀ j u, vs.toList[j]? = some u → (w.alloc (.cells vs t)).cell? ((⟨w.heap.size, 0, none⟩ : Addr).add j) = some u := by
  intro j u hj
  rw [Lib.add_plain, blk_cell (blk_new w vs t), Nat.zero_add]
  simpa using hj

theorem info27 : (Tryd.prog.info? 27).map (fun i => (i.zero, i.size, i.bytes)) = some (some (.agg #[.int .i64 0, .int .i64 0, .int .i64 0, .int .i64 0, .int .i64 0, .int .i64 0, .slice none 0 0, .slice none 0 0]), 8, 96) := by kernel_rfl

end Go.Proofs.YtbnbnccpoeopmaaDoor.Sx
