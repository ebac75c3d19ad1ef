/- The walk of find: the form of an act. -/
import Derived.Test.YtbnbnccpoeopmaaDoorSa
import Derived.Outline
import Derived.Deep.Light
import Derived.Test.YtbnbnccpoeopmaaDoorSe
namespace Go.Proofs.YtbnbnccpoeopmaaDoor.Sf
open Go.RowKit Go.Proofs.YtbnbnccpoeopmaaDoor.Sa Go.Proofs.YtbnbnccpoeopmaaDoor.Se

/-- Is it the form of an act of this kind, whose request is of this kind? -/
def fitsF (kind rk : Int) (f : FormD) : Bool := (f.act != 0 && f.act == kind) || (f.ask != 0 && f.ask == rk && (kind == 3 || kind == 5))

/-- The first form that fits, from form k on. -/
def findFrom (kind rk : Int) : Nat → Nat → Option FormD
  | 0, _ => none
  | g + 1, k => if fitsF kind rk (formAt k) then some (formAt k) else findFrom kind rk g (k + 1)

def zeroForm : FormD := ⟨⟨#[]⟩, ⟨#[]⟩, 0, 0⟩
def actVal (kind n rk vol block size : Int) (data keep : Value) : Value := .agg #[.int .i64 kind, .int .i64 n, .int .i64 rk, .int .i64 vol, .int .i64 block, .int .i64 size, data, keep]

set_option maxHeartbeats 4000000 in
theorem find_c (kind n rk vol block size : Int) (data keep : Value) (w : World) :
    Calls Tryd.prog 17 #[actVal kind n rk vol block size data keep] w fun e w' => e = .returned (.tuple #[formVal ((findFrom kind rk 14 0).getD zeroForm), .bool (findFrom kind rk 14 0).isSome]) ∧ Below w.heap.size w w' := by
  have n1 := blk_old (blk_new w #[.int .i64 kind, .int .i64 n, .int .i64 rk, .int .i64 vol, .int .i64 block, .int .i64 size, data, keep] 27) (.cells #[.string ⟨#[]⟩, .string ⟨#[]⟩, .int .i64 0, .int .i64 0] 49)
  have n2 := blk_new (w.alloc (.cells #[.int .i64 kind, .int .i64 n, .int .i64 rk, .int .i64 vol, .int .i64 block, .int .i64 size, data, keep] 27)) #[.string ⟨#[]⟩, .string ⟨#[]⟩, .int .i64 0, .int .i64 0] 49
  have bb := ((Below.refl w.heap.size w).alloc (Nat.le_refl _) (.cells #[.int .i64 kind, .int .i64 n, .int .i64 rk, .int .i64 vol, .int .i64 block, .int .i64 size, data, keep] 27)).alloc (by rw [sz_alloc]; omega) (.cells #[.string ⟨#[]⟩, .string ⟨#[]⟩, .int .i64 0, .int .i64 0] 49)
  have hz : ((w.alloc (.cells #[.int .i64 kind, .int .i64 n, .int .i64 rk, .int .i64 vol, .int .i64 block, .int .i64 size, data, keep] 27)).alloc (.cells #[.string ⟨#[]⟩, .string ⟨#[]⟩, .int .i64 0, .int .i64 0] 49)).heap.size = w.heap.size + 2 := by rw [sz_alloc, sz_alloc]
  rw [sz_alloc] at n2
  have N1 := Lib.hid n1
  have N2 := Lib.hid n2
  have BB := Lib.hid bb
  have HZ := Lib.hid hz
  clear n1 n2 bb hz
  obtain ⟨res, hres⟩ : ∃ res, res = findFrom kind rk 14 0 := ⟨_, rfl⟩
  rw [← hres]
  have HRES := Lib.hid hres
  clear hres
  unfold actVal
  go_enter Tryd.func17, Tryd.ntmps17
  go_wp2_with (go_at_call 24; (with_reducible refine (forms_c _).mono ?_); rintro e w1 ⟨rfl, hF, hb1⟩; have HF := Lib.hid hF; have HB1 := Lib.hid hb1; clear hF hb1)
  rw [HZ.out] at HF HB1
  have B0 : Hid (Below w.heap.size w w1) := Lib.hid (BB.out.trans (HB1.out.mono (by omega)))
  have N1' : Hid (w1.heap[w.heap.size]? = _) := Lib.hid (blk_below N1.out HB1.out (by omega))
  have N2' : Hid (w1.heap[w.heap.size + 1]? = _) := Lib.hid (blk_below N2.out HB1.out (by omega))
  have hL : w.heap.size + 2 < w1.heap.size := HF.out.lt
  clear BB HB1 N1 N2 HZ
  generalize hBB : w.heap.size = B at *
  have HBB := Lib.hid hBB
  clear hBB
  generalize Value.agg #[.int .i64 kind, .int .i64 n, .int .i64 rk, .int .i64 vol, .int .i64 block, .int .i64 size, data, keep] = v0
  go_loopg [5, 8] 14 (fun gg _ s8 wr => ∃ kk : Nat, kk ≤ 14 ∧ 14 - kk ≤ gg ∧ s8 = .int .i64 kk ∧ Hid (findFrom kind rk 14 0 = findFrom kind rk (14 - kk) kk) ∧ Hid (Below w1.heap.size w1 wr))
  case atStart => exact ⟨0, by omega, by omega, rfl, Lib.hid rfl, Lib.hid (Below.refl _ _)⟩
  case round =>
    obtain ⟨kk, hkk, hgg, rfl, hfi, BR⟩ := hrel
    have hsz := BR.out.size
    have l0 : B < wr.heap.size := by omega
    have l1 : B + 1 < wr.heap.size := by omega
    have l2 : B + 1 + 1 < wr.heap.size := by omega
    have l3 : wr.heap.size ≠ B := by omega
    have l4 : wr.heap.size ≠ B + 1 := by omega
    have m1 := blk_below N1'.out BR.out (by omega)
    have m2 := blk_below N2'.out BR.out (by omega)
    have q0 : wr.cell? ⟨B, 0, none⟩ = some (.int .i64 kind) := blk_cell m1 0
    have q2 : wr.cell? ⟨B, 2, none⟩ = some (.int .i64 rk) := blk_cell m1 2
    have r0 : wr.cell? ⟨B + 1, 0, none⟩ = some (.string ⟨#[]⟩) := blk_cell m2 0
    have r1 : wr.cell? ⟨B + 1, 1, none⟩ = some (.string ⟨#[]⟩) := blk_cell m2 1
    have r2 : wr.cell? ⟨B + 1, 2, none⟩ = some (.int .i64 0) := blk_cell m2 2
    have r3 : wr.cell? ⟨B + 1, 3, none⟩ = some (.int .i64 0) := blk_cell m2 3
    have f0 := blk_free m2 0
    have f1 := blk_free m2 1
    have f2 := blk_free m2 2
    have f3 := blk_free m2 3
    have M2 := Lib.hid m2
    clear m1 m2
    by_cases e : kk < 14
    · have hlt : (kk : Int) < 14 := by omega
      have hF := HF.out.below BR.out
      have c1 := hF.word kk e
      have c2 := hF.parts kk e
      have c3 := hF.act kk e
      have c4 := hF.ask kk e
      have hstep : findFrom kind rk (14 - kk) kk = if fitsF kind rk (formAt kk) then some (formAt kk) else findFrom kind rk (14 - (kk + 1)) (kk + 1) := by
        obtain ⟨g, hg⟩ : ∃ g, 14 - kk = g + 1 := ⟨13 - kk, by omega⟩
        rw [hg, show 14 - (kk + 1) = g by omega]
        rfl
      have HST := Lib.hid hstep
      clear hF hstep
      have hff : ∀ b, fitsF kind rk (formAt kk) = b → b = (((formAt kk).act != 0 && (formAt kk).act == kind) || ((formAt kk).ask != 0 && (formAt kk).ask == rk && (kind == 3 || kind == 5))) := fun b h => h.symm
      have HFF := Lib.hid hff
      clear hff
      have hform : Hid (formVal (formAt kk) = .agg #[.string (formAt kk).word, .string (formAt kk).parts, .int .i64 (formAt kk).act, .int .i64 (formAt kk).ask]) := Lib.hid rfl
      generalize formAt kk = ff at *
      cases ff with
      | mk fw fp fa fk =>
        simp only at c1 c2 c3 c4
        go_wp2
        all_goals first
          | (go_roundg (14 - (kk + 1))
             case measure => omega
             case rel =>
               refine ⟨kk + 1, by omega, by omega, by go_num, ?_, Lib.hid (BR.out.alloc BR.out.size _)⟩
               refine Lib.hid (hfi.out.trans (HST.out.trans (if_neg ?_)))
               rw [Bool.not_eq_true]
               refine (HFF.out _ rfl).trans ?_
               clear HFF HST hform hfi c1 c2 c3 c4 q0 q2 r0 r1 r2 r3 f0 f1 f2 f3 M2 HF B0 N1' N2' BR
               go_light
               first | (simp [*]; done) | grind)
          | ((try simp only [Exit.inBlock, Exit.then])
             refine bodyPost_ret (v := .tuple #[.agg #[.string fw, .string fp, .int .i64 fa, .int .i64 fk], .bool true]) (by rw [results_cell_tmp rfl]; go_simp) rfl ?_
             refine ⟨?_, ?_⟩
             · have h1 : fitsF kind rk ⟨fw, fp, fa, fk⟩ = true := by
                 refine (HFF.out _ rfl).trans ?_
                 clear HFF HST hform hfi c1 c2 c3 c4 q0 q2 r0 r1 r2 r3 f0 f1 f2 f3 M2 HF B0 N1' N2' BR
                 go_light
                 first | (simp [*]; done) | grind
               rw [HRES.out, hfi.out, HST.out, if_pos h1]
               rfl
             · rw [HBB.out]
               refine Below.alloc ?_ (by simp only [sz_set]; omega) _
               refine Below.setCell (Below.setCell (Below.setCell (Below.setCell ?_ ?_ _) ?_ _) ?_ _) ?_ _
               · exact B0.out.trans (BR.out.mono (by omega))
               · exact Nat.le_succ B
               · exact Nat.le_succ B
               · exact Nat.le_succ B
               · exact Nat.le_succ B)
    · have hlt : ¬ (kk : Int) < 14 := by omega
      obtain rfl : kk = 14 := by omega
      go_wp2
      (try simp only [Exit.inBlock, Exit.then])
      refine bodyPost_ret (v := .tuple #[.agg #[.string ⟨#[]⟩, .string ⟨#[]⟩, .int .i64 0, .int .i64 0], .bool false]) (by rw [results_cell_tmp rfl]; go_simp) rfl ?_
      refine ⟨?_, ?_⟩
      · rw [HRES.out, hfi.out]
        rfl
      · rw [HBB.out]
        refine Below.setCell (Below.setCell (Below.setCell (Below.setCell ?_ ?_ _) ?_ _) ?_ _) ?_ _
        · exact B0.out.trans (BR.out.mono (by omega))
        · exact Nat.le_succ B
        · exact Nat.le_succ B
        · exact Nat.le_succ B
        · exact Nat.le_succ B

end Go.Proofs.YtbnbnccpoeopmaaDoor.Sf
