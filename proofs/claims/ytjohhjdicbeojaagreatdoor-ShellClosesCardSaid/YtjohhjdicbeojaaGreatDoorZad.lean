/- Texts joined: KSh KSf. -/
import Derived.Deep.AppendLies
import Derived.Deep.RegionLaw
import Derived.Outline
import Derived.Deep.Light
import Derived.Test.YtjohhjdicbeojaaGreatDoorZaa
import Derived.Test.YtjohhjdicbeojaaGreatDoorZac
namespace Go.Proofs.YtjohhjdicbeojaaGreatDoor.KSh
open Go.RowKit Go.Proofs.YtjohhjdicbeojaaGreatDoor.KSa Go.Proofs.YtjohhjdicbeojaaGreatDoor.KSb Go.Proofs.YtjohhjdicbeojaaGreatDoor.KSd Go.Proofs.YtjohhjdicbeojaaGreatDoor.KSe
/-- The bytes that a slice value shows. -/
def BytesIn (w : World) (v : Value) (l : List UInt8) : Prop :=
  ∃ p c, v = .slice p l.length c ∧ (l ≠ [] → ∃ b o, p = some ⟨b, o, none⟩ ∧ b < w.heap.size ∧ ∀ j x, l[j]? = some x → w.cell? ⟨b, o + j, none⟩ = some (.int .u8 (x.toNat : Int)))
theorem BytesIn.below {w w' : World} {v : Value} {l : List UInt8} (h : BytesIn w v l) (hb : Below w.heap.size w w') : BytesIn w' v l := by
  obtain ⟨p, c, hv, h⟩ := h
  refine ⟨p, c, hv, fun hl => ?_⟩
  obtain ⟨b, o, hp, hlt, hc⟩ := h hl
  exact ⟨b, o, hp, Nat.lt_of_lt_of_le hlt hb.size, fun j x hx => (hb.cell (p := ⟨b, o + j, none⟩) hlt).trans (hc j x hx)⟩
def digit (n : Nat) : UInt8 := hexDigits.data.toList.getD n 0
def hexOf (l : List UInt8) : List UInt8 := l.flatMap fun b => [digit (b.toNat / 16), digit (b.toNat % 16)]
theorem hexOf_snoc (l : List UInt8) (b : UInt8) : hexOf (l ++ [b]) = hexOf l ++ [digit (b.toNat / 16), digit (b.toNat % 16)] := by
  unfold hexOf
  rw [List.flatMap_append]
  rfl
theorem hexOf_length (l : List UInt8) : (hexOf l).length = 2 * l.length := by
  induction l with
  | nil => rfl
  | cons b l ih =>
    show (digit _ :: digit _ :: hexOf l).length = _
    rw [List.length_cons, List.length_cons, ih, List.length_cons]
    omega
theorem and_tab : ∀ x : Fin 256, bits .and .u8 (x.val : Int) 15 = ((x.val % 16 : Nat) : Int) := by decide +kernel
theorem two_new (w : World) (x y : Value) (t : TypeId) : ∀ j u, [x, y][j]? = some u → (w.alloc (.cells #[x, y] t)).cell? ((⟨w.heap.size, 0, none⟩ : Addr).add j) = some u := by
  intro j u hj
  match j, hj with
  | 0, hj =>
    simp at hj
    subst hj
    simp [Addr.add]
  | 1, hj =>
    simp at hj
    subst hj
    simp [Addr.add]
theorem conv_row (w : World) (base : Nat) (p : Option Addr) (n cap : Nat) {l : List UInt8} {res : ByteArray} (h : w.ownsRow base 5 1 (.slice p n cap) n (byteVals l)) (hr : res = ⟨l.toArray⟩) (hn : 0 < n) :
    (convert 22 9 (.slice p n cap)).run Tryz.prog w = .ok (.string res) w := by
  have hl : l.length = n := by
    have := h.1
    unfold byteVals at this
    rw [List.length_map] at this
    omega
  obtain ⟨g, c, hv, _⟩ := h.form hn
  obtain ⟨rfl, _, rfl⟩ : p = some ⟨g, 0, none⟩ ∧ n = n ∧ cap = c := by simpa using hv
  subst hr
  subst hl
  refine run_convert_bytes_back (P := Tryz.prog) w 22 9 5 ⟨g, 0, none⟩ cap l (by kernel_rfl) (by kernel_rfl) (by kernel_rfl) (fun j hj => ?_)
  refine h.cells (g := g) rfl j _ ?_
  unfold byteVals
  rw [List.getElem?_map, List.getElem?_eq_getElem hj]
  rfl
theorem dig_at (n m : Nat) (e : m = n) (h : m < hexDigits.size) : hexDigits[m]'h = digit n := by
  subst e
  unfold digit
  have h2 : m < hexDigits.data.toList.length := by rw [Array.length_toList]; exact h
  rw [List.getD_eq_getElem?_getD, List.getElem?_eq_getElem h2]
  rfl
theorem hex_c (v : Value) (l : List UInt8) (w : World) (hv : BytesIn w v l) (hl : l.length ≤ 1099511627776) :
    Calls Tryz.prog 16 #[v] w fun e w' => e = .returned (.string ⟨(120 :: hexOf l).toArray⟩) ∧ Below w.heap.size w w' := by
  obtain ⟨p, c, rfl, hp⟩ := hv
  have HP := Lib.hid hp
  clear hp
  obtain ⟨res, hres⟩ : ∃ res : ByteArray, res = ⟨(120 :: hexOf l).toArray⟩ := ⟨_, rfl⟩
  rw [← hres]
  have HRES := Lib.hid hres
  clear hres
  obtain ⟨i5, hi5, hz0, hz1, hz2⟩ := info_parts info5
  have HZ0 := Lib.hid hz0
  have HZ1 := Lib.hid hz1
  have HZ2 := Lib.hid hz2
  have HI5 := Lib.hid hi5
  clear hz0 hz1 hz2 hi5
  have O0 : Hid ((w.alloc (.cells #[.int .u8 120] 5)).ownsRow w.heap.size 5 1 (.slice (some ⟨w.heap.size, 0, none⟩) 1 1) 1 (byteVals [120])) := Lib.hid ⟨rfl, Or.inr ⟨_, _, _, rfl, Nat.le_refl _, blk_new _ _ _, Nat.le_refl _, by decide, rfl, rfl⟩⟩
  have B0 : Hid (Below w.heap.size w (w.alloc (.cells #[.int .u8 120] 5))) := Lib.hid ((Below.refl _ _).alloc (Nat.le_refl _) _)
  go_enter Tryz.func16, Tryz.ntmps16
  go_wp2
  generalize w.alloc (.cells #[.int .u8 120] 5) = w1 at O0 B0 ⊢
  go_loopg [3, 5, 9] (l.length + 1) (fun gg s3 _ s9 wr => ∃ k : Nat, k ≤ l.length ∧ l.length - k < gg ∧ s9 = .int .i64 (k : Int) ∧ Hid (wr.ownsRow w.heap.size 5 1 s3 (1 + 2 * k) (byteVals (120 :: hexOf (l.take k)))) ∧ Hid (Below w.heap.size w wr))
  case atStart => exact ⟨0, by omega, by omega, rfl, O0, B0⟩
  case round =>
    obtain ⟨k, hk, hgg, rfl, OW, BR⟩ := hrel
    obtain ⟨ps, cs, rfl⟩ : ∃ p cap, u3 = .slice p (1 + 2 * k) cap := by
      rcases OW.out.2 with ⟨h1, h2⟩ | ⟨g, cap, cur, hv, _⟩
      · omega
      · exact ⟨_, _, hv⟩
    by_cases hi : k < l.length
    · obtain ⟨x, hx⟩ : ∃ x, l[k]? = some x := ⟨_, List.getElem?_eq_getElem hi⟩
      have hne : l ≠ [] := fun e => by rw [e] at hi; exact absurd hi (Nat.not_lt_zero k)
      obtain ⟨b, o, rfl, hb, hc⟩ := HP.out hne
      have cx : wr.cell? ⟨b, o + k, none⟩ = some (.int .u8 (x.toNat : Int)) := (BR.out.cell (p := ⟨b, o + k, none⟩) hb).trans (hc k x hx)
      have HX := Lib.hid hx
      clear hx hc
      have hil : (k : Int) < (l.length : Int) := by omega
      have hd1 : 0 ≤ (x.toNat : Int) / 16 ∧ (x.toNat : Int) / 16 < 16 := by have := x.toNat_lt; omega
      have hband : bits .and .u8 (x.toNat : Int) 15 = ((x.toNat % 16 : Nat) : Int) := and_tab ⟨x.toNat, x.toNat_lt⟩
      have hd2 : 0 ≤ (x.toNat : Int) % 16 ∧ (x.toNat : Int) % 16 < 16 := by omega
      go_wp2
      have hml : 1 + 2 * k + 2 ≤ maxLen := by simp only [maxLen]; omega
      have hbs : (1 + 2 * k + 2) * 1 ≤ 140737488355328 := by omega
      have HBS : Hid (w.heap.size ≤ wr.heap.size) := Lib.hid BR.out.size
      go_region_law (refine step_append_lies _ rfl _ _ 22 rfl w.heap.size 5 i5 (.int .u8 0) 1 1 Tryz.underlying22 HI5.out HZ0.out HZ1.out HZ2.out rfl (by decide) _ (1 + 2 * k) (byteVals (120 :: hexOf (l.take k))) rfl (OW.out.drew.alloc _) ⟨wr.heap.size, 0, none⟩ 2 2 [_, _] rfl rfl (two_new _ _ _ _) (by simp [Value.oneCell']) (by decide) hml hbs (by show w.heap.size ≤ (World.alloc _ _).heap.size; rw [sz_alloc]; exact Nat.le_succ_of_le HBS.out) _ rfl ?_; intro g cap w3 hown hgrow _ _; have HOWN := Lib.hid hown; have HGR := Lib.hid hgrow; clear hown hgrow)
      all_goals (go_wp2_with fail)
      all_goals
        have hA : ∀ h, (⟨#[48, 49, 50, 51, 52, 53, 54, 55, 56, 57, 97, 98, 99, 100, 101, 102]⟩ : ByteArray)[((x.toNat : Int) / 16).toNat]'h = digit (x.toNat / 16) := fun h => dig_at (x.toNat / 16) ((x.toNat : Int) / 16).toNat (by omega) h
        have hB : ∀ h, (⟨#[48, 49, 50, 51, 52, 53, 54, 55, 56, 57, 97, 98, 99, 100, 101, 102]⟩ : ByteArray)[((x.toNat : Int) % 16).toNat]'h = digit (x.toNat % 16) := fun h => dig_at (x.toNat % 16) ((x.toNat : Int) % 16).toNat (by omega) h
        have hown := HOWN.out
        simp only [hA, hB] at hown
        have HO2 := Lib.hid hown
        clear hown hA hB
        go_roundg (l.length - (k + 1) + 1)
        case measure => omega
        case rel =>
          have hr : Below w.heap.size w w3 := by
            have hgr := HGR.out
            exact Below.grown (Below.drew (BR.out.alloc BR.out.size _)) hgr (by show w.heap.size ≤ (World.alloc _ _).heap.size; rw [sz_alloc]; exact Nat.le_succ_of_le BR.out.size) (fun q hq => (OW.out.lt q hq).1)
          refine ⟨k + 1, by omega, by omega, by go_num, Lib.hid ?_, Lib.hid hr⟩
          have e1 : byteVals (120 :: hexOf (l.take (k + 1))) = byteVals (120 :: hexOf (l.take k)) ++ [.int .u8 ((digit (x.toNat / 16)).toNat : Int), .int .u8 ((digit (x.toNat % 16)).toNat : Int)] := by
            rw [List.take_add_one, HX.out]
            show byteVals (120 :: hexOf (l.take k ++ [x])) = _
            rw [hexOf_snoc]
            unfold byteVals
            simp
          rw [e1, show 1 + 2 * (k + 1) = 1 + 2 * k + 2 by omega]
          exact HO2.out
    · have hil : ¬ (k : Int) < (l.length : Int) := by omega
      obtain rfl : k = l.length := by omega
      have hcv := OW.out
      rw [List.take_of_length_le (Nat.le_refl _)] at hcv
      have HCV : Hid (∀ W : World, W = wr → (convert 22 9 (.slice ps (1 + 2 * l.length) cs)).run Tryz.prog W = .ok (.string res) W) := Lib.hid (fun W hW => by
        subst hW
        exact conv_row W _ _ _ _ hcv HRES.out (by omega))
      have hc2 := HCV.out wr rfl
      clear hcv
      go_wp2
      go_ret
      exact ⟨rfl, BR.out⟩
end Go.Proofs.YtjohhjdicbeojaaGreatDoor.KSh
namespace Go.Proofs.YtjohhjdicbeojaaGreatDoor.KSf
open Go.RowKit Go.Proofs.YtjohhjdicbeojaaGreatDoor.KSa Go.Proofs.YtjohhjdicbeojaaGreatDoor.KSe
/-- Is it the form of an act of this kind, whose request is of this kind? -/
def fitsF (kind rk : Int) (f : FormD) : Bool := (f.act != 0 && f.act == kind) || (f.ask != 0 && f.ask == rk && (kind == 3 || kind == 5))
/-- The first form that fits, from form k on. -/
def findFrom (kind rk : Int) : Nat → Nat → Option FormD
  | 0, _ => none
  | g + 1, k => if fitsF kind rk (formAt k) then some (formAt k) else findFrom kind rk g (k + 1)
def zeroForm : FormD := ⟨⟨#[]⟩, ⟨#[]⟩, 0, 0⟩
def actVal (kind n rk vol block size : Int) (data keep : Value) : Value := .agg #[.int .i64 kind, .int .i64 n, .int .i64 rk, .int .i64 vol, .int .i64 block, .int .i64 size, data, keep]
set_option maxHeartbeats 4000000 in
theorem find_c (kind n rk vol block size : Int) (data keep : Value) (w : World) :
    Calls Tryz.prog 14 #[actVal kind n rk vol block size data keep] w fun e w' => e = .returned (.tuple #[formVal ((findFrom kind rk 14 0).getD zeroForm), .bool (findFrom kind rk 14 0).isSome]) ∧ Below w.heap.size w w' := by
  have n1 := blk_old (blk_new w #[.int .i64 kind, .int .i64 n, .int .i64 rk, .int .i64 vol, .int .i64 block, .int .i64 size, data, keep] 34) (.cells #[.string ⟨#[]⟩, .string ⟨#[]⟩, .int .i64 0, .int .i64 0] 49)
  have n2 := blk_new (w.alloc (.cells #[.int .i64 kind, .int .i64 n, .int .i64 rk, .int .i64 vol, .int .i64 block, .int .i64 size, data, keep] 34)) #[.string ⟨#[]⟩, .string ⟨#[]⟩, .int .i64 0, .int .i64 0] 49
  have bb := ((Below.refl w.heap.size w).alloc (Nat.le_refl _) (.cells #[.int .i64 kind, .int .i64 n, .int .i64 rk, .int .i64 vol, .int .i64 block, .int .i64 size, data, keep] 34)).alloc (by rw [sz_alloc]; omega) (.cells #[.string ⟨#[]⟩, .string ⟨#[]⟩, .int .i64 0, .int .i64 0] 49)
  have hz : ((w.alloc (.cells #[.int .i64 kind, .int .i64 n, .int .i64 rk, .int .i64 vol, .int .i64 block, .int .i64 size, data, keep] 34)).alloc (.cells #[.string ⟨#[]⟩, .string ⟨#[]⟩, .int .i64 0, .int .i64 0] 49)).heap.size = w.heap.size + 2 := by rw [sz_alloc, sz_alloc]
  rw [sz_alloc] at n2
  have N1 := Lib.hid n1
  have N2 := Lib.hid n2
  have BB := Lib.hid bb
  have HZ := Lib.hid hz
  clear n1 n2 bb hz
  obtain ⟨res, hres⟩ : ∃ res, res = findFrom kind rk 14 0 := ⟨_, rfl⟩
  rw [← hres]
  have HRES := Lib.hid hres
  clear hres
  unfold actVal
  go_enter Tryz.func14, Tryz.ntmps14
  go_wp2_with (go_at_call 30; (with_reducible refine (forms_c _).mono ?_); rintro e w1 ⟨rfl, hF, hb1⟩; have HF := Lib.hid hF; have HB1 := Lib.hid hb1; clear hF hb1)
  rw [HZ.out] at HF HB1
  have B0 : Hid (Below w.heap.size w w1) := Lib.hid (BB.out.trans (HB1.out.mono (by omega)))
  have N1' : Hid (w1.heap[w.heap.size]? = _) := Lib.hid (blk_below N1.out HB1.out (by omega))
  have N2' : Hid (w1.heap[w.heap.size + 1]? = _) := Lib.hid (blk_below N2.out HB1.out (by omega))
  have hL : w.heap.size + 2 < w1.heap.size := HF.out.lt
  clear BB HB1 N1 N2 HZ
  generalize hBB : w.heap.size = B at *
  have HBB := Lib.hid hBB
  clear hBB
  generalize Value.agg #[.int .i64 kind, .int .i64 n, .int .i64 rk, .int .i64 vol, .int .i64 block, .int .i64 size, data, keep] = v0
  go_loopg [5, 8] 14 (fun gg _ s8 wr => ∃ kk : Nat, kk ≤ 14 ∧ 14 - kk ≤ gg ∧ s8 = .int .i64 kk ∧ Hid (findFrom kind rk 14 0 = findFrom kind rk (14 - kk) kk) ∧ Hid (Below w1.heap.size w1 wr))
  case atStart => exact ⟨0, by omega, by omega, rfl, Lib.hid rfl, Lib.hid (Below.refl _ _)⟩
  case round =>
    obtain ⟨kk, hkk, hgg, rfl, hfi, BR⟩ := hrel
    have hsz := BR.out.size
    have l0 : B < wr.heap.size := by omega
    have l1 : B + 1 < wr.heap.size := by omega
    have l2 : B + 1 + 1 < wr.heap.size := by omega
    have l3 : wr.heap.size ≠ B := by omega
    have l4 : wr.heap.size ≠ B + 1 := by omega
    have m1 := blk_below N1'.out BR.out (by omega)
    have m2 := blk_below N2'.out BR.out (by omega)
    have q0 : wr.cell? ⟨B, 0, none⟩ = some (.int .i64 kind) := blk_cell m1 0
    have q2 : wr.cell? ⟨B, 2, none⟩ = some (.int .i64 rk) := blk_cell m1 2
    have r0 : wr.cell? ⟨B + 1, 0, none⟩ = some (.string ⟨#[]⟩) := blk_cell m2 0
    have r1 : wr.cell? ⟨B + 1, 1, none⟩ = some (.string ⟨#[]⟩) := blk_cell m2 1
    have r2 : wr.cell? ⟨B + 1, 2, none⟩ = some (.int .i64 0) := blk_cell m2 2
    have r3 : wr.cell? ⟨B + 1, 3, none⟩ = some (.int .i64 0) := blk_cell m2 3
    have f0 := blk_free m2 0
    have f1 := blk_free m2 1
    have f2 := blk_free m2 2
    have f3 := blk_free m2 3
    have M2 := Lib.hid m2
    clear m1 m2
    by_cases e : kk < 14
    · have hlt : (kk : Int) < 14 := by omega
      have hF := HF.out.below BR.out
      have c1 := hF.word kk e
      have c2 := hF.parts kk e
      have c3 := hF.act kk e
      have c4 := hF.ask kk e
      have hstep : findFrom kind rk (14 - kk) kk = if fitsF kind rk (formAt kk) then some (formAt kk) else findFrom kind rk (14 - (kk + 1)) (kk + 1) := by
        obtain ⟨g, hg⟩ : ∃ g, 14 - kk = g + 1 := ⟨13 - kk, by omega⟩
        rw [hg, show 14 - (kk + 1) = g by omega]
        rfl
      have HST := Lib.hid hstep
      clear hF hstep
      have hff : ∀ b, fitsF kind rk (formAt kk) = b → b = (((formAt kk).act != 0 && (formAt kk).act == kind) || ((formAt kk).ask != 0 && (formAt kk).ask == rk && (kind == 3 || kind == 5))) := fun b h => h.symm
      have HFF := Lib.hid hff
      clear hff
      have hform : Hid (formVal (formAt kk) = .agg #[.string (formAt kk).word, .string (formAt kk).parts, .int .i64 (formAt kk).act, .int .i64 (formAt kk).ask]) := Lib.hid rfl
      generalize formAt kk = ff at *
      cases ff with
      | mk fw fp fa fk =>
        simp only at c1 c2 c3 c4
        go_wp2
        all_goals first
          | (go_roundg (14 - (kk + 1))
             case measure => omega
             case rel =>
               refine ⟨kk + 1, by omega, by omega, by go_num, ?_, Lib.hid (BR.out.alloc BR.out.size _)⟩
               refine Lib.hid (hfi.out.trans (HST.out.trans (if_neg ?_)))
               rw [Bool.not_eq_true]
               refine (HFF.out _ rfl).trans ?_
               clear HFF HST hform hfi c1 c2 c3 c4 q0 q2 r0 r1 r2 r3 f0 f1 f2 f3 M2 HF B0 N1' N2' BR
               go_light
               first | (simp [*]; done) | grind)
          | ((try simp only [Exit.inBlock, Exit.then])
             refine bodyPost_ret (v := .tuple #[.agg #[.string fw, .string fp, .int .i64 fa, .int .i64 fk], .bool true]) (by rw [results_cell_tmp rfl]; go_simp) rfl ?_
             refine ⟨?_, ?_⟩
             · have h1 : fitsF kind rk ⟨fw, fp, fa, fk⟩ = true := by
                 refine (HFF.out _ rfl).trans ?_
                 clear HFF HST hform hfi c1 c2 c3 c4 q0 q2 r0 r1 r2 r3 f0 f1 f2 f3 M2 HF B0 N1' N2' BR
                 go_light
                 first | (simp [*]; done) | grind
               rw [HRES.out, hfi.out, HST.out, if_pos h1]
               rfl
             · rw [HBB.out]
               refine Below.alloc ?_ (by simp only [sz_set]; omega) _
               refine Below.setCell (Below.setCell (Below.setCell (Below.setCell ?_ ?_ _) ?_ _) ?_ _) ?_ _
               · exact B0.out.trans (BR.out.mono (by omega))
               · exact Nat.le_succ B
               · exact Nat.le_succ B
               · exact Nat.le_succ B
               · exact Nat.le_succ B)
    · have hlt : ¬ (kk : Int) < 14 := by omega
      obtain rfl : kk = 14 := by omega
      go_wp2
      (try simp only [Exit.inBlock, Exit.then])
      refine bodyPost_ret (v := .tuple #[.agg #[.string ⟨#[]⟩, .string ⟨#[]⟩, .int .i64 0, .int .i64 0], .bool false]) (by rw [results_cell_tmp rfl]; go_simp) rfl ?_
      refine ⟨?_, ?_⟩
      · rw [HRES.out, hfi.out]
        rfl
      · rw [HBB.out]
        refine Below.setCell (Below.setCell (Below.setCell (Below.setCell ?_ ?_ _) ?_ _) ?_ _) ?_ _
        · exact B0.out.trans (BR.out.mono (by omega))
        · exact Nat.le_succ B
        · exact Nat.le_succ B
        · exact Nat.le_succ B
        · exact Nat.le_succ B
end Go.Proofs.YtjohhjdicbeojaaGreatDoor.KSf
