/- Texts joined: Vo. -/
import Derived.Test.YtjohhjdicbeojaaGreatDoorZak
import Derived.Test.YtjohhjdicbeojaaGreatDoorZbg
namespace Go.Proofs.YtjohhjdicbeojaaGreatDoor.Vo
open Go.RowKit Go.Proofs.YtjohhjdicbeojaaGreatDoor.KSb Go.Proofs.YtjohhjdicbeojaaGreatDoor.KSd Go.Proofs.YtjohhjdicbeojaaGreatDoor.KSh Go.Proofs.YtjohhjdicbeojaaGreatDoor.KSi Go.Proofs.YtjohhjdicbeojaaGreatDoor.KSl Go.Proofs.YtjohhjdicbeojaaGreatDoor.KSr Go.Proofs.YtjohhjdicbeojaaGreatDoor.KSu
set_option maxRecDepth 8000
inductive Itm where
  | num (n : Int)
  | bytes (l : List UInt8)
def Itm.word : Itm → ByteArray
  | .num n => ⟨(Lib.itoa n).toArray⟩
  | .bytes l => ⟨(120 :: hexOf l).toArray⟩
def ItmAt (w : World) (a : Addr) : Itm → Prop
  | .num n => (-9223372036854775808 ≤ n ∧ n ≤ 9223372036854775807) ∧ w.cell? a = some (.iface 3 (.int .i64 n))
  | .bytes l => l.length ≤ 1000 ∧ ∃ d, w.cell? a = some (.iface 22 d) ∧ BytesIn w d l
theorem ItmAt.below {w w' : World} {b o : Nat} {it : Itm} (h : ItmAt w ⟨b, o, none⟩ it) (hb : Below w.heap.size w w') (hlt : b < w.heap.size) : ItmAt w' ⟨b, o, none⟩ it := by
  cases it with
  | num n => exact ⟨h.1, (hb.cell (p := ⟨b, o, none⟩) hlt).trans h.2⟩
  | bytes l =>
    obtain ⟨h1, d, h2, h3⟩ := h
    exact ⟨h1, d, (hb.cell (p := ⟨b, o, none⟩) hlt).trans h2, h3.below hb⟩
/-- What is told. -/
structure TellAt (w : World) (v : Value) (its : List Itm) : Prop where
  form : ∃ p c, v = .slice p its.length c ∧ (its ≠ [] → ∃ b o, p = some ⟨b, o, none⟩ ∧ b < w.heap.size ∧ ∀ j it, its[j]? = some it → ItmAt w ⟨b, o + j, none⟩ it)
def okB : ByteArray := ⟨#[111, 107]⟩
def wordsOf (its : List Itm) : List ByteArray := okB :: its.map Itm.word
def okL (its : List Itm) : ByteArray := mkB (Lib.join ((wordsOf its).map (·.data.toList)) [32])
theorem as_bytes (v : Value) (w : World) : (Instr.typeAssert (.iface 22 v) 20 22 true).run Tryz.prog w = .ok (.tuple #[v, .bool true]) w := by kernel_rfl
theorem as_not (v : Value) (w : World) : (Instr.typeAssert (.iface 3 v) 20 22 true).run Tryz.prog w = .ok (.tuple #[.slice none 0 0, .bool false]) w := by kernel_rfl
theorem as_int (v : Value) (w : World) : (Instr.typeAssert (.iface 3 v) 20 3 false).run Tryz.prog w = .ok v w := by kernel_rfl
theorem info_str : (Tryz.prog.info? 9).map (fun i => (i.zero, i.size, i.bytes)) = some (some (.string ⟨#[]⟩), 1, 16) := by kernel_rfl
theorem strVals_snoc (l : List ByteArray) (x : ByteArray) : strVals (l ++ [x]) = strVals l ++ [.string x] := by unfold strVals; rw [List.map_append]; rfl
theorem mkB_app (l m : List UInt8) : mkB l ++ mkB m = mkB (l ++ m) := by
  apply ByteArray.ext
  rw [ByteArray.data_append]
  simp [mkB]
theorem mkB_size (l : List UInt8) : (mkB l).size = l.length := by show l.toArray.size = _; simp
theorem itoa_len (n : Int) (h0 : -9223372036854775808 ≤ n) (h1 : n ≤ 9223372036854775807) : (Lib.itoa n).length ≤ 64 := by
  have := numS_size n h0 h1
  show _
  have e : (numS n).size = (Lib.itoa n).length := by show (Lib.itoa n).toArray.size = _; simp
  omega
theorem answer_err (n : Int) (v : Value) (h0 : n ≠ 0) (h1 : 0 ≤ n) (h2 : n ≤ 100) (w : World) (hE : Env w) :
    Calls Tryz.prog 18 #[.int .i64 n, v] w fun e w' => e = .returned (.string (mkB ([101, 114, 114, 111, 114, 32] ++ Lib.itoa n))) ∧ Below w.heap.size w w' := by
  have hsz := itoa_len n (by omega) (by omega)
  have kI := itoa_c n (by omega) (by omega) w hE
  rw [show (⟨(Lib.itoa n).toArray⟩ : ByteArray) = mkB (Lib.itoa n) from rfl] at kI
  have hbs := mkB_size (Lib.itoa n)
  have hcat := mkB_app [101, 114, 114, 111, 114, 32] (Lib.itoa n)
  rw [← hcat]
  generalize mkB (Lib.itoa n) = bs at *
  have hc : ¬ (9223372036854775807 : Int) < (((mkB [101, 114, 114, 111, 114, 32]).size + bs.size : Nat) : Int) := by
    have : (mkB [101, 114, 114, 111, 114, 32]).size = 6 := rfl
    omega
  have hc2 : ¬ 9223372036854775807 < (⟨#[101, 114, 114, 111, 114, 32]⟩ : ByteArray).size + bs.size := by
    have : (⟨#[101, 114, 114, 111, 114, 32]⟩ : ByteArray).size = 6 := rfl
    omega
  have hc3 : ¬ 9223372036854775807 < 6 + bs.size := by omega
  have KI := Lib.hid kI
  clear kI hsz hbs hcat
  go_enter Tryz.func18, Tryz.ntmps18
  go_wp2_with (go_at_call 15; (with_reducible refine KI.out.mono ?_); rintro e w1 ⟨rfl, hb1⟩)
  go_ret
  exact ⟨rfl, hb1⟩
theorem tl_len (N : Nat) : ∀ ws : List (List UInt8), (∀ x ∈ ws, x.length ≤ N) → (tl ws).length ≤ ws.length * (N + 1)
  | [], _ => by simp [tl]
  | a :: r, h => by
    have h1 := h a (List.mem_cons_self ..)
    have h2 := tl_len N r (fun x hx => h x (List.mem_cons_of_mem _ hx))
    show ((32 :: a) ++ tl r).length ≤ (r.length + 1) * (N + 1)
    rw [List.length_append, List.length_cons, Nat.succ_mul]
    omega
def Itm.ok : Itm → Prop
  | .num n => -9223372036854775808 ≤ n ∧ n ≤ 9223372036854775807
  | .bytes l => l.length ≤ 1000
theorem word_len (it : Itm) (h : it.ok) : it.word.data.toList.length ≤ 2100 := by
  cases it with
  | num n =>
    have := itoa_len n h.1 h.2
    show (Lib.itoa n).toArray.toList.length ≤ _
    rw [List.toList_toArray]
    omega
  | bytes l =>
    have h' : l.length ≤ 1000 := h
    show (120 :: hexOf l).toArray.toList.length ≤ _
    rw [List.toList_toArray, List.length_cons, hexOf_length]
    omega
theorem told_ok {w : World} {a : Addr} {it : Itm} (h : ItmAt w a it) : it.ok := by
  cases it with
  | num n => exact h.1
  | bytes l => exact h.1
theorem join_small (its : List Itm) (hn : its.length ≤ 100) (h : ∀ it ∈ its, it.ok) : (Lib.join ((wordsOf its).map (·.data.toList)) ((⟨#[32]⟩ : ByteArray).data.toList)).length ≤ 140737488355328 := by
  show (Lib.join (okB.data.toList :: (its.map Itm.word).map (·.data.toList)) [32]).length ≤ _
  rw [KTc.join_tl, List.length_append]
  have h1 := tl_len 2100 ((its.map Itm.word).map (·.data.toList)) (fun x hx => by
    obtain ⟨y, hy, rfl⟩ := List.mem_map.1 hx
    obtain ⟨it, hit, rfl⟩ := List.mem_map.1 hy
    exact word_len it (h it hit))
  rw [List.length_map, List.length_map] at h1
  have h2 : okB.data.toList.length = 2 := rfl
  have h3 : its.length * (2100 + 1) ≤ 100 * (2100 + 1) := Nat.mul_le_mul_right _ hn
  omega
set_option maxHeartbeats 4000000 in
theorem answer_ok (v : Value) (its : List Itm) (w : World) (hE : Env w) (ht : TellAt w v its) (hn : its.length ≤ 100) :
    Calls Tryz.prog 18 #[.int .i64 0, v] w fun e w' => e = .returned (.string (okL its)) ∧ Below w.heap.size w w' := by
  obtain ⟨p, c, rfl, hp⟩ := ht.form
  have HP := Lib.hid hp
  have HE := Lib.hid hE
  have KI := Lib.hid (fun (n : Int) (h : -9223372036854775808 ≤ n ∧ n ≤ 9223372036854775807) (W : World) (hb : Below w.heap.size w W) => itoa_c n h.1 h.2 W (hE.below hb))
  have KH := Lib.hid (fun (d : Value) (l : List UInt8) (W : World) (hd : BytesIn W d l) (hl : l.length ≤ 1000) => hex_c d l W hd (by omega))
  obtain ⟨i0, hi, hz0, hz1, hz2⟩ := info_parts info_str
  have HI := Lib.hid hi
  have HZ0 := Lib.hid hz0
  have HZ1 := Lib.hid hz1
  have HZ2 := Lib.hid hz2
  have h1 := as_bytes
  have h2 := as_not
  have h3 := as_int
  clear hp hE hi hz0 hz1 hz2 ht
  go_enter Tryz.func18, Tryz.ntmps18
  go_upto_region 5 with fail
  have hO0 : (w.alloc (.cells #[.string okB] 9)).ownsRow w.heap.size 9 1 (.slice (some ⟨w.heap.size, 0, none⟩) 1 1) (1 + 0) (strVals ((wordsOf its).take (1 + 0))) := ⟨rfl, .inr ⟨_, _, _, rfl, Nat.le_refl _, heap_alloc_new w _, Nat.le_refl _, by decide, rfl, rfl⟩⟩
  have HO0 := Lib.hid hO0
  have HB0 : Hid (Below w.heap.size w (w.alloc (.cells #[.string okB] 9))) := Lib.hid ((Below.refl _ _).alloc (Nat.le_refl _) _)
  have HOK : Hid (∀ it ∈ its, it.ok) := Lib.hid (fun it hit => by
    obtain ⟨j, hj, e⟩ := List.getElem_of_mem hit
    obtain ⟨b, o, _, _, hh⟩ := HP.out (fun e => by rw [e] at hit; cases hit)
    exact told_ok (hh j it (by rw [List.getElem?_eq_getElem hj, e])))
  clear hO0
  rw [show (w.alloc (.cells #[.string ⟨#[111, 107]⟩] 9)) = (w.alloc (.cells #[.string okB] 9)) from rfl]
  generalize (w.alloc (.cells #[.string okB] 9)) = w0 at *
  go_loopg [5, 7, 8, 9, 18] (its.length + 1) (fun gg s5 _ _ _ s18 wr => ∃ j : Nat, j ≤ its.length ∧ its.length - j < gg ∧ s18 = .int .i64 (j : Int) ∧ Hid (wr.ownsRow w.heap.size 9 1 s5 (1 + j) (strVals ((wordsOf its).take (1 + j)))) ∧ Hid (Below w.heap.size w wr))
  case atStart => exact ⟨0, by omega, by omega, rfl, HO0, HB0⟩
  case round =>
    obtain ⟨j, hj, hgg, rfl, OW, BR⟩ := hrel
    by_cases hlt : j < its.length
    · have hil : (j : Int) < (its.length : Int) := by omega
      obtain ⟨b, o, rfl, hb, hh⟩ := HP.out (fun e => by rw [e] at hlt; exact absurd hlt (Nat.not_lt_zero _))
      have hit := (hh j its[j] (List.getElem?_eq_getElem hlt)).below BR.out hb
      have hsn : strVals ((wordsOf its).take (1 + (j + 1))) = strVals ((wordsOf its).take (1 + j)) ++ [.string (its[j]).word] := by
        rw [← strVals_snoc]
        refine congrArg strVals ?_
        rw [show 1 + (j + 1) = (1 + j) + 1 by omega]
        refine KTi.take_snoc _ _ _ ?_
        show (okB :: its.map Itm.word)[1 + j]? = some _
        rw [show 1 + j = j + 1 by omega, List.getElem?_cons_succ, List.getElem?_map, List.getElem?_eq_getElem hlt]
        rfl
      have HSN := Lib.hid hsn
      have h63 : Hid ((1 + j) + 1 ≤ maxLen) := Lib.hid (by simp only [maxLen]; omega)
      have hbs : Hid (((1 + j) + 1) * 16 ≤ 140737488355328) := Lib.hid (by omega)
      have hbr := BR.out.size
      clear hsn hh
      generalize its[j] = it at hit HSN
      cases it with
      | num n =>
        have c0 : wr.cell? ⟨b, o + j, none⟩ = some (.iface 3 (.int .i64 n)) := hit.2
        have KIn := Lib.hid (KI.out n hit.1)
        clear hit
        go_wp2_with (first
          | (go_at_call 15; (with_reducible refine (KIn.out _ BR.out).mono ?_); rintro e w2 ⟨rfl, hb2⟩; have OW2 := Lib.hid (Ra.row_below OW.out hb2); have BR2 := Lib.hid (BR.out.trans (hb2.mono BR.out.size)); clear hb2)
          | (at_builtin; go_loud (refine wpList_append_lies _ rfl _ _ 52 rfl w.heap.size 9 i0 (.string ⟨#[]⟩) 1 16 Tryz.underlying52 HI.out HZ0.out HZ1.out HZ2.out rfl (by decide) _ (1 + j) (strVals ((wordsOf its).take (1 + j))) rfl (OW2.out.alloc _) ⟨w2.heap.size, 0, none⟩ 1 1 [.string ⟨(Lib.itoa n).toArray⟩] rfl rfl (cell_one_new _ _ _) (by simp [Value.oneCell']) (by decide) h63.out hbs.out (by rw [Ra.sz_alloc]; exact Nat.le_succ_of_le BR2.out.size) _ rfl ?_)))
        intro g3 cap3 w6 hown hgrow _ _
        have HN : Hid (w6.ownsRow w.heap.size 9 1 (.slice (some ⟨g3, 0, none⟩) (1 + (j + 1)) cap3) (1 + (j + 1)) (strVals ((wordsOf its).take (1 + (j + 1))))) := Lib.hid (by rw [HSN.out]; exact hown)
        have HNB : Hid (Below w.heap.size w w6) := Lib.hid ((BR2.out.trans (((Below.refl _ _).alloc (Nat.le_refl _) _).mono BR2.out.size)).trans (Rt.below_grown (OW2.out.alloc _) (by rw [Ra.sz_alloc]; exact Nat.le_succ_of_le BR2.out.size) hgrow))
        clear hown hgrow HSN
        go_wp2
        go_roundg (its.length - (j + 1) + 1)
        case measure => omega
        case rel => exact ⟨j + 1, by omega, by omega, by go_num, HN, HNB⟩
      | bytes l =>
        obtain ⟨hl, d, c0, hd⟩ := hit
        have KHn := Lib.hid (KH.out d l wr hd hl)
        clear hd
        go_wp2_with (first
          | (go_at_call 16; (with_reducible refine KHn.out.mono ?_); rintro e w2 ⟨rfl, hb2⟩; have OW2 := Lib.hid (Ra.row_below OW.out hb2); have BR2 := Lib.hid (BR.out.trans (hb2.mono BR.out.size)); clear hb2)
          | (at_builtin; go_loud (refine wpList_append_lies _ rfl _ _ 52 rfl w.heap.size 9 i0 (.string ⟨#[]⟩) 1 16 Tryz.underlying52 HI.out HZ0.out HZ1.out HZ2.out rfl (by decide) _ (1 + j) (strVals ((wordsOf its).take (1 + j))) rfl (OW2.out.alloc _) ⟨w2.heap.size, 0, none⟩ 1 1 [.string ⟨(120 :: hexOf l).toArray⟩] rfl rfl (cell_one_new _ _ _) (by simp [Value.oneCell']) (by decide) h63.out hbs.out (by rw [Ra.sz_alloc]; exact Nat.le_succ_of_le BR2.out.size) _ rfl ?_)))
        intro g3 cap3 w6 hown hgrow _ _
        have HN : Hid (w6.ownsRow w.heap.size 9 1 (.slice (some ⟨g3, 0, none⟩) (1 + (j + 1)) cap3) (1 + (j + 1)) (strVals ((wordsOf its).take (1 + (j + 1))))) := Lib.hid (by rw [HSN.out]; exact hown)
        have HNB : Hid (Below w.heap.size w w6) := Lib.hid ((BR2.out.trans (((Below.refl _ _).alloc (Nat.le_refl _) _).mono BR2.out.size)).trans (Rt.below_grown (OW2.out.alloc _) (by rw [Ra.sz_alloc]; exact Nat.le_succ_of_le BR2.out.size) hgrow))
        clear hown hgrow HSN
        go_wp2
        go_roundg (its.length - (j + 1) + 1)
        case measure => omega
        case rel => exact ⟨j + 1, by omega, by omega, by go_num, HN, HNB⟩
    · have hil : ¬ (j : Int) < (its.length : Int) := by omega
      obtain rfl : j = its.length := by omega
      obtain ⟨g, cap, rfl, hg, hlt2⟩ := OW.out.form (by omega)
      have hlen : (wordsOf its).length = 1 + its.length := by
        have h1 : (wordsOf its).length = (its.map Itm.word).length + 1 := rfl
        rw [h1, List.length_map]
        omega
      have hall : (wordsOf its).take (1 + its.length) = wordsOf its := List.take_of_length_le (by rw [hlen]; exact Nat.le_refl _)
      have how := OW.out
      rw [hall] at how
      have hcap : 1 + its.length ≤ cap := by
        rcases how.2 with ⟨h, _⟩ | ⟨g', cap', cur, h, _, _, hc, _⟩
        · cases h
        · injection h with _ _ h3
          omega
      have hcell : ∀ (k : Nat) x, (wordsOf its)[k]? = some x → wr.cell? ⟨g, 0 + k, none⟩ = some (.string x) := fun k x hx => by
        have := how.cells (g := g) rfl k (.string x) (by unfold strVals; rw [List.getElem?_map, hx]; rfl)
        rw [Addr.add_lit] at this
        simpa using this
      have kj := Tryz.strings_Join g 0 cap (wordsOf its) ⟨#[32]⟩ wr hcell hlt2 (by omega) (by omega) (join_small its hn HOK.out)
      rw [hlen] at kj
      have KJ := Lib.hid kj
      clear kj hcell how hcap hall hlen
      go_wp2_with (go_at_call 17; (with_reducible refine KJ.out.mono ?_); rintro e w2 ⟨rfl, hb2⟩)
      go_ret
      exact ⟨rfl, BR.out.trans (hb2.mono BR.out.size)⟩
end Go.Proofs.YtjohhjdicbeojaaGreatDoor.Vo
