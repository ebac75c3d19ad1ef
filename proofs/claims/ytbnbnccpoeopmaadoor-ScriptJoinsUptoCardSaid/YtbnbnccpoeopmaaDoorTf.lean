/- The walk of the law's line where the act has none. -/
import Derived.Test.YtbnbnccpoeopmaaDoorSv
import Derived.Deep.RegionHeld3
namespace Go.Proofs.YtbnbnccpoeopmaaDoor.Tf
open Go.RowKit Go.Proofs.YtbnbnccpoeopmaaDoor.Sa Go.Proofs.YtbnbnccpoeopmaaDoor.Sb Go.Proofs.YtbnbnccpoeopmaaDoor.Sc Go.Proofs.YtbnbnccpoeopmaaDoor.Sd Go.Proofs.YtbnbnccpoeopmaaDoor.Se Go.Proofs.YtbnbnccpoeopmaaDoor.Sf Go.Proofs.YtbnbnccpoeopmaaDoor.Sg Go.Proofs.YtbnbnccpoeopmaaDoor.Sh Go.Proofs.YtbnbnccpoeopmaaDoor.Sl Go.Proofs.YtbnbnccpoeopmaaDoor.Sp Go.Proofs.YtbnbnccpoeopmaaDoor.Sq Go.Proofs.YtbnbnccpoeopmaaDoor.Sr Go.Proofs.YtbnbnccpoeopmaaDoor.Su Go.Proofs.YtbnbnccpoeopmaaDoor.Sv

/-- Whatever text, and false. -/
def BadLine (w : World) (e : Ending) (w' : World) : Prop := (∃ s, e = .returned (.tuple #[.string s, .bool false])) ∧ Below w.heap.size w w'
theorem badLine (w w' : World) (s : ByteArray) (h : Below w.heap.size w w') : BadLine w (.returned (.tuple #[.string s, .bool false])) w' := ⟨⟨s, rfl⟩, h⟩
theorem and3 {a b c : Bool} (h : (a && b && c) = false) : a = false ∨ (a = true ∧ b = false) ∨ (a = true ∧ b = true ∧ c = false) := by cases a <;> cases b <;> cases c <;> simp_all
theorem and4 {a b c d : Bool} (h : (a && b && c && d) = false) : a = false ∨ (a = true ∧ b = false) ∨ (a = true ∧ b = true ∧ c = false) ∨ (a = true ∧ b = true ∧ c = true ∧ d = false) := by cases a <;> cases b <;> cases c <;> cases d <;> simp_all

set_option maxHeartbeats 8000000 in
set_option maxRecDepth 100000 in
theorem line_bad (kind n rk vol block size : Int) (dv kv : Value) (la : List UInt8) (lk : List Int) (w : World) (hn : I64 n) (hv : I64 vol) (hb : I64 block) (hd : I64 size) (hk : ∀ x ∈ lk, I64 x) (h1 : BytesIn w dv la) (hla : la.length ≤ 1099511627776) (h3 : IntsIn w kv lk) (hlk : lk.length ≤ 1099511627776) (hok : (lineL ⟨kind, n, rk, vol, block, size, la, lk⟩).2 = false) :
    Calls Tryd.prog 11 #[actVal kind n rk vol block size dv kv] w (BadLine w) := by
  have b1 := h1
  have b3 := h3
  obtain ⟨p1, c1, rfl, -⟩ := h1
  obtain ⟨p3, c3, rfl, -⟩ := h3
  have BI := Lib.hid b1
  have II := Lib.hid b3
  have HK := Lib.hid hk
  clear b1 b3 hk
  obtain ⟨rb, hrb⟩ : ∃ rb, rb = (lineL ⟨kind, n, rk, vol, block, size, la, lk⟩).2 := ⟨_, rfl⟩
  rw [← hrb] at hok
  have HOK := Lib.hid hok
  clear hok
  have HRB := Lib.hid hrb
  clear hrb
  have zn := numS_size n hn.1 hn.2
  have zb := numS_size block hb.1 hb.2
  have zd := numS_size size hd.1 hd.2
  have KN : Hid (∀ W, Calls Tryd.prog 14 #[.int .i64 n] W fun e w' => e = .returned (.string (numS n)) ∧ Below W.heap.size W w') := Lib.hid fun W => lawNumber_c n hn.1 hn.2 W
  have KB : Hid (∀ W, Calls Tryd.prog 14 #[.int .i64 block] W fun e w' => e = .returned (.string (numS block)) ∧ Below W.heap.size W w') := Lib.hid fun W => lawNumber_c block hb.1 hb.2 W
  have KD : Hid (∀ W, Calls Tryd.prog 14 #[.int .i64 size] W fun e w' => e = .returned (.string (numS size)) ∧ Below W.heap.size W w') := Lib.hid fun W => lawNumber_c size hd.1 hd.2 W
  have NN : Hid (numS n = mkB (Lib.itoa n)) := Lib.hid rfl
  have NB : Hid (numS block = mkB (Lib.itoa block)) := Lib.hid rfl
  have ND : Hid (numS size = mkB (Lib.itoa size)) := Lib.hid rfl
  have KR : Hid (∀ W, Below w.heap.size w W → Calls Tryd.prog 21 #[.agg #[.int .i64 rk, .int .i64 vol, .int .i64 block, .int .i64 size, .slice p1 la.length c1]] W fun e w' => e = .returned (.tuple #[.string (mkB (reqL rk vol block size la).1), .bool (reqL rk vol block size la).2]) ∧ Below W.heap.size W w') := Lib.hid fun W h => request_c rk vol block size _ la W hv hb hd (BI.out.below h) hla
  have zr : (mkB (reqL rk vol block size la).1).size ≤ 17592186044416 := req_size rk vol block size la hv hb hd hla
  obtain ⟨q1, q2, q3, q4⟩ := two w #[.int .i64 kind, .int .i64 n, .int .i64 rk, .int .i64 vol, .int .i64 block, .int .i64 size, .slice p1 la.length c1, .slice p3 lk.length c3] #[.int .i64 rk, .int .i64 vol, .int .i64 block, .int .i64 size, .slice p1 la.length c1]
  have BW := Lib.hid q1
  have QA := Lib.hid q2
  have QR := Lib.hid q3
  obtain ⟨⟨e0, e1, e2, e3, e4, e5, e6, e7⟩, _, _, _, _, _, _, _, _⟩ := cells8 q2
  obtain ⟨f0, f1, f2, f3, f4⟩ := cells5 q3
  clear q1 q2 q3
  have hle : (((la.length : Nat) : Int) == 0) = la.isEmpty := by
    cases la with
    | nil => rfl
    | cons a r => exact beq_eq_false_iff_ne.2 (by rw [List.length_cons]; omega)
  have hke : (((lk.length : Nat) : Int) == 0) = lk.isEmpty := by
    cases lk with
    | nil => rfl
    | cons a r => exact beq_eq_false_iff_ne.2 (by rw [List.length_cons]; omega)
  obtain ⟨nB, hnB⟩ : ∃ nB, nB = (rk == 0 && vol == 0 && la.isEmpty) := ⟨_, rfl⟩
  obtain ⟨bB, hbB⟩ : ∃ bB, bB = (nB && block == 0 && size == 0 && lk.isEmpty) := ⟨_, rfl⟩
  have HNB := Lib.hid hnB
  have HBB := Lib.hid hbB
  have HM1 : Hid (noneL ⟨kind, n, rk, vol, block, size, la, lk⟩ = nB) := Lib.hid hnB.symm
  have HM2 : Hid (bareL ⟨kind, n, rk, vol, block, size, la, lk⟩ = bB) := Lib.hid (by rw [hbB, hnB]; rfl)
  clear hnB hbB hn hv hb hd
  unfold actVal
  go_enter Tryd.func11, Tryd.ntmps11
  go_upto_region 2 with fail
  generalize (w.alloc (.cells #[.int .i64 kind, .int .i64 n, .int .i64 rk, .int .i64 vol, .int .i64 block, .int .i64 size, .slice p1 la.length c1, .slice p3 lk.length c3] 27)).alloc (.cells #[.int .i64 rk, .int .i64 vol, .int .i64 block, .int .i64 size, .slice p1 la.length c1] 24) = wa at *
  generalize Value.agg #[.int .i64 kind, .int .i64 n, .int .i64 rk, .int .i64 vol, .int .i64 block, .int .i64 size, .slice p1 la.length c1, .slice p3 lk.length c3] = v0
  generalize Value.agg #[.int .i64 rk, .int .i64 vol, .int .i64 block, .int .i64 size, .slice p1 la.length c1] = v12
  go_cut [5] from 13 to 26 (fun s5 wx => s5 = .bool nB ∧ wx = wa)
  case first =>
    go_wp2_with fail
    all_goals go_meet
    all_goals
      refine ⟨?_, rfl⟩
      rw [HNB.out]
      clear HK KN KB KD NN NB ND KR BW QA QR e0 e1 e2 e3 e4 e5 e6 e7 f0 f1 f2 f3 f4 HNB HBB HM1 HM2 HRB BI II
      go_light
      simp [*]
  case rest =>
    obtain ⟨rfl, hwx⟩ := hcut
    rw [hwx]
    clear hwx
    go_upto_region 3 with fail
    go_cut [6] from 27 to 43 (fun s6 wx => s6 = .bool bB ∧ wx = wa)
    case first =>
      cases nB
      · go_wp2_with fail
        all_goals go_meet
        all_goals (refine ⟨?_, rfl⟩; rw [HBB.out]; rfl)
      · go_wp2_with fail
        all_goals go_meet
        all_goals
          refine ⟨?_, rfl⟩
          rw [HBB.out]
          clear HK KN KB KD NN NB ND KR BW QA QR e0 e1 e2 e3 e4 e5 e6 e7 f0 f1 f2 f3 f4 HNB HBB HM1 HM2 HRB BI II
          go_light
          simp [*]
    case rest =>
      obtain ⟨rfl, hwx⟩ := hcut
      rw [hwx]
      clear hwx
      by_cases hk1 : kind = 1
      · subst hk1
        have hB : (nB && n == 0 && lk.isEmpty) = false := (HRB.out.trans (by rw [← HM1.out]; rfl)).symm.trans HOK.out
        have y1 : ¬ 9223372036854775807 < 7 + (numS size).size := by omega
        have y2 : ¬ 9223372036854775807 < 7 + (numS size).size + 1 := by omega
        have y3 : ¬ 9223372036854775807 < 7 + (numS size).size + 1 + (numS block).size := by omega
        clear hle KN KR NN NB ND BI II HNB HBB HM1 HM2 HRB HK HOK
        generalize numS size = sd at *
        generalize numS block = sb at *
        have lB := q4
        have lA : w.heap.size < wa.heap.size := Nat.lt_of_succ_lt q4
        rcases and3 hB with h1 | ⟨h1, h2⟩ | ⟨h1, h2, h3⟩
        · subst h1
          clear hB
          go_upto_region 6 with fail
          have BB : Below wa.heap.size wa wa.drew := (Below.refl _ _).drew
          have s1 := f3
          have s2 := f2
          have s3 := e1
          have s4 := e7
          refine wp_region_held_drew (S := (fun w' => w'.cell? ⟨w.heap.size + 1, 3, none⟩ = some (.int .i64 size) ∧ w'.cell? ⟨w.heap.size + 1, 2, none⟩ = some (.int .i64 block) ∧ w'.cell? ⟨w.heap.size, 1, none⟩ = some (.int .i64 n) ∧ w'.cell? ⟨w.heap.size, 7, none⟩ = some (.slice p3 lk.length c3))) (by kernel_rfl) ⟨s1, s2, s3, s4⟩ (fun hHeld => ?_)
          refine wpAnyH_take (i := 0) (oi := { dst := some 48, op := _, type := _, pos := _, after := _, guard := none }) (v := ?_) rfl (by kernel_rfl) (by kernel_rfl) (by kernel_rfl) (fun _ _ _ h => h) (Or.inl ⟨by rfl, ?_⟩) (by assumption) ?_
          rotate_left
          · intro w hSw
            (try dsimp only at hSw)
            go_simp
            try (with_reducible rfl)
          try simp only [Act.put, List.setIfInBounds_toArray, List.set_cons_zero, List.set_cons_succ]
          refine wpAnyH_take (i := 1) (oi := { dst := some 49, op := _, type := _, pos := _, after := _, guard := none }) (v := ?_) rfl (by kernel_rfl) (by kernel_rfl) (by kernel_rfl) (fun _ _ _ h => h) (Or.inl ⟨by rfl, ?_⟩) (by assumption) ?_
          rotate_left
          · intro w hSw
            (try dsimp only at hSw)
            go_simp
            try (with_reducible rfl)
          try simp only [Act.put, List.setIfInBounds_toArray, List.set_cons_zero, List.set_cons_succ]
          refine wpAnyH_take (i := 5) (oi := { dst := some 53, op := _, type := _, pos := _, after := _, guard := none }) (v := ?_) rfl (by kernel_rfl) (by kernel_rfl) (by kernel_rfl) (fun _ _ _ h => h) (Or.inl ⟨by rfl, ?_⟩) (by assumption) ?_
          rotate_left
          · intro w hSw
            (try dsimp only at hSw)
            go_simp
            try (with_reducible rfl)
          try simp only [Act.put, List.setIfInBounds_toArray, List.set_cons_zero, List.set_cons_succ]
          refine wpAnyH_take (i := 6) (oi := { dst := some 54, op := _, type := _, pos := _, after := _, guard := none }) (v := ?_) rfl (by kernel_rfl) (by kernel_rfl) (by kernel_rfl) (fun _ _ _ h => h) (Or.inl ⟨by rfl, ?_⟩) (by assumption) ?_
          rotate_left
          · intro w hSw
            (try dsimp only at hSw)
            go_simp
            try (with_reducible rfl)
          try simp only [Act.put, List.setIfInBounds_toArray, List.set_cons_zero, List.set_cons_succ]
          refine wpAnyH_take (i := 9) (oi := { dst := some 57, op := _, type := _, pos := _, after := _, guard := none }) (v := ?_) rfl (by kernel_rfl) (by kernel_rfl) (by kernel_rfl) (fun _ _ _ h => h) (Or.inl ⟨by rfl, ?_⟩) (by assumption) ?_
          rotate_left
          · intro w hSw
            (try dsimp only at hSw)
            go_simp
            try (with_reducible rfl)
          try simp only [Act.put, List.setIfInBounds_toArray, List.set_cons_zero, List.set_cons_succ]
          refine wpAnyH_ready (rs := [2]) (by kernel_rfl) (by simp) ?_
          refine AllReadyH.cons (o := { dst := some 50, op := _, type := _, pos := _, after := _, guard := none }) rfl (fun K hK => ?_) AllReadyH.nil
          go_simp
          (go_at_call 14; (with_reducible refine (KD.out _).mono ?_); rintro e w2 ⟨rfl, hb⟩; have BB := BB.trans (hb.mono BB.size); have s1 := (hb.cell (p := ⟨w.heap.size + 1, 3, none⟩) lB).trans s1; have s2 := (hb.cell (p := ⟨w.heap.size + 1, 2, none⟩) lB).trans s2; have s3 := (hb.cell (p := ⟨w.heap.size, 1, none⟩) lA).trans s3; have s4 := (hb.cell (p := ⟨w.heap.size, 7, none⟩) lA).trans s4; have lB := Nat.lt_of_lt_of_le lB hb.size; have lA := Nat.lt_of_lt_of_le lA hb.size)
          try go_wp2_with fail
          refine hK.out _ _ ⟨s1, s2, s3, s4⟩ (fun hHeld => ?_)
          clear hK K
          try simp only [Act.put, List.setIfInBounds_toArray, List.set_cons_zero, List.set_cons_succ]
          refine wpAnyH_take (i := 3) (oi := { dst := some 51, op := _, type := _, pos := _, after := _, guard := none }) (v := ?_) rfl (by kernel_rfl) (by kernel_rfl) (by kernel_rfl) (fun _ _ _ h => h) (Or.inl ⟨by rfl, ?_⟩) (by assumption) ?_
          rotate_left
          · intro w hSw
            (try dsimp only at hSw)
            go_simp
            try (with_reducible rfl)
          try simp only [Act.put, List.setIfInBounds_toArray, List.set_cons_zero, List.set_cons_succ]
          refine wpAnyH_take (i := 4) (oi := { dst := some 52, op := _, type := _, pos := _, after := _, guard := none }) (v := ?_) rfl (by kernel_rfl) (by kernel_rfl) (by kernel_rfl) (fun _ _ _ h => h) (Or.inl ⟨by rfl, ?_⟩) (by assumption) ?_
          rotate_left
          · intro w hSw
            (try dsimp only at hSw)
            go_simp
            try (with_reducible rfl)
          try simp only [Act.put, List.setIfInBounds_toArray, List.set_cons_zero, List.set_cons_succ]
          refine wpAnyH_ready (rs := [7]) (by kernel_rfl) (by simp) ?_
          refine AllReadyH.cons (o := { dst := some 55, op := _, type := _, pos := _, after := _, guard := none }) rfl (fun K hK => ?_) AllReadyH.nil
          go_simp
          (go_at_call 14; (with_reducible refine (KB.out _).mono ?_); rintro e w2 ⟨rfl, hb⟩; have BB := BB.trans (hb.mono BB.size); have s1 := (hb.cell (p := ⟨w.heap.size + 1, 3, none⟩) lB).trans s1; have s2 := (hb.cell (p := ⟨w.heap.size + 1, 2, none⟩) lB).trans s2; have s3 := (hb.cell (p := ⟨w.heap.size, 1, none⟩) lA).trans s3; have s4 := (hb.cell (p := ⟨w.heap.size, 7, none⟩) lA).trans s4; have lB := Nat.lt_of_lt_of_le lB hb.size; have lA := Nat.lt_of_lt_of_le lA hb.size)
          try go_wp2_with fail
          refine hK.out _ _ ⟨s1, s2, s3, s4⟩ (fun hHeld => ?_)
          clear hK K
          try simp only [Act.put, List.setIfInBounds_toArray, List.set_cons_zero, List.set_cons_succ]
          refine wpAnyH_take (i := 8) (oi := { dst := some 56, op := _, type := _, pos := _, after := _, guard := none }) (v := ?_) rfl (by kernel_rfl) (by kernel_rfl) (by kernel_rfl) (fun _ _ _ h => h) (Or.inl ⟨by rfl, ?_⟩) (by assumption) ?_
          rotate_left
          · intro w hSw
            (try dsimp only at hSw)
            go_simp
            try (with_reducible rfl)
          try simp only [Act.put, List.setIfInBounds_toArray, List.set_cons_zero, List.set_cons_succ]
          refine wpAnyH_take (i := 10) (oi := { dst := some 58, op := _, type := _, pos := _, after := _, guard := none }) (v := ?_) rfl (by kernel_rfl) (by kernel_rfl) (by kernel_rfl) (fun _ _ _ h => h) (Or.inl ⟨by rfl, ?_⟩) (by assumption) ?_
          rotate_left
          · intro w hSw
            (try dsimp only at hSw)
            go_simp
            try (with_reducible rfl)
          try simp only [Act.put, List.setIfInBounds_toArray, List.set_cons_zero, List.set_cons_succ]
          refine wpAnyH_take (i := 11) (oi := { dst := some 59, op := _, type := _, pos := _, after := _, guard := some (10, true) }) (v := undef) rfl (by kernel_rfl) (by kernel_rfl) (by kernel_rfl) (fun _ _ _ h => h) (Or.inr ⟨by rfl, rfl⟩) (by assumption) ?_
          try simp only [Act.put, List.setIfInBounds_toArray, List.set_cons_zero, List.set_cons_succ]
          refine wpAnyH_take (i := 12) (oi := { dst := some 60, op := _, type := _, pos := _, after := _, guard := some (10, true) }) (v := undef) rfl (by kernel_rfl) (by kernel_rfl) (by kernel_rfl) (fun _ _ _ h => h) (Or.inr ⟨by rfl, rfl⟩) (by assumption) ?_
          try simp only [Act.put, List.setIfInBounds_toArray, List.set_cons_zero, List.set_cons_succ]
          refine wpAnyH_take (i := 13) (oi := { dst := some 61, op := _, type := _, pos := _, after := _, guard := some (10, true) }) (v := undef) rfl (by kernel_rfl) (by kernel_rfl) (by kernel_rfl) (fun _ _ _ h => h) (Or.inr ⟨by rfl, rfl⟩) (by assumption) ?_
          try simp only [Act.put, List.setIfInBounds_toArray, List.set_cons_zero, List.set_cons_succ]
          refine wpAnyH_take (i := 14) (oi := { dst := some 62, op := _, type := _, pos := _, after := _, guard := none }) (v := ?_) rfl (by kernel_rfl) (by kernel_rfl) (by kernel_rfl) (fun _ _ _ h => h) (Or.inl ⟨by rfl, ?_⟩) (by assumption) ?_
          rotate_left
          · intro w hSw
            (try dsimp only at hSw)
            go_simp
            try (with_reducible rfl)
          try simp only [Act.put, List.setIfInBounds_toArray, List.set_cons_zero, List.set_cons_succ]
          refine wpAnyH_take (i := 15) (oi := { dst := some 63, op := _, type := _, pos := _, after := _, guard := none }) (v := ?_) rfl (by kernel_rfl) (by kernel_rfl) (by kernel_rfl) (fun _ _ _ h => h) (Or.inl ⟨by rfl, ?_⟩) (by assumption) ?_
          rotate_left
          · intro w hSw
            (try dsimp only at hSw)
            go_simp
            try (with_reducible rfl)
          try simp only [Act.put, List.setIfInBounds_toArray, List.set_cons_zero, List.set_cons_succ]
          refine wpAnyH_take (i := 16) (oi := { dst := some 64, op := _, type := _, pos := _, after := _, guard := some (15, true) }) (v := undef) rfl (by kernel_rfl) (by kernel_rfl) (by kernel_rfl) (fun _ _ _ h => h) (Or.inr ⟨by rfl, rfl⟩) (by assumption) ?_
          try simp only [Act.put, List.setIfInBounds_toArray, List.set_cons_zero, List.set_cons_succ]
          refine wpAnyH_take (i := 17) (oi := { dst := some 65, op := _, type := _, pos := _, after := _, guard := some (15, true) }) (v := undef) rfl (by kernel_rfl) (by kernel_rfl) (by kernel_rfl) (fun _ _ _ h => h) (Or.inr ⟨by rfl, rfl⟩) (by assumption) ?_
          try simp only [Act.put, List.setIfInBounds_toArray, List.set_cons_zero, List.set_cons_succ]
          refine wpAnyH_take (i := 18) (oi := { dst := some 66, op := _, type := _, pos := _, after := _, guard := some (15, true) }) (v := undef) rfl (by kernel_rfl) (by kernel_rfl) (by kernel_rfl) (fun _ _ _ h => h) (Or.inr ⟨by rfl, rfl⟩) (by assumption) ?_
          try simp only [Act.put, List.setIfInBounds_toArray, List.set_cons_zero, List.set_cons_succ]
          refine wpAnyH_take (i := 19) (oi := { dst := some 67, op := _, type := _, pos := _, after := _, guard := some (15, true) }) (v := undef) rfl (by kernel_rfl) (by kernel_rfl) (by kernel_rfl) (fun _ _ _ h => h) (Or.inr ⟨by rfl, rfl⟩) (by assumption) ?_
          try simp only [Act.put, List.setIfInBounds_toArray, List.set_cons_zero, List.set_cons_succ]
          refine wpAnyH_take (i := 20) (oi := { dst := some 68, op := _, type := _, pos := _, after := _, guard := none }) (v := ?_) rfl (by kernel_rfl) (by kernel_rfl) (by kernel_rfl) (fun _ _ _ h => h) (Or.inl ⟨by rfl, ?_⟩) (by assumption) ?_
          rotate_left
          · intro w hSw
            (try dsimp only at hSw)
            go_simp
            try (with_reducible rfl)
          try simp only [Act.put, List.setIfInBounds_toArray, List.set_cons_zero, List.set_cons_succ]
          refine wpAnyH_take (i := 21) (oi := { dst := some 2, op := _, type := _, pos := _, after := _, guard := none }) (v := ?_) rfl (by kernel_rfl) (by kernel_rfl) (by kernel_rfl) (fun _ _ _ h => h) (Or.inl ⟨by rfl, ?_⟩) (by assumption) ?_
          rotate_left
          · intro w hSw
            (try dsimp only at hSw)
            go_simp
            try (with_reducible rfl)
          try simp only [Act.put, List.setIfInBounds_toArray, List.set_cons_zero, List.set_cons_succ]
          refine wpAnyH_take (i := 22) (oi := { dst := some 3, op := _, type := _, pos := _, after := _, guard := none }) (v := ?_) rfl (by kernel_rfl) (by kernel_rfl) (by kernel_rfl) (fun _ _ _ h => h) (Or.inl ⟨by rfl, ?_⟩) (by assumption) ?_
          rotate_left
          · intro w hSw
            (try dsimp only at hSw)
            go_simp
            try (with_reducible rfl)
          try simp only [Act.put, List.setIfInBounds_toArray, List.set_cons_zero, List.set_cons_succ]
          refine wpAnyH_done (by kernel_rfl) ?_ _
          go_wp2_with fail
          go_ret2
          exact badLine _ _ _ (BW.out.trans (BB.mono BW.out.size))
        · subst h1
          have g2 : (n == 0) = false := h2
          have g3 : ¬ n = 0 := by simpa using h2
          clear h2
          clear hB
          go_upto_region 6 with fail
          have BB : Below wa.heap.size wa wa.drew := (Below.refl _ _).drew
          have s1 := f3
          have s2 := f2
          have s3 := e1
          have s4 := e7
          refine wp_region_held_drew (S := (fun w' => w'.cell? ⟨w.heap.size + 1, 3, none⟩ = some (.int .i64 size) ∧ w'.cell? ⟨w.heap.size + 1, 2, none⟩ = some (.int .i64 block) ∧ w'.cell? ⟨w.heap.size, 1, none⟩ = some (.int .i64 n) ∧ w'.cell? ⟨w.heap.size, 7, none⟩ = some (.slice p3 lk.length c3))) (by kernel_rfl) ⟨s1, s2, s3, s4⟩ (fun hHeld => ?_)
          refine wpAnyH_take (i := 0) (oi := { dst := some 48, op := _, type := _, pos := _, after := _, guard := none }) (v := ?_) rfl (by kernel_rfl) (by kernel_rfl) (by kernel_rfl) (fun _ _ _ h => h) (Or.inl ⟨by rfl, ?_⟩) (by assumption) ?_
          rotate_left
          · intro w hSw
            (try dsimp only at hSw)
            go_simp
            try (with_reducible rfl)
          try simp only [Act.put, List.setIfInBounds_toArray, List.set_cons_zero, List.set_cons_succ]
          refine wpAnyH_take (i := 1) (oi := { dst := some 49, op := _, type := _, pos := _, after := _, guard := none }) (v := ?_) rfl (by kernel_rfl) (by kernel_rfl) (by kernel_rfl) (fun _ _ _ h => h) (Or.inl ⟨by rfl, ?_⟩) (by assumption) ?_
          rotate_left
          · intro w hSw
            (try dsimp only at hSw)
            go_simp
            try (with_reducible rfl)
          try simp only [Act.put, List.setIfInBounds_toArray, List.set_cons_zero, List.set_cons_succ]
          refine wpAnyH_take (i := 5) (oi := { dst := some 53, op := _, type := _, pos := _, after := _, guard := none }) (v := ?_) rfl (by kernel_rfl) (by kernel_rfl) (by kernel_rfl) (fun _ _ _ h => h) (Or.inl ⟨by rfl, ?_⟩) (by assumption) ?_
          rotate_left
          · intro w hSw
            (try dsimp only at hSw)
            go_simp
            try (with_reducible rfl)
          try simp only [Act.put, List.setIfInBounds_toArray, List.set_cons_zero, List.set_cons_succ]
          refine wpAnyH_take (i := 6) (oi := { dst := some 54, op := _, type := _, pos := _, after := _, guard := none }) (v := ?_) rfl (by kernel_rfl) (by kernel_rfl) (by kernel_rfl) (fun _ _ _ h => h) (Or.inl ⟨by rfl, ?_⟩) (by assumption) ?_
          rotate_left
          · intro w hSw
            (try dsimp only at hSw)
            go_simp
            try (with_reducible rfl)
          try simp only [Act.put, List.setIfInBounds_toArray, List.set_cons_zero, List.set_cons_succ]
          refine wpAnyH_take (i := 9) (oi := { dst := some 57, op := _, type := _, pos := _, after := _, guard := none }) (v := ?_) rfl (by kernel_rfl) (by kernel_rfl) (by kernel_rfl) (fun _ _ _ h => h) (Or.inl ⟨by rfl, ?_⟩) (by assumption) ?_
          rotate_left
          · intro w hSw
            (try dsimp only at hSw)
            go_simp
            try (with_reducible rfl)
          try simp only [Act.put, List.setIfInBounds_toArray, List.set_cons_zero, List.set_cons_succ]
          refine wpAnyH_ready (rs := [2]) (by kernel_rfl) (by simp) ?_
          refine AllReadyH.cons (o := { dst := some 50, op := _, type := _, pos := _, after := _, guard := none }) rfl (fun K hK => ?_) AllReadyH.nil
          go_simp
          (go_at_call 14; (with_reducible refine (KD.out _).mono ?_); rintro e w2 ⟨rfl, hb⟩; have BB := BB.trans (hb.mono BB.size); have s1 := (hb.cell (p := ⟨w.heap.size + 1, 3, none⟩) lB).trans s1; have s2 := (hb.cell (p := ⟨w.heap.size + 1, 2, none⟩) lB).trans s2; have s3 := (hb.cell (p := ⟨w.heap.size, 1, none⟩) lA).trans s3; have s4 := (hb.cell (p := ⟨w.heap.size, 7, none⟩) lA).trans s4; have lB := Nat.lt_of_lt_of_le lB hb.size; have lA := Nat.lt_of_lt_of_le lA hb.size)
          try go_wp2_with fail
          refine hK.out _ _ ⟨s1, s2, s3, s4⟩ (fun hHeld => ?_)
          clear hK K
          try simp only [Act.put, List.setIfInBounds_toArray, List.set_cons_zero, List.set_cons_succ]
          refine wpAnyH_take (i := 3) (oi := { dst := some 51, op := _, type := _, pos := _, after := _, guard := none }) (v := ?_) rfl (by kernel_rfl) (by kernel_rfl) (by kernel_rfl) (fun _ _ _ h => h) (Or.inl ⟨by rfl, ?_⟩) (by assumption) ?_
          rotate_left
          · intro w hSw
            (try dsimp only at hSw)
            go_simp
            try (with_reducible rfl)
          try simp only [Act.put, List.setIfInBounds_toArray, List.set_cons_zero, List.set_cons_succ]
          refine wpAnyH_take (i := 4) (oi := { dst := some 52, op := _, type := _, pos := _, after := _, guard := none }) (v := ?_) rfl (by kernel_rfl) (by kernel_rfl) (by kernel_rfl) (fun _ _ _ h => h) (Or.inl ⟨by rfl, ?_⟩) (by assumption) ?_
          rotate_left
          · intro w hSw
            (try dsimp only at hSw)
            go_simp
            try (with_reducible rfl)
          try simp only [Act.put, List.setIfInBounds_toArray, List.set_cons_zero, List.set_cons_succ]
          refine wpAnyH_ready (rs := [7]) (by kernel_rfl) (by simp) ?_
          refine AllReadyH.cons (o := { dst := some 55, op := _, type := _, pos := _, after := _, guard := none }) rfl (fun K hK => ?_) AllReadyH.nil
          go_simp
          (go_at_call 14; (with_reducible refine (KB.out _).mono ?_); rintro e w2 ⟨rfl, hb⟩; have BB := BB.trans (hb.mono BB.size); have s1 := (hb.cell (p := ⟨w.heap.size + 1, 3, none⟩) lB).trans s1; have s2 := (hb.cell (p := ⟨w.heap.size + 1, 2, none⟩) lB).trans s2; have s3 := (hb.cell (p := ⟨w.heap.size, 1, none⟩) lA).trans s3; have s4 := (hb.cell (p := ⟨w.heap.size, 7, none⟩) lA).trans s4; have lB := Nat.lt_of_lt_of_le lB hb.size; have lA := Nat.lt_of_lt_of_le lA hb.size)
          try go_wp2_with fail
          refine hK.out _ _ ⟨s1, s2, s3, s4⟩ (fun hHeld => ?_)
          clear hK K
          try simp only [Act.put, List.setIfInBounds_toArray, List.set_cons_zero, List.set_cons_succ]
          refine wpAnyH_take (i := 8) (oi := { dst := some 56, op := _, type := _, pos := _, after := _, guard := none }) (v := ?_) rfl (by kernel_rfl) (by kernel_rfl) (by kernel_rfl) (fun _ _ _ h => h) (Or.inl ⟨by rfl, ?_⟩) (by assumption) ?_
          rotate_left
          · intro w hSw
            (try dsimp only at hSw)
            go_simp
            try (with_reducible rfl)
          try simp only [Act.put, List.setIfInBounds_toArray, List.set_cons_zero, List.set_cons_succ]
          refine wpAnyH_take (i := 10) (oi := { dst := some 58, op := _, type := _, pos := _, after := _, guard := none }) (v := ?_) rfl (by kernel_rfl) (by kernel_rfl) (by kernel_rfl) (fun _ _ _ h => h) (Or.inl ⟨by rfl, ?_⟩) (by assumption) ?_
          rotate_left
          · intro w hSw
            (try dsimp only at hSw)
            go_simp
            try (with_reducible rfl)
          try simp only [Act.put, List.setIfInBounds_toArray, List.set_cons_zero, List.set_cons_succ]
          refine wpAnyH_take (i := 11) (oi := { dst := some 59, op := _, type := _, pos := _, after := _, guard := some (10, true) }) (v := ?_) rfl (by kernel_rfl) (by kernel_rfl) (by kernel_rfl) (fun _ _ _ h => h) (Or.inl ⟨by rfl, ?_⟩) (by assumption) ?_
          rotate_left
          · intro w hSw
            (try dsimp only at hSw)
            go_simp
            try (with_reducible rfl)
          try simp only [Act.put, List.setIfInBounds_toArray, List.set_cons_zero, List.set_cons_succ]
          refine wpAnyH_take (i := 12) (oi := { dst := some 60, op := _, type := _, pos := _, after := _, guard := some (10, true) }) (v := ?_) rfl (by kernel_rfl) (by kernel_rfl) (by kernel_rfl) (fun _ _ _ h => h) (Or.inl ⟨by rfl, ?_⟩) (by assumption) ?_
          rotate_left
          · intro w hSw
            (try dsimp only at hSw)
            go_simp
            try (with_reducible rfl)
          try simp only [Act.put, List.setIfInBounds_toArray, List.set_cons_zero, List.set_cons_succ]
          refine wpAnyH_take (i := 13) (oi := { dst := some 61, op := _, type := _, pos := _, after := _, guard := some (10, true) }) (v := ?_) rfl (by kernel_rfl) (by kernel_rfl) (by kernel_rfl) (fun _ _ _ h => h) (Or.inl ⟨by rfl, ?_⟩) (by assumption) ?_
          rotate_left
          · intro w hSw
            (try dsimp only at hSw)
            go_simp
            try (with_reducible rfl)
          try simp only [Act.put, List.setIfInBounds_toArray, List.set_cons_zero, List.set_cons_succ]
          refine wpAnyH_take (i := 14) (oi := { dst := some 62, op := _, type := _, pos := _, after := _, guard := none }) (v := ?_) rfl (by kernel_rfl) (by kernel_rfl) (by kernel_rfl) (fun _ _ _ h => h) (Or.inl ⟨by rfl, ?_⟩) (by assumption) ?_
          rotate_left
          · intro w hSw
            (try dsimp only at hSw)
            go_simp
            try (with_reducible rfl)
          try simp only [Act.put, List.setIfInBounds_toArray, List.set_cons_zero, List.set_cons_succ]
          refine wpAnyH_take (i := 15) (oi := { dst := some 63, op := _, type := _, pos := _, after := _, guard := none }) (v := ?_) rfl (by kernel_rfl) (by kernel_rfl) (by kernel_rfl) (fun _ _ _ h => h) (Or.inl ⟨by rfl, ?_⟩) (by assumption) ?_
          rotate_left
          · intro w hSw
            (try dsimp only at hSw)
            go_simp
            try (with_reducible rfl)
          try simp only [Act.put, List.setIfInBounds_toArray, List.set_cons_zero, List.set_cons_succ]
          refine wpAnyH_take (i := 16) (oi := { dst := some 64, op := _, type := _, pos := _, after := _, guard := some (15, true) }) (v := undef) rfl (by kernel_rfl) (by kernel_rfl) (by kernel_rfl) (fun _ _ _ h => h) (Or.inr ⟨by rfl, rfl⟩) (by assumption) ?_
          try simp only [Act.put, List.setIfInBounds_toArray, List.set_cons_zero, List.set_cons_succ]
          refine wpAnyH_take (i := 17) (oi := { dst := some 65, op := _, type := _, pos := _, after := _, guard := some (15, true) }) (v := undef) rfl (by kernel_rfl) (by kernel_rfl) (by kernel_rfl) (fun _ _ _ h => h) (Or.inr ⟨by rfl, rfl⟩) (by assumption) ?_
          try simp only [Act.put, List.setIfInBounds_toArray, List.set_cons_zero, List.set_cons_succ]
          refine wpAnyH_take (i := 18) (oi := { dst := some 66, op := _, type := _, pos := _, after := _, guard := some (15, true) }) (v := undef) rfl (by kernel_rfl) (by kernel_rfl) (by kernel_rfl) (fun _ _ _ h => h) (Or.inr ⟨by rfl, rfl⟩) (by assumption) ?_
          try simp only [Act.put, List.setIfInBounds_toArray, List.set_cons_zero, List.set_cons_succ]
          refine wpAnyH_take (i := 19) (oi := { dst := some 67, op := _, type := _, pos := _, after := _, guard := some (15, true) }) (v := undef) rfl (by kernel_rfl) (by kernel_rfl) (by kernel_rfl) (fun _ _ _ h => h) (Or.inr ⟨by rfl, rfl⟩) (by assumption) ?_
          try simp only [Act.put, List.setIfInBounds_toArray, List.set_cons_zero, List.set_cons_succ]
          refine wpAnyH_take (i := 20) (oi := { dst := some 68, op := _, type := _, pos := _, after := _, guard := none }) (v := ?_) rfl (by kernel_rfl) (by kernel_rfl) (by kernel_rfl) (fun _ _ _ h => h) (Or.inl ⟨by rfl, ?_⟩) (by assumption) ?_
          rotate_left
          · intro w hSw
            (try dsimp only at hSw)
            go_simp
            try (with_reducible rfl)
          try simp only [Act.put, List.setIfInBounds_toArray, List.set_cons_zero, List.set_cons_succ]
          refine wpAnyH_take (i := 21) (oi := { dst := some 2, op := _, type := _, pos := _, after := _, guard := none }) (v := ?_) rfl (by kernel_rfl) (by kernel_rfl) (by kernel_rfl) (fun _ _ _ h => h) (Or.inl ⟨by rfl, ?_⟩) (by assumption) ?_
          rotate_left
          · intro w hSw
            (try dsimp only at hSw)
            go_simp
            try (with_reducible rfl)
          try simp only [Act.put, List.setIfInBounds_toArray, List.set_cons_zero, List.set_cons_succ]
          refine wpAnyH_take (i := 22) (oi := { dst := some 3, op := _, type := _, pos := _, after := _, guard := none }) (v := ?_) rfl (by kernel_rfl) (by kernel_rfl) (by kernel_rfl) (fun _ _ _ h => h) (Or.inl ⟨by rfl, ?_⟩) (by assumption) ?_
          rotate_left
          · intro w hSw
            (try dsimp only at hSw)
            go_simp
            try (with_reducible rfl)
          try simp only [Act.put, List.setIfInBounds_toArray, List.set_cons_zero, List.set_cons_succ]
          refine wpAnyH_done (by kernel_rfl) ?_ _
          go_wp2_with fail
          go_ret2
          exact badLine _ _ _ (BW.out.trans (BB.mono BW.out.size))
        · subst h1
          obtain rfl : n = 0 := by simpa using h2
          rw [h3] at hke
          clear h2 h3
          clear hB
          go_upto_region 6 with fail
          have BB : Below wa.heap.size wa wa.drew := (Below.refl _ _).drew
          have s1 := f3
          have s2 := f2
          have s3 := e1
          have s4 := e7
          refine wp_region_held_drew (S := (fun w' => w'.cell? ⟨w.heap.size + 1, 3, none⟩ = some (.int .i64 size) ∧ w'.cell? ⟨w.heap.size + 1, 2, none⟩ = some (.int .i64 block) ∧ w'.cell? ⟨w.heap.size, 1, none⟩ = some (.int .i64 0) ∧ w'.cell? ⟨w.heap.size, 7, none⟩ = some (.slice p3 lk.length c3))) (by kernel_rfl) ⟨s1, s2, s3, s4⟩ (fun hHeld => ?_)
          refine wpAnyH_take (i := 0) (oi := { dst := some 48, op := _, type := _, pos := _, after := _, guard := none }) (v := ?_) rfl (by kernel_rfl) (by kernel_rfl) (by kernel_rfl) (fun _ _ _ h => h) (Or.inl ⟨by rfl, ?_⟩) (by assumption) ?_
          rotate_left
          · intro w hSw
            (try dsimp only at hSw)
            go_simp
            try (with_reducible rfl)
          try simp only [Act.put, List.setIfInBounds_toArray, List.set_cons_zero, List.set_cons_succ]
          refine wpAnyH_take (i := 1) (oi := { dst := some 49, op := _, type := _, pos := _, after := _, guard := none }) (v := ?_) rfl (by kernel_rfl) (by kernel_rfl) (by kernel_rfl) (fun _ _ _ h => h) (Or.inl ⟨by rfl, ?_⟩) (by assumption) ?_
          rotate_left
          · intro w hSw
            (try dsimp only at hSw)
            go_simp
            try (with_reducible rfl)
          try simp only [Act.put, List.setIfInBounds_toArray, List.set_cons_zero, List.set_cons_succ]
          refine wpAnyH_take (i := 5) (oi := { dst := some 53, op := _, type := _, pos := _, after := _, guard := none }) (v := ?_) rfl (by kernel_rfl) (by kernel_rfl) (by kernel_rfl) (fun _ _ _ h => h) (Or.inl ⟨by rfl, ?_⟩) (by assumption) ?_
          rotate_left
          · intro w hSw
            (try dsimp only at hSw)
            go_simp
            try (with_reducible rfl)
          try simp only [Act.put, List.setIfInBounds_toArray, List.set_cons_zero, List.set_cons_succ]
          refine wpAnyH_take (i := 6) (oi := { dst := some 54, op := _, type := _, pos := _, after := _, guard := none }) (v := ?_) rfl (by kernel_rfl) (by kernel_rfl) (by kernel_rfl) (fun _ _ _ h => h) (Or.inl ⟨by rfl, ?_⟩) (by assumption) ?_
          rotate_left
          · intro w hSw
            (try dsimp only at hSw)
            go_simp
            try (with_reducible rfl)
          try simp only [Act.put, List.setIfInBounds_toArray, List.set_cons_zero, List.set_cons_succ]
          refine wpAnyH_take (i := 9) (oi := { dst := some 57, op := _, type := _, pos := _, after := _, guard := none }) (v := ?_) rfl (by kernel_rfl) (by kernel_rfl) (by kernel_rfl) (fun _ _ _ h => h) (Or.inl ⟨by rfl, ?_⟩) (by assumption) ?_
          rotate_left
          · intro w hSw
            (try dsimp only at hSw)
            go_simp
            try (with_reducible rfl)
          try simp only [Act.put, List.setIfInBounds_toArray, List.set_cons_zero, List.set_cons_succ]
          refine wpAnyH_ready (rs := [2]) (by kernel_rfl) (by simp) ?_
          refine AllReadyH.cons (o := { dst := some 50, op := _, type := _, pos := _, after := _, guard := none }) rfl (fun K hK => ?_) AllReadyH.nil
          go_simp
          (go_at_call 14; (with_reducible refine (KD.out _).mono ?_); rintro e w2 ⟨rfl, hb⟩; have BB := BB.trans (hb.mono BB.size); have s1 := (hb.cell (p := ⟨w.heap.size + 1, 3, none⟩) lB).trans s1; have s2 := (hb.cell (p := ⟨w.heap.size + 1, 2, none⟩) lB).trans s2; have s3 := (hb.cell (p := ⟨w.heap.size, 1, none⟩) lA).trans s3; have s4 := (hb.cell (p := ⟨w.heap.size, 7, none⟩) lA).trans s4; have lB := Nat.lt_of_lt_of_le lB hb.size; have lA := Nat.lt_of_lt_of_le lA hb.size)
          try go_wp2_with fail
          refine hK.out _ _ ⟨s1, s2, s3, s4⟩ (fun hHeld => ?_)
          clear hK K
          try simp only [Act.put, List.setIfInBounds_toArray, List.set_cons_zero, List.set_cons_succ]
          refine wpAnyH_take (i := 3) (oi := { dst := some 51, op := _, type := _, pos := _, after := _, guard := none }) (v := ?_) rfl (by kernel_rfl) (by kernel_rfl) (by kernel_rfl) (fun _ _ _ h => h) (Or.inl ⟨by rfl, ?_⟩) (by assumption) ?_
          rotate_left
          · intro w hSw
            (try dsimp only at hSw)
            go_simp
            try (with_reducible rfl)
          try simp only [Act.put, List.setIfInBounds_toArray, List.set_cons_zero, List.set_cons_succ]
          refine wpAnyH_take (i := 4) (oi := { dst := some 52, op := _, type := _, pos := _, after := _, guard := none }) (v := ?_) rfl (by kernel_rfl) (by kernel_rfl) (by kernel_rfl) (fun _ _ _ h => h) (Or.inl ⟨by rfl, ?_⟩) (by assumption) ?_
          rotate_left
          · intro w hSw
            (try dsimp only at hSw)
            go_simp
            try (with_reducible rfl)
          try simp only [Act.put, List.setIfInBounds_toArray, List.set_cons_zero, List.set_cons_succ]
          refine wpAnyH_ready (rs := [7]) (by kernel_rfl) (by simp) ?_
          refine AllReadyH.cons (o := { dst := some 55, op := _, type := _, pos := _, after := _, guard := none }) rfl (fun K hK => ?_) AllReadyH.nil
          go_simp
          (go_at_call 14; (with_reducible refine (KB.out _).mono ?_); rintro e w2 ⟨rfl, hb⟩; have BB := BB.trans (hb.mono BB.size); have s1 := (hb.cell (p := ⟨w.heap.size + 1, 3, none⟩) lB).trans s1; have s2 := (hb.cell (p := ⟨w.heap.size + 1, 2, none⟩) lB).trans s2; have s3 := (hb.cell (p := ⟨w.heap.size, 1, none⟩) lA).trans s3; have s4 := (hb.cell (p := ⟨w.heap.size, 7, none⟩) lA).trans s4; have lB := Nat.lt_of_lt_of_le lB hb.size; have lA := Nat.lt_of_lt_of_le lA hb.size)
          try go_wp2_with fail
          refine hK.out _ _ ⟨s1, s2, s3, s4⟩ (fun hHeld => ?_)
          clear hK K
          try simp only [Act.put, List.setIfInBounds_toArray, List.set_cons_zero, List.set_cons_succ]
          refine wpAnyH_take (i := 8) (oi := { dst := some 56, op := _, type := _, pos := _, after := _, guard := none }) (v := ?_) rfl (by kernel_rfl) (by kernel_rfl) (by kernel_rfl) (fun _ _ _ h => h) (Or.inl ⟨by rfl, ?_⟩) (by assumption) ?_
          rotate_left
          · intro w hSw
            (try dsimp only at hSw)
            go_simp
            try (with_reducible rfl)
          try simp only [Act.put, List.setIfInBounds_toArray, List.set_cons_zero, List.set_cons_succ]
          refine wpAnyH_take (i := 10) (oi := { dst := some 58, op := _, type := _, pos := _, after := _, guard := none }) (v := ?_) rfl (by kernel_rfl) (by kernel_rfl) (by kernel_rfl) (fun _ _ _ h => h) (Or.inl ⟨by rfl, ?_⟩) (by assumption) ?_
          rotate_left
          · intro w hSw
            (try dsimp only at hSw)
            go_simp
            try (with_reducible rfl)
          try simp only [Act.put, List.setIfInBounds_toArray, List.set_cons_zero, List.set_cons_succ]
          refine wpAnyH_take (i := 11) (oi := { dst := some 59, op := _, type := _, pos := _, after := _, guard := some (10, true) }) (v := ?_) rfl (by kernel_rfl) (by kernel_rfl) (by kernel_rfl) (fun _ _ _ h => h) (Or.inl ⟨by rfl, ?_⟩) (by assumption) ?_
          rotate_left
          · intro w hSw
            (try dsimp only at hSw)
            go_simp
            try (with_reducible rfl)
          try simp only [Act.put, List.setIfInBounds_toArray, List.set_cons_zero, List.set_cons_succ]
          refine wpAnyH_take (i := 12) (oi := { dst := some 60, op := _, type := _, pos := _, after := _, guard := some (10, true) }) (v := ?_) rfl (by kernel_rfl) (by kernel_rfl) (by kernel_rfl) (fun _ _ _ h => h) (Or.inl ⟨by rfl, ?_⟩) (by assumption) ?_
          rotate_left
          · intro w hSw
            (try dsimp only at hSw)
            go_simp
            try (with_reducible rfl)
          try simp only [Act.put, List.setIfInBounds_toArray, List.set_cons_zero, List.set_cons_succ]
          refine wpAnyH_take (i := 13) (oi := { dst := some 61, op := _, type := _, pos := _, after := _, guard := some (10, true) }) (v := ?_) rfl (by kernel_rfl) (by kernel_rfl) (by kernel_rfl) (fun _ _ _ h => h) (Or.inl ⟨by rfl, ?_⟩) (by assumption) ?_
          rotate_left
          · intro w hSw
            (try dsimp only at hSw)
            go_simp
            try (with_reducible rfl)
          try simp only [Act.put, List.setIfInBounds_toArray, List.set_cons_zero, List.set_cons_succ]
          refine wpAnyH_take (i := 14) (oi := { dst := some 62, op := _, type := _, pos := _, after := _, guard := none }) (v := ?_) rfl (by kernel_rfl) (by kernel_rfl) (by kernel_rfl) (fun _ _ _ h => h) (Or.inl ⟨by rfl, ?_⟩) (by assumption) ?_
          rotate_left
          · intro w hSw
            (try dsimp only at hSw)
            go_simp
            try (with_reducible rfl)
          try simp only [Act.put, List.setIfInBounds_toArray, List.set_cons_zero, List.set_cons_succ]
          refine wpAnyH_take (i := 15) (oi := { dst := some 63, op := _, type := _, pos := _, after := _, guard := none }) (v := ?_) rfl (by kernel_rfl) (by kernel_rfl) (by kernel_rfl) (fun _ _ _ h => h) (Or.inl ⟨by rfl, ?_⟩) (by assumption) ?_
          rotate_left
          · intro w hSw
            (try dsimp only at hSw)
            go_simp
            try (with_reducible rfl)
          try simp only [Act.put, List.setIfInBounds_toArray, List.set_cons_zero, List.set_cons_succ]
          refine wpAnyH_take (i := 16) (oi := { dst := some 64, op := _, type := _, pos := _, after := _, guard := some (15, true) }) (v := ?_) rfl (by kernel_rfl) (by kernel_rfl) (by kernel_rfl) (fun _ _ _ h => h) (Or.inl ⟨by rfl, ?_⟩) (by assumption) ?_
          rotate_left
          · intro w hSw
            (try dsimp only at hSw)
            go_simp
            try (with_reducible rfl)
          try simp only [Act.put, List.setIfInBounds_toArray, List.set_cons_zero, List.set_cons_succ]
          refine wpAnyH_take (i := 17) (oi := { dst := some 65, op := _, type := _, pos := _, after := _, guard := some (15, true) }) (v := ?_) rfl (by kernel_rfl) (by kernel_rfl) (by kernel_rfl) (fun _ _ _ h => h) (Or.inl ⟨by rfl, ?_⟩) (by assumption) ?_
          rotate_left
          · intro w hSw
            (try dsimp only at hSw)
            go_simp
            try (with_reducible rfl)
          try simp only [Act.put, List.setIfInBounds_toArray, List.set_cons_zero, List.set_cons_succ]
          refine wpAnyH_take (i := 18) (oi := { dst := some 66, op := _, type := _, pos := _, after := _, guard := some (15, true) }) (v := ?_) rfl (by kernel_rfl) (by kernel_rfl) (by kernel_rfl) (fun _ _ _ h => h) (Or.inl ⟨by rfl, ?_⟩) (by assumption) ?_
          rotate_left
          · intro w hSw
            (try dsimp only at hSw)
            go_simp
            try (with_reducible rfl)
          try simp only [Act.put, List.setIfInBounds_toArray, List.set_cons_zero, List.set_cons_succ]
          refine wpAnyH_take (i := 19) (oi := { dst := some 67, op := _, type := _, pos := _, after := _, guard := some (15, true) }) (v := ?_) rfl (by kernel_rfl) (by kernel_rfl) (by kernel_rfl) (fun _ _ _ h => h) (Or.inl ⟨by rfl, ?_⟩) (by assumption) ?_
          rotate_left
          · intro w hSw
            (try dsimp only at hSw)
            go_simp
            try (with_reducible rfl)
          try simp only [Act.put, List.setIfInBounds_toArray, List.set_cons_zero, List.set_cons_succ]
          refine wpAnyH_take (i := 20) (oi := { dst := some 68, op := _, type := _, pos := _, after := _, guard := none }) (v := ?_) rfl (by kernel_rfl) (by kernel_rfl) (by kernel_rfl) (fun _ _ _ h => h) (Or.inl ⟨by rfl, ?_⟩) (by assumption) ?_
          rotate_left
          · intro w hSw
            (try dsimp only at hSw)
            go_simp
            try (with_reducible rfl)
          try simp only [Act.put, List.setIfInBounds_toArray, List.set_cons_zero, List.set_cons_succ]
          refine wpAnyH_take (i := 21) (oi := { dst := some 2, op := _, type := _, pos := _, after := _, guard := none }) (v := ?_) rfl (by kernel_rfl) (by kernel_rfl) (by kernel_rfl) (fun _ _ _ h => h) (Or.inl ⟨by rfl, ?_⟩) (by assumption) ?_
          rotate_left
          · intro w hSw
            (try dsimp only at hSw)
            go_simp
            try (with_reducible rfl)
          try simp only [Act.put, List.setIfInBounds_toArray, List.set_cons_zero, List.set_cons_succ]
          refine wpAnyH_take (i := 22) (oi := { dst := some 3, op := _, type := _, pos := _, after := _, guard := none }) (v := ?_) rfl (by kernel_rfl) (by kernel_rfl) (by kernel_rfl) (fun _ _ _ h => h) (Or.inl ⟨by rfl, ?_⟩) (by assumption) ?_
          rotate_left
          · intro w hSw
            (try dsimp only at hSw)
            go_simp
            try (with_reducible rfl)
          try simp only [Act.put, List.setIfInBounds_toArray, List.set_cons_zero, List.set_cons_succ]
          refine wpAnyH_done (by kernel_rfl) ?_ _
          go_wp2_with fail
          go_ret2
          exact badLine _ _ _ (BW.out.trans (BB.mono BW.out.size))
      by_cases hk2 : kind = 2
      · subst hk2
        have hB : (bB && n == 0) = false := (HRB.out.trans (by rw [← HM2.out]; rfl)).symm.trans HOK.out
        clear HK KN KB KD NN NB ND KR QA QR HNB HBB HM1 HM2 HRB BI II HOK
        cases bB
        · clear hB
          go_upto_region 8 with fail
          go_quiet (fail)
          go_wp2_with fail
          go_ret2
          exact badLine _ _ _ (below_drewN BW.out _)
        · have hn : (n == 0) = false := by simpa using hB
          have hn2 : ¬ n = 0 := by simpa using hn
          clear hB
          go_upto_region 8 with fail
          go_quiet (fail)
          go_wp2_with fail
          go_ret2
          exact badLine _ _ _ (below_drewN BW.out _)
      by_cases hk4 : kind = 4
      · subst hk4
        obtain rfl : bB = false := (HRB.out.trans HM2.out).symm.trans HOK.out
        have y1 : ¬ 9223372036854775807 < 5 + (numS n).size := by omega
        go_wp2_with (go_at_call 14; (with_reducible refine (KN.out _).mono ?_); rintro e w2 ⟨rfl, hb2⟩; have B2 := Lib.hid (BW.out.trans (hb2.mono BW.out.size)); clear hb2)
        go_ret2
        exact badLine _ _ _ B2.out
      by_cases hk6 : kind = 6
      · subst hk6
        obtain rfl : bB = false := (HRB.out.trans HM2.out).symm.trans HOK.out
        have y1 : ¬ 9223372036854775807 < 5 + (numS n).size := by omega
        go_wp2_with (go_at_call 14; (with_reducible refine (KN.out _).mono ?_); rintro e w2 ⟨rfl, hb2⟩; have B2 := Lib.hid (BW.out.trans (hb2.mono BW.out.size)); clear hb2)
        go_ret2
        exact badLine _ _ _ B2.out
      by_cases hk7 : kind = 7
      · subst hk7
        have hB : (nB && block == 0 && size == 0 && n == 0) = false := (HRB.out.trans (by rw [← HM1.out]; rfl)).symm.trans HOK.out
        have lA : w.heap.size < wa.heap.size := Nat.lt_of_succ_lt q4
        have E1 := Lib.hid e1
        have E7 := Lib.hid e7
        have F2 := Lib.hid f2
        have F3 := Lib.hid f3
        have HB := Lib.hid hB
        clear hB HRB HM1 HM2 HNB HBB KN KB KD NN NB ND KR BI QA QR e1 e2 e3 e4 e5 e6 e7 f0 f1 f2 f3 f4 hle hke HOK
        go_upto_region 16 with fail
        clear e0
        go_loopg [7, 8] (lk.length + 1) (fun gg s7 s8 wr => ∃ (k : Nat) (out : ByteArray), k ≤ lk.length ∧ lk.length - k < gg ∧ s8 = .int .i64 (k : Int) ∧ s7 = .string out ∧ Hid (out = mkB ([99, 114, 97, 115, 104] ++ keepL (lk.take k))) ∧ Hid (out.size ≤ 5 + 65 * k) ∧ Hid (Below wa.heap.size wa wr))
        case atStart => exact ⟨0, _, by omega, by omega, rfl, rfl, Lib.hid rfl, Lib.hid (Nat.le_refl 5), Lib.hid (Below.refl _ _)⟩
        case round =>
          obtain ⟨k, out, hk, hgg, rfl, rfl, HO, HZ, BR⟩ := hrel
          have e7 : wr.cell? ⟨w.heap.size, 7, none⟩ = some (.slice p3 lk.length c3) := (BR.out.cell (p := ⟨w.heap.size, 7, none⟩) lA).trans E7.out
          by_cases hi : k < lk.length
          · obtain ⟨x, hx⟩ : ∃ x, lk[k]? = some x := ⟨_, List.getElem?_eq_getElem hi⟩
            have hne : lk ≠ [] := fun e => by rw [e] at hi; exact absurd hi (Nat.not_lt_zero k)
            have hI := II.out.below (BW.out.trans (BR.out.mono BW.out.size))
            obtain ⟨p', c', hv', hp'⟩ := hI
            cases hv'
            obtain ⟨b, o, rfl, hb, hc⟩ := hp' hne
            have cx := hc k x hx
            have hxx := HK.out x (List.mem_of_getElem? hx)
            have zx := numS_size x hxx.1 hxx.2
            have kx : ∀ W, Calls Tryd.prog 14 #[.int .i64 x] W fun e w' => e = .returned (.string (numS x)) ∧ Below W.heap.size W w' := fun W => lawNumber_c x hxx.1 hxx.2 W
            have NX : Hid (numS x = mkB (Lib.itoa x)) := Lib.hid rfl
            have HX := Lib.hid hx
            clear hx hc hxx hp'
            have hil : (k : Int) < (lk.length : Int) := by omega
            have hz := HZ.out
            have y1 : ¬ 9223372036854775807 < 1 + (numS x).size := by omega
            have y2 : ¬ 9223372036854775807 < out.size + (1 + (numS x).size) := by omega
            generalize numS x = sx at *
            go_wp2_with (go_at_call 14; (with_reducible refine (kx _).mono ?_); rintro e w2 ⟨rfl, hb2⟩; have B2 := Lib.hid (BR.out.trans (hb2.mono BR.out.size)); clear hb2)
            go_roundg (lk.length - (k + 1) + 1)
            case measure => omega
            case rel =>
              refine ⟨k + 1, _, by omega, by omega, by go_num, rfl, Lib.hid ?_, Lib.hid ?_, B2⟩
              · rw [HO.out, NX.out, List.take_add_one, HX.out]
                apply ByteArray.ext
                simp only [ByteArray.data_append]
                simp [mkB, keepL, sp]
              · rw [ByteArray.size_append, ByteArray.size_append]
                have : (⟨#[32]⟩ : ByteArray).size = 1 := rfl
                omega
          · have hil : ¬ (k : Int) < (lk.length : Int) := by omega
            obtain rfl : k = lk.length := by omega
            have e1 : wr.cell? ⟨w.heap.size, 1, none⟩ = some (.int .i64 n) := (BR.out.cell (p := ⟨w.heap.size, 1, none⟩) lA).trans E1.out
            have f2 : wr.cell? ⟨w.heap.size + 1, 2, none⟩ = some (.int .i64 block) := (BR.out.cell (p := ⟨w.heap.size + 1, 2, none⟩) q4).trans F2.out
            have f3 : wr.cell? ⟨w.heap.size + 1, 3, none⟩ = some (.int .i64 size) := (BR.out.cell (p := ⟨w.heap.size + 1, 3, none⟩) q4).trans F3.out
            clear HO HZ
            rcases and4 HB.out with h1 | ⟨h1, h2⟩ | ⟨h1, h2, h3⟩ | ⟨h1, h2, h3, h4⟩
            · subst h1
              go_upto_region 19 with fail
              go_quiet (fail)
              go_wp2_with fail
              go_ret2
              exact badLine _ _ _ (below_drewN (BW.out.trans (BR.out.mono BW.out.size)) _)
            · subst h1
              have g2 : ¬ block = 0 := by simpa using h2
              go_upto_region 19 with fail
              go_quiet (fail)
              go_wp2_with fail
              go_ret2
              exact badLine _ _ _ (below_drewN (BW.out.trans (BR.out.mono BW.out.size)) _)
            · subst h1
              obtain rfl : block = 0 := by simpa using h2
              have g3 : ¬ size = 0 := by simpa using h3
              go_upto_region 19 with fail
              go_quiet (fail)
              go_wp2_with fail
              go_ret2
              exact badLine _ _ _ (below_drewN (BW.out.trans (BR.out.mono BW.out.size)) _)
            · subst h1
              obtain rfl : block = 0 := by simpa using h2
              obtain rfl : size = 0 := by simpa using h3
              have g4 : ¬ n = 0 := by simpa using h4
              go_upto_region 19 with fail
              go_quiet (fail)
              go_wp2_with fail
              go_ret2
              exact badLine _ _ _ (below_drewN (BW.out.trans (BR.out.mono BW.out.size)) _)
      by_cases hk5 : kind = 5
      · subst hk5
        have hB : ((reqL rk vol block size la).2 && n == 0 && lk.isEmpty) = false := HRB.out.symm.trans HOK.out
        have kr := KR.out wa BW.out
        have KQ := Lib.hid kr
        have lA : w.heap.size < wa.heap.size := Nat.lt_of_succ_lt q4
        have y1 : ¬ 9223372036854775807 < 6 + (mkB (reqL rk vol block size la).1).size := by omega
        clear kr KR HRB HM1 HM2 HNB HBB KN KB KD NN NB ND QA QR hle BI II HK HOK
        generalize mkB (reqL rk vol block size la).1 = sq at *
        generalize (reqL rk vol block size la).2 = rq at *
        rcases and3 hB with hr | ⟨hr, hn⟩ | ⟨hr, hn, hl⟩
        · subst hr
          clear hB
          go_wp2_with (go_at_call 21; (with_reducible refine KQ.out.mono ?_); rintro e w2 ⟨rfl, hb2⟩; have B2 := Lib.hid (BW.out.trans (hb2.mono BW.out.size)); have e0' := (hb2.cell (p := ⟨w.heap.size, 0, none⟩) lA).trans e0; have e1' := (hb2.cell (p := ⟨w.heap.size, 1, none⟩) lA).trans e1; have e7' := (hb2.cell (p := ⟨w.heap.size, 7, none⟩) lA).trans e7; clear hb2)
          go_quiet (fail)
          go_wp2_with fail
          go_ret2
          exact badLine _ _ _ (below_drewN B2.out _)
        · subst hr
          have hn2 : ¬ n = 0 := by simpa using hn
          clear hB
          go_wp2_with (go_at_call 21; (with_reducible refine KQ.out.mono ?_); rintro e w2 ⟨rfl, hb2⟩; have B2 := Lib.hid (BW.out.trans (hb2.mono BW.out.size)); have e0' := (hb2.cell (p := ⟨w.heap.size, 0, none⟩) lA).trans e0; have e1' := (hb2.cell (p := ⟨w.heap.size, 1, none⟩) lA).trans e1; have e7' := (hb2.cell (p := ⟨w.heap.size, 7, none⟩) lA).trans e7; clear hb2)
          go_quiet (fail)
          go_wp2_with fail
          go_ret2
          exact badLine _ _ _ (below_drewN B2.out _)
        · subst hr
          obtain rfl : n = 0 := by simpa using hn
          rw [hl] at hke
          clear hB
          go_wp2_with (go_at_call 21; (with_reducible refine KQ.out.mono ?_); rintro e w2 ⟨rfl, hb2⟩; have B2 := Lib.hid (BW.out.trans (hb2.mono BW.out.size)); have e0' := (hb2.cell (p := ⟨w.heap.size, 0, none⟩) lA).trans e0; have e1' := (hb2.cell (p := ⟨w.heap.size, 1, none⟩) lA).trans e1; have e7' := (hb2.cell (p := ⟨w.heap.size, 7, none⟩) lA).trans e7; clear hb2)
          go_quiet (fail)
          go_wp2_with fail
          go_ret2
          exact badLine _ _ _ (below_drewN B2.out _)
      by_cases hk3 : kind = 3
      · subst hk3
        have hB : ((reqL rk vol block size la).2 && n == 0 && lk.isEmpty) = false := HRB.out.symm.trans HOK.out
        have kr := KR.out wa BW.out
        have KQ := Lib.hid kr
        have lA : w.heap.size < wa.heap.size := Nat.lt_of_succ_lt q4
        have y1 : ¬ 9223372036854775807 < 6 + (mkB (reqL rk vol block size la).1).size := by omega
        clear kr KR HRB HM1 HM2 HNB HBB KN KB KD NN NB ND QA QR hle BI II HK HOK
        generalize mkB (reqL rk vol block size la).1 = sq at *
        generalize (reqL rk vol block size la).2 = rq at *
        rcases and3 hB with hr | ⟨hr, hn⟩ | ⟨hr, hn, hl⟩
        · subst hr
          clear hB
          go_wp2_with (go_at_call 21; (with_reducible refine KQ.out.mono ?_); rintro e w2 ⟨rfl, hb2⟩; have B2 := Lib.hid (BW.out.trans (hb2.mono BW.out.size)); have e0' := (hb2.cell (p := ⟨w.heap.size, 0, none⟩) lA).trans e0; have e1' := (hb2.cell (p := ⟨w.heap.size, 1, none⟩) lA).trans e1; have e7' := (hb2.cell (p := ⟨w.heap.size, 7, none⟩) lA).trans e7; clear hb2)
          go_quiet (fail)
          go_wp2_with fail
          go_ret2
          exact badLine _ _ _ (below_drewN B2.out _)
        · subst hr
          have hn2 : ¬ n = 0 := by simpa using hn
          clear hB
          go_wp2_with (go_at_call 21; (with_reducible refine KQ.out.mono ?_); rintro e w2 ⟨rfl, hb2⟩; have B2 := Lib.hid (BW.out.trans (hb2.mono BW.out.size)); have e0' := (hb2.cell (p := ⟨w.heap.size, 0, none⟩) lA).trans e0; have e1' := (hb2.cell (p := ⟨w.heap.size, 1, none⟩) lA).trans e1; have e7' := (hb2.cell (p := ⟨w.heap.size, 7, none⟩) lA).trans e7; clear hb2)
          go_quiet (fail)
          go_wp2_with fail
          go_ret2
          exact badLine _ _ _ (below_drewN B2.out _)
        · subst hr
          obtain rfl : n = 0 := by simpa using hn
          rw [hl] at hke
          clear hB
          go_wp2_with (go_at_call 21; (with_reducible refine KQ.out.mono ?_); rintro e w2 ⟨rfl, hb2⟩; have B2 := Lib.hid (BW.out.trans (hb2.mono BW.out.size)); have e0' := (hb2.cell (p := ⟨w.heap.size, 0, none⟩) lA).trans e0; have e1' := (hb2.cell (p := ⟨w.heap.size, 1, none⟩) lA).trans e1; have e7' := (hb2.cell (p := ⟨w.heap.size, 7, none⟩) lA).trans e7; clear hb2)
          go_quiet (fail)
          go_wp2_with fail
          go_ret2
          exact badLine _ _ _ (below_drewN B2.out _)
      go_wp2_with fail
      go_ret2
      exact badLine _ _ _ BW.out

end Go.Proofs.YtbnbnccpoeopmaaDoor.Tf
