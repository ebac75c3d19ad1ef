/- The seven acts of the law's script; where the shell stands behind each; what stays. -/
import Derived.Test.YtjohhjdicbeojaaGreatDoorZbo
import Derived.Test.YtjohhjdicbeojaaGreatDoorZbp
import Derived.Test.YtjohhjdicbeojaaGreatDoorZbq
import Derived.Test.YtjohhjdicbeojaaGreatDoorZbr
import Derived.Shelf.Strings.BuilderK
namespace Go.Proofs.YtjohhjdicbeojaaGreatDoor.Vx
open Go.RowKit Go.Proofs.YtjohhjdicbeojaaGreatDoor.Ra Go.Proofs.YtjohhjdicbeojaaGreatDoor.Rf Go.Proofs.YtjohhjdicbeojaaGreatDoor.Rj Go.Proofs.YtjohhjdicbeojaaGreatDoor.Rl Go.Proofs.YtjohhjdicbeojaaGreatDoor.Sq Go.Proofs.YtjohhjdicbeojaaGreatDoor.Ss Go.Proofs.YtjohhjdicbeojaaGreatDoor.St Go.Proofs.YtjohhjdicbeojaaGreatDoor.Su Go.Proofs.YtjohhjdicbeojaaGreatDoor.Va Go.Proofs.YtjohhjdicbeojaaGreatDoor.Vb Go.Proofs.YtjohhjdicbeojaaGreatDoor.Vd Go.Proofs.YtjohhjdicbeojaaGreatDoor.Vg Go.Proofs.YtjohhjdicbeojaaGreatDoor.Vh Go.Proofs.YtjohhjdicbeojaaGreatDoor.Vk Go.Proofs.YtjohhjdicbeojaaGreatDoor.Vl Go.Proofs.YtjohhjdicbeojaaGreatDoor.Vm Go.Proofs.YtjohhjdicbeojaaGreatDoor.Vn Go.Proofs.YtjohhjdicbeojaaGreatDoor.Vo Go.Proofs.YtjohhjdicbeojaaGreatDoor.Vp Go.Proofs.YtjohhjdicbeojaaGreatDoor.Vq Go.Proofs.YtjohhjdicbeojaaGreatDoor.Vr Go.Proofs.YtjohhjdicbeojaaGreatDoor.Vt Go.Proofs.YtjohhjdicbeojaaGreatDoor.Vu Go.Proofs.YtjohhjdicbeojaaGreatDoor.Vv Go.Proofs.YtjohhjdicbeojaaGreatDoor.Vw Go.Proofs.YtjohhjdicbeojaaGreatDoor.Wa
open Go.Proofs.YtjohhjdicbeojaaGreatDoor.KSb (Env itoa_c)
open Go.Proofs.YtjohhjdicbeojaaGreatDoor.KSg (ActM)
open Go.Proofs.YtjohhjdicbeojaaGreatDoor.KSr (lineL)
open Go.Proofs.YtjohhjdicbeojaaGreatDoor.KSu (mkB I64)
set_option maxRecDepth 8000

/-- Where it stands, behind so many acts. -/
def Stand (B SH D S N : Nat) : Nat → World → Prop
  | 0, W => ShAt W SH D (.pointer none) ∧ DevAt B W D S N (.slice none 0 0) (newDev 60)
  | 1, W => ShAt W SH D (.pointer none) ∧ ∃ lv, DevAt B W D S N lv (savedDev 6 2 (fmtK (newDev 60) 16))
  | 2, W => ∃ P G R x, ShAt W SH D (.pointer (some ⟨P, 0, none⟩)) ∧ PoolAt B W P G R x ∧ (x.dl = .slice none 0 0 ∧ x.ck = 0) ∧ RollAt W R 0 0 (.pointer none) ∧ B ≤ R ∧ GateAt B W G 0 [] none 0
  | 3, W => ∃ P G R, ShAt W SH D (.pointer (some ⟨P, 0, none⟩)) ∧ Idle B P G R 1 1 W
  | 4, W => ∃ P G R, ShAt W SH D (.pointer (some ⟨P, 0, none⟩)) ∧ HasVol B P G R 1 W ∧ ∃ p c, GateAt B W G 2 [waitV 4 0 1 0 2] p c
  | 5, W => ∃ P G R, ShAt W SH D (.pointer (some ⟨P, 0, none⟩)) ∧ Idle B P G R 2 2 W
  | 6, W => ∃ P G R, ShAt W SH D (.pointer (some ⟨P, 0, none⟩)) ∧ Idle B P G R 3 3 W
  | _, W => ∃ P G R, ShAt W SH D (.pointer (some ⟨P, 0, none⟩)) ∧ Idle B P G R 4 4 W

/-- What the acts change. -/
def ts7 : List TypeId := [85, 113, 115, 46, 107, 148, 142, 20]
/-- What the builder changes. -/
def tsB : List TypeId := [5, 77]

theorem row_kept {ts : List TypeId} {C base e size n : Nat} {w w' : World} {v : Value} {xs : List Value} (h : w.ownsRow base e size v n xs) (hk : Kept ts C w w') (ht : ts.contains e = false) : w'.ownsRow base e size v n xs := by
  refine ⟨h.1, ?_⟩
  rcases h.2 with hn | ⟨g, cap, cur, hv, hg, hh, r⟩
  · exact Or.inl hn
  · exact Or.inr ⟨g, cap, cur, hv, hg, hk.at hh ht, r⟩
theorem DevAt.kept {ts : List TypeId} {B C : Nat} {w w' : World} {D S N : Nat} {lv : Value} {d : Dev} (h : DevAt B w D S N lv d) (hk : Kept ts C w w') (h1 : ts.contains 85 = false) (h2 : ts.contains 113 = false) (h3 : ts.contains 115 = false) : DevAt B w' D S N lv d :=
  ⟨h.baseD, h.baseS, h.baseN, h.ne, hk.at h.dev h1, hk.at h.sure h2, hk.at h.now h2, h.lsure, h.lnow, h.n1, h.n2, row_kept h.loose hk h3, h.each, h.few, h.aft⟩
theorem bld_kept {ts : List TypeId} {B C b : Nat} {bs : List Value} {w w' : World} (h : Lib.IsBuilderF 77 5 B b bs w) (hk : Kept ts C w w') (h1 : ts.contains 77 = false) (h2 : ts.contains 5 = false) : Lib.IsBuilderF 77 5 B b bs w' := by
  have go : ∀ p, Lib.BuilderAtF 77 5 B b p bs w → Lib.BuilderAtF 77 5 B b p bs w' := by
    rintro p ⟨hB, v, hb, ⟨hl, hr⟩, hne⟩
    refine ⟨hB, v, hk.at hb h1, ⟨hl, ?_⟩, hne⟩
    rcases hr with hn | ⟨g, cap, cur, fz, hv, hg, hh, r⟩
    · exact Or.inl hn
    · exact Or.inr ⟨g, cap, cur, fz, hv, hg, hk.kept g _ hh h2, r⟩
  exact h.elim (fun x => .inl (go _ x)) (fun x => .inr (go _ x))
theorem kept_of_others {B b : Nat} {w w' : World} {p v : Value} (hb : w.heap[b]? = some (.cells #[p, v] 77 (0, 0))) (h : Below B w w') (ho : Lib.OthersKept 5 (some b) w w') : Kept tsB B w w' := by
  refine ⟨h, fun k o hk ht => ho k o hk (fun e => ?_) (fun c fz e => ?_)⟩
  · obtain rfl := Option.some.inj e
    rw [hb] at hk
    obtain rfl := Option.some.inj hk
    revert ht
    show (tsB.contains 77 = false) → False
    decide
  · subst e
    revert ht
    show (tsB.contains 5 = false) → False
    decide

theorem Stand.kept {ts : List TypeId} {B SH D S N : Nat} {w w' : World} (hk : Kept ts B w w') (ht : (ts7.all fun t => !ts.contains t) = true) (h3 : ts.contains 223 = false) (h4 : ts.contains 289 = false) : ∀ k, Stand B SH D S N k w → Stand B SH D S N k w'
  | k, h => by
    have a1 : ts.contains 85 = false := by simpa using List.all_eq_true.1 ht 85 (by decide)
    have a2 : ts.contains 113 = false := by simpa using List.all_eq_true.1 ht 113 (by decide)
    have a3 : ts.contains 115 = false := by simpa using List.all_eq_true.1 ht 115 (by decide)
    have a4 : ts.contains 46 = false := by simpa using List.all_eq_true.1 ht 46 (by decide)
    have a5 : ts.contains 107 = false := by simpa using List.all_eq_true.1 ht 107 (by decide)
    have a6 : ts.contains 148 = false := by simpa using List.all_eq_true.1 ht 148 (by decide)
    have a7 : ts.contains 142 = false := by simpa using List.all_eq_true.1 ht 142 (by decide)
    have a8 : ts.contains 20 = false := by simpa using List.all_eq_true.1 ht 20 (by decide)
    match k, h with
    | 0, ⟨h1, h2⟩ => exact ⟨h1.kept hk a4, DevAt.kept h2 hk a1 a2 a3⟩
    | 1, ⟨h1, lv, h2⟩ => exact ⟨h1.kept hk a4, lv, DevAt.kept h2 hk a1 a2 a3⟩
    | 2, ⟨P, G, R, x, h1, h2, hx, hr, hR, hg⟩ => exact ⟨P, G, R, x, h1.kept hk a4, h2.kept hk a5, hx, Vg.RollAt.kept hr hk a6, hR, hg.kept hk a7 a8⟩
    | 3, ⟨P, G, R, h1, h2⟩ => exact ⟨P, G, R, h1.kept hk a4, h2.kept hk a5 a6 h3 h4 a7 a8⟩
    | 4, ⟨P, G, R, h1, ⟨T, x, hv, hx⟩, p, c, hg⟩ => exact ⟨P, G, R, h1.kept hk a4, ⟨T, x, hv.kept hk a5 a6 h3 h4, hx⟩, p, c, hg.kept hk a7 a8⟩
    | 5, ⟨P, G, R, h1, h2⟩ => exact ⟨P, G, R, h1.kept hk a4, h2.kept hk a5 a6 h3 h4 a7 a8⟩
    | 6, ⟨P, G, R, h1, h2⟩ => exact ⟨P, G, R, h1.kept hk a4, h2.kept hk a5 a6 h3 h4 a7 a8⟩
    | _ + 7, ⟨P, G, R, h1, h2⟩ => exact ⟨P, G, R, h1.kept hk a4, h2.kept hk a5 a6 h3 h4 a7 a8⟩
theorem Stand.below {B SH D S N k : Nat} {w w' : World} (h : Stand B SH D S N k w) (hb : Below w.heap.size w w') (hB : B ≤ w.heap.size) : Stand B SH D S N k w' := Stand.kept (Kept.of (ts := []) hb hB) (by rfl) (by rfl) (by rfl) k h
theorem Stand.built {B SH D S N k : Nat} {w w' : World} (h : Stand B SH D S N k w) (hk : Kept tsB B w w') : Stand B SH D S N k w' := Stand.kept hk (by rfl) (by rfl) (by rfl) k h

theorem new_whole (n : Nat) : Whole (newDev n) := by
  show (zeroL (n * 64)).length = n * 64
  exact List.length_replicate
/-- An act. -/
theorem do7 {B SH D S N : Nat} (hBS : B ≤ SH) (k : Nat) (m : ActM) (hm : acts7[k]? = some m) (w : World) (h : Stand B SH D S N k w) (hE : EnvOn B w) (hBw : B ≤ w.heap.size) :
    Calls Tryz.prog 8 #[.pointer (some ⟨SH, 0, none⟩), .agg #[.int .i64 m.kind, .int .i64 m.n, .int .i64 m.rk, .int .i64 m.vol, .int .i64 m.block, .int .i64 m.size, .slice none 0 0, .slice none 0 0]] w fun e w' => e = .returned (.string (ans7 k)) ∧ Stand B SH D S N (k + 1) w' ∧ Kept ts7 B w w' := by
  match k, hm, h with
  | 0, hm, ⟨h1, h2⟩ =>
    obtain rfl := Option.some.inj hm
    refine (sdo_format h1 h2 hE hBw).mono ?_
    rintro e w' ⟨rfl, a, b, c⟩
    exact ⟨rfl, ⟨a, b⟩, c.mono (by rfl)⟩
  | 1, hm, ⟨h1, lv, h2⟩ =>
    obtain rfl := Option.some.inj hm
    refine (sdo_open h1 hBS h2 (formed (new_whole 60) ⟨rfl, rfl⟩ (by decide) 6 2) (by decide) hE hBw).mono ?_
    rintro e w' ⟨rfl, a, c⟩
    exact ⟨rfl, a, c.mono (by rfl)⟩
  | 2, hm, ⟨P, G, R, x, h1, h2, ⟨hx, hc⟩, hr, hR, hg⟩ =>
    obtain rfl := Option.some.inj hm
    refine (sdo_create (t := 0) h1 (by decide) (by decide) (by rw [hc]; decide) (by rw [hc]; decide) h2 hx hr hR hg hE hBw).mono ?_
    rintro e w' ⟨rfl, a, b, c⟩
    rw [hc] at b
    exact ⟨rfl, ⟨P, G, R, a, b⟩, c.mono (by rfl)⟩
  | 3, hm, ⟨P, G, R, h1, h2⟩ =>
    obtain rfl := Option.some.inj hm
    refine (sdo_later h1 (by decide) (by decide) h2 hE hBw).mono ?_
    rintro e w' ⟨rfl, a, b, hg, c⟩
    exact ⟨rfl, ⟨P, G, R, a, b, hg⟩, c.mono (by rfl)⟩
  | 4, hm, ⟨P, G, R, h1, h2, p, c, hg⟩ =>
    obtain rfl := Option.some.inj hm
    refine (sdo_step h1 (by decide) (by decide) (by decide) h2 hg hE hBw).mono ?_
    rintro e w' ⟨rfl, a, b, c⟩
    exact ⟨rfl, ⟨P, G, R, a, b⟩, c.mono (by rfl)⟩
  | 5, hm, ⟨P, G, R, h1, h2⟩ =>
    obtain rfl := Option.some.inj hm
    refine (sdo_stat h1 (by decide) (by decide) (by decide) h2 hE hBw).mono ?_
    rintro e w' ⟨rfl, a, b, c⟩
    exact ⟨rfl, ⟨P, G, R, a, b⟩, c.mono (by rfl)⟩
  | 6, hm, ⟨P, G, R, h1, h2⟩ =>
    obtain rfl := Option.some.inj hm
    refine (sdo_bad h1 (by decide) (by decide) (by decide) h2 hE hBw).mono ?_
    rintro e w' ⟨rfl, a, b, c⟩
    exact ⟨rfl, ⟨P, G, R, a, b⟩, c.mono (by rfl)⟩
  | n + 7, hm, h => cases hm
end Go.Proofs.YtjohhjdicbeojaaGreatDoor.Vx
