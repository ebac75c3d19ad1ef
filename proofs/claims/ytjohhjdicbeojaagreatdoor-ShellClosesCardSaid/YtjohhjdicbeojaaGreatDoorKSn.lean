/- From a row's premises to what the walks ask of the world; a world that meets them. -/
import Derived.Test.YtjohhjdicbeojaaGreatDoorZac
import Derived.Test.YtjohhjdicbeojaaGreatDoorRows
import Derived.Deep.DeepLaidRun
import Derived.Stop.LaidErr
import Derived.Lib.LaidTab
import Derived.HandedShaped
import Derived.ChangeSame
import Derived.ChangeVars
import Derived.JoinedOf
import Derived.RowKit
import Derived.RowKitTokens
import Derived.LaidLaws
namespace Go.Proofs.YtjohhjdicbeojaaGreatDoor.KSn
open Go.ChangeShapes Go.WideShapes Go.ChangeAt Go.RowKit Go.Proofs.YtjohhjdicbeojaaGreatDoor.KSb
variable {H : Type} {enc : TypeId × Value → H}

/-- The builder of a row that lists variables, the world's shape kept. -/
theorem change_and_shaped {a : Assume} {C : Checked} {os : Os} {f : FuncId} {fn : Func} {s : ChangeSpec} {conds : List PathCond} {apart fresh handsOn again : Bool} {X : World → Array Value → Prop}
    (hX : ∀ (w w' : World) (args : Array Value), w.heap = w'.heap → X w args → X w' args)
    (own : ownKnob C.prog.godebug = none) (started : os.Started) (noInit : C.prog.inits.idxOf? f = none) (hfn : C.prog.funcs[f]? = some fn)
    (witness : ∃ (w : World) (tape : Tape) (i : Input), w.os = os ∧ (w.forCall tape i).Shaped C.prog ∧ i.vars = [] ∧ Input.okWide C.prog (w.forCall tape i) .any w.heap.size f i ∧
      ((s.pre enc C.prog fn conds apart (w.forCall tape i).memory i.args ∧ X (w.forCall tape i).memory i.args) ∧ sizedMet enc C.prog fn (OpenSpec.ofChange s) apart (w.forCall tape i).memory i.args) ∧ a.holds C.prog (lone (Frame.enter C.prog f i.args .normal) [] (w.forCall tape i)))
    (contract : ∀ (W : World) (base : Nat) (args : Array Value) (ds gs : List (DataW H)) (before : List MemPlace),
      (∀ (j : Nat) t v, fn.params[j]? = some t → args[j]? = some v → Value.okWide C.prog W .any base t v) →
      DataW.Whole enc C.prog fn.params.toList s.vars apart W args.toList ds gs before →
      X W args → W.ShapedOpen C.prog →
      Calls C.prog f args W fun e W' => ∃ v, e = .returned v ∧ s.post enc C.prog fn apart fresh handsOn again W args v W') :
    ReturnsInHanded a C os f .any (fun w args => (s.pre enc C.prog fn conds apart w args ∧ X w args) ∧ sizedMet enc C.prog fn (OpenSpec.ofChange s) apart w args) (s.post enc C.prog fn apart fresh handsOn again) := by
  refine returnsInHanded_of_calls own started noInit witness ?_
  intro w tape i _ hsh _ hok hpre hholds
  obtain ⟨_, _, _, fn', hfn', _, _, _, _, hval⟩ := hok
  have e : fn' = fn := Option.some.inj (hfn'.symm.trans hfn)
  subst e
  obtain ⟨⟨⟨ds, gs, before, hw, hc⟩, hx⟩, hz⟩ := hpre
  have hw' := DataW.Whole.of_heap (w' := w.forCall tape i) (by rfl) hw
  refine (contract (w.forCall tape i) w.heap.size i.args ds gs before hval hw' (hX _ _ _ (by rfl) hx) hsh).mono fun e W' ⟨v, he, hp⟩ => ?_
  subst he
  exact ChangeSpec.post_blind hp

/-- What the rows list. -/
def laidL : List (String × DataW Unit) := [("math/bits.deBruijn32tab", Rows.laid_math_bits_deBruijn32tab), ("math/bits.deBruijn64tab", Rows.laid_math_bits_deBruijn64tab), ("internal/strconv.uint64pow10", Rows.laid_internal_strconv_uint64pow10), ("unicode/utf8.acceptRanges", Rows.laid_unicode_utf8_acceptRanges), ("strconv.ErrRange", Rows.laid_strconv_ErrRange), ("strconv.ErrSyntax", Rows.laid_strconv_ErrSyntax), ("unicode/utf8.first", Rows.laid_unicode_utf8_first)]

theorem gPow : Tryz.prog.globalNamed "internal/strconv.uint64pow10" = some 0 := by kernel_rfl
theorem tPow : (Tryz.prog.globals[0]?).map (·.type) = some 253 := by kernel_rfl
theorem gSyn : Tryz.prog.globalNamed "strconv.ErrSyntax" = some 4 := by kernel_rfl
theorem gRng : Tryz.prog.globalNamed "strconv.ErrRange" = some 5 := by kernel_rfl
theorem tSyn : (Tryz.prog.globals[4]?).map (·.type) = some 79 := by kernel_rfl
theorem tRng : (Tryz.prog.globals[5]?).map (·.type) = some 79 := by kernel_rfl
theorem c65 : Tryz.prog.cellsOf 190 = 1 := by kernel_rfl
theorem c108 : Tryz.prog.cellsOf 253 = 20 := by kernel_rfl
theorem c129 : Tryz.prog.cellsOf 374 = 1 := by kernel_rfl
theorem c9 : Tryz.prog.cellsOf 9 = 1 := by kernel_rfl
theorem star : "*" ++ "errors.errorString" = "*errors.errorString" := by decide
theorem row127 (u : TypeId) (h : Tryz.prog.typeName? 3 u = some "*errors.errorString") : u = 372 :=
  typeName_ptr_named (nm := "errors.errorString") (by rw [star]; kernel_rfl) (by kernel_rfl) (by decide) u (by rw [star]; exact h)

theorem env_of {W : World} (hL : laidMet Tryz.prog laidL W) (hsh : W.ShapedOpen Tryz.prog) : Env W := by
  have h2 := hL.tail.tail
  have h4 := h2.tail.tail
  have h5 := h4.tail
  obtain ⟨a0, s0, hv0, _⟩ := laid_sentinel h4 gRng tRng Tryz.underlying79 row127 Tryz.underlying372 Tryz.underlying374 rfl rfl Tryz.underlying9 c129 c9
  obtain ⟨a1, s1, hv1, _⟩ := laid_sentinel h5 gSyn tSyn Tryz.underlying79 row127 Tryz.underlying372 Tryz.underlying374 rfl rfl Tryz.underlying9 c129 c9
  refine ⟨Tryz.laysM146.s1_3 W hsh, ?_, ⟨_, _, hv1⟩, ⟨_, _, hv0⟩⟩
  have h2' : laidMet Tryz.prog (("internal/strconv.uint64pow10", Lib.tabData .u64 Lib.pow10Tab) :: _) W := h2
  exact Lib.tabIs_of_head gPow tPow Tryz.underlying253 Tryz.underlying190 c65 c108 h2'

/-! ### One start that fits -/
def leaf : DataW Unit → List Value
  | .lit (.int k n) => [.int k n]
  | _ => []
def leaves : DataW Unit → List Value
  | .agg l => l.flatMap leaf
  | _ => []
def leaves2 : DataW Unit → List Value
  | .agg l => l.flatMap leaves
  | _ => []
def lay (w : World) (g : Nat) (cs : List Value) : World := { w with heap := w.heap.modify g fun
  | .cells _ t frozen => .cells cs.toArray t frozen
  | o => o }
abbrev synS : ByteArray := { data := #[105, 110, 118, 97, 108, 105, 100, 32, 115, 121, 110, 116, 97, 120] }
abbrev rngS : ByteArray := { data := #[118, 97, 108, 117, 101, 32, 111, 117, 116, 32, 111, 102, 32, 114, 97, 110, 103, 101] }
/-- So many blocks has the settled world. -/
noncomputable def low : Nat := (World.holding Tryz.prog default ⟨#[], #[], []⟩).heap.size
noncomputable def laidWorld (os : Os) : World :=
  lay (lay (lay (lay (lay (lay (lay (World.holding Tryz.prog os ⟨#[.cells #[.string synS] 374, .cells #[.string rngS] 374], #[], []⟩)
    0 (leaves Rows.laid_internal_strconv_uint64pow10)) 4 [.iface 372 (.pointer (some ⟨low, 0, none⟩))]) 5 [.iface 372 (.pointer (some ⟨low + 1, 0, none⟩))]) 6 (leaves Rows.laid_unicode_utf8_first)) 7 (leaves2 Rows.laid_unicode_utf8_acceptRanges)) 2 (leaves Rows.laid_math_bits_deBruijn32tab)) 3 (leaves Rows.laid_math_bits_deBruijn64tab)
theorem laidWorld_met (os : Os) (args : Array Value) : laidMet Tryz.prog laidL ((laidWorld os).forCall (fun _ _ => 0) ⟨#[], args, []⟩).memory :=
  laidMet_of_run3 8 (by kernel_rfl) (by kernel_rfl) (by kernel_rfl)
theorem own : ownKnob Tryz.prog.godebug = none := by kernel_rfl
theorem laidOut : laidOutB Tryz.prog = true := by kernel_rfl

end Go.Proofs.YtjohhjdicbeojaaGreatDoor.KSn
