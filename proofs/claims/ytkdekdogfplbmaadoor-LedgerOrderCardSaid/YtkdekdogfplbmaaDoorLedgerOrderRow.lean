/- 'lookout/lookoutlaw24.LedgerOrder' returns true for every input; each argument reads behind the call as it read before: the row's frame round the walk 'ledgerOrder_walk'; the package-level variables that the row lists hold what the text lays. -/
import Derived.Test.YtkdekdogfplbmaaDoorLdOrder
import Derived.Test.YtkdekdogfplbmaaDoorCards
import Derived.Test.YtkdekdogfplbmaaDoorTie
import Derived.ProofKit
import Derived.OpenShut
import Derived.ShutString
import Derived.ChangeOld
import Derived.Lib.SmallJoins
import Derived.Carry
import Derived.Deep.DeepHandedRow
import Derived.Lib.LaidTab
namespace Go.Proofs.YtkdekdogfplbmaaDoor.ledgerOrder
open Go.ChangeShapes Go.WideShapes Go.ChangeAt Go.RowKit
open Go.ChangeMaps (open_string shut_string)
set_option linter.unusedVariables false

theorem own : ownKnob Tryd.prog.godebug = none := by kernel_rfl
theorem laidOut : laidOutB Tryd.prog = true := by kernel_rfl
theorem g0 : Tryd.prog.globalNamed "lookout/record.forms" = some 0 := by kernel_rfl
theorem gType0 : (Tryd.prog.globals[0]?).map (·.type) = some 49 := by kernel_rfl
theorem sCells0 : Tryd.prog.cellsOf 9 = 1 := by kernel_rfl
theorem eCells0 : Tryd.prog.cellsOf 43 = 2 := by kernel_rfl
theorem sUnder0 : Tryd.prog.underlying 9 = some .string := by kernel_rfl
theorem table0 {W : World} (h : laidMetH Tryd.prog Rows.ledgerOrderRow.laid W) : Forms 0 W :=
  forms_of (rest := []) g0 gType0 Tryd.underlying49 Tryd.underlying42 rfl rfl rfl rfl sUnder0 sCells0 eCells0 h

/-- What the walk gives, for every argument and every world that the row speaks of. -/
theorem contract (H : Type) (enc : TypeId × Value → H) (W : World) (base : Nat) (args : Array Value) (ds gs : List (DataW H)) (before : List MemPlace)
    (hval : ∀ (j : Nat) t v, Tryd.f3.params[j]? = some t → args[j]? = some v → Value.okWide Tryd.prog W .any base t v)
    (hW : DataW.Whole enc Tryd.prog Tryd.f3.params.toList Rows.ledgerOrderSpec.vars false W args.toList ds gs before) (hL : laidMetH Tryd.prog Rows.ledgerOrderRow.laid W) :
    Calls Tryd.prog 3 args W fun e W' => ∃ v, e = .returned v ∧ Rows.ledgerOrderSpec.post enc Tryd.prog Tryd.f3 false true false false W args v W' := by
  have hW' := hW
  obtain ⟨p, q, hA0, hV, rfl, hfz, hnd⟩ := hW
  have hA : DataW.TrodAll enc Tryd.prog W 0 (fun _ => true) true Tryd.f3.params.toList args.toList ds p := hA0
  rw [Tryd.params3] at hA hval
  obtain ⟨v0, vs0, d0, ds0, p0, q0, hargs, rfl, rfl, h0, r0⟩ := trodAll_cons hA
  obtain ⟨v1, vs1, d1, ds1, p1, q1, rfl, rfl, rfl, h1, r1⟩ := trodAll_cons r0
  obtain ⟨rfl, rfl, rfl⟩ := trodAll_nil r1
  obtain rfl : args = #[v0, v1] := by cases args; simp_all
  obtain ⟨rfl, rfl⟩ := trodVars_none hV
  have k0 := h0
  have lt0 : ∀ x ∈ p0, x.block < W.heap.size := by obtain ⟨m, hm⟩ := k0; exact DataW.trod_lt m _ _ _ hm
  have k1 := h1
  have lt1 : ∀ x ∈ p1, x.block < W.heap.size := by obtain ⟨m, hm⟩ := k1; exact DataW.trod_lt m _ _ _ hm
  clear hA0
  obtain ⟨a0, rfl, rfl, rfl, z0⟩ := open_int Tryd.underlying2 (hval 0 2 v0 rfl rfl) h0
  obtain ⟨a1, len1, cap1, rfl⟩ := okWide_slice Tryd.underlying22 (hval 1 22 v1 rfl rfl)
  obtain ⟨cs1, z1, y1⟩ : ∃ cs, RowG 5 W a1 len1 cs ∧ ∀ c ∈ cs, OkAll [.int .i64, .int .i64, .int .i64, .bool, .bool] c := by
    obtain ⟨fuel, hf⟩ := h1
    exact (open_rows Tryd.underlying22 (show Tryd.prog.cellsOf 29 = 5 by kernel_rfl) (by omega) hf).flat Tryd.underlying29 (by kernel_rfl) rfl
  refine (ledgerOrder_walk a0 (bounds_i64 z0) a1 len1 cap1 cs1 W z1 y1 (table0 hL)).mono fun e W' ⟨he, bel⟩ => ?_
  subst he
  exact ⟨_, rfl, _, _, _, [], _, [], hW', trodAll_mk1 (shut_bool Tryd.underlying4 _), (trodAll_cons_mk (Below.trod laidOut (by kernel_rfl) (of_decide_eq_true (by kernel_rfl)) k0 bel lt0) (trodAll_cons_mk (Below.trod laidOut (by kernel_rfl) (of_decide_eq_true (by kernel_rfl)) k1 bel lt1) trodAll_mk0)), rfl, bel.frame _, fun h => by cases h⟩

noncomputable def laidWorld (os : Os) : World :=
  { World.holding Tryd.prog os ⟨#[], #[], []⟩ with heap := (World.holding Tryd.prog os ⟨#[], #[], []⟩).heap.modify 0 (fun | .cells _ t frozen => .cells #[.string ⟨#[109, 97, 108, 102, 111, 114, 109, 101, 100]⟩, .string ⟨#[115, 110]⟩, .string ⟨#[119, 114, 111, 110, 103]⟩, .string ⟨#[115, 99]⟩, .string ⟨#[114, 101, 102, 117, 115, 101, 100]⟩, .string ⟨#[115, 99]⟩, .string ⟨#[114, 101, 106, 101, 99, 116, 101, 100]⟩, .string ⟨#[115, 113, 97, 99]⟩, .string ⟨#[115, 104, 101, 100]⟩, .string ⟨#[115, 113, 97]⟩, .string ⟨#[108, 97, 116, 101]⟩, .string ⟨#[115, 113, 97]⟩, .string ⟨#[97, 99, 99, 101, 112, 116, 101, 100]⟩, .string ⟨#[115, 113, 97]⟩, .string ⟨#[103, 97, 112]⟩, .string ⟨#[115, 113]⟩, .string ⟨#[115, 117, 115, 112, 101, 99, 116]⟩, .string ⟨#[115, 97]⟩, .string ⟨#[114, 101, 106, 111, 105, 110]⟩, .string ⟨#[115]⟩, .string ⟨#[111, 118, 101, 114, 102, 108, 111, 119]⟩, .string ⟨#[99, 97]⟩, .string ⟨#[112, 114, 111, 118, 105, 115, 105, 111, 110, 97, 108]⟩, .string ⟨#[97, 121]⟩, .string ⟨#[114, 101, 116, 114, 97, 99, 116, 105, 111, 110]⟩, .string ⟨#[97, 121]⟩, .string ⟨#[102, 105, 110, 97, 108]⟩, .string ⟨#[97, 121]⟩, .string ⟨#[108, 97, 116, 101, 110, 99, 121]⟩, .string ⟨#[97, 110]⟩, .string ⟨#[115, 117, 109, 109, 97, 114, 121]⟩, .string ⟨#[116]⟩] t frozen | o => o) }
theorem laid_met (os : Os) : laidMet Tryd.prog Rows.ledgerOrderRow.laid ((laidWorld os).forCall (fun _ _ => 0) ⟨#[], #[.int .i64 0, .slice none 0 0], []⟩).memory :=
  laidMet_of_run' 8 (by kernel_rfl) (by kernel_rfl)
theorem reads (os : Os) {H : Type} (enc : TypeId × Value → H) : ∃ ds places, DataW.whole enc Tryd.prog ((laidWorld os).forCall (fun _ _ => 0) ⟨#[], #[.int .i64 0, .slice none 0 0], []⟩).memory Tryd.f3.params.toList Rows.ledgerOrderSpec.vars false (#[.int .i64 0, .slice none 0 0] : Array Value).toList 8 = some (ds, [], places) :=
  ⟨[.lit (.int .i64 0), .nil], [], by kernel_rfl⟩

set_option maxRecDepth 100000 in
theorem lifted (os : Os) (started : os.Started) (H : Type) (enc : TypeId × Value → H) (F : Stop.Interp) :
    ReturnsInHanded {} Tryd.checked os 3 .any ((OpenSpec.ofChange Rows.ledgerOrderSpec).preRow enc Tryd.prog Tryd.f3 Rows.ledgerOrderRow.domain false Rows.ledgerOrderRow.laid) (((OpenSpec.ofChange Rows.ledgerOrderSpec).at F).post enc Tryd.prog Tryd.f3 false true false false) := by
  have hx : DataW.whole enc Tryd.prog ((laidWorld os).forCall (fun _ _ => 0) ⟨#[], #[.int .i64 0, .slice none 0 0], []⟩).memory Tryd.f3.params.toList Rows.ledgerOrderSpec.vars false (#[.int .i64 0, .slice none 0 0] : Array Value).toList 8 = some ([.lit (.int .i64 0), .nil], [], []) := by kernel_rfl
  refine returnsInHanded_of_row (C := Tryd.checked) (s := OpenSpec.ofChange Rows.ledgerOrderSpec) own started (by kernel_rfl) Tryd.func3
    (witness_row_at (enc := enc) (C := Tryd.checked) false (laidWorld os) #[.int .i64 0, .slice none 0 0] rfl (by kernel_rfl) (by kernel_rfl) (by kernel_rfl)
      (OpenSpec.preRow_of_cond 8 hx (by kernel_rfl) (fun k hk => by cases hk) (by kernel_rfl) (laid_met os))) ?_
  intro W base args ds gs before hval hW _ hcond _ hL _ _
  exact contract H enc W base args ds gs before hval hW hL

theorem proved : Rows.LedgerOrderSaid :=
  OpenClaim.holds_of_cond 3 Tryd.f3 rfl rfl rfl rfl rfl rfl rfl ⟨rfl, rfl, rfl, rfl, rfl⟩ rfl rfl rfl rfl rfl (by kernel_rfl) Tryd.func3 (by kernel_rfl)
    (of_decide_eq_true (by kernel_rfl)) (by unfold Func.isWrapper; first | (rw [if_pos (by decide +kernel)]; kernel_rfl) | (rw [if_neg (by decide +kernel)]; exact ⟨rfl, rfl⟩))
    (fun os started H enc _ F => by rw [OpenClaim.pre_eq_preRow]; exact lifted os started H enc F)

theorem plain (f : FuncId) (fn : Func) (hf : Tryd.pinned.checked.prog.funcNamed "lookout/lookoutlaw24.LedgerOrder" = some f) (hfn : Tryd.pinned.checked.prog.funcs[f]? = some fn) :
    false = Tryd.pinned.checked.prog.looks [] ∧ ∀ (j : Nat) t, fn.params[j]? = some t → Tryd.pinned.checked.prog.wantsStandIn t = false := by
  obtain rfl : f = 3 := Option.some.inj ((show Tryd.prog.funcNamed "lookout/lookoutlaw24.LedgerOrder" = some 3 by kernel_rfl).symm.trans hf) |>.symm
  obtain rfl : fn = Tryd.f3 := (Option.some.inj (Tryd.func3.symm.trans hfn)).symm
  refine ⟨by kernel_rfl, fun j t ht => ?_⟩
  rw [Tryd.params3] at ht
  rcases j with _ | j
  · have e : t = 2 := by simpa using ht.symm
    subst e
    exact (show Tryd.prog.wantsStandIn 2 = false by kernel_rfl)
  rcases j with _ | j
  · have e : t = 22 := by simpa using ht.symm
    subst e
    exact (show Tryd.prog.wantsStandIn 22 = false by kernel_rfl)
  · simp at ht

/-- The card: the statement. -/
theorem card : Rows.LedgerOrderCardSaid :=
  Claim7.holds_tied_plain_at .later [] _ _ _ _ proved (fun _ h => by cases h) (by kernel_rfl) (fun _ h => by cases h) ledgerOrder_row_tie rfl ⟨rfl, rfl⟩ (by kernel_rfl) rfl plain (by kernel_rfl)
#print axioms card
end Go.Proofs.YtkdekdogfplbmaaDoor.ledgerOrder
