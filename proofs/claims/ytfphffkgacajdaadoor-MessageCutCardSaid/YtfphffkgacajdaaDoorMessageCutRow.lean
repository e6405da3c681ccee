/- 'lookout/lookoutlaw06.MessageCut' returns true for every input; each argument reads behind the call as it read before: the row's frame round the walk 'messageCut_walk'; the package-level variables that the row lists hold what the text lays. -/
import Derived.Test.YtfphffkgacajdaaDoorMsgCut
import Derived.Test.YtfphffkgacajdaaDoorCards
import Derived.Test.YtfphffkgacajdaaDoorTie
import Derived.ProofKit
import Derived.OpenShut
import Derived.ShutString
import Derived.ChangeOld
import Derived.Lib.SmallJoins
import Derived.Carry
import Derived.Deep.DeepHandedRow
import Derived.Lib.LaidTab
namespace Go.Proofs.YtfphffkgacajdaaDoor.messageCut
open Go.ChangeShapes Go.WideShapes Go.ChangeAt Go.RowKit
open Go.ChangeMaps (open_string shut_string)
set_option linter.unusedVariables false

theorem own : ownKnob Tryd.prog.godebug = none := by kernel_rfl
theorem laidOut : laidOutB Tryd.prog = true := by kernel_rfl
theorem cells25 : Tryd.prog.cellsOf 25 = 4 := by kernel_rfl
theorem g0 : Tryd.prog.globalNamed "lookout/crc.turns" = some 3 := by kernel_rfl
theorem gType0 : (Tryd.prog.globals[3]?).map (·.type) = some 178 := by kernel_rfl
theorem gCells0 : Tryd.prog.cellsOf 178 = 16 := by kernel_rfl
theorem eCells0 : Tryd.prog.cellsOf 143 = 1 := by kernel_rfl
def nums0 : List Int := [0, 8801531, 9098509, 825846, 9692897, 1419802, 1651692, 10452759, 10584377, 2608578, 2839604, 11344079, 3303384, 11807523, 12104405, 4128302]
theorem table0 {W : World} (h : laidMetH Tryd.prog Rows.messageCutRow.laid W) : Lib.TabIs Tryd.prog W "lookout/crc.turns" .u32 nums0 :=
  Lib.tabIs_of_head (rest := []) g0 gType0 Tryd.underlying178 Tryd.underlying143 eCells0 gCells0 h

set_option maxRecDepth 100000 in
/-- What the walk gives, for every argument and every world that the row speaks of. -/
theorem contract (H : Type) (enc : TypeId × Value → H) (W : World) (base : Nat) (args : Array Value) (ds gs : List (DataW H)) (before : List MemPlace)
    (hval : ∀ (j : Nat) t v, Tryd.f6.params[j]? = some t → args[j]? = some v → Value.okWide Tryd.prog W .any base t v)
    (hW : DataW.Whole enc Tryd.prog Tryd.f6.params.toList Rows.messageCutSpec.vars false W args.toList ds gs before) (hL : laidMetH Tryd.prog Rows.messageCutRow.laid W) :
    Calls Tryd.prog 6 args W fun e W' => ∃ v, e = .returned v ∧ Rows.messageCutSpec.post enc Tryd.prog Tryd.f6 false true false false W args v W' := by
  have hW' := hW
  obtain ⟨p, q, hA0, hV, rfl, hfz, hnd⟩ := hW
  have hA : DataW.TrodAll enc Tryd.prog W 0 (fun _ => true) true Tryd.f6.params.toList args.toList ds p := hA0
  rw [Tryd.params6] at hA hval
  obtain ⟨v0, vs0, d0, ds0, p0, q0, hargs, rfl, rfl, h0, r0⟩ := trodAll_cons hA
  obtain ⟨v1, vs1, d1, ds1, p1, q1, rfl, rfl, rfl, h1, r1⟩ := trodAll_cons r0
  obtain ⟨v2, vs2, d2, ds2, p2, q2, rfl, rfl, rfl, h2, r2⟩ := trodAll_cons r1
  obtain ⟨rfl, rfl, rfl⟩ := trodAll_nil r2
  obtain rfl : args = #[v0, v1, v2] := by cases args; simp_all
  obtain ⟨rfl, rfl⟩ := trodVars_none hV
  have k0 := h0
  have lt0 : ∀ x ∈ p0, x.block < W.heap.size := by obtain ⟨m, hm⟩ := k0; exact DataW.trod_lt m _ _ _ hm
  have k1 := h1
  have lt1 : ∀ x ∈ p1, x.block < W.heap.size := by obtain ⟨m, hm⟩ := k1; exact DataW.trod_lt m _ _ _ hm
  have k2 := h2
  have lt2 : ∀ x ∈ p2, x.block < W.heap.size := by obtain ⟨m, hm⟩ := k2; exact DataW.trod_lt m _ _ _ hm
  clear hA0
  obtain ⟨mm0, mq0, ml0, mc0, rfl, zq0, zo0⟩ := open_msg Tryd.underlying25 rfl rfl rfl rfl rfl rfl rfl rfl Tryd.underlying5 Tryd.underlying22 Tryd.underlying2 Tryd.underlying23 Tryd.underlying80 (by kernel_rfl) (by kernel_rfl) (by kernel_rfl) (by kernel_rfl) (by kernel_rfl) (by kernel_rfl) cells25 (hval 0 25 v0 rfl rfl) h0
  obtain ⟨a1, rfl, rfl, rfl, z1⟩ := open_int Tryd.underlying44 (hval 1 44 v1 rfl rfl) h1
  obtain ⟨a2, rfl, rfl, rfl, z2⟩ := open_int Tryd.underlying5 (hval 2 5 v2 rfl rfl) h2
  refine (messageCut_walk mm0 mq0 ml0 mc0 a1 (bounds_u16 z1) a2 (bounds_u8 z2) W zq0 zo0 (Tab.of (table0 hL) g0)).mono fun e W' ⟨he, bel⟩ => ?_
  subst he
  exact ⟨_, rfl, _, _, _, [], _, [], hW', trodAll_mk1 (shut_bool Tryd.underlying4 _), (trodAll_cons_mk (Below.trod laidOut (by kernel_rfl) (of_decide_eq_true (by kernel_rfl)) k0 bel lt0) (trodAll_cons_mk (Below.trod laidOut (by kernel_rfl) (of_decide_eq_true (by kernel_rfl)) k1 bel lt1) (trodAll_cons_mk (Below.trod laidOut (by kernel_rfl) (of_decide_eq_true (by kernel_rfl)) k2 bel lt2) trodAll_mk0))), rfl, bel.frame _, fun h => by cases h⟩

noncomputable def laidWorld (os : Os) : World :=
  { World.holding Tryd.prog os ⟨#[], #[], []⟩ with heap := (World.holding Tryd.prog os ⟨#[], #[], []⟩).heap.modify 3 (fun | .cells _ t frozen => .cells #[.int .u32 0, .int .u32 8801531, .int .u32 9098509, .int .u32 825846, .int .u32 9692897, .int .u32 1419802, .int .u32 1651692, .int .u32 10452759, .int .u32 10584377, .int .u32 2608578, .int .u32 2839604, .int .u32 11344079, .int .u32 3303384, .int .u32 11807523, .int .u32 12104405, .int .u32 4128302] t frozen | o => o) }
theorem laid_met (os : Os) : laidMet Tryd.prog Rows.messageCutRow.laid ((laidWorld os).forCall (fun _ _ => 0) ⟨#[], #[.agg #[.int .u8 0, .int .u64 0, .int .i64 0, .slice none 0 0], .int .u16 0, .int .u8 0], []⟩).memory :=
  laidMet_of_run' 8 (by kernel_rfl) (by kernel_rfl)
theorem reads (os : Os) {H : Type} (enc : TypeId × Value → H) : ∃ ds places, DataW.whole enc Tryd.prog ((laidWorld os).forCall (fun _ _ => 0) ⟨#[], #[.agg #[.int .u8 0, .int .u64 0, .int .i64 0, .slice none 0 0], .int .u16 0, .int .u8 0], []⟩).memory Tryd.f6.params.toList Rows.messageCutSpec.vars false (#[.agg #[.int .u8 0, .int .u64 0, .int .i64 0, .slice none 0 0], .int .u16 0, .int .u8 0] : Array Value).toList 8 = some (ds, [], places) :=
  ⟨[.agg [.lit (.int .u8 0), .lit (.int .u64 0), .lit (.int .i64 0), .nil], .lit (.int .u16 0), .lit (.int .u8 0)], [], by kernel_rfl⟩

set_option maxRecDepth 100000 in
theorem lifted (os : Os) (started : os.Started) (H : Type) (enc : TypeId × Value → H) (F : Stop.Interp) :
    ReturnsInHanded {} Tryd.checked os 6 .any ((OpenSpec.ofChange Rows.messageCutSpec).preRow enc Tryd.prog Tryd.f6 Rows.messageCutRow.domain false Rows.messageCutRow.laid) (((OpenSpec.ofChange Rows.messageCutSpec).at F).post enc Tryd.prog Tryd.f6 false true false false) := by
  have hx : DataW.whole enc Tryd.prog ((laidWorld os).forCall (fun _ _ => 0) ⟨#[], #[.agg #[.int .u8 0, .int .u64 0, .int .i64 0, .slice none 0 0], .int .u16 0, .int .u8 0], []⟩).memory Tryd.f6.params.toList Rows.messageCutSpec.vars false (#[.agg #[.int .u8 0, .int .u64 0, .int .i64 0, .slice none 0 0], .int .u16 0, .int .u8 0] : Array Value).toList 8 = some ([.agg [.lit (.int .u8 0), .lit (.int .u64 0), .lit (.int .i64 0), .nil], .lit (.int .u16 0), .lit (.int .u8 0)], [], []) := by kernel_rfl
  refine returnsInHanded_of_row (C := Tryd.checked) (s := OpenSpec.ofChange Rows.messageCutSpec) own started (by kernel_rfl) Tryd.func6
    (witness_row_at (enc := enc) (C := Tryd.checked) false (laidWorld os) #[.agg #[.int .u8 0, .int .u64 0, .int .i64 0, .slice none 0 0], .int .u16 0, .int .u8 0] rfl (by kernel_rfl) (by kernel_rfl) (by kernel_rfl)
      (OpenSpec.preRow_of_cond 8 hx (by kernel_rfl) (fun k hk => by cases hk) (by kernel_rfl) (laid_met os))) ?_
  intro W base args ds gs before hval hW _ hcond _ hL _ _
  exact contract H enc W base args ds gs before hval hW hL

theorem proved : Rows.MessageCutSaid :=
  OpenClaim.holds_of_cond 6 Tryd.f6 rfl rfl rfl rfl rfl rfl rfl ⟨rfl, rfl, rfl, rfl, rfl⟩ rfl rfl rfl rfl rfl (by kernel_rfl) Tryd.func6 (by kernel_rfl)
    (of_decide_eq_true (by kernel_rfl)) (by unfold Func.isWrapper; first | (rw [if_pos (by decide +kernel)]; kernel_rfl) | (rw [if_neg (by decide +kernel)]; exact ⟨rfl, rfl⟩))
    (fun os started H enc _ F => by rw [OpenClaim.pre_eq_preRow]; exact lifted os started H enc F)

theorem plain (f : FuncId) (fn : Func) (hf : Tryd.pinned.checked.prog.funcNamed "lookout/lookoutlaw06.MessageCut" = some f) (hfn : Tryd.pinned.checked.prog.funcs[f]? = some fn) :
    false = Tryd.pinned.checked.prog.looks [] ∧ ∀ (j : Nat) t, fn.params[j]? = some t → Tryd.pinned.checked.prog.wantsStandIn t = false := by
  obtain rfl : f = 6 := Option.some.inj ((show Tryd.prog.funcNamed "lookout/lookoutlaw06.MessageCut" = some 6 by kernel_rfl).symm.trans hf) |>.symm
  obtain rfl : fn = Tryd.f6 := (Option.some.inj (Tryd.func6.symm.trans hfn)).symm
  refine ⟨by kernel_rfl, fun j t ht => ?_⟩
  rw [Tryd.params6] at ht
  rcases j with _ | j
  · have e : t = 25 := by simpa using ht.symm
    subst e
    exact (show Tryd.prog.wantsStandIn 25 = false by kernel_rfl)
  rcases j with _ | j
  · have e : t = 44 := by simpa using ht.symm
    subst e
    exact (show Tryd.prog.wantsStandIn 44 = false by kernel_rfl)
  rcases j with _ | j
  · have e : t = 5 := by simpa using ht.symm
    subst e
    exact (show Tryd.prog.wantsStandIn 5 = false by kernel_rfl)
  · simp at ht

/-- The card: the statement. -/
theorem card : Rows.MessageCutCardSaid :=
  Claim7.holds_tied_plain_at .later [] _ _ _ _ proved (fun _ h => by cases h) (by kernel_rfl) (fun _ h => by cases h) messageCut_row_tie rfl ⟨rfl, rfl⟩ (by kernel_rfl) rfl plain (by kernel_rfl)
#print axioms card
end Go.Proofs.YtfphffkgacajdaaDoor.messageCut
