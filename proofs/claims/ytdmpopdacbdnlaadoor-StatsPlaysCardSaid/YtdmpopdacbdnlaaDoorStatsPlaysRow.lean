/- 'lookout/lookoutlaw25.StatsPlays' returns true for every input; each argument reads behind the call as it read before: the row's frame round the walk 'statsPlays_walk'; the package-level variables that the row lists hold what the text lays. -/
import Derived.Test.YtdmpopdacbdnlaaDoorStPlays
import Derived.Test.YtdmpopdacbdnlaaDoorCards
import Derived.Test.YtdmpopdacbdnlaaDoorTie
import Derived.ProofKit
import Derived.OpenShut
import Derived.ShutString
import Derived.ChangeOld
import Derived.Lib.SmallJoins
import Derived.Carry
import Derived.Deep.DeepHandedRow
import Derived.Lib.LaidTab
namespace Go.Proofs.YtdmpopdacbdnlaaDoor.statsPlays
open Go.ChangeShapes Go.WideShapes Go.ChangeAt Go.RowKit
open Go.ChangeMaps (open_string shut_string)
set_option linter.unusedVariables false

theorem own : ownKnob Tryd.prog.godebug = none := by kernel_rfl
theorem laidOut : laidOutB Tryd.prog = true := by kernel_rfl
theorem g0 : Tryd.prog.globalNamed "math/bits.deBruijn32tab" = some 3 := by kernel_rfl
theorem gType0 : (Tryd.prog.globals[3]?).map (·.type) = some 200 := by kernel_rfl
theorem gCells0 : Tryd.prog.cellsOf 200 = 32 := by kernel_rfl
theorem eCells0 : Tryd.prog.cellsOf 5 = 1 := by kernel_rfl
def nums0 : List Int := [0, 1, 28, 2, 29, 14, 24, 3, 30, 22, 20, 15, 25, 17, 4, 8, 31, 27, 13, 23, 21, 19, 16, 7, 26, 12, 18, 6, 11, 5, 10, 9]
theorem g1 : Tryd.prog.globalNamed "math/bits.deBruijn64tab" = some 4 := by kernel_rfl
theorem gType1 : (Tryd.prog.globals[4]?).map (·.type) = some 201 := by kernel_rfl
theorem gCells1 : Tryd.prog.cellsOf 201 = 64 := by kernel_rfl
theorem eCells1 : Tryd.prog.cellsOf 5 = 1 := by kernel_rfl
def nums1 : List Int := [0, 1, 56, 2, 57, 49, 28, 3, 61, 58, 42, 50, 38, 29, 17, 4, 62, 47, 59, 36, 45, 43, 51, 22, 53, 39, 33, 30, 24, 18, 12, 5, 63, 55, 48, 27, 60, 41, 37, 16, 46, 35, 44, 21, 52, 32, 23, 11, 54, 26, 40, 15, 34, 20, 31, 10, 25, 14, 19, 9, 13, 8, 7, 6]
theorem g2 : Tryd.prog.globalNamed "internal/strconv.uint64pow10" = some 1 := by kernel_rfl
theorem gType2 : (Tryd.prog.globals[1]?).map (·.type) = some 193 := by kernel_rfl
theorem gCells2 : Tryd.prog.cellsOf 193 = 20 := by kernel_rfl
theorem eCells2 : Tryd.prog.cellsOf 67 = 1 := by kernel_rfl
def nums2 : List Int := [1, 10, 100, 1000, 10000, 100000, 1000000, 10000000, 100000000, 1000000000, 10000000000, 100000000000, 1000000000000, 10000000000000, 100000000000000, 1000000000000000, 10000000000000000, 100000000000000000, 1000000000000000000, 10000000000000000000]
theorem g3 : Tryd.prog.globalNamed "lookout/record.forms" = some 0 := by kernel_rfl
theorem gType3 : (Tryd.prog.globals[0]?).map (·.type) = some 168 := by kernel_rfl
theorem sCells3 : Tryd.prog.cellsOf 9 = 1 := by kernel_rfl
theorem eCells3 : Tryd.prog.cellsOf 132 = 2 := by kernel_rfl
theorem sUnder3 : Tryd.prog.underlying 9 = some .string := by kernel_rfl
theorem laidMet_tail {P : Program} {x : String × DataW Unit} {rest : List (String × DataW Unit)} {W : World} (h : laidMet P (x :: rest) W) : laidMet P rest W := by
  obtain ⟨ps, ⟨g', t', cs, fuel, p, q, hg', ht', hvar, hd, hq, hps⟩, hnd, hc⟩ := h
  subst hps
  exact ⟨q, hq, (List.nodup_append.1 hnd).2.1, fun b off hm => hc b off (List.mem_append_right _ hm)⟩
theorem lm0 {W : World} (h : laidMetH Tryd.prog Rows.statsPlaysRow.laid W) : laidMet Tryd.prog [("math/bits.deBruijn32tab", Rows.laid_math_bits_deBruijn32tab), ("math/bits.deBruijn64tab", Rows.laid_math_bits_deBruijn64tab), ("internal/strconv.uint64pow10", Rows.laid_internal_strconv_uint64pow10), ("lookout/record.forms", Rows.laid_lookout_record_forms)] W := h
theorem lm1 {W : World} (h : laidMetH Tryd.prog Rows.statsPlaysRow.laid W) : laidMet Tryd.prog [("math/bits.deBruijn64tab", Rows.laid_math_bits_deBruijn64tab), ("internal/strconv.uint64pow10", Rows.laid_internal_strconv_uint64pow10), ("lookout/record.forms", Rows.laid_lookout_record_forms)] W := laidMet_tail (lm0 h)
theorem lm2 {W : World} (h : laidMetH Tryd.prog Rows.statsPlaysRow.laid W) : laidMet Tryd.prog [("internal/strconv.uint64pow10", Rows.laid_internal_strconv_uint64pow10), ("lookout/record.forms", Rows.laid_lookout_record_forms)] W := laidMet_tail (lm1 h)
theorem lm3 {W : World} (h : laidMetH Tryd.prog Rows.statsPlaysRow.laid W) : laidMet Tryd.prog [("lookout/record.forms", Rows.laid_lookout_record_forms)] W := laidMet_tail (lm2 h)
theorem table0 {W : World} (h : laidMetH Tryd.prog Rows.statsPlaysRow.laid W) : Lib.TabIs Tryd.prog W "math/bits.deBruijn32tab" .u8 nums0 :=
  Lib.tabIs_of_head (rest := [("math/bits.deBruijn64tab", Rows.laid_math_bits_deBruijn64tab), ("internal/strconv.uint64pow10", Rows.laid_internal_strconv_uint64pow10), ("lookout/record.forms", Rows.laid_lookout_record_forms)]) g0 gType0 Tryd.underlying200 Tryd.underlying5 eCells0 gCells0 (lm0 h)
theorem table1 {W : World} (h : laidMetH Tryd.prog Rows.statsPlaysRow.laid W) : Lib.TabIs Tryd.prog W "math/bits.deBruijn64tab" .u8 nums1 :=
  Lib.tabIs_of_head (rest := [("internal/strconv.uint64pow10", Rows.laid_internal_strconv_uint64pow10), ("lookout/record.forms", Rows.laid_lookout_record_forms)]) g1 gType1 Tryd.underlying201 Tryd.underlying5 eCells1 gCells1 (lm1 h)
theorem table2 {W : World} (h : laidMetH Tryd.prog Rows.statsPlaysRow.laid W) : Lib.TabIs Tryd.prog W "internal/strconv.uint64pow10" .u64 nums2 :=
  Lib.tabIs_of_head (rest := [("lookout/record.forms", Rows.laid_lookout_record_forms)]) g2 gType2 Tryd.underlying193 Tryd.underlying67 eCells2 gCells2 (lm2 h)
set_option maxRecDepth 100000 in
theorem table3 {W : World} (h : laidMetH Tryd.prog Rows.statsPlaysRow.laid W) : Forms 0 W :=
  forms_of (rest := []) g3 gType3 Tryd.underlying168 Tryd.underlying131 rfl rfl rfl rfl sUnder3 sCells3 eCells3 (lm3 h)

set_option maxRecDepth 100000 in
/-- What the walk gives, for every argument and every world that the row speaks of. -/
theorem contract (H : Type) (enc : TypeId × Value → H) (W : World) (base : Nat) (args : Array Value) (ds gs : List (DataW H)) (before : List MemPlace)
    (hval : ∀ (j : Nat) t v, Tryd.f5.params[j]? = some t → args[j]? = some v → Value.okWide Tryd.prog W .any base t v)
    (hW : DataW.Whole enc Tryd.prog Tryd.f5.params.toList Rows.statsPlaysSpec.vars false W args.toList ds gs before) (hL : laidMetH Tryd.prog Rows.statsPlaysRow.laid W) :
    Calls Tryd.prog 5 args W fun e W' => ∃ v, e = .returned v ∧ Rows.statsPlaysSpec.post enc Tryd.prog Tryd.f5 false true false false W args v W' := by
  have hW' := hW
  obtain ⟨p, q, hA0, hV, rfl, hfz, hnd⟩ := hW
  have hA : DataW.TrodAll enc Tryd.prog W 0 (fun _ => true) true Tryd.f5.params.toList args.toList ds p := hA0
  rw [Tryd.params5] at hA hval
  obtain ⟨v0, vs0, d0, ds0, p0, q0, hargs, rfl, rfl, h0, r0⟩ := trodAll_cons hA
  obtain ⟨v1, vs1, d1, ds1, p1, q1, rfl, rfl, rfl, h1, r1⟩ := trodAll_cons r0
  obtain ⟨v2, vs2, d2, ds2, p2, q2, rfl, rfl, rfl, h2, r2⟩ := trodAll_cons r1
  obtain ⟨v3, vs3, d3, ds3, p3, q3, rfl, rfl, rfl, h3, r3⟩ := trodAll_cons r2
  obtain ⟨v4, vs4, d4, ds4, p4, q4, rfl, rfl, rfl, h4, r4⟩ := trodAll_cons r3
  obtain ⟨rfl, rfl, rfl⟩ := trodAll_nil r4
  obtain rfl : args = #[v0, v1, v2, v3, v4] := by cases args; simp_all
  obtain ⟨rfl, rfl⟩ := trodVars_none hV
  have k0 := h0
  have lt0 : ∀ x ∈ p0, x.block < W.heap.size := by obtain ⟨m, hm⟩ := k0; exact DataW.trod_lt m _ _ _ hm
  have k1 := h1
  have lt1 : ∀ x ∈ p1, x.block < W.heap.size := by obtain ⟨m, hm⟩ := k1; exact DataW.trod_lt m _ _ _ hm
  have k2 := h2
  have lt2 : ∀ x ∈ p2, x.block < W.heap.size := by obtain ⟨m, hm⟩ := k2; exact DataW.trod_lt m _ _ _ hm
  have k3 := h3
  have lt3 : ∀ x ∈ p3, x.block < W.heap.size := by obtain ⟨m, hm⟩ := k3; exact DataW.trod_lt m _ _ _ hm
  have k4 := h4
  have lt4 : ∀ x ∈ p4, x.block < W.heap.size := by obtain ⟨m, hm⟩ := k4; exact DataW.trod_lt m _ _ _ hm
  clear hA0
  obtain ⟨a0, len0, cap0, rfl⟩ := okWide_slice Tryd.underlying59 (hval 0 59 v0 rfl rfl)
  obtain ⟨cs0, z0, y0⟩ : ∃ cs, RowG 8 W a0 len0 cs ∧ ∀ c ∈ cs, OkAll [.int .u8, .int .i64, .int .u64, .int .i64, .int .i64, .int .i64, .bool, .str] c := by
    obtain ⟨fuel, hf⟩ := h0
    exact (open_rows Tryd.underlying59 (show Tryd.prog.cellsOf 69 = 8 by kernel_rfl) (by omega) hf).flat Tryd.underlying69 (by kernel_rfl) rfl
  obtain ⟨a1, rfl, rfl, rfl, z1⟩ := open_int Tryd.underlying5 (hval 1 5 v1 rfl rfl) h1
  obtain ⟨a2, rfl, rfl, rfl, z2⟩ := open_int Tryd.underlying3 (hval 2 3 v2 rfl rfl) h2
  obtain ⟨a3, rfl, rfl, rfl, z3⟩ := open_int Tryd.underlying3 (hval 3 3 v3 rfl rfl) h3
  obtain ⟨a4, rfl, rfl, rfl, z4⟩ := open_int Tryd.underlying3 (hval 4 3 v4 rfl rfl) h4
  refine (statsPlays_walk a0 len0 cap0 cs0 a1 (bounds_u8 z1) a2 (bounds_i64 z2) a3 (bounds_i64 z3) a4 (bounds_i64 z4) W z0 y0 ⟨table3 hL, table2 hL⟩).mono fun e W' ⟨he, bel⟩ => ?_
  subst he
  exact ⟨_, rfl, _, _, _, [], _, [], hW', trodAll_mk1 (shut_bool Tryd.underlying4 _), (trodAll_cons_mk (Below.trod laidOut (by kernel_rfl) (of_decide_eq_true (by kernel_rfl)) k0 bel lt0) (trodAll_cons_mk (Below.trod laidOut (by kernel_rfl) (of_decide_eq_true (by kernel_rfl)) k1 bel lt1) (trodAll_cons_mk (Below.trod laidOut (by kernel_rfl) (of_decide_eq_true (by kernel_rfl)) k2 bel lt2) (trodAll_cons_mk (Below.trod laidOut (by kernel_rfl) (of_decide_eq_true (by kernel_rfl)) k3 bel lt3) (trodAll_cons_mk (Below.trod laidOut (by kernel_rfl) (of_decide_eq_true (by kernel_rfl)) k4 bel lt4) trodAll_mk0))))), rfl, bel.frame _, fun h => by cases h⟩

noncomputable def laidWorld (os : Os) : World :=
  { World.holding Tryd.prog os ⟨#[], #[], []⟩ with heap := (((((World.holding Tryd.prog os ⟨#[], #[], []⟩).heap).modify 3 (fun | .cells _ t frozen => .cells #[.int .u8 0, .int .u8 1, .int .u8 28, .int .u8 2, .int .u8 29, .int .u8 14, .int .u8 24, .int .u8 3, .int .u8 30, .int .u8 22, .int .u8 20, .int .u8 15, .int .u8 25, .int .u8 17, .int .u8 4, .int .u8 8, .int .u8 31, .int .u8 27, .int .u8 13, .int .u8 23, .int .u8 21, .int .u8 19, .int .u8 16, .int .u8 7, .int .u8 26, .int .u8 12, .int .u8 18, .int .u8 6, .int .u8 11, .int .u8 5, .int .u8 10, .int .u8 9] t frozen | o => o)).modify 4 (fun | .cells _ t frozen => .cells #[.int .u8 0, .int .u8 1, .int .u8 56, .int .u8 2, .int .u8 57, .int .u8 49, .int .u8 28, .int .u8 3, .int .u8 61, .int .u8 58, .int .u8 42, .int .u8 50, .int .u8 38, .int .u8 29, .int .u8 17, .int .u8 4, .int .u8 62, .int .u8 47, .int .u8 59, .int .u8 36, .int .u8 45, .int .u8 43, .int .u8 51, .int .u8 22, .int .u8 53, .int .u8 39, .int .u8 33, .int .u8 30, .int .u8 24, .int .u8 18, .int .u8 12, .int .u8 5, .int .u8 63, .int .u8 55, .int .u8 48, .int .u8 27, .int .u8 60, .int .u8 41, .int .u8 37, .int .u8 16, .int .u8 46, .int .u8 35, .int .u8 44, .int .u8 21, .int .u8 52, .int .u8 32, .int .u8 23, .int .u8 11, .int .u8 54, .int .u8 26, .int .u8 40, .int .u8 15, .int .u8 34, .int .u8 20, .int .u8 31, .int .u8 10, .int .u8 25, .int .u8 14, .int .u8 19, .int .u8 9, .int .u8 13, .int .u8 8, .int .u8 7, .int .u8 6] t frozen | o => o)).modify 1 (fun | .cells _ t frozen => .cells #[.int .u64 1, .int .u64 10, .int .u64 100, .int .u64 1000, .int .u64 10000, .int .u64 100000, .int .u64 1000000, .int .u64 10000000, .int .u64 100000000, .int .u64 1000000000, .int .u64 10000000000, .int .u64 100000000000, .int .u64 1000000000000, .int .u64 10000000000000, .int .u64 100000000000000, .int .u64 1000000000000000, .int .u64 10000000000000000, .int .u64 100000000000000000, .int .u64 1000000000000000000, .int .u64 10000000000000000000] t frozen | o => o)).modify 0 (fun | .cells _ t frozen => .cells #[.string ⟨#[109, 97, 108, 102, 111, 114, 109, 101, 100]⟩, .string ⟨#[115, 110]⟩, .string ⟨#[119, 114, 111, 110, 103]⟩, .string ⟨#[115, 99]⟩, .string ⟨#[114, 101, 102, 117, 115, 101, 100]⟩, .string ⟨#[115, 99]⟩, .string ⟨#[114, 101, 106, 101, 99, 116, 101, 100]⟩, .string ⟨#[115, 113, 97, 99]⟩, .string ⟨#[115, 104, 101, 100]⟩, .string ⟨#[115, 113, 97]⟩, .string ⟨#[108, 97, 116, 101]⟩, .string ⟨#[115, 113, 97]⟩, .string ⟨#[97, 99, 99, 101, 112, 116, 101, 100]⟩, .string ⟨#[115, 113, 97]⟩, .string ⟨#[103, 97, 112]⟩, .string ⟨#[115, 113]⟩, .string ⟨#[115, 117, 115, 112, 101, 99, 116]⟩, .string ⟨#[115, 97]⟩, .string ⟨#[114, 101, 106, 111, 105, 110]⟩, .string ⟨#[115]⟩, .string ⟨#[111, 118, 101, 114, 102, 108, 111, 119]⟩, .string ⟨#[99, 97]⟩, .string ⟨#[112, 114, 111, 118, 105, 115, 105, 111, 110, 97, 108]⟩, .string ⟨#[97, 121]⟩, .string ⟨#[114, 101, 116, 114, 97, 99, 116, 105, 111, 110]⟩, .string ⟨#[97, 121]⟩, .string ⟨#[102, 105, 110, 97, 108]⟩, .string ⟨#[97, 121]⟩, .string ⟨#[108, 97, 116, 101, 110, 99, 121]⟩, .string ⟨#[97, 110]⟩, .string ⟨#[115, 117, 109, 109, 97, 114, 121]⟩, .string ⟨#[116]⟩] t frozen | o => o) }
theorem laid_met (os : Os) : laidMet Tryd.prog Rows.statsPlaysRow.laid ((laidWorld os).forCall (fun _ _ => 0) ⟨#[], #[.slice none 0 0, .int .u8 0, .int .i64 0, .int .i64 0, .int .i64 0], []⟩).memory :=
  laidMet_of_run' 8 (by kernel_rfl) (by kernel_rfl)
theorem reads (os : Os) {H : Type} (enc : TypeId × Value → H) : ∃ ds places, DataW.whole enc Tryd.prog ((laidWorld os).forCall (fun _ _ => 0) ⟨#[], #[.slice none 0 0, .int .u8 0, .int .i64 0, .int .i64 0, .int .i64 0], []⟩).memory Tryd.f5.params.toList Rows.statsPlaysSpec.vars false (#[.slice none 0 0, .int .u8 0, .int .i64 0, .int .i64 0, .int .i64 0] : Array Value).toList 8 = some (ds, [], places) :=
  ⟨[.nil, .lit (.int .u8 0), .lit (.int .i64 0), .lit (.int .i64 0), .lit (.int .i64 0)], [], by kernel_rfl⟩

set_option maxRecDepth 100000 in
theorem lifted (os : Os) (started : os.Started) (H : Type) (enc : TypeId × Value → H) (F : Stop.Interp) :
    ReturnsInHanded {} Tryd.checked os 5 .any ((OpenSpec.ofChange Rows.statsPlaysSpec).preRow enc Tryd.prog Tryd.f5 Rows.statsPlaysRow.domain false Rows.statsPlaysRow.laid) (((OpenSpec.ofChange Rows.statsPlaysSpec).at F).post enc Tryd.prog Tryd.f5 false true false false) := by
  have hx : DataW.whole enc Tryd.prog ((laidWorld os).forCall (fun _ _ => 0) ⟨#[], #[.slice none 0 0, .int .u8 0, .int .i64 0, .int .i64 0, .int .i64 0], []⟩).memory Tryd.f5.params.toList Rows.statsPlaysSpec.vars false (#[.slice none 0 0, .int .u8 0, .int .i64 0, .int .i64 0, .int .i64 0] : Array Value).toList 8 = some ([.nil, .lit (.int .u8 0), .lit (.int .i64 0), .lit (.int .i64 0), .lit (.int .i64 0)], [], []) := by kernel_rfl
  refine returnsInHanded_of_row (C := Tryd.checked) (s := OpenSpec.ofChange Rows.statsPlaysSpec) own started (by kernel_rfl) Tryd.func5
    (witness_row_at (enc := enc) (C := Tryd.checked) false (laidWorld os) #[.slice none 0 0, .int .u8 0, .int .i64 0, .int .i64 0, .int .i64 0] rfl (by kernel_rfl) (by kernel_rfl) (by kernel_rfl)
      (OpenSpec.preRow_of_cond 8 hx (by kernel_rfl) (fun k hk => by cases hk) (by kernel_rfl) (laid_met os))) ?_
  intro W base args ds gs before hval hW _ hcond _ hL _ _
  exact contract H enc W base args ds gs before hval hW hL

theorem proved : Rows.StatsPlaysSaid :=
  OpenClaim.holds_of_cond 5 Tryd.f5 rfl rfl rfl rfl rfl rfl rfl ⟨rfl, rfl, rfl, rfl, rfl⟩ rfl rfl rfl rfl rfl (by kernel_rfl) Tryd.func5 (by kernel_rfl)
    (of_decide_eq_true (by kernel_rfl)) (by unfold Func.isWrapper; first | (rw [if_pos (by decide +kernel)]; kernel_rfl) | (rw [if_neg (by decide +kernel)]; exact ⟨rfl, rfl⟩))
    (fun os started H enc _ F => by rw [OpenClaim.pre_eq_preRow]; exact lifted os started H enc F)

theorem plain (f : FuncId) (fn : Func) (hf : Tryd.pinned.checked.prog.funcNamed "lookout/lookoutlaw25.StatsPlays" = some f) (hfn : Tryd.pinned.checked.prog.funcs[f]? = some fn) :
    false = Tryd.pinned.checked.prog.looks [] ∧ ∀ (j : Nat) t, fn.params[j]? = some t → Tryd.pinned.checked.prog.wantsStandIn t = false := by
  obtain rfl : f = 5 := Option.some.inj ((show Tryd.prog.funcNamed "lookout/lookoutlaw25.StatsPlays" = some 5 by kernel_rfl).symm.trans hf) |>.symm
  obtain rfl : fn = Tryd.f5 := (Option.some.inj (Tryd.func5.symm.trans hfn)).symm
  refine ⟨by kernel_rfl, fun j t ht => ?_⟩
  rw [Tryd.params5] at ht
  rcases j with _ | j
  · have e : t = 59 := by simpa using ht.symm
    subst e
    exact (show Tryd.prog.wantsStandIn 59 = false by kernel_rfl)
  rcases j with _ | j
  · have e : t = 5 := by simpa using ht.symm
    subst e
    exact (show Tryd.prog.wantsStandIn 5 = false by kernel_rfl)
  rcases j with _ | j
  · have e : t = 3 := by simpa using ht.symm
    subst e
    exact (show Tryd.prog.wantsStandIn 3 = false by kernel_rfl)
  rcases j with _ | j
  · have e : t = 3 := by simpa using ht.symm
    subst e
    exact (show Tryd.prog.wantsStandIn 3 = false by kernel_rfl)
  rcases j with _ | j
  · have e : t = 3 := by simpa using ht.symm
    subst e
    exact (show Tryd.prog.wantsStandIn 3 = false by kernel_rfl)
  · simp at ht

/-- The card: the statement. -/
theorem card : Rows.StatsPlaysCardSaid :=
  Claim7.holds_tied_plain_at .later [] _ _ _ _ proved (fun _ h => by cases h) (by kernel_rfl) (fun _ h => by cases h) statsPlays_row_tie rfl ⟨rfl, rfl⟩ (by kernel_rfl) rfl plain (by kernel_rfl)
#print axioms card
end Go.Proofs.YtdmpopdacbdnlaaDoor.statsPlays
