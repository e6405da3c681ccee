/- A record, plainly; the table of forms. No program. -/
import Derived.Test.YtdmpopdacbdnlaaDoorKitG
import Derived.Lib.LaidTab
namespace Go.Proofs.YtdmpopdacbdnlaaDoor
open Go.RowKit Go.ChangeShapes
set_option linter.unusedVariables false

structure Rec where
  kind : UInt8
  source : Int
  seq : Nat
  at_ : Int
  num : Int
  code : Int
  yes : Bool
  text : List UInt8
def i64B (z : Int) : Prop := -9223372036854775808 ≤ z ∧ z ≤ 9223372036854775807
structure Rec.ok (r : Rec) : Prop where
  source : i64B r.source
  seq : r.seq ≤ 18446744073709551615
  at_ : i64B r.at_
  num : i64B r.num
  code : i64B r.code
  text : r.text.length ≤ maxLen
def strV (l : List UInt8) : Value := .string ⟨l.toArray⟩
def recV (r : Rec) : List Value := [.int .u8 (r.kind.toNat : Int), .int .i64 r.source, .int .u64 (r.seq : Int), .int .i64 r.at_, .int .i64 r.num, .int .i64 r.code, .bool r.yes, strV r.text]
theorem recV_len (r : Rec) : (recV r).length = 8 := rfl
def Rec.zero (k : UInt8) : Rec := ⟨k, 0, 0, 0, 0, 0, false, []⟩
/-- one field is copied -/
def copy1 (r o : Rec) (c : UInt8) : Rec :=
  if c = 115 then { o with source := r.source }
  else if c = 113 then { o with seq := r.seq }
  else if c = 97 then { o with at_ := r.at_ }
  else if c = 110 then { o with num := r.num }
  else if c = 99 then { o with code := r.code }
  else if c = 121 then { o with yes := r.yes }
  else if c = 116 then { o with text := r.text }
  else o
/-- the forms: a word, and the fields -/
def formsT : List (List UInt8 × List UInt8) :=
  [([109, 97, 108, 102, 111, 114, 109, 101, 100], [115, 110]), ([119, 114, 111, 110, 103], [115, 99]), ([114, 101, 102, 117, 115, 101, 100], [115, 99]), ([114, 101, 106, 101, 99, 116, 101, 100], [115, 113, 97, 99]),
   ([115, 104, 101, 100], [115, 113, 97]), ([108, 97, 116, 101], [115, 113, 97]), ([97, 99, 99, 101, 112, 116, 101, 100], [115, 113, 97]), ([103, 97, 112], [115, 113]),
   ([115, 117, 115, 112, 101, 99, 116], [115, 97]), ([114, 101, 106, 111, 105, 110], [115]), ([111, 118, 101, 114, 102, 108, 111, 119], [99, 97]), ([112, 114, 111, 118, 105, 115, 105, 111, 110, 97, 108], [97, 121]),
   ([114, 101, 116, 114, 97, 99, 116, 105, 111, 110], [97, 121]), ([102, 105, 110, 97, 108], [97, 121]), ([108, 97, 116, 101, 110, 99, 121], [97, 110]), ([115, 117, 109, 109, 97, 114, 121], [116])]
def wordOf (k : UInt8) : List UInt8 := (formsT.getD (k.toNat - 17) ([], [])).1
def fieldsOf (k : UInt8) : List UInt8 := (formsT.getD (k.toNat - 17) ([], [])).2
/-- may a kind be? -/
def kindB (k : UInt8) : Bool := decide (17 ≤ k.toNat) && decide (k.toNat ≤ 32)
theorem kind_split (k : UInt8) (h : 17 ≤ k.toNat) (h' : k.toNat ≤ 32) : k = 17 ∨ k = 18 ∨ k = 19 ∨ k = 20 ∨ k = 21 ∨ k = 22 ∨ k = 23 ∨ k = 24 ∨ k = 25 ∨ k = 26 ∨ k = 27 ∨ k = 28 ∨ k = 29 ∨ k = 30 ∨ k = 31 ∨ k = 32 := by
  have e : ∀ n : UInt8, k.toNat = n.toNat → k = n := fun n h => UInt8.toNat_inj.1 h
  have : k.toNat = 17 ∨ k.toNat = 18 ∨ k.toNat = 19 ∨ k.toNat = 20 ∨ k.toNat = 21 ∨ k.toNat = 22 ∨ k.toNat = 23 ∨ k.toNat = 24 ∨ k.toNat = 25 ∨ k.toNat = 26 ∨ k.toNat = 27 ∨ k.toNat = 28 ∨ k.toNat = 29 ∨ k.toNat = 30 ∨ k.toNat = 31 ∨ k.toNat = 32 := by omega
  rcases this with h | h | h | h | h | h | h | h | h | h | h | h | h | h | h | h
  all_goals first | (have := e 17 h; subst this; decide) | (have := e 18 h; subst this; decide) | (have := e 19 h; subst this; decide) | (have := e 20 h; subst this; decide) | (have := e 21 h; subst this; decide) | (have := e 22 h; subst this; decide) | (have := e 23 h; subst this; decide) | (have := e 24 h; subst this; decide) | (have := e 25 h; subst this; decide) | (have := e 26 h; subst this; decide) | (have := e 27 h; subst this; decide) | (have := e 28 h; subst this; decide) | (have := e 29 h; subst this; decide) | (have := e 30 h; subst this; decide) | (have := e 31 h; subst this; decide) | (have := e 32 h; subst this; decide)
/-- equal, field by field -/
def eqRec (a b : Rec) : Bool := decide (a.kind = b.kind) && decide (a.source = b.source) && decide (a.seq = b.seq) && decide (a.at_ = b.at_) && decide (a.num = b.num) && decide (a.code = b.code) && (a.yes == b.yes) && decide (a.text = b.text)
theorem eqRec_iff (a b : Rec) : eqRec a b = true ↔ a = b := by
  obtain ⟨a0, a1, a2, a3, a4, a5, a6, a7⟩ := a
  obtain ⟨b0, b1, b2, b3, b4, b5, b6, b7⟩ := b
  simp [eqRec, and_assoc]
/-- what is left of a record where only its kind's fields are copied -/
def onlyOf (r : Rec) : Rec := (fieldsOf r.kind).foldl (copy1 r) (Rec.zero r.kind)
/-- may a record be? -/
def mayB (r : Rec) : Bool := kindB r.kind && (eqRec (onlyOf r) r && decide (0 ≤ r.source ∧ r.source < 8 ∧ 0 ≤ r.at_ ∧ 0 ≤ r.num ∧ 0 ≤ r.code ∧ r.code ≤ 255 ∧ r.text.length ≤ 240))
/-! the table -/
structure Forms (g : Nat) (w : World) : Prop where
  lt : g < w.heap.size
  cells : ∀ i, i < 16 → w.cell? ⟨g, i * 2, none⟩ = some (strV (formsT.getD i ([], [])).1) ∧ w.cell? ⟨g, i * 2 + 1, none⟩ = some (strV (formsT.getD i ([], [])).2)
theorem Forms.below {g : Nat} {w w' : World} (h : Forms g w) (hb : Below w.heap.size w w') : Forms g w' :=
  ⟨Nat.lt_of_lt_of_le h.lt hb.size, fun i hi => ⟨(hb.cell (p := ⟨g, i * 2, none⟩) h.lt).trans (h.cells i hi).1, (hb.cell (p := ⟨g, i * 2 + 1, none⟩) h.lt).trans (h.cells i hi).2⟩⟩
def formsD {H : Type} (l : List (List UInt8 × List UInt8)) : DataW H := .agg (l.map fun f => .agg [.lit (.string f.1), .lit (.string f.2)])
theorem str_of {s : ByteArray} {l : List UInt8} (h : s.data.toList = l) : Value.string s = strV l := by
  subst h; rfl
theorem trod_str_inv {H : Type} {enc : TypeId × Value → H} {P : Program} {w : World} {base : Nat} {sp : Nat → Bool} {held : Bool} {n t : Nat} {cs : List Value} {y : DataW H × List MemPlace} {l : List UInt8} (ht : P.underlying t = some .string) (h : DataW.trod enc P w base sp held n t cs = some y) (hy : y.1 = .lit (.string l)) : cs = [strV l] := by
  obtain ⟨s, rfl, rfl, _⟩ := DataW.trod_string ht h
  simp only [DataW.lit.injEq, Lit.string.injEq] at hy
  rw [str_of hy]
theorem cells_of_forms {H : Type} {enc : TypeId × Value → H} {P : Program} {w : World} {base : Nat} {sp : Nat → Bool} {held : Bool} {fuel t e ts n : Nat} {f0 f1 : Field} {cs : List Value} {l : List (List UInt8 × List UInt8)} {p : List MemPlace}
    (ht : P.underlying t = some (.array n e)) (he : P.underlying e = some (.struct #[f0, f1])) (t0 : f0.type = ts) (t1 : f1.type = ts) (o0 : f0.offset = 0) (o1 : f1.offset = 1) (hs : P.underlying ts = some .string) (cts : P.cellsOf ts = 1) (ce : P.cellsOf e = 2)
    (h : DataW.trod enc P w base sp held fuel t cs = some (formsD l, p)) (i : Nat) (hi : i < n) (f : List UInt8 × List UInt8) (hf : l[i]? = some f) : cs[i * 2]? = some (strV f.1) ∧ cs[i * 2 + 1]? = some (strV f.2) := by
  obtain ⟨xs, m, _, hx, _, hxl, hg⟩ := DataW.trod_array ht h
  have h1 : (xs.map (·.1))[i]? = some (.agg [.lit (.string f.1), .lit (.string f.2)]) := by
    simp only [formsD, Prod.mk.injEq, DataW.agg.injEq] at hx
    rw [← hx.1]
    simp [hf]
  have hxi : xs[i]? = some (xs[i]'(by omega)) := List.getElem?_eq_getElem _
  have h2 := hg i hi
  rw [hxi, ce] at h2
  rw [List.getElem?_map, hxi] at h1
  simp only [Option.map_some, Option.some.injEq] at h1
  obtain ⟨y0, y1, q, hy, _, g0, g1⟩ := trod_struct2 he h2
  rw [hy] at h1
  simp only [DataW.agg.injEq, List.cons.injEq, and_true] at h1
  rw [t0, o0, cts] at g0
  rw [t1, o1, cts] at g1
  have e0 := trod_str_inv hs g0 h1.1
  have e1 := trod_str_inv hs g1 h1.2
  refine ⟨?_, ?_⟩
  · have := congrArg (·[0]?) e0
    simpa [List.getElem?_take, List.getElem?_drop] using this
  · have := congrArg (·[0]?) e1
    simpa [List.getElem?_take, List.getElem?_drop] using this
theorem forms_of {P : Program} {W : World} {name : String} {rest : List (String × DataW Unit)} {g t e ts : Nat} {f0 f1 : Field}
    (hg : P.globalNamed name = some g) (hty : (P.globals[g]?).map (·.type) = some t) (ht : P.underlying t = some (.array 16 e)) (he : P.underlying e = some (.struct #[f0, f1])) (t0 : f0.type = ts) (t1 : f1.type = ts) (o0 : f0.offset = 0) (o1 : f1.offset = 1) (hs : P.underlying ts = some .string) (cts : P.cellsOf ts = 1) (ce : P.cellsOf e = 2)
    (h : laidMet P ((name, formsD formsT) :: rest) W) : Forms g W := by
  obtain ⟨ps, ⟨g', t', cs, fuel, p, q, hg', ht', hvar, hd, _, _⟩, _⟩ := h
  obtain rfl := Option.some.inj (hg.symm.trans hg')
  obtain rfl := Option.some.inj (hty.symm.trans ht')
  have hcell := fun i : Nat => World.var?_cell hg hvar i
  have at_ : ∀ i, i < 16 → cs[i * 2]? = some (strV (formsT.getD i ([], [])).1) ∧ cs[i * 2 + 1]? = some (strV (formsT.getD i ([], [])).2) := fun i hi =>
    by have := cells_of_forms ht he t0 t1 o0 o1 hs cts ce hd i hi (formsT.getD i ([], [])) (by rw [List.getD_eq_getElem?_getD, List.getElem?_eq_getElem (show i < formsT.length from hi)]; rfl); simpa using this
  refine ⟨World.block_lt_of_cell? W ⟨g, 0, none⟩ (by rw [hcell]; simpa using (at_ 0 (by omega)).1), fun i hi => ?_⟩
  rw [hcell, hcell]
  simpa using at_ i hi
end Go.Proofs.YtdmpopdacbdnlaaDoor
