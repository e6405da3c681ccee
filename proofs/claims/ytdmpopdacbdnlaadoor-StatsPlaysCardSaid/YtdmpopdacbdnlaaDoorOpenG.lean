/- Structs of plain fields, as values and in slices, that the frame hands over. No program. -/
import Derived.Test.YtdmpopdacbdnlaaDoorKitG
import Derived.Lib.SmallJoins
namespace Go.Proofs.YtdmpopdacbdnlaaDoor
open Go.RowKit Go.ChangeShapes Go.WideShapes
set_option linter.unusedVariables false

/-- what a plain field is -/
inductive Sh where
  | int (k : IntKind)
  | bool
  | str
def Sh.ok : Sh → Value → Prop
  | .int k, v => ∃ n, v = .int k n ∧ (Lit.int k n).wf = true
  | .bool, v => ∃ b, v = .bool b
  | .str, v => ∃ s : ByteArray, v = .string s ∧ s.size ≤ maxLen
def shOf (P : Program) (t : TypeId) : Option Sh :=
  match P.underlying t with
  | some (.int k) => some (.int k)
  | some .bool => some .bool
  | some .string => some .str
  | _ => none
/-- the fields' shapes, one cell each, in their order -/
def flatSh (P : Program) : Nat → List Field → Option (List Sh)
  | _, [] => some []
  | i, f :: fs => if f.offset = i ∧ P.cellsOf f.type = 1 then (shOf P f.type).bind fun s => (flatSh P (i + 1) fs).map fun l => s :: l else none
theorem sh_cell {H : Type} {enc : TypeId × Value → H} {P : Program} {w : World} {base : Nat} {sp : Nat → Bool} {held : Bool} {n t : Nat} {s : Sh} {cs : List Value} {y : DataW H × List MemPlace} (hs : shOf P t = some s) (h : DataW.trod enc P w base sp held n t cs = some y) : ∃ v, cs = [v] ∧ s.ok v := by
  unfold shOf at hs
  split at hs
  · rename_i k he
    cases hs
    obtain ⟨n, rfl, _, hw⟩ := DataW.trod_int he h
    exact ⟨_, rfl, n, rfl, hw⟩
  · rename_i he
    cases hs
    obtain ⟨b, rfl, _⟩ := DataW.trod_bool he h
    exact ⟨_, rfl, b, rfl⟩
  · rename_i he
    cases hs
    obtain ⟨b, rfl, _, hz⟩ := DataW.trod_string he h
    exact ⟨_, rfl, b, rfl, hz⟩
  · cases hs
theorem flat_len {P : Program} : ∀ (fs : List Field) (i : Nat) (ss : List Sh), flatSh P i fs = some ss → ss.length = fs.length
  | [], i, ss, h => by simp [flatSh] at h; simp [← h]
  | f :: fs, i, ss, h => by
    unfold flatSh at h
    split at h
    · cases hs : shOf P f.type with
      | none => simp [hs] at h
      | some s =>
        cases hr : flatSh P (i + 1) fs with
        | none => simp [hs, hr] at h
        | some l =>
          simp [hs, hr] at h
          rw [← h]; simp [flat_len fs (i + 1) l hr]
    · cases h
theorem flat_get {P : Program} : ∀ (fs : List Field) (i : Nat) (ss : List Sh), flatSh P i fs = some ss → ∀ (j : Nat) (f : Field), fs[j]? = some f → f.offset = i + j ∧ P.cellsOf f.type = 1 ∧ ∃ s, ss[j]? = some s ∧ shOf P f.type = some s
  | [], i, ss, h, j, f, hf => by simp at hf
  | g :: fs, i, ss, h, j, f, hf => by
    unfold flatSh at h
    split at h
    · rename_i hc
      cases hs : shOf P g.type with
      | none => simp [hs] at h
      | some s =>
        cases hr : flatSh P (i + 1) fs with
        | none => simp [hs, hr] at h
        | some l =>
          simp [hs, hr] at h
          subst h
          cases j with
          | zero => simp at hf; subst hf; exact ⟨hc.1, hc.2, s, rfl, hs⟩
          | succ k =>
            obtain ⟨h1, h2, s', h3, h4⟩ := flat_get fs (i + 1) l hr k f (by simpa using hf)
            exact ⟨by omega, h2, s', by simpa using h3, h4⟩
    · cases h
/-- A struct's cells, each of its field's shape. -/
theorem struct_cells {H : Type} {enc : TypeId × Value → H} {P : Program} {w : World} {base : Nat} {sp : Nat → Bool} {held : Bool} {n e : Nat} {fs : Array Field} {ss : List Sh} {cs : List Value} {y : DataW H × List MemPlace} (he : P.underlying e = some (.struct fs)) (hf : flatSh P 0 fs.toList = some ss)
    (h : DataW.trod enc P w base sp held n e cs = some y) : ∀ (j : Nat) (s : Sh), ss[j]? = some s → ∃ v, cs[j]? = some v ∧ s.ok v := by
  obtain ⟨xs, m, _, _, hl, hxl, hx⟩ := DataW.trod_struct he h
  intro j s hj
  have hlen := flat_len _ _ _ hf
  have hjl : j < fs.toList.length := by rw [← hlen]; exact (List.getElem?_eq_some_iff.1 hj).1
  have hfj : fs.toList[j]? = some fs.toList[j] := List.getElem?_eq_getElem hjl
  obtain ⟨h1, h2, s', h3, h4⟩ := flat_get _ _ _ hf j _ hfj
  rw [hj] at h3
  cases h3
  have hg := hx j fs.toList[j] (by simp)
  have hys : xs[j]? = some (xs[j]'(by rw [hxl]; simpa using hjl)) := List.getElem?_eq_getElem _
  rw [hys, h1, h2] at hg
  obtain ⟨v, hv, hok⟩ := sh_cell h4 hg
  refine ⟨v, ?_, hok⟩
  have : ((cs.drop (0 + j)).take 1)[0]? = some v := by rw [hv]; rfl
  simpa using this
/-- the same as one list -/
def OkAll : List Sh → List Value → Prop
  | [], [] => True
  | s :: ss, v :: vs => s.ok v ∧ OkAll ss vs
  | _, _ => False
theorem OkAll.len : ∀ {ss : List Sh} {cs : List Value}, OkAll ss cs → cs.length = ss.length
  | [], [], _ => rfl
  | [], _ :: _, h => h.elim
  | _ :: _, [], h => h.elim
  | s :: ss, v :: cs, h => by have := OkAll.len h.2; simp [this]
theorem okAll_of : ∀ (ss : List Sh) (cs : List Value), cs.length = ss.length → (∀ (j : Nat) (s : Sh), ss[j]? = some s → ∃ v, cs[j]? = some v ∧ s.ok v) → OkAll ss cs
  | [], [], _, _ => trivial
  | [], _ :: _, h, _ => by cases h
  | _ :: _, [], h, _ => by cases h
  | s :: ss, v :: cs, hl, h => by
    obtain ⟨v', h1, h2⟩ := h 0 s rfl
    simp at h1
    subst h1
    exact ⟨h2, okAll_of ss cs (by simpa using hl) (fun j s' hj => by
      obtain ⟨v', h1, h2⟩ := h (j + 1) s' (by simpa using hj)
      exact ⟨v', by simpa using h1, h2⟩)⟩
/-- A slice of such structs that the frame hands over. -/
theorem IsRows.flat {H : Type} {enc : TypeId × Value → H} {P : Program} {w : World} {e m : Nat} {fs : Array Field} {ss : List Sh} {a : Option Addr} {len cap : Nat} (h : IsRows enc P e m w a len cap)
    (he : P.underlying e = some (.struct fs)) (hf : flatSh P 0 fs.toList = some ss) (hm : ss.length = m) : ∃ cs, RowG m w a len cs ∧ ∀ c ∈ cs, OkAll ss c := by
  obtain ⟨hl, hmx, _, hat⟩ := h
  rcases hat with h0 | ⟨b, off, rfl, hbl, hel⟩
  · exact ⟨[], ⟨by simp [h0], by omega, .inl h0⟩, by simp⟩
  · have one : ∀ i, i < len → ∃ c : List Value, OkAll ss c ∧ ∀ j v, c[j]? = some v → w.cell? ⟨b, off + i * m + j, none⟩ = some v := by
      intro i hi
      obtain ⟨c, hcl, hcc, n, y, hd⟩ := hel i hi
      refine ⟨c, okAll_of ss c (by omega) (struct_cells he hf hd), fun j v hv => ?_⟩
      rw [hcc j (by rw [← hcl]; exact (List.getElem?_eq_some_iff.1 hv).1)]
      exact hv
    refine ⟨(List.range len).map fun i => if h : i < len then (one i h).choose else [], ⟨by simp, by omega, .inr ⟨b, off, rfl, hbl, fun i hi => ?_⟩⟩, ?_⟩
    · have e : ((List.range len).map fun i => if h : i < len then (one i h).choose else []).getD i [] = (one i hi).choose := by simp [List.getD, hi]
      rw [e]
      exact (one i hi).choose_spec.2
    · intro c hc
      simp only [List.mem_map, List.mem_range] at hc
      obtain ⟨i, hi, rfl⟩ := hc
      rw [dif_pos hi]
      exact (one i hi).choose_spec.1
/-- Where every element is some x's cells. -/
theorem RowG.list {α : Type} {m : Nat} {w : World} {q : Option Addr} {n : Nat} {cs : List (List Value)} (h : RowG m w q n cs) (f : α → List Value) (p : α → Prop) (hf : ∀ c ∈ cs, ∃ x, c = f x ∧ p x) : ∃ l : List α, RowG m w q n (l.map f) ∧ ∀ x ∈ l, p x := by
  have : ∃ l : List α, l.map f = cs ∧ ∀ x ∈ l, p x := by
    clear h
    induction cs with
    | nil => exact ⟨[], rfl, by simp⟩
    | cons c cs ih =>
      obtain ⟨l, h1, h2⟩ := ih (fun c hc => hf c (by simp [hc]))
      obtain ⟨x, h3, h4⟩ := hf c (by simp)
      exact ⟨x :: l, by simp [h1, h3], by simpa using ⟨h4, h2⟩⟩
  obtain ⟨l, rfl, h2⟩ := this
  exact ⟨l, h, h2⟩
/-- Such a struct by value. -/
theorem open_flat {H : Type} {enc : TypeId × Value → H} {P : Program} {w : World} {base : Nat} {sp : Nat → Bool} {held : Bool} {r : Reach} {b0 t : Nat} {fs : Array Field} {ss : List Sh} {v : Value} {d : DataW H} {p : List MemPlace} (he : P.underlying t = some (.struct fs)) (hf : flatSh P 0 fs.toList = some ss) (hC : P.cellsOf t = ss.length)
    (hv : Value.okWide P w r b0 t v) (h : DataW.Trod enc P w base sp held t v d p) : ∃ vs : List Value, v = .agg vs.toArray ∧ OkAll ss vs := by
  obtain ⟨cs, rfl, hsz⟩ := okWide_struct he hv
  obtain ⟨l⟩ := cs
  obtain ⟨fuel, hd⟩ := h
  exact ⟨l, rfl, okAll_of ss l (by rw [← hC, ← hsz]; rfl) (struct_cells he hf (by simpa [Value.cells] using hd))⟩
end Go.Proofs.YtdmpopdacbdnlaaDoor
