/- Slices of things of several cells that came in: what may be read of them; appends whose place is known. No program. -/
import Derived.Test.YtegbjlimiephlaaDoorKit
import Derived.Deep.AppendLies
import Derived.Deep.Slices
import Derived.ChangeOld
import Derived.OpenShut
namespace Go.Proofs.YtegbjlimiephlaaDoor
open Go.RowKit

/-- What the frame hands over of a slice of elements of m cells each: each element's cells, and that they read as a value of the element's type. -/
def IsRows {H : Type} (enc : TypeId × Value → H) (P : Program) (e m : Nat) (w : World) (a : Option Addr) (len cap : Nat) : Prop :=
  len ≤ cap ∧ cap ≤ maxLen ∧ (a = none → cap = 0) ∧ (len = 0 ∨ ∃ b off, a = some ⟨b, off, none⟩ ∧ b < w.heap.size ∧
    ∀ i, i < len → ∃ cs : List Value, cs.length = m ∧ (∀ j, j < m → w.cell? ⟨b, off + i * m + j, none⟩ = cs[j]?) ∧ ∃ n y, DataW.trod enc P w 0 (fun _ => true) true n e cs = some y)

theorem open_rows {H : Type} {enc : TypeId × Value → H} {P : Program} {w : World} {t e m fuel : Nat} {a : Option Addr} {len cap : Nat} {x : DataW H × List MemPlace}
    (ht : P.underlying t = some (.slice e)) (hm : P.cellsOf e = m) (hm0 : 0 < m) (h : DataW.trod enc P w 0 (fun _ => true) true fuel t (Value.slice a len cap).cells.toList = some x) : IsRows enc P e m w a len cap := by
  rcases Deep.open_slice ht h with ⟨hcs, _⟩ | ⟨x0, l, c, mm, n, D, Pl, hcs, _, hl, hmx, hmm, _, hel⟩
  · simp [Value.cells] at hcs
    obtain ⟨rfl, rfl, rfl⟩ := hcs
    exact ⟨Nat.le_refl _, Nat.zero_le _, fun _ => rfl, .inl rfl⟩
  · simp [Value.cells] at hcs
    obtain ⟨rfl, rfl, rfl⟩ := hcs
    refine ⟨hl, hmx, (fun h => by cases h), ?_⟩
    by_cases h0 : len = 0
    · exact .inl h0
    · have hle : len ≤ mm := by simp at hmm; omega
      obtain ⟨cs0, hc0, _⟩ := hel 0 (by omega)
      rw [hm] at hc0
      have g0 := World.cells?_some hc0
      have hlt := World.cells?_block hc0 hm0
      obtain ⟨b, off, spot⟩ := x0
      have hspot : spot = none := by
        have h1 := g0.2.2 0 hm0
        have h2 : cs0[0]? = some (cs0[0]'(by omega)) := List.getElem?_eq_getElem _
        rw [h2] at h1
        simpa [Addr.add] using World.cell?_spot h1
      subst hspot
      simp only [Nat.zero_mul, WideShapes.add_plain] at hlt
      refine .inr ⟨b, off, rfl, hlt, fun i hi => ?_⟩
      obtain ⟨cs, hc, hd⟩ := hel i (by omega)
      rw [hm, WideShapes.add_plain] at hc
      obtain ⟨_, hlen, hat⟩ := World.cells?_some hc
      refine ⟨cs, hlen, fun j hj => ?_, n, _, hd⟩
      rw [← hat j hj, WideShapes.add_plain]

/-- A slice of pairs of bytes that may be read. -/
structure RowP (w : World) (a : Option Addr) (len cap : Nat) (ps : List (UInt8 × UInt8)) : Prop where
  length : ps.length = len
  small : len ≤ maxLen
  at_ : len = 0 ∨ ∃ b off, a = some ⟨b, off, none⟩ ∧ b < w.heap.size ∧ ∀ i, i < len → w.cell? ⟨b, off + i * 2, none⟩ = some (.int .u8 ((ps.getD i (0, 0)).1.toNat : Int)) ∧ w.cell? ⟨b, off + i * 2 + 1, none⟩ = some (.int .u8 ((ps.getD i (0, 0)).2.toNat : Int))
theorem RowP.below {w w' : World} {a : Option Addr} {len cap : Nat} {ps : List (UInt8 × UInt8)} (h : RowP w a len cap ps) (hb : Below w.heap.size w w') : RowP w' a len cap ps :=
  ⟨h.length, h.small, by
    rcases h.at_ with h0 | ⟨b, off, rfl, hl, hc⟩
    · exact .inl h0
    · exact .inr ⟨b, off, rfl, Nat.lt_of_lt_of_le hl hb.size, fun i hi => by rw [(bcell hb).1 _ _ hl, (bcell hb).1 _ _ hl]; exact hc i hi⟩⟩
theorem IsRows.pairs {H : Type} {enc : TypeId × Value → H} {P : Program} {w : World} {t e : Nat} {a : Option Addr} {len cap : Nat} (h : IsRows enc P e 2 w a len cap)
    (he : P.underlying e = some (.array 2 t)) (ht : P.underlying t = some (.int .u8)) (hc : P.cellsOf t = 1) : ∃ ps, RowP w a len cap ps := by
  obtain ⟨hl, hm, _, hat⟩ := h
  rcases hat with h0 | ⟨b, off, rfl, hb, hel⟩
  · exact ⟨[], ⟨by simp [h0], by omega, .inl h0⟩⟩
  · have one : ∀ i, i < len → ∃ p q : UInt8, w.cell? ⟨b, off + i * 2, none⟩ = some (.int .u8 (p.toNat : Int)) ∧ w.cell? ⟨b, off + i * 2 + 1, none⟩ = some (.int .u8 (q.toNat : Int)) := by
      intro i hi
      obtain ⟨cs, hcl, hcc, n, y, hd⟩ := hel i hi
      obtain ⟨xs, m, _, _, _, hxl, hx⟩ := DataW.trod_array he hd
      rw [hc] at hx
      have b8 : ∀ v : Value, ∀ z, DataW.trod enc P w 0 (fun _ => true) true m t [v] = some z → ∃ p : UInt8, v = .int .u8 (p.toNat : Int) := by
        intro v z hz
        obtain ⟨k, hk, _, wk⟩ := DataW.trod_int ht hz
        simp at hk
        have := bounds_u8 wk
        exact ⟨UInt8.ofNat k.toNat, by rw [hk, UInt8.toNat_ofNat']; congr 1; omega⟩
      match cs, hcl with
      | [v0, v1], _ =>
        have h0 := hx 0 (by omega)
        have h1 := hx 1 (by omega)
        simp [hxl] at h0 h1
        obtain ⟨p, hp⟩ := b8 v0 _ h0
        obtain ⟨q, hq⟩ := b8 v1 _ h1
        refine ⟨p, q, ?_, ?_⟩
        · have := hcc 0 (by omega); simpa [hp] using this
        · have := hcc 1 (by omega); simpa [hq] using this
    refine ⟨(List.range len).map fun i => if h : i < len then ((one i h).choose, (one i h).choose_spec.choose) else (0, 0), ⟨by simp, by omega, .inr ⟨b, off, rfl, hb, fun i hi => ?_⟩⟩⟩
    have := (one i hi).choose_spec.choose_spec
    simpa [List.getD, hi] using this

/-- Two slices of the call's own lie apart. -/
def Ap (u v : Value) : Prop := u.ownBlock = none ∨ v.ownBlock = none ∨ u.ownBlock ≠ v.ownBlock
theorem Ap.symm {u v : Value} (h : Ap u v) : Ap v u := by
  rcases h with h | h | h
  · exact .inr (.inl h)
  · exact .inl h
  · exact .inr (.inr (Ne.symm h))
theorem Ap.kept {u v : Value} (h : Ap u v) : u.ownBlock = none ∨ u.ownBlock ≠ v.ownBlock := by
  rcases h with h | h | h
  · exact .inl h
  · cases hu : u.ownBlock with
    | none => exact .inl rfl
    | some g => exact .inr (by rw [h]; simp)
  · exact .inr h
theorem Ap.nil_left (v : Value) : Ap (.slice none 0 0) v := .inl rfl
/-- behind an append to v at block g -/
theorem Ap.next {t : TypeId} {base : Nat} {w : World} {u v : Value} {l : List UInt8} (h : Ap u v) (hu : OwnB t base w u l) {g n cap H : Nat} (hg : v.ownBlock = some g ∨ g = H) (hH : w.heap.size ≤ H) : Ap u (.slice (some ⟨g, 0, none⟩) n cap) := by
  cases hb : u.ownBlock with
  | none => exact .inl hb
  | some gu =>
    refine .inr (.inr ?_)
    rw [hb]
    have hlt := (hu.owns.lt gu hb).2
    rcases hg with hg | hg
    · rcases h with h | h | h
      · rw [hb] at h; cases h
      · rw [h] at hg; cases hg
      · rw [hb, hg] at h; exact h
    · subst hg
      simp only [Value.ownBlock, ne_eq, Option.some.injEq]
      omega
/-- append(c, x): one byte. -/
theorem append_byte {P : Program} {w : World} {ops : Array Oper} {rest : List Oper} {o : Oper} {a : Act} {Q : Exit → Act → World → Prop} (T t : TypeId) (hinfo : (P.info? t).map (fun i => (i.zero, i.size, i.bytes)) = some (some (.int .u8 0), 1, 1)) (hT : P.underlying T = some (.slice t))
    (hgd : o.guard = none) (s x : Operand) (ho : o.op = .call { callee := .builtin .append, args := #[s, x], argTypes := #[T, T] })
    (base : Nat) (v : Value) (l : List UInt8) (n : Nat) (hn : l.length = n) (hs : a.eval s = v) (hown : OwnB t base w v l) (ab : Nat) (c : Nat) (y : UInt8) (hx : a.eval x = .slice (some ⟨ab, 0, none⟩) 1 c) (hcell : w.cell? ⟨ab, 0, none⟩ = some (.int .u8 (y.toNat : Int)))
    (hroom : n + 1 ≤ 140737488355328) (hbase : base ≤ w.heap.size)
    (h : ∀ g cap w', OwnB t base w' (.slice (some ⟨g, 0, none⟩) (n + 1) cap) (l ++ [y]) → w.grownBy w' v.ownBlock → (v.ownBlock = some g ∨ g = w.heap.size) → g < w'.heap.size → wpList P ops Q rest (a.put o.dst (.slice (some ⟨g, 0, none⟩) (n + 1) cap)) w') : wpList P ops Q (o :: rest) a w := by
  subst hn
  obtain ⟨i, hi, hz, hsz, hby⟩ := info_parts hinfo
  refine wpList_append_lies w hgd s x T ho base t i _ 1 1 hT hi hz hsz hby (by rfl) (by omega) v l.length (bv l) hs hown.owns ⟨ab, 0, none⟩ 1 c [.int .u8 (y.toNat : Int)] hx (by rfl) ?_ ?_ (by omega) (by unfold maxLen; omega) (by omega) hbase _ rfl ?_
  · intro j u hu
    have hj : j = 0 := by
      have := (List.getElem?_eq_some_iff.1 hu).1
      simpa using this
    subst hj
    simp at hu
    subst hu
    rw [WideShapes.add_plain]; exact hcell
  · intro u hu
    simp at hu
    subst hu
    rfl
  · intro g cap w' h1 h2 h3 h4
    exact h g cap w' ⟨by rw [List.length_append, bv_append]; exact h1, by rw [List.length_append]; unfold maxLen; simp; omega⟩ h2 h3 h4
end Go.Proofs.YtegbjlimiephlaaDoor
