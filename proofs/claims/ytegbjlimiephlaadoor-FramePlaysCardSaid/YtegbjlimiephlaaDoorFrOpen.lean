/- Slices of slices of bytes, and of structs of a byte and a slice of bytes, that the frame hands over. -/
import Derived.Test.YtegbjlimiephlaaDoorFrAll
import Derived.Test.YtegbjlimiephlaaDoorKit2
import Derived.ChangeSame
import Derived.ChangeSlices
namespace Go.Proofs.YtegbjlimiephlaaDoor
open Go.RowKit Go.ChangeShapes
set_option linter.unusedVariables false
theorem cell_bytes {H : Type} {enc : TypeId × Value → H} {P : Program} {w : World} {e t n : Nat} {cs : List Value} {y : DataW H × List MemPlace} (he : P.underlying e = some (.slice t)) (ht : P.underlying t = some (.int .u8)) (hc : P.cellsOf t = 1)
    (hd : DataW.trod enc P w 0 (fun _ => true) true n e cs = some y) : ∃ q l c bs, cs = [.slice q l c] ∧ RowB w q l c bs := by
  rcases open_ints he ht hc hd with ⟨hcs, _⟩ | ⟨x, l, c, zs, hcs, _, hl, hm, hz, _, hcell, hwz⟩
  · exact ⟨none, 0, 0, [], hcs, ⟨rfl, by decide, Nat.le_refl _, .inl rfl, fun _ => rfl⟩⟩
  · exact ⟨some x, l, c, _, hcs, IsRow.bytes (.inr ⟨x, rfl, hl, hm, by simpa using hz, hcell, hwz⟩)⟩
theorem IsRows.byteSlices {H : Type} {enc : TypeId × Value → H} {P : Program} {w : World} {e t : Nat} {a : Option Addr} {len cap : Nat} (h : IsRows enc P e 1 w a len cap) (he : P.underlying e = some (.slice t)) (ht : P.underlying t = some (.int .u8)) (hc : P.cellsOf t = 1) : ∃ bss, RowBB w a len bss := by
  obtain ⟨hl, hm, _, hat⟩ := h
  rcases hat with h0 | ⟨b, off, rfl, hbl, hel⟩
  · exact ⟨[], ⟨by simp [h0], by omega, .inl h0⟩⟩
  · have one : ∀ i, i < len → ∃ bs q n c, w.cell? ⟨b, off + i, none⟩ = some (.slice q n c) ∧ RowB w q n c bs := by
      intro i hii
      obtain ⟨cs, hcl, hcc, n, y, hd⟩ := hel i hii
      obtain ⟨q, l, c, bs, hcs, hR⟩ := cell_bytes he ht hc hd
      refine ⟨bs, q, l, c, ?_, hR⟩
      have := hcc 0 (by omega)
      rw [hcs] at this
      simpa using this
    refine ⟨(List.range len).map fun i => if h : i < len then (one i h).choose else [], ⟨by simp, by omega, .inr ⟨b, off, rfl, hbl, fun i hii => ?_⟩⟩⟩
    obtain ⟨q, n, c, h1, h2⟩ := (one i hii).choose_spec
    refine ⟨q, n, c, h1, ?_⟩
    have : ((List.range len).map fun i => if h : i < len then (one i h).choose else []).getD i [] = (one i hii).choose := by simp [List.getD, hii]
    rw [this]
    exact h2
/-- A slice of pairs of a byte and bytes that may be read. -/
structure RowKB (w : World) (a : Option Addr) (len : Nat) (ks : List (UInt8 × List UInt8)) : Prop where
  length : ks.length = len
  small : len ≤ maxLen
  at_ : len = 0 ∨ ∃ b off, a = some ⟨b, off, none⟩ ∧ b < w.heap.size ∧ ∀ i, i < len → w.cell? ⟨b, off + i * 2, none⟩ = some (.int .u8 ((ks.getD i (0, [])).1.toNat : Int)) ∧ ∃ q n c, w.cell? ⟨b, off + i * 2 + 1, none⟩ = some (.slice q n c) ∧ RowB w q n c (ks.getD i (0, [])).2
theorem RowKB.below {w w' : World} {a : Option Addr} {len : Nat} {ks : List (UInt8 × List UInt8)} (h : RowKB w a len ks) (hb : Below w.heap.size w w') : RowKB w' a len ks :=
  ⟨h.length, h.small, h.at_.imp id (fun ⟨b, off, e, hl, hc⟩ => ⟨b, off, e, Nat.lt_of_lt_of_le hl hb.size, fun i hi => by
    obtain ⟨h0, q, n, c, h1, h2⟩ := hc i hi
    exact ⟨(hb.cell (p := ⟨b, off + i * 2, none⟩) hl).trans h0, q, n, c, (hb.cell (p := ⟨b, off + i * 2 + 1, none⟩) hl).trans h1, h2.below hb⟩⟩)⟩
theorem pair_bytes {H : Type} {enc : TypeId × Value → H} {P : Program} {w : World} {e t n tk tb : Nat} {f0 f1 : Field} {cs : List Value} {y : DataW H × List MemPlace} (he : P.underlying e = some (.struct #[f0, f1])) (t0 : f0.type = tk) (t1 : f1.type = tb) (o0 : f0.offset = 0) (o1 : f1.offset = 1)
    (hk : P.underlying tk = some (.int .u8)) (hb : P.underlying tb = some (.slice t)) (ht : P.underlying t = some (.int .u8)) (hc : P.cellsOf t = 1) (ck : P.cellsOf tk = 1) (cb : P.cellsOf tb = 1) (hl : cs.length = 2)
    (hd : DataW.trod enc P w 0 (fun _ => true) true n e cs = some y) : ∃ (k : UInt8) (q : Option Addr) (l c : Nat) (bs : List UInt8), cs = [.int .u8 (k.toNat : Int), .slice q l c] ∧ RowB w q l c bs := by
  obtain ⟨y0, y1, m, _, _, h0, h1⟩ := trod_struct2 he hd
  rw [t0, o0, ck] at h0
  rw [t1, o1, cb] at h1
  match cs, hl with
  | [v0, v1], _ =>
    simp at h0 h1
    obtain ⟨x0, k0, _, r0⟩ := DataW.trod_int hk h0
    obtain ⟨q, l, c, bs, k1, hR⟩ := cell_bytes hb ht hc h1
    simp at k0 k1
    subst k0 k1
    have := bounds_u8 r0
    exact ⟨UInt8.ofNat x0.toNat, q, l, c, bs, by rw [UInt8.toNat_ofNat']; congr 2; omega, hR⟩
theorem IsRows.pairsKB {H : Type} {enc : TypeId × Value → H} {P : Program} {w : World} {e t tk tb : Nat} {f0 f1 : Field} {a : Option Addr} {len cap : Nat} (h : IsRows enc P e 2 w a len cap) (he : P.underlying e = some (.struct #[f0, f1])) (t0 : f0.type = tk) (t1 : f1.type = tb) (o0 : f0.offset = 0) (o1 : f1.offset = 1)
    (hk : P.underlying tk = some (.int .u8)) (hb : P.underlying tb = some (.slice t)) (ht : P.underlying t = some (.int .u8)) (hc : P.cellsOf t = 1) (ck : P.cellsOf tk = 1) (cb : P.cellsOf tb = 1) : ∃ ks, RowKB w a len ks := by
  obtain ⟨hl, hm, _, hat⟩ := h
  rcases hat with h0 | ⟨b, off, rfl, hbl, hel⟩
  · exact ⟨[], ⟨by simp [h0], by omega, .inl h0⟩⟩
  · have one : ∀ i, i < len → ∃ (p : UInt8 × List UInt8) (q : Option Addr) (n c : Nat), w.cell? ⟨b, off + i * 2, none⟩ = some (.int .u8 (p.1.toNat : Int)) ∧ w.cell? ⟨b, off + i * 2 + 1, none⟩ = some (.slice q n c) ∧ RowB w q n c p.2 := by
      intro i hii
      obtain ⟨cs, hcl, hcc, n, y, hd⟩ := hel i hii
      obtain ⟨k, q, l, c, bs, hcs, hR⟩ := pair_bytes he t0 t1 o0 o1 hk hb ht hc ck cb hcl hd
      refine ⟨(k, bs), q, l, c, ?_, ?_, hR⟩
      · have := hcc 0 (by omega)
        rw [hcs] at this
        simpa using this
      · have := hcc 1 (by omega)
        rw [hcs] at this
        simpa using this
    refine ⟨(List.range len).map fun i => if h : i < len then (one i h).choose else (0, []), ⟨by simp, by omega, .inr ⟨b, off, rfl, hbl, fun i hii => ?_⟩⟩⟩
    obtain ⟨q, n, c, h0, h1, h2⟩ := (one i hii).choose_spec
    have : ((List.range len).map fun i => if h : i < len then (one i h).choose else (0, [])).getD i (0, []) = (one i hii).choose := by simp [List.getD, hii]
    rw [this]
    exact ⟨h0, q, n, c, h1, h2⟩
end Go.Proofs.YtegbjlimiephlaaDoor
