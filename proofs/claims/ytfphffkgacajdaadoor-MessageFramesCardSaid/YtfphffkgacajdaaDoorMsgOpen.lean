/- Messages that the row's frame hands over: by value, and in slices. -/
import Derived.Test.YtfphffkgacajdaaDoorMsgG
import Derived.Test.YtfphffkgacajdaaDoorOpenG
import Derived.Deep.Slices
import Derived.ChangeSame
import Derived.ChangeSlices
namespace Go.Proofs.YtfphffkgacajdaaDoor
open Go.RowKit Go.ChangeShapes Go.WideShapes Go.Joins
set_option linter.unusedVariables false
set_option linter.unusedSimpArgs false
/-- Any slice of elements of m cells. -/
theorem IsRows.gen {H : Type} {enc : TypeId × Value → H} {P : Program} {w : World} {e m : Nat} {a : Option Addr} {len cap : Nat} (h : IsRows enc P e m w a len cap) :
    ∃ cs, RowG m w a len cs ∧ ∀ c ∈ cs, c.length = m ∧ ∃ n y, DataW.trod enc P w 0 (fun _ => true) true n e c = some y := by
  obtain ⟨hl, hmx, _, hat⟩ := h
  rcases hat with h0 | ⟨b, off, rfl, hbl, hel⟩
  · exact ⟨[], ⟨by simp [h0], by omega, .inl h0⟩, by simp⟩
  · have one : ∀ i, i < len → ∃ c : List Value, (c.length = m ∧ ∃ n y, DataW.trod enc P w 0 (fun _ => true) true n e c = some y) ∧ ∀ j v, c[j]? = some v → w.cell? ⟨b, off + i * m + j, none⟩ = some v := by
      intro i hi
      obtain ⟨c, hcl, hcc, n, y, hd⟩ := hel i hi
      refine ⟨c, ⟨hcl, n, y, hd⟩, fun j v hv => ?_⟩
      rw [hcc j (by rw [← hcl]; exact (List.getElem?_eq_some_iff.1 hv).1)]
      exact hv
    refine ⟨(List.range len).map fun i => if h : i < len then (one i h).choose else [], ⟨by simp, by omega, .inr ⟨b, off, rfl, hbl, fun i hi => ?_⟩⟩, ?_⟩
    · have e : ((List.range len).map fun i => if h : i < len then (one i h).choose else []).getD i [] = (one i hi).choose := by simp [List.getD, hi]
      rw [e]
      exact (one i hi).choose_spec.2
    · intro c hc
      simp only [List.mem_map, List.mem_range] at hc
      obtain ⟨i, hi, rfl⟩ := hc
      rw [dif_pos hi]
      exact (one i hi).choose_spec.1
/-- a cell that is a slice -/
theorem open_rowsC {H : Type} {enc : TypeId × Value → H} {P : Program} {w : World} {t e m fuel : Nat} {cs : List Value} {x : DataW H × List MemPlace}
    (ht : P.underlying t = some (.slice e)) (hm : P.cellsOf e = m) (hm0 : 0 < m) (h : DataW.trod enc P w 0 (fun _ => true) true fuel t cs = some x) : ∃ a len cap, cs = [.slice a len cap] ∧ IsRows enc P e m w a len cap := by
  have h' := h
  rcases Deep.open_slice ht h with ⟨hcs, _⟩ | ⟨x0, l, c, mm, n, D, Pl, hcs, _⟩
  · subst hcs
    exact ⟨none, 0, 0, rfl, open_rows (a := none) (len := 0) (cap := 0) ht hm hm0 h'⟩
  · subst hcs
    exact ⟨some x0, l, c, rfl, open_rows (a := some x0) (len := l) (cap := c) ht hm hm0 h'⟩
/-- what is known of any message -/
structure Msg.okW (m : Msg) : Prop where
  seq : m.seq ≤ 18446744073709551615
  at_ : -9223372036854775808 ≤ m.at_ ∧ m.at_ ≤ 9223372036854775807
  props : okPs m.props
theorem Msg.okW.ok {m : Msg} (h : m.okW) (hf : fewB m.props = true) : m.ok := ⟨h.seq, h.at_, h.props, fun i => by
  by_cases hi : i < m.props.length
  · have := (few_all hf hi).1; omega
  · simp [List.getD, hi, prD]⟩
theorem Msg.okW.names {m : Msg} (h : m.okW) (i : Nat) : (m.props.getD i prD).name.length ≤ 9223372036854775807 := by
  have := (h.props i).name; unfold maxLen at this; omega
theorem props_of {w : World} {q : Option Addr} {n : Nat} {cs : List (List Value)} (h : RowG 2 w q n cs) (hc : ∀ c ∈ cs, OkAll [.str, .int .i64] c) : ∃ l : List Pr, RowQ w q n l ∧ okPs l := by
  obtain ⟨l, hl, hp⟩ := h.list prV (fun p => p.ok) (fun c hcc => by
    have h5 := hc c hcc
    have hlen := OkAll.len h5
    match c, hlen with
    | [v0, v1], _ =>
      simp only [OkAll, Sh.ok, and_true] at h5
      obtain ⟨⟨s, rfl, hs⟩, ⟨n, rfl, hn⟩⟩ := h5
      have hb := bounds_i64 hn
      exact ⟨⟨s.data.toList, n⟩, by simp [prV], ⟨by simpa using hs, hb⟩⟩)
  refine ⟨l, hl, fun i => ?_⟩
  by_cases hi : i < l.length
  · have := hp (l[i]) (List.getElem_mem hi)
    simpa [List.getD, hi] using this
  · simp only [List.getD, hi, not_false_eq_true, getElem?_neg, Option.getD_none]
    exact ⟨by simp [prD], by simp [prD]⟩
theorem msg_cells {H : Type} {enc : TypeId × Value → H} {P : Program} {w : World} {t e tk ts ta tp n : Nat} {f0 f1 f2 f3 : Field} {fs : Array Field} {cs : List Value} {y : DataW H × List MemPlace} (he : P.underlying t = some (.struct #[f0, f1, f2, f3]))
    (t0 : f0.type = tk) (t1 : f1.type = ts) (t2 : f2.type = ta) (t3 : f3.type = tp) (o0 : f0.offset = 0) (o1 : f1.offset = 1) (o2 : f2.offset = 2) (o3 : f3.offset = 3)
    (hk : P.underlying tk = some (.int .u8)) (hs : P.underlying ts = some (.int .u64)) (ha : P.underlying ta = some (.int .i64)) (hp : P.underlying tp = some (.slice e)) (hes : P.underlying e = some (.struct fs)) (hef : flatSh P 0 fs.toList = some [.str, .int .i64])
    (ck : P.cellsOf tk = 1) (cs1 : P.cellsOf ts = 1) (ca : P.cellsOf ta = 1) (cp : P.cellsOf tp = 1) (ce : P.cellsOf e = 2) (hl : cs.length = 4)
    (hd : DataW.trod enc P w 0 (fun _ => true) true n t cs = some y) : ∃ (m : Msg) (q : Option Addr) (l c : Nat), cs = [.int .u8 (m.kind.toNat : Int), .int .u64 (m.seq : Int), .int .i64 m.at_, .slice q l c] ∧ RowQ w q l m.props ∧ m.okW := by
  obtain ⟨y0, y1, y2, y3, k, _, _, h0, h1, h2, h3⟩ := trod_struct4 he hd
  rw [t0, o0, ck] at h0
  rw [t1, o1, cs1] at h1
  rw [t2, o2, ca] at h2
  rw [t3, o3, cp] at h3
  match cs, hl with
  | [v0, v1, v2, v3], _ =>
    simp at h0 h1 h2 h3
    obtain ⟨x0, k0, _, r0⟩ := DataW.trod_int hk h0
    obtain ⟨x1, k1, _, r1⟩ := DataW.trod_int hs h1
    obtain ⟨x2, k2, _, r2⟩ := DataW.trod_int ha h2
    obtain ⟨q, l, c, k3, hR⟩ := open_rowsC hp ce (by omega) h3
    simp at k0 k1 k2 k3
    subst k0 k1 k2 k3
    obtain ⟨cs', hG, hO⟩ := hR.flat hes hef rfl
    obtain ⟨ps, hQ, hok⟩ := props_of hG hO
    have b0 := bounds_u8 r0
    have b1 := bounds_u64 r1
    have b2 := bounds_i64 r2
    refine ⟨⟨UInt8.ofNat x0.toNat, x1.toNat, x2, ps⟩, q, l, c, ?_, hQ, ⟨by simp only; omega, b2, hok⟩⟩
    have e0 : ((UInt8.ofNat x0.toNat).toNat : Int) = x0 := by rw [UInt8.toNat_ofNat']; omega
    have e1 : ((x1.toNat : Nat) : Int) = x1 := by omega
    simp only [e0, e1]
/-- a message by value -/
theorem open_msg {H : Type} {enc : TypeId × Value → H} {P : Program} {w : World} {r : Reach} {b0 : Nat} {v : Value} {d : DataW H} {p : List MemPlace} {t e tk ts ta tp : Nat} {f0 f1 f2 f3 : Field} {fs : Array Field} (he : P.underlying t = some (.struct #[f0, f1, f2, f3]))
    (t0 : f0.type = tk) (t1 : f1.type = ts) (t2 : f2.type = ta) (t3 : f3.type = tp) (o0 : f0.offset = 0) (o1 : f1.offset = 1) (o2 : f2.offset = 2) (o3 : f3.offset = 3)
    (hk : P.underlying tk = some (.int .u8)) (hs : P.underlying ts = some (.int .u64)) (ha : P.underlying ta = some (.int .i64)) (hp : P.underlying tp = some (.slice e)) (hes : P.underlying e = some (.struct fs)) (hef : flatSh P 0 fs.toList = some [.str, .int .i64])
    (ck : P.cellsOf tk = 1) (cs1 : P.cellsOf ts = 1) (ca : P.cellsOf ta = 1) (cp : P.cellsOf tp = 1) (ce : P.cellsOf e = 2) (hC : P.cellsOf t = 4)
    (hv : Value.okWide P w r b0 t v) (h : DataW.Trod enc P w 0 (fun _ => true) true t v d p) : ∃ (m : Msg) (q : Option Addr) (l c : Nat), v = msgV m q l c ∧ RowQ w q l m.props ∧ m.okW := by
  obtain ⟨cs, rfl, hsz⟩ := okWide_struct he hv
  obtain ⟨l⟩ := cs
  obtain ⟨fuel, hd⟩ := h
  obtain ⟨m, q, n, c, e1, hQ, hok⟩ := msg_cells he t0 t1 t2 t3 o0 o1 o2 o3 hk hs ha hp hes hef ck cs1 ca cp ce (by rw [← hC, ← hsz]; rfl) (by simpa [Value.cells] using hd)
  subst e1
  exact ⟨m, q, n, c, rfl, hQ, hok⟩
/-- messages in a slice: each with where its propositions lie -/
structure MB where
  m : Msg
  q : Option Addr
  n : Nat
  c : Nat
def mbV (x : MB) : List Value := [.int .u8 (x.m.kind.toNat : Int), .int .u64 (x.m.seq : Int), .int .i64 x.m.at_, .slice x.q x.n x.c]
def RowM (w : World) (a : Option Addr) (len : Nat) (l : List MB) : Prop := RowG 4 w a len (l.map mbV) ∧ ∀ x ∈ l, RowQ w x.q x.n x.m.props ∧ x.m.okW
theorem IsRows.msgs {H : Type} {enc : TypeId × Value → H} {P : Program} {w : World} {a : Option Addr} {len cap : Nat} {t e tk ts ta tp : Nat} {f0 f1 f2 f3 : Field} {fs : Array Field} (h : IsRows enc P t 4 w a len cap) (he : P.underlying t = some (.struct #[f0, f1, f2, f3]))
    (t0 : f0.type = tk) (t1 : f1.type = ts) (t2 : f2.type = ta) (t3 : f3.type = tp) (o0 : f0.offset = 0) (o1 : f1.offset = 1) (o2 : f2.offset = 2) (o3 : f3.offset = 3)
    (hk : P.underlying tk = some (.int .u8)) (hs : P.underlying ts = some (.int .u64)) (ha : P.underlying ta = some (.int .i64)) (hp : P.underlying tp = some (.slice e)) (hes : P.underlying e = some (.struct fs)) (hef : flatSh P 0 fs.toList = some [.str, .int .i64])
    (ck : P.cellsOf tk = 1) (cs1 : P.cellsOf ts = 1) (ca : P.cellsOf ta = 1) (cp : P.cellsOf tp = 1) (ce : P.cellsOf e = 2) : ∃ l, RowM w a len l := by
  obtain ⟨cs, hG, hO⟩ := h.gen
  obtain ⟨l, hl, hp⟩ := hG.list mbV (fun x => RowQ w x.q x.n x.m.props ∧ x.m.okW) (fun c hc => by
    obtain ⟨hlen, n, y, hd⟩ := hO c hc
    obtain ⟨m, q, l, c', e1, hQ, hok⟩ := msg_cells he t0 t1 t2 t3 o0 o1 o2 o3 hk hs ha hp hes hef ck cs1 ca cp ce hlen hd
    exact ⟨⟨m, q, l, c'⟩, e1, hQ, hok⟩)
  exact ⟨l, hl, hp⟩
end Go.Proofs.YtfphffkgacajdaaDoor
