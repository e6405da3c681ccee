/- The document's bound: contracts of plain, Numbers, Bound. -/
import Derived.Test.YtkdekdogfplbmaaMarkMath2
import Derived.Test.YtkdekdogfplbmaaMarkOwn
import Derived.Deep.AppendLies
import Derived.Deep.RegionHeld3
import Derived.Deep.QuietTactic
namespace Go.Proofs.Ytkdekdogfplbmaa
open Go.RowKit
set_option linter.unusedVariables false
set_option linter.unusedSimpArgs false
set_option maxHeartbeats 2000000
set_option maxRecDepth 20000

def iv (l : List Int) : List Value := l.map (.int .i64 ·)
theorem iv_append (a b : List Int) : iv (a ++ b) = iv a ++ iv b := by simp [iv]
/-- A slice of int64 of the call's own. -/
structure OwnI (t : TypeId) (base : Nat) (w : World) (v : Value) (l : List Int) : Prop where
  owns : w.ownsRow base t 1 v l.length (iv l)
  small : l.length ≤ maxLen
theorem OwnI.below {t : TypeId} {base : Nat} {w w' : World} {v : Value} {l : List Int} (h : OwnI t base w v l) (hb : Below w.heap.size w w') : OwnI t base w' v l :=
  ⟨h.owns.kept (row := none) ⟨hb.os, hb.tape, hb.output, hb.size, fun k hk _ => hb.block k hk⟩ (by cases v.ownBlock <;> simp), h.small⟩
theorem OwnI.row {t : TypeId} {base : Nat} {w : World} {v : Value} {l : List Int} (h : OwnI t base w v l) (hok : ∀ n ∈ l, -9223372036854775808 ≤ n ∧ n ≤ 9223372036854775807) : ∃ q cap, v = .slice q l.length cap ∧ RowI .i64 w q l.length cap l := by
  have hlt := h.owns.lt
  have hcell := fun {g : Nat} (e : v.ownBlock = some g) => h.owns.cells e
  have wf : ∀ n ∈ l, (Lit.int .i64 n).wf = true := fun n hn => by
    obtain ⟨h1, h2⟩ := hok n hn
    have e1 : IntKind.i64.min = -9223372036854775808 := by rfl
    have e2 : IntKind.i64.max = 9223372036854775807 := by rfl
    simp [Lit.wf, e1, e2, h1, h2]
  obtain ⟨_, hv⟩ := h.owns
  rcases hv with ⟨rfl, h0⟩ | ⟨g, cap, cur, rfl, hb, hg, hnc, _⟩
  · exact ⟨none, 0, by rw [h0], ⟨rfl, h.small, by omega, wf, .inl h0, fun _ => rfl⟩⟩
  · refine ⟨_, cap, rfl, ⟨rfl, h.small, hnc, wf, .inr ⟨g, 0, rfl, (hlt g rfl).2, fun i hi => ?_⟩, fun e => by cases e⟩⟩
    have := hcell (g := g) rfl i (.int .i64 (l.getD i 0)) (by simp [iv, List.getD, hi])
    rw [WideShapes.add_plain] at this
    exact this
/-- append of one int64 to a slice of the call's own. -/
theorem append_i64 {P : Program} {w : World} {ops : Array Oper} {rest : List Oper} {o : Oper} {a : Act} {Q : Exit → Act → World → Prop} (T t : TypeId) (hinfo : (P.info? t).map (fun i => (i.zero, i.size, i.bytes)) = some (some (.int .i64 0), 1, 8)) (hT : P.underlying T = some (.slice t))
    (hgd : o.guard = none) (s x : Operand) (ho : o.op = .call { callee := .builtin .append, args := #[s, x], argTypes := #[T, T] })
    (base : Nat) (v : Value) (l : List Int) (hs : a.eval s = v) (hO : OwnI t base w v l) (ad : Addr) (c : Nat) (y : Int) (hx : a.eval x = .slice (some ad) 1 c) (hy : w.cell? (ad.add 0) = some (.int .i64 y))
    (hroom : l.length ≤ 1000000) (hbase : base ≤ w.heap.size)
    (h : ∀ v' w', OwnI t base w' v' (l ++ [y]) → w.grownBy w' v.ownBlock → wpList P ops Q rest (a.put o.dst v') w') : wpList P ops Q (o :: rest) a w := by
  refine append_one T t _ 1 8 hinfo rfl (by omega) hT hgd s x ho base v l.length (iv l) hs hO.owns ad c (iv [y]) hx (by simp [iv]) (fun j u hj => ?_) (by simp [iv, Value.oneCell']) (by unfold maxLen; omega) (by omega) hbase (fun v' w' h1 h2 => h v' w' ⟨by rw [iv_append]; simpa using h1, by simp; unfold maxLen; omega⟩ h2)
  match j with
  | 0 => simp [iv] at hj; subst hj; exact hy
  | j + 1 => simp [iv] at hj
/-- append of one source at a step of a region that draws. -/
theorem step_append_src {P : Program} {w : World} {ops : Array Oper} {o : Oper} {a : Act} {K : Act → World → Prop} {Q : Exit → Act → World → Prop} {E : Prop} (T t : TypeId) (hinfo : (P.info? t).map (fun i => (i.zero, i.size, i.bytes)) = some (some (.agg #[.bool false, .int .i64 0, .bool false, .int .i64 0]), 4, 32)) (hT : P.underlying T = some (.slice t))
    (hgd : o.guard = none) (s x : Operand) (ho : o.op = .call { callee := .builtin .append, args := #[s, x], argTypes := #[T, T] })
    (base : Nat) (v : Value) (l : List Src) (hs : a.eval s = v) (hO : OwnS t base w v l) (ad : Addr) (c : Nat) (y : Src) (hx : a.eval x = .slice (some ad) 1 c) (hy : SrcAt w ad y)
    (hroom : l.length ≤ 1000000) (hbase : base ≤ w.heap.size)
    (h : ∀ g cap w', OwnS t base w' (.slice (some ⟨g, 0, none⟩) (l.length + 1) cap) (l ++ [y]) → w.grownBy w' v.ownBlock → K (a.put o.dst (.slice (some ⟨g, 0, none⟩) (l.length + 1) cap)) w') : if Region.wanted o (yielded ops a.tmps) = true then Oper.wp P o a w K Q else E := by
  obtain ⟨i, hi, hz, hsz, hby⟩ := info_parts hinfo
  refine step_append_lies w hgd s x T ho base t i _ 4 32 hT hi hz hsz hby (by rfl) (by omega) v l.length (sv l) hs hO.owns ad 1 c (sv [y]) hx (by simp [sv]) (fun j u hj => ?_) (by simp [sv, Value.oneCell']) (by omega) (by unfold maxLen; omega) (by omega) hbase w.heap.size rfl (fun g cap w' h1 h2 _ _ => h g cap w' ⟨by rw [sv_append]; simpa using h1, by simp; unfold maxLen; omega⟩ h2)
  obtain ⟨c0, c1, c2, c3⟩ := hy
  match j with
  | 0 => simp [sv] at hj; subst hj; exact c0
  | 1 => simp [sv] at hj; subst hj; exact c1
  | 2 => simp [sv] at hj; subst hj; exact c2
  | 3 => simp [sv] at hj; subst hj; exact c3
  | j + 4 => simp [sv] at hj
theorem infoT : (Try.prog.info? 71).map (fun i => (i.zero, i.size, i.bytes)) = some (some (.agg #[.bool false, .int .i64 0, .bool false, .int .i64 0]), 4, 32) := by kernel_rfl
theorem infoI : (Try.prog.info? 2).map (fun i => (i.zero, i.size, i.bytes)) = some (some (.int .i64 0), 1, 8) := by kernel_rfl

theorem plain_any (a : Option Addr) (len cap : Nat) (l : List Src) (w : World) (hS : RowS w a len l) (hl : len ≤ 60) :
    Calls Try.prog 14 #[.slice a len cap] w fun e w' => ∃ v, e = .returned v ∧ OwnS 71 w.heap.size w' v l ∧ Below w.heap.size w w' := by
  have LL := Lib.hid hS.length
  go_enter Try.func14, Try.ntmps14
  go_wp2_with fail
  go_loopw [3, 4] (fun v i wr => ∃ k : Nat, k ≤ len ∧ i = .int .i64 k ∧ OwnS 71 w.heap.size wr v (l.take k) ∧ Below w.heap.size w wr) (fun v i wr => len - (intOf i).toNat)
  case atStart => exact ⟨0, Nat.zero_le _, rfl, ⟨World.ownsRow_nil _ _ _ _, by simp⟩, Below.refl _ _⟩
  case round =>
    obtain ⟨k, hk, rfl, hO, hbr⟩ := hrel
    by_cases hlt : k < len
    · rcases hS.at_ with h0 | ⟨b, off, rfl, hlb, hc⟩
      · omega
      obtain ⟨c0, c1, c2, c3⟩ := hc k hlt
      have hts := take_succS (l := l) (k := k) (by rw [LL.out]; exact hlt)
      generalize l.getD k default = s at *
      have H1 : Hid (l.take (k + 1) = l.take k ++ [s]) := Lib.hid hts
      clear hts hc
      have d0 := (hbr.cell (p := ⟨b, off + k * 4, none⟩) hlb).trans c0
      have d1 := (hbr.cell (p := ⟨b, off + k * 4 + 1, none⟩) hlb).trans c1
      have d2 := (hbr.cell (p := ⟨b, off + k * 4 + 2, none⟩) hlb).trans c2
      have d3 := (hbr.cell (p := ⟨b, off + k * 4 + 3, none⟩) hlb).trans c3
      clear c0 c1 c2 c3
      obtain ⟨ac, lo, ha, he⟩ := s
      simp only at d0 d1 d2 d3
      have HL : (l.take k).length ≤ 60 := by rw [List.length_take]; omega
      generalize l.take k = l0 at *
      have tok1 : True := trivial
      have zr := hbr.size
      replace hO := Lib.hid hO
      have hb4 : b < wr.heap.size := by omega
      have F0 : some b ≠ u3.ownBlock := fun e => by have := (hO.out.owns.lt b e.symm).1; omega
      have D : wr.drew.cell? ⟨b, off + k * 4, none⟩ = some (.bool ac) ∧ wr.drew.cell? ⟨b, off + k * 4 + 1, none⟩ = some (.int .i64 lo) ∧ wr.drew.cell? ⟨b, off + k * 4 + 2, none⟩ = some (.bool ha) ∧ wr.drew.cell? ⟨b, off + k * 4 + 3, none⟩ = some (.int .i64 he) := ⟨d0, d1, d2, d3⟩
      have D2 : ∀ W, Below wr.heap.size wr W → W.cell? ⟨b, off + k * 4, none⟩ = some (.bool ac) ∧ W.cell? ⟨b, off + k * 4 + 1, none⟩ = some (.int .i64 lo) ∧ W.cell? ⟨b, off + k * 4 + 2, none⟩ = some (.bool ha) ∧ W.cell? ⟨b, off + k * 4 + 3, none⟩ = some (.int .i64 he) := fun W h => ⟨(h.cell (p := ⟨b, off + k * 4, none⟩) hb4).trans d0, (h.cell (p := ⟨b, off + k * 4 + 1, none⟩) hb4).trans d1, (h.cell (p := ⟨b, off + k * 4 + 2, none⟩) hb4).trans d2, (h.cell (p := ⟨b, off + k * 4 + 3, none⟩) hb4).trans d3⟩
      have D3 : ∀ W W' : World, W.grownBy W' u3.ownBlock → Below wr.heap.size wr W → W'.cell? ⟨b, off + k * 4, none⟩ = some (.bool ac) ∧ W'.cell? ⟨b, off + k * 4 + 1, none⟩ = some (.int .i64 lo) ∧ W'.cell? ⟨b, off + k * 4 + 2, none⟩ = some (.bool ha) ∧ W'.cell? ⟨b, off + k * 4 + 3, none⟩ = some (.int .i64 he) := fun W W' hG h => by
        have hz := h.size
        have hz' : wr.heap.size ≤ W.heap.size := hz
        obtain ⟨q0, q1, q2, q3⟩ := D2 W h
        exact ⟨(World.grownBy.cell_far hG ⟨b, off + k * 4, none⟩ (by simp only []; omega) F0).trans q0, (World.grownBy.cell_far hG ⟨b, off + k * 4 + 1, none⟩ (by simp only []; omega) F0).trans q1, (World.grownBy.cell_far hG ⟨b, off + k * 4 + 2, none⟩ (by simp only []; omega) F0).trans q2, (World.grownBy.cell_far hG ⟨b, off + k * 4 + 3, none⟩ (by simp only []; omega) F0).trans q3⟩
      replace D2 := Lib.hid D2
      replace D3 := Lib.hid D3
      go_wp2_with fail
      go_region_held3 (fun W => W.cell? ⟨b, off + k * 4, none⟩ = some (.bool ac) ∧ W.cell? ⟨b, off + k * 4 + 1, none⟩ = some (.int .i64 lo) ∧ W.cell? ⟨b, off + k * 4 + 2, none⟩ = some (.bool ha) ∧ W.cell? ⟨b, off + k * 4 + 3, none⟩ = some (.int .i64 he))
        (first | exact D | exact D2.out _ (((Below.refl wr.heap.size wr).alloc (Nat.le_refl _) _).drew) | exact D3.out _ _ hG3 (((Below.refl wr.heap.size wr).alloc (Nat.le_refl _) _).drew))
        ((refine step_append_src 28 71 infoT Try.underlying28 (by rfl) _ _ (by rfl) w.heap.size u3 l0 (by rfl) (hO.out.below (((Below.refl wr.heap.size wr).alloc (Nat.le_refl _) _).drew)) ⟨wr.heap.size, 0, none⟩ 1 ⟨ac, lo, ha, he⟩ (by rfl) (by simp [SrcAt, go_sem]) (by omega) (by simp; omega) ?_; intro g3 cp3 w3 hO3 hG3))
      go_wp2
      have HB3 : Below w.heap.size w w3 := Below.grown (Below.trans hbr (Below.mono (((Below.refl wr.heap.size wr).alloc (Nat.le_refl _) _).drew) zr)) hG3 (by simp; omega) (fun k hk => (hO.out.owns.lt k hk).1)
      go_roundw
      case rel => first | exact ⟨k + 1, by omega, by go_num, by rw [H1.out]; exact hO3, HB3⟩ | exact ⟨k + 1, by omega, by omega, by rw [H1.out]; exact hO3⟩
      case measure => simp [intOf] <;> omega
    · obtain rfl : k = len := by omega
      rw [List.take_of_length_le (by rw [LL.out]; exact Nat.le_refl _)] at hO
      go_wp2_with fail
      go_ret
      exact ⟨_, rfl, hO, hbr⟩
end Go.Proofs.Ytkdekdogfplbmaa
