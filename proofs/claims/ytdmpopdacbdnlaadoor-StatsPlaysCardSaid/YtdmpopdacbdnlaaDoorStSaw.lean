/- The reference's counter, step by step: what a law keeps of it. -/
import Derived.Test.YtdmpopdacbdnlaaDoorStAwake
namespace Go.Proofs.YtdmpopdacbdnlaaDoor
open Go.RowKit
set_option linter.unusedVariables false
set_option linter.unusedSimpArgs false
set_option maxHeartbeats 4000000
set_option maxRecDepth 20000
/-- the reference's row of records, in blocks from lo on -/
structure TR (W : World) (lo : Nat) (q : Option Addr) (m c : Nat) (l : List Rec) : Prop where
  row : RowG 8 W q m (l.map recVs)
  new : ∀ x, q = some x → lo ≤ x.block
  nil : m = 0 → q = none ∧ c = 0
theorem TR.turn {S : Nat → Prop} {W W' : World} {lo : Nat} {q : Option Addr} {m c : Nat} {l : List Rec} (h : TR W lo q m c l) (t : Turn S W W') (hS : ∀ k, lo ≤ k → ¬ S k) : TR W' lo q m c l :=
  ⟨RowG.turn h.row t (fun x e => hS _ (h.new x e)), h.new, h.nil⟩
theorem TR.below {W W' : World} {lo : Nat} {q : Option Addr} {m c : Nat} {l : List Rec} (h : TR W lo q m c l) (hb : Below W.heap.size W W') : TR W' lo q m c l := ⟨h.row.below hb, h.new, h.nil⟩
theorem TR.none (W : World) (lo : Nat) : TR W lo none 0 0 [] := ⟨RowG.empty _ _ _, (fun x e => by cases e), fun _ => ⟨rfl, rfl⟩⟩
theorem TR.len {W : World} {lo : Nat} {q : Option Addr} {m c : Nat} {l : List Rec} (h : TR W lo q m c l) : l.length = m := by have := h.row.length; rw [List.length_map] at this; exact this
theorem rseeT_any (n : Int) (q : Option Addr) (m c lo : Nat) (l : List Rec) (r : Rec) (w : World) (h : TR w lo q m c l) (hlo : lo ≤ w.heap.size) (hm : m ≤ 1000) (hok : r.ok) :
    Calls Tryd.prog 37 #[.agg #[.int .i64 n, .slice q m c], recA r] w fun e w' => ∃ q' m' c', e = .returned (.agg #[.int .i64 n, .slice q' m' c']) ∧ TR w' lo q' m' c' (if mayB r = true then l ++ [r] else l) ∧ Below w.heap.size w w' := by
  cases hb : mayB r with
  | false =>
    rw [if_neg (by simp)]
    refine (rsee_no n q m c r w hok hb).mono ?_; rintro e w' ⟨rfl, hb'⟩
    exact ⟨q, m, c, rfl, h.below hb', hb'⟩
  | true =>
    rw [if_pos rfl]
    by_cases h0 : m = 0
    · obtain ⟨hq, hc⟩ := h.nil h0
      subst h0; subst hq; subst hc
      have hl : l = [] := List.length_eq_zero_iff.1 h.len
      subst hl
      refine (rsee_nil n r w hok hb).mono ?_; rintro e w' ⟨q', c', rfl, hR, hb', hx⟩
      exact ⟨q', 1, c', rfl, ⟨hR, fun x e => Nat.le_trans hlo (hx x e), fun e => by cases e⟩, hb'⟩
    · obtain ⟨b, off, hq, hbl, _⟩ := RowG.rec_ h.row (by omega)
      refine (rsee_yes n q m c l r w h.row b off hq hbl hm hok hb).mono ?_; rintro e w' ⟨q', c', rfl, hR, hb', hx⟩
      exact ⟨q', m + 1, c', rfl, ⟨hR, fun x e => Nat.le_trans hlo (hx x e), fun e => by omega⟩, hb'⟩
end Go.Proofs.YtdmpopdacbdnlaaDoor
