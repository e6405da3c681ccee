/- Numbers as bytes: plain. -/
import Derived.Test.YtdondjodonmebaaKit2
import Derived.Lib.BitFns
import Derived.Lib.ItoaNum
import Derived.Maps.AppendAt
import Derived.Maps.Range
namespace Go.Proofs.Ytdondjodonmebaa
open Go.RowKit Go
set_option linter.unusedVariables false

def nb (u : Nat) : Nat := (Lib.bitLen u + 7) / 8
def byteAt (u k i : Nat) : UInt8 := UInt8.ofNat (u / 256 ^ (k - 1 - i))
def be (u k i : Nat) : List UInt8 := (List.range i).map (byteAt u k)
def enc (u : Nat) : List UInt8 := if u < 248 then [UInt8.ofNat u] else UInt8.ofNat (247 + nb u) :: be u (nb u) (nb u)
theorem be_succ (u k i : Nat) : be u k (i + 1) = be u k i ++ [byteAt u k i] := by simp [be, List.range_succ]
theorem nb_spec {u : Nat} (h : 248 ≤ u) (h64 : u < 18446744073709551616) : 1 ≤ nb u ∧ nb u ≤ 8 ∧ 256 ^ (nb u - 1) ≤ u ∧ u < 256 ^ nb u := by
  have h1 := (Lib.bitLen_le u 64 (by omega) (by omega))
  obtain ⟨b1, b2⟩ := Lib.bitLenAux_bounds 64 u (by omega) (by omega) |>.2
  have b0 := (Lib.bitLenAux_bounds 64 u (by omega) (by omega)).1
  have e : ∀ n, 256 ^ n = 2 ^ (8 * n) := fun n => by rw [Nat.pow_mul]
  change 1 ≤ Lib.bitLen u at b0
  change 2 ^ (Lib.bitLen u - 1) ≤ u at b1
  change u < 2 ^ Lib.bitLen u at b2
  unfold nb
  refine ⟨by omega, by omega, ?_, ?_⟩
  · rw [e]; exact Nat.le_trans (Nat.pow_le_pow_right (by omega) (by omega)) b1
  · rw [e]; exact Nat.lt_of_lt_of_le b2 (Nat.pow_le_pow_right (by omega) (by omega))

/-- What a grown slice of the call's own is to the elder one. -/
structure Grew (t : TypeId) (base : Nat) (w : World) (v : Value) (w' : World) (v' : Value) (l' : List UInt8) : Prop where
  own : OwnB t base w' v' l'
  gr : w.grownBy w' v.ownBlock
  pl : ∀ j, v'.ownBlock = some j → w.heap.size ≤ j ∨ v.ownBlock = some j
theorem Grew.refl {t : TypeId} {base : Nat} {w : World} {v : Value} {l : List UInt8} (h : OwnB t base w v l) : Grew t base w v w v l := ⟨h, World.grownBy.refl _ _, fun _ e => .inr e⟩
theorem Grew.trans {t : TypeId} {base : Nat} {w w1 w2 : World} {v v1 v2 : Value} {l1 l2 : List UInt8} (h : Grew t base w v w1 v1 l1) (k : Grew t base w1 v1 w2 v2 l2) : Grew t base w v w2 v2 l2 :=
  ⟨k.own, h.gr.andThen k.gr h.pl, fun j e => by
    rcases k.pl j e with h1 | h1
    · exact .inl (Nat.le_trans h.gr.size h1)
    · exact h.pl j h1⟩
/-- new blocks between -/
theorem Grew.below {t : TypeId} {base : Nat} {w w1 w2 : World} {v v1 : Value} {l1 : List UInt8} (h : Grew t base w v w1 v1 l1) (hb : Below w1.heap.size w1 w2) : Grew t base w v w2 v1 l1 :=
  ⟨h.own.below hb, h.gr.andThen (row' := none) ⟨hb.os, hb.tape, hb.output, hb.size, fun k hk _ => hb.block k hk⟩ (fun j e => by cases e), h.pl⟩
theorem Grew.toBelow {t : TypeId} {base : Nat} {w w' : World} {v v' : Value} {l l' : List UInt8} (h : Grew t base w v w' v' l') (hO : OwnB t base w v l) (hbase : base ≤ w.heap.size) : Below base w w' :=
  (Below.refl base w).grown h.gr hbase (fun k hk => (hO.owns.lt k hk).1)
end Go.Proofs.Ytdondjodonmebaa
