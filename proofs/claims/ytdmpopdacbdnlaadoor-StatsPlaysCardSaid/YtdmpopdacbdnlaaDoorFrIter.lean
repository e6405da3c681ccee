/- (*frame.Decoder).Items and the iterator that it hands back: contracts. -/
import Derived.RangeFuncNested
import Derived.RangeFuncBound
import Derived.RangeFuncCalls
import Derived.RangeFuncLeaves
import Derived.Shelf.Abstract
import Derived.Shelf.RegionOpen
import Derived.WalkKit
import Derived.OwnWalkIn
import Derived.TacticsInMore
import Derived.LoopNIn
import Derived.LoopIn
import Derived.Test.YtdmpopdacbdnlaaDoorFrNext2
namespace Go.Proofs.YtdmpopdacbdnlaaDoor
open Go.RowKit Go.Shelf
attribute [local go_sem] Oper.semAt_some
set_option linter.unusedVariables false
set_option linter.unusedSimpArgs false
set_option maxHeartbeats 4000000
set_option maxRecDepth 20000
def itA (x : It) (q : Option Addr) (n c : Nat) : Value := .agg #[.int .i64 (x.skip : Int), .int .u8 (x.kind.toNat : Int), .slice q n c]
theorem items_any (g : Nat) (w : World) : Calls Tryd.prog 21 #[.pointer (some ⟨g, 0, none⟩)] w fun e w' => e = .returned (.func (.func 70) #[] #[.pointer (some ⟨w.heap.size, 0, none⟩)]) ∧ w' = w.alloc (.cells #[.pointer (some ⟨g, 0, none⟩)] 24) := by
  go_enter Tryd.func21, Tryd.ntmps21
  go_wp2_with fail
  go_ret
  exact ⟨rfl, rfl⟩
/-- what abides the iterator's steps: S' is S and what is new -/
def Abide (X0 : Nat → Prop) (J : List It → (Nat → Prop) → World → Prop) : Prop := ∀ pre S W S' W', J pre S W → Turn S W W' → (∀ k, X0 k → k < W.heap.size ∧ ¬ S k) → (∀ k, S' k → S k ∨ W.heap.size ≤ k) → J pre S' W'
/-- what a round may turn: nothing of the iterator's, nothing that lay ahead of B0 -/
def MayTurn (B0 : Nat) (S : Nat → Prop) (W W' : World) : Prop := ∃ T : Nat → Prop, Turn T W W' ∧ (∀ k, k < W.heap.size → T k → ¬ S k) ∧ ∀ k, T k → B0 ≤ k
/-- how many items a decoder holds -/
def heldN (W : World) (g : Nat) : Nat := match W.cell? ⟨g, 2, none⟩ with
  | some (.slice _ n _) => n
  | _ => 0
theorem Dec.heldN {W : World} {g : Nat} {S : Nat → Prop} {d : St} (h : Dec W g S d) : heldN W g = d.found.length := by
  obtain ⟨rq, rn, rc, fq, fn, fc, hM⟩ := h.m
  unfold Proofs.YtdmpopdacbdnlaaDoor.heldN
  rw [hM.c2]
  exact hM.fnd.length.symm
theorem equalIn_yield_nil (w : World) (d l : Nat) (a b : Array Value) : (Op.equalIn (d + 1) 115 (.func (.yield l) a b) .nilFunc).run Tryd.prog w = .ok false w := by
  simp [Op.equalIn, run_underlying Tryd.underlying115]
theorem eql_yield_nil (w : World) (l : Nat) (a b : Array Value) : (binOp .eql 115 (.func (.yield l) a b) .nilFunc).run Tryd.prog w = .ok (.bool false) w := by
  simp only [binOp]
  simp [Op.equal, Op.maxDepth, equalIn_yield_nil w 9999 l a b]
theorem items1_any (m l bx g B0 : Nat) (hm : 1 ≤ m) (X0 : Nat → Prop) (hX : X0 bx) (J Jx : List It → (Nat → Prop) → World → Prop) (hJ : Abide X0 J) (rs : List UInt8) (sk : Nat) (ov : Bool) (its : List It)
    (hY : ∀ pre x rest S W q n c, its = pre ++ x :: rest → J pre S W → Dec W g S ⟨rs, sk, rest, ov⟩ → (∀ k, X0 k → k < W.heap.size ∧ ¬ S k) → RowB W q n c x.body → (∀ y, q = some y → y.block < B0 ∧ ¬ S y.block) →
      YieldAt Fence.wide (m - 1) Tryd.prog l #[itA x q n c] W fun e W' =>
        (e = .returned (.bool true) ∧ J (pre ++ [x]) S W' ∧ MayTurn B0 (fun k => S k ∨ k = bx) W W') ∨ (e = .returned (.bool false) ∧ Jx (pre ++ [x]) S W'))
    (S0 : Nat → Prop) (W : World) (h0 : J [] S0 W) (hD : Dec W g S0 ⟨rs, sk, its, ov⟩) (hB : BodIn W g ⟨rs, sk, its, ov⟩ (fun k => k < B0)) (hX0 : ∀ k, X0 k → k < W.heap.size ∧ ¬ S0 k)
    (hbx : W.cell? ⟨bx, 0, none⟩ = some (.pointer (some ⟨g, 0, none⟩))) :
    CallsIn Fence.wide m Tryd.prog 70 #[.func (.yield l) #[] #[], .pointer (some ⟨bx, 0, none⟩)] W fun e W' => (∃ v, e = .returned v) ∧
      ((∃ S' : Nat → Prop, J its S' W' ∧ Dec W' g S' ⟨rs, sk, [], ov⟩) ∨ (∃ pre, ∃ S' : Nat → Prop, Jx pre S' W')) := by
  have HN := Lib.hid (fun S d W h => next_any g S d W h)
  replace hJ := Lib.hid hJ
  replace hY := Lib.hid hY
  have hlt := hX0 bx hX
  have heq := fun W => eql_yield_nil W l #[] #[]
  refine callsIn_of_wp Tryd.func70 rfl trivial ?_ rfl
  simp only [Tryd.ntmps70, List.size_toArray, List.length_cons, List.length_nil, Nat.reduceAdd, Nat.reduceSub, Array.replicate_succ, Array.replicate_zero, List.push_toArray, List.append_toArray, List.nil_append, List.cons_append]
  gi_wp2
  gi_loopw [3] (fun p wr => ∃ (pre rest : List It) (S : Nat → Prop), its = pre ++ rest ∧ Hid (J pre S wr) ∧ Hid (Dec wr g S ⟨rs, sk, rest, ov⟩) ∧ Hid (BodIn wr g ⟨rs, sk, rest, ov⟩ (fun k => k < B0)) ∧ Hid (∀ k, X0 k → k < wr.heap.size ∧ ¬ S k) ∧ wr.cell? ⟨bx, 0, none⟩ = some (.pointer (some ⟨g, 0, none⟩)))
    (fun p wr => heldN wr g)
  case atStart => exact ⟨[], its, S0, rfl, Lib.hid h0, Lib.hid hD, Lib.hid hB, Lib.hid hX0, hbx⟩
  case round =>
    clear h0 hD hB hX0 hbx hlt
    obtain ⟨pre, rest, S, hits, hJ0, hD, hB, hX0, hbx⟩ := hrel
    have hlt := hX0.out bx hX
    have HNX := HN.out S _ wr hD.out
    cases rest with
    | nil =>
      simp only [List.getD_nil, List.length_nil, Nat.lt_irrefl, decide_false] at HNX
      replace HNX := Lib.hid HNX
      gi_wp2_with (refine ⟨trivial, ?_⟩; gi_at_call 22; refine (callsIn_wide.2 HNX.out).mono ?_; rintro e w2 ⟨q, n, c, rfl, hR, hq, ⟨S2, hD2, hT2, hS2⟩, hE⟩)
      have J2 := hJ.out _ _ _ S2 _ hJ0.out hT2 hX0.out hS2
      have hX2 : ∀ k, X0 k → k < w2.heap.size ∧ ¬ S2 k := fun k hk => ⟨Nat.lt_of_lt_of_le (hX0.out k hk).1 hT2.size, fun h => (hS2 k h).elim (hX0.out k hk).2 (fun h => by have := (hX0.out k hk).1; omega)⟩
      have hp : its = pre := by rw [hits, List.append_nil]
      subst hp
      have J3 := Lib.hid J2
      have D3 := Lib.hid hD2
      have A3 : Below w2.heap.size w2 (w2.alloc (.cells #[.int .i64 (It.no.skip : Int), .int .u8 (It.no.kind.toNat : Int), .slice q n c] 39)) := (Below.refl _ _).alloc (Nat.le_refl _) _
      have J4 := Lib.hid (hJ.out _ _ _ S2 _ J2 (Turn.ofBelow (S := S2) A3 rfl) hX2 (fun k h => .inl h))
      have D4 := Lib.hid (Dec.apart hD2 hD2.bod (Turn.ofBelow (S := fun _ => False) A3 rfl) (fun _ _ h => h.elim) (fun _ _ h => h)).1
      clear J2 hD2 hR hq hE hB hY hJ hJ0 hD J3 D3 A3
      gi_wp2
      refine ⟨fun _ h => (by cases h), ?_⟩
      gi_wp2
      refine bodyPost_ret (results_none rfl _ _ _) rfl ?_
      exact ⟨⟨_, rfl⟩, .inl ⟨S2, J4.out, D4.out⟩⟩
    | cons x rest =>
      have hDr := Lib.hid hD.out.heldN
      simp only [List.getD_cons_zero, List.length_cons, Nat.zero_lt_succ, decide_true] at HNX
      replace HNX := Lib.hid HNX
      gi_wp2_with (refine ⟨trivial, ?_⟩; gi_at_call 22; refine (callsIn_wide.2 HNX.out).mono ?_; rintro e w2 ⟨q, n, c, rfl, hR, hq, ⟨S2, hD2, hT2, hS2⟩, hE⟩)
      have J2 := hJ.out _ _ _ S2 _ hJ0.out hT2 hX0.out hS2
      have hX2 : ∀ k, X0 k → k < w2.heap.size ∧ ¬ S2 k := fun k hk => ⟨Nat.lt_of_lt_of_le (hX0.out k hk).1 hT2.size, fun h => (hS2 k h).elim (hX0.out k hk).2 (fun h => by have := (hX0.out k hk).1; omega)⟩
      have bx2 := (hT2.cell (p := ⟨bx, 0, none⟩) hlt.1 hlt.2).trans hbx
      obtain ⟨hB2, hq2⟩ := hE _ hB.out
      have hq3 : ∀ y, q = some y → y.block < B0 ∧ ¬ S2 y.block := fun y hy => ⟨hq2 y hy, fun h => (hS2 _ h).elim (hq y hy).1 (fun h => by have := (hq y hy).2; omega)⟩
      have A3 : Below w2.heap.size w2 (w2.alloc (.cells #[.int .i64 (x.skip : Int), .int .u8 (x.kind.toNat : Int), .slice q n c] 39)) := (Below.refl _ _).alloc (Nat.le_refl _) _
      have T3 := Turn.ofBelow (S := S2) A3 rfl
      have T3' := Turn.ofBelow (S := fun _ => False) A3 rfl
      have J3 := hJ.out _ _ _ S2 _ J2 T3 hX2 (fun k h => .inl h)
      obtain ⟨hD3, hB3⟩ := Dec.apart hD2 hB2 T3' (fun _ _ h => h.elim) (fun _ _ h => h)
      have hX3 : ∀ k, X0 k → k < (w2.alloc (.cells #[.int .i64 (x.skip : Int), .int .u8 (x.kind.toNat : Int), .slice q n c] 39)).heap.size ∧ ¬ S2 k := fun k hk => ⟨Nat.lt_of_lt_of_le (hX2 k hk).1 A3.size, (hX2 k hk).2⟩
      have hdn : St.next ⟨rs, sk, x :: rest, ov⟩ = ⟨rs, sk, rest, ov⟩ := rfl
      rw [hdn] at hD3 hB3
      have bx3 := (A3.cell (p := ⟨bx, 0, none⟩) (hX2 bx hX).1).trans bx2
      have hR3 := hR.below A3
      obtain ⟨fn, tmps, assign, body, hy, hRd⟩ := hY.out pre x rest S2 _ q n c hits J3 hD3 hX3 hR3 hq3
      have D3 := Lib.hid hD3
      have B3 := Lib.hid hB3
      have X3 := Lib.hid hX3
      unfold itA at hy
      clear J2 hX2 bx2 hB2 hq2 hE hq3 hR hR3 T3 T3' J3 hD2 hD3 hB3 hX3 hq hY hB hD hX0 hJ0 hT2 hdn
      gi_wp2
      rw [hy]
      clear hy
      gi_wp2
      refine hRd.mono ?_
      rintro e W3 (⟨rfl, hJ3, T, hT, hT1, hT2⟩ | ⟨rfl, hJx3⟩)
      · obtain ⟨hD4, hB4⟩ := Dec.apart D3.out B3.out hT (fun k hk ht hs => hT1 k hk ht (.inl hs)) (fun k hk ht => by have := hT2 k ht; omega)
        have hX4 : ∀ k, X0 k → k < W3.heap.size ∧ ¬ S2 k := fun k hk => ⟨Nat.lt_of_lt_of_le (X3.out k hk).1 hT.size, (X3.out k hk).2⟩
        have bx4 := (hT.cell (p := ⟨bx, 0, none⟩) (X3.out bx hX).1 (fun ht => hT1 bx (X3.out bx hX).1 ht (.inr rfl))).trans bx3
        have e4 := hD4.heldN
        have e3 := hDr.out
        replace hJ3 := Lib.hid hJ3
        replace hD4 := Lib.hid hD4
        replace hB4 := Lib.hid hB4
        replace hX4 := Lib.hid hX4
        clear hRd D3 B3 X3 bx3 hT hT1 hT2
        gi_wp2
        go_roundw
        case rel => exact ⟨pre ++ [x], rest, S2, by rw [hits]; simp, hJ3, hD4, hB4, hX4, bx4⟩
        case measure => rw [e3, e4]; simp
      · clear hRd D3 B3 X3 bx3
        gi_wp2
        refine bodyPost_ret (results_none rfl _ _ _) rfl ?_
        exact ⟨⟨_, rfl⟩, .inr ⟨pre ++ [x], S2, hJx3⟩⟩
end Go.Proofs.YtdmpopdacbdnlaaDoor
