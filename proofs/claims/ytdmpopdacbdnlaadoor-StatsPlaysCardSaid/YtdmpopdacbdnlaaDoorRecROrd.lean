/- lookoutref07.order: contract. -/
import Derived.Test.YtdmpopdacbdnlaaDoorRecRHas
import Derived.Test.YtdmpopdacbdnlaaDoorOctG
namespace Go.Proofs.YtdmpopdacbdnlaaDoor
open Go.RowKit
set_option linter.unusedVariables false
set_option linter.unusedSimpArgs false
set_option maxHeartbeats 4000000
set_option maxRecDepth 20000
theorem infoInt : (Tryd.prog.info? 3).map (fun i => (i.zero, i.size, i.bytes)) = some (some (.int .i64 0), 1, 8) := by kernel_rfl
/-- a slice of ints of the call's own reads as one of integers -/
theorem RowG.ints {w : World} {q : Option Addr} {n c : Nat} {zs : List Int} (h : RowG 1 w q n (zs.map fun z => [Value.int .i64 z])) (hc : n ≤ c) (hw : ∀ z ∈ zs, (Lit.int .i64 z).wf = true) (hn : q = none → c = 0) : RowI .i64 w q n c zs := by
  have hl := RowG.length h
  rw [List.length_map] at hl
  refine ⟨hl, RowG.small h, hc, hw, ?_, hn⟩
  by_cases h0 : n = 0
  · exact .inl h0
  · obtain ⟨b, off, rfl, hb, hcc⟩ := RowG.get h (by omega)
    refine .inr ⟨b, off, rfl, hb, fun i hi => ?_⟩
    have := hcc i hi 0 (.int .i64 (zs.getD i 0)) (by simp [List.getD, show i < zs.length by omega])
    simpa using this
def ordSoFar (k j : Nat) : List Nat := ((List.range j).map (· + 1)).filter (hasF k)
theorem ordSoFar_succ (k j : Nat) : ordSoFar k (j + 1) = if hasF k (j + 1) = true then ordSoFar k j ++ [j + 1] else ordSoFar k j := by
  unfold ordSoFar
  rw [List.range_succ, List.map_append, List.filter_append]
  cases h : hasF k (j + 1) <;> simp [h]
theorem ordSoFar_le (k j : Nat) : (ordSoFar k j).length ≤ j := by
  unfold ordSoFar
  have := List.length_filter_le (hasF k) ((List.range j).map (· + 1))
  simpa using this
theorem ordSoFar_7 (k : Nat) (hk : k ≠ 27) : ordSoFar k 7 = orderOf k := by
  unfold orderOf ordSoFar
  rw [if_neg hk]
  rfl
theorem wf_small {z : Nat} (h : z ≤ 1000) : (Lit.int .i64 (z : Int)).wf = true := by
  simp only [Lit.wf, IntKind.min, IntKind.max, IntKind.signed, IntKind.bits, Bool.and_eq_true, decide_eq_true_eq, if_true]
  constructor <;> omega
theorem orderOf_small (k : Nat) : ∀ x ∈ orderOf k, x ≤ 7 := by
  intro x hx
  unfold orderOf at hx
  split at hx
  · simp at hx; omega
  · have := (List.mem_filter.1 hx).1
    simp at this; omega
theorem rorder_any (k : UInt8) (h : 17 ≤ k.toNat) (h' : k.toNat ≤ 32) (w : World) :
    Calls Tryd.prog 91 #[.int .u8 (k.toNat : Int)] w fun e w' => ∃ q n c, e = .returned (.slice q n c) ∧ RowI .i64 w' q n c ((orderOf k.toNat).map fun x : Nat => (x : Int)) ∧ Below w.heap.size w w' ∧ ∀ x : Addr, q = some x → w.heap.size ≤ x.block := by
  have HH := Lib.hid (fun f h1 h2 W => rhas_any k.toNat f (by omega) h1 h2 W)
  have hsm := Lib.hid (orderOf_small k.toNat)
  generalize k.toNat = kn at *
  by_cases h27 : kn = 27
  · subst h27
    go_enter Tryd.func91, Tryd.ntmps91
    go_wp2_with fail
    go_ret
    refine ⟨_, _, _, rfl, ⟨rfl, by decide, Nat.le_refl _, fun z hz => ?_, .inr ⟨_, 0, rfl, by simp, fun i hi => ?_⟩, fun e => by cases e⟩, (by repeat (first | with_reducible exact Below.refl _ _ | with_reducible refine Below.drew ?_ | with_reducible refine Below.alloc ?_ (by (try simp) <;> omega) _ | with_reducible refine Below.setCell ?_ (by (try simp) <;> omega) _)), fun x e => by cases e; simp⟩
    · have : z = 5 ∨ z = 3 := by simpa [orderOf] using hz
      rcases this with rfl | rfl <;> decide
    · have : i = 0 ∨ i = 1 := by omega
      rcases this with rfl | rfl
      · simp [go_sem, orderOf]
      · simp [go_sem, orderOf]
  have h27' : ((kn : Int) == 27) = false := by rw [beq_eq_false_iff_ne]; omega
  have h7 := ordSoFar_7 kn h27
  rw [← h7]
  rw [← h7] at hsm
  replace h7 := Lib.hid h7
  go_enter Tryd.func91, Tryd.ntmps91
  go_wp2_with fail
  go_loopw [3, 4] (fun v i wr => ∃ j : Nat, j ≤ 7 ∧ i = .int .i64 ((j + 1 : Nat) : Int) ∧ Hid (OwnG 3 1 w.heap.size wr v ((ordSoFar kn j).map fun x : Nat => [Value.int .i64 (x : Int)])) ∧ Below w.heap.size w wr) (fun v i wr => 9 - (intOf i).toNat)
  case atStart => exact ⟨0, by omega, rfl, Lib.hid (OwnG.nil _ _ _ _), Below.refl _ _⟩
  case round =>
    obtain ⟨j, hj, rfl, hO, hB⟩ := hrel
    have hz := hB.size
    by_cases hlt : j < 7
    · have hs := ordSoFar_succ kn j
      have hle := ordSoFar_le kn j
      have H1 := Lib.hid (fun W => HH.out (j + 1) (by omega) (by omega) W)
      have hj7 : (((j + 1 : Nat) : Int) ≤ 7) := by omega
      generalize hasF kn (j + 1) = bb at *
      generalize ordSoFar kn j = os at *
      replace hs := Lib.hid hs
      go_wp2_with fail
      refine (H1.out _).mono ?_; rintro e w' ⟨rfl, rfl⟩
      cases bb with
      | false =>
        have hs' := hs.out
        rw [if_neg (by simp)] at hs'
        replace hs' := Lib.hid hs'
        go_wp2_with fail
        go_roundw
        case rel => first | exact ⟨j + 1, by omega, by go_num, by rw [hs'.out]; exact hO, hB⟩ | exact ⟨j + 1, by omega, by omega, by rw [hs'.out]; exact hO, hB⟩ | exact ⟨j + 1, by omega, by omega, by rw [hs'.out]; exact hO⟩
        case measure => simp [intOf] <;> omega
      | true =>
        have hs' := hs.out
        rw [if_pos rfl] at hs'
        replace hs' := Lib.hid hs'
        go_wp2_with (at_builtin; refine append_g 143 3 _ 1 8 infoInt (by rfl) (by omega) Tryd.underlying143 rfl _ _ rfl w.heap.size u3 (os.map fun x : Nat => [Value.int .i64 (x : Int)]) rfl (OwnG.below hO.out ((Below.refl _ _).alloc (Nat.le_refl _) _)) ⟨wr.heap.size, 0, none⟩ 1 1 [[Value.int .i64 ((j + 1 : Nat) : Int)]] rfl rfl (by simp) (fun i u hu => by
            rw [WideShapes.add_plain]
            match i, hu with
            | 0, hu => simp at hu; subst hu; simp [go_sem]
            | i + 1, hu => simp at hu) (by simp [Value.oneCell']) (by rw [List.length_map]; unfold maxLen; omega) (by rw [List.length_map]; omega) (by simp; omega) ?_; intro v4 w4 hO4 hG4; have B4 : Below w.heap.size w w4 := (hB.alloc hz _).grown hG4 (by simp; omega) (fun k hk => (hO.out.owns.lt k hk).1); replace hO4 := Lib.hid hO4)
        go_roundw
        case rel => first | exact ⟨j + 1, by omega, by go_num, by rw [hs'.out, List.map_append]; exact hO4, B4⟩ | exact ⟨j + 1, by omega, by omega, by rw [hs'.out, List.map_append]; exact hO4, B4⟩ | exact ⟨j + 1, by omega, by omega, by rw [hs'.out, List.map_append]; exact hO4⟩
        case measure => simp [intOf] <;> omega
    · obtain rfl : j = 7 := by omega
      go_wp2_with fail
      go_ret
      obtain ⟨q, c, e, hR, hc, hq⟩ := hO.out.row
      have hn : q = none → c = 0 := by
        intro hq0
        rcases hO.out.owns.2 with ⟨hv, _⟩ | ⟨g, cap, cur, hv, _⟩
        · rw [e] at hv
          simp only [Value.slice.injEq] at hv
          exact hv.2.2
        · rw [e] at hv
          simp only [Value.slice.injEq] at hv
          rw [hq0] at hv
          cases hv.1
      subst e
      rw [List.length_map] at hR hc ⊢
      have e2 : (ordSoFar kn 7).map (fun x : Nat => [Value.int .i64 (x : Int)]) = ((ordSoFar kn 7).map fun x : Nat => (x : Int)).map fun z => [Value.int .i64 z] := by simp
      rw [e2] at hR
      exact ⟨_, _, _, rfl, RowG.ints hR hc (fun z hz => by
        obtain ⟨x, hx, rfl⟩ := List.mem_map.1 hz
        exact wf_small (by have := hsm.out x hx; omega)) hn, hB, fun x e => (hq x e).1⟩
end Go.Proofs.YtdmpopdacbdnlaaDoor
