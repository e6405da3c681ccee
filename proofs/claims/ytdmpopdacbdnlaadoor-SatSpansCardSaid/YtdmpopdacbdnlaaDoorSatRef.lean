/- lookoutref02: Right, At, Meet, Text; sat's Text: contracts. -/
import Derived.Test.YtdmpopdacbdnlaaDoorSatLaws
import Derived.Test.YtdmpopdacbdnlaaDoorDig02
import Derived.Deep.RegionHeld3
namespace Go.Proofs.YtdmpopdacbdnlaaDoor
open Go.RowKit
set_option linter.unusedVariables false
set_option linter.unusedSimpArgs false
set_option maxHeartbeats 4000000
set_option maxRecDepth 20000
theorem rsright_any (lo hi : Int) (w : World) :
    Calls Tryd.prog 29 #[.agg #[.int .i64 lo, .int .i64 hi]] w fun e w' => e = .returned (.bool (rightB lo hi)) ∧ Below w.heap.size w w' := by
  by_cases h : 0 ≤ lo
  · by_cases h2 : lo ≤ hi
    · rw [rightB_true h h2]
      go_enter Tryd.func29, Tryd.ntmps29
      go_wp2_with fail
      go_ret
      exact ⟨rfl, (Below.refl _ _).alloc (Nat.le_refl _) _⟩
    · rw [rightB_false (by omega)]
      go_enter Tryd.func29, Tryd.ntmps29
      go_wp2_with fail
      go_ret
      exact ⟨rfl, (Below.refl _ _).alloc (Nat.le_refl _) _⟩
  · rw [rightB_false (by omega)]
    go_enter Tryd.func29, Tryd.ntmps29
    go_wp2_with fail
    go_ret
    exact ⟨rfl, (Below.refl _ _).alloc (Nat.le_refl _) _⟩
/-- the moments behind a moment; what two spans have in common -/
def atB (lo hi t : Int) : Bool := decide (0 ≤ lo ∧ lo ≤ hi ∧ 0 ≤ t ∧ t + lo ≤ 9223372036854775807)
def atLo (lo hi t : Int) : Int := if atB lo hi t = true then t + lo else 0
def atHi (lo hi t : Int) : Int := if atB lo hi t = true then cut (t + hi) else 0
theorem sat_at (lo hi t : Int) (w : World) (hhi : hi ≤ 9223372036854775807) (ht : -9223372036854775808 ≤ t ∧ t ≤ 9223372036854775807) (hlo : -9223372036854775808 ≤ lo ∧ lo ≤ 9223372036854775807) :
    Calls Tryd.prog 24 #[.agg #[.int .i64 lo, .int .i64 hi], .int .i64 t] w fun e w' => e = .returned (.tuple #[.agg #[.int .i64 (atLo lo hi t), .int .i64 (atHi lo hi t)], .bool (atB lo hi t)]) ∧ Below w.heap.size w w' := by
  unfold atLo atHi
  by_cases h1 : 0 ≤ lo ∧ lo ≤ hi
  · by_cases h3 : 0 ≤ t
    · by_cases h4 : t + lo ≤ 9223372036854775807
      · have e : atB lo hi t = true := by unfold atB; simp; omega
        rw [e, if_pos rfl, if_pos rfl]
        exact at_ok lo hi t w h1.1 h1.2 h3 h4 hhi
      · have e : atB lo hi t = false := by unfold atB; rw [decide_eq_false_iff_not]; omega
        rw [e, if_neg (by simp), if_neg (by simp)]
        exact at_cut lo hi t w h1.1 h1.2 h3 (by omega) hlo.2 ht.2
    · have e : atB lo hi t = false := by unfold atB; rw [decide_eq_false_iff_not]; omega
      rw [e, if_neg (by simp), if_neg (by simp)]
      exact at_neg lo hi t w h1.1 h1.2 (by omega)
  · have e : atB lo hi t = false := by unfold atB; rw [decide_eq_false_iff_not]; omega
    rw [e, if_neg (by simp), if_neg (by simp)]
    exact at_bad lo hi t w h1
theorem rsat_any (lo hi t : Int) (w : World) (hhi : -9223372036854775808 ≤ hi ∧ hi ≤ 9223372036854775807) (ht : -9223372036854775808 ≤ t ∧ t ≤ 9223372036854775807) (hlo : -9223372036854775808 ≤ lo ∧ lo ≤ 9223372036854775807) :
    Calls Tryd.prog 25 #[.agg #[.int .i64 lo, .int .i64 hi], .int .i64 t] w fun e w' => e = .returned (.tuple #[.agg #[.int .i64 (atLo lo hi t), .int .i64 (atHi lo hi t)], .bool (atB lo hi t)]) ∧ Below w.heap.size w w' := by
  unfold atLo atHi
  by_cases h1 : 0 ≤ lo ∧ lo ≤ hi
  · have hr := rightB_true h1.1 h1.2
    by_cases h3 : 0 ≤ t
    · by_cases h4 : t + lo ≤ 9223372036854775807
      · have e : atB lo hi t = true := by unfold atB; simp; omega
        rw [e, if_pos rfl, if_pos rfl]
        have hw := was_in (x := t + lo) (by omega) h4
        have hx := cut_in (x := t + lo) (by omega) h4
        go_enter Tryd.func25, Tryd.ntmps25
        go_wp2_with fail
        refine (rsright_any _ _ _).mono ?_; rintro e w1 ⟨rfl, hb⟩; obtain ⟨hc, hf⟩ := bcell hb; have hz := hb.size; simp at hz; have hz0 : w.heap.size < w1.heap.size := (by omega); have hz1 : w.heap.size + 1 < w1.heap.size := (by omega)
        rw [hr]
        go_wp2_with fail
        refine (ref_add _ _ _ (by omega) (by omega) (by omega) (by omega)).mono ?_; rintro e w' ⟨rfl, rfl⟩
        unfold pairV
        rw [hw, hx]
        go_wp2_with fail
        refine (ref_add _ _ _ (by omega) (by omega) (by omega) (by omega)).mono ?_; rintro e w' ⟨rfl, rfl⟩
        unfold pairV
        go_wp2_with fail
        exact bodyPost_ret (v := .tuple #[.agg #[.int .i64 (t + lo), .int .i64 (cut (t + hi))], .bool true]) (by simp [results, Tryd.results25, go_sem, hc, hz1]) rfl ⟨rfl, (by repeat (first | with_reducible exact Below.refl _ _ | with_reducible refine Below.trans ?_ (Below.mono hb (by (try simp) <;> omega)) | with_reducible refine Below.drew ?_ | with_reducible refine Below.alloc ?_ (by (try simp) <;> omega) _ | with_reducible refine Below.setCell ?_ (by (try simp) <;> omega) _))⟩
      · have e : atB lo hi t = false := by unfold atB; rw [decide_eq_false_iff_not]; omega
        rw [e, if_neg (by simp), if_neg (by simp)]
        have hw := was_hi (x := t + lo) (by omega)
        go_enter Tryd.func25, Tryd.ntmps25
        go_wp2_with fail
        refine (rsright_any _ _ _).mono ?_; rintro e w1 ⟨rfl, hb⟩; obtain ⟨hc, hf⟩ := bcell hb; have hz := hb.size; simp at hz; have hz0 : w.heap.size < w1.heap.size := (by omega); have hz1 : w.heap.size + 1 < w1.heap.size := (by omega)
        rw [hr]
        go_wp2_with fail
        refine (ref_add _ _ _ (by omega) (by omega) (by omega) (by omega)).mono ?_; rintro e w' ⟨rfl, rfl⟩
        unfold pairV
        rw [hw]
        go_wp2_with fail
        exact bodyPost_ret (v := .tuple #[.agg #[.int .i64 0, .int .i64 0], .bool false]) (by simp [results, Tryd.results25, go_sem, hc, hz1]) rfl ⟨rfl, (by repeat (first | with_reducible exact Below.refl _ _ | with_reducible refine Below.trans ?_ (Below.mono hb (by (try simp) <;> omega)) | with_reducible refine Below.drew ?_ | with_reducible refine Below.alloc ?_ (by (try simp) <;> omega) _ | with_reducible refine Below.setCell ?_ (by (try simp) <;> omega) _))⟩
    · have e : atB lo hi t = false := by unfold atB; rw [decide_eq_false_iff_not]; omega
      rw [e, if_neg (by simp), if_neg (by simp)]
      go_enter Tryd.func25, Tryd.ntmps25
      go_wp2_with fail
      refine (rsright_any _ _ _).mono ?_; rintro e w1 ⟨rfl, hb⟩; obtain ⟨hc, hf⟩ := bcell hb; have hz := hb.size; simp at hz; have hz0 : w.heap.size < w1.heap.size := (by omega); have hz1 : w.heap.size + 1 < w1.heap.size := (by omega)
      rw [hr]
      go_wp2_with fail
      exact bodyPost_ret (v := .tuple #[.agg #[.int .i64 0, .int .i64 0], .bool false]) (by simp [results, Tryd.results25, go_sem, hc, hz1]) rfl ⟨rfl, (by repeat (first | with_reducible exact Below.refl _ _ | with_reducible refine Below.trans ?_ (Below.mono hb (by (try simp) <;> omega)) | with_reducible refine Below.drew ?_ | with_reducible refine Below.alloc ?_ (by (try simp) <;> omega) _ | with_reducible refine Below.setCell ?_ (by (try simp) <;> omega) _))⟩
  · have e : atB lo hi t = false := by unfold atB; rw [decide_eq_false_iff_not]; omega
    rw [e, if_neg (by simp), if_neg (by simp)]
    have hr := rightB_false h1
    go_enter Tryd.func25, Tryd.ntmps25
    go_wp2_with fail
    refine (rsright_any _ _ _).mono ?_; rintro e w1 ⟨rfl, hb⟩; obtain ⟨hc, hf⟩ := bcell hb; have hz := hb.size; simp at hz; have hz0 : w.heap.size < w1.heap.size := (by omega); have hz1 : w.heap.size + 1 < w1.heap.size := (by omega)
    rw [hr]
    go_wp2_with fail
    exact bodyPost_ret (v := .tuple #[.agg #[.int .i64 0, .int .i64 0], .bool false]) (by simp [results, Tryd.results25, go_sem, hc, hz1]) rfl ⟨rfl, (by repeat (first | with_reducible exact Below.refl _ _ | with_reducible refine Below.trans ?_ (Below.mono hb (by (try simp) <;> omega)) | with_reducible refine Below.drew ?_ | with_reducible refine Below.alloc ?_ (by (try simp) <;> omega) _ | with_reducible refine Below.setCell ?_ (by (try simp) <;> omega) _))⟩
def mtB (lo hi lo' hi' : Int) : Bool := decide (mxI lo lo' ≤ mnI hi hi')
def mtLo (lo hi lo' hi' : Int) : Int := if mtB lo hi lo' hi' = true then mxI lo lo' else 0
def mtHi (lo hi lo' hi' : Int) : Int := if mtB lo hi lo' hi' = true then mnI hi hi' else 0
theorem sat_meet (lo hi lo' hi' : Int) (w : World) :
    Calls Tryd.prog 26 #[.agg #[.int .i64 lo, .int .i64 hi], .agg #[.int .i64 lo', .int .i64 hi']] w fun e w' => e = .returned (.tuple #[.agg #[.int .i64 (mtLo lo hi lo' hi'), .int .i64 (mtHi lo hi lo' hi')], .bool (mtB lo hi lo' hi')]) ∧ Below w.heap.size w w' := by
  unfold mtLo mtHi
  by_cases h : mxI lo lo' ≤ mnI hi hi'
  · have e : mtB lo hi lo' hi' = true := by unfold mtB; rw [decide_eq_true_iff]; exact h
    rw [e, if_pos rfl, if_pos rfl]
    exact meet_yes lo hi lo' hi' w h
  · have e : mtB lo hi lo' hi' = false := by unfold mtB; rw [decide_eq_false_iff_not]; exact h
    rw [e, if_neg (by simp), if_neg (by simp)]
    exact meet_no lo hi lo' hi' w h
theorem rsmeet_any (lo hi lo' hi' : Int) (w : World) :
    Calls Tryd.prog 27 #[.agg #[.int .i64 lo, .int .i64 hi], .agg #[.int .i64 lo', .int .i64 hi']] w fun e w' => e = .returned (.tuple #[.agg #[.int .i64 (mtLo lo hi lo' hi'), .int .i64 (mtHi lo hi lo' hi')], .bool (mtB lo hi lo' hi')]) ∧ Below w.heap.size w w' := by
  unfold mtLo mtHi mtB mxI mnI
  by_cases h1 : lo' ≤ lo
  · by_cases h2 : hi ≤ hi'
    · rw [if_pos h1, if_pos h2]
      by_cases h3 : lo ≤ hi
      · rw [decide_eq_true h3, if_pos rfl, if_pos rfl]
        go_enter Tryd.func27, Tryd.ntmps27
        go_wp2_with fail
        exact bodyPost_ret (v := .tuple #[.agg #[.int .i64 lo, .int .i64 hi], .bool true]) (by simp [results, Tryd.results27, go_sem]) rfl ⟨rfl, (by repeat (first | with_reducible exact Below.refl _ _ | with_reducible refine Below.drew ?_ | with_reducible refine Below.alloc ?_ (by (try simp) <;> omega) _ | with_reducible refine Below.setCell ?_ (by (try simp) <;> omega) _))⟩
      · rw [decide_eq_false h3, if_neg (by simp), if_neg (by simp)]
        go_enter Tryd.func27, Tryd.ntmps27
        go_wp2_with fail
        exact bodyPost_ret (v := .tuple #[.agg #[.int .i64 0, .int .i64 0], .bool false]) (by simp [results, Tryd.results27, go_sem]) rfl ⟨rfl, (by repeat (first | with_reducible exact Below.refl _ _ | with_reducible refine Below.drew ?_ | with_reducible refine Below.alloc ?_ (by (try simp) <;> omega) _ | with_reducible refine Below.setCell ?_ (by (try simp) <;> omega) _))⟩
    · rw [if_pos h1, if_neg h2]
      by_cases h3 : lo ≤ hi'
      · rw [decide_eq_true h3, if_pos rfl, if_pos rfl]
        go_enter Tryd.func27, Tryd.ntmps27
        go_wp2_with fail
        exact bodyPost_ret (v := .tuple #[.agg #[.int .i64 lo, .int .i64 hi'], .bool true]) (by simp [results, Tryd.results27, go_sem]) rfl ⟨rfl, (by repeat (first | with_reducible exact Below.refl _ _ | with_reducible refine Below.drew ?_ | with_reducible refine Below.alloc ?_ (by (try simp) <;> omega) _ | with_reducible refine Below.setCell ?_ (by (try simp) <;> omega) _))⟩
      · rw [decide_eq_false h3, if_neg (by simp), if_neg (by simp)]
        go_enter Tryd.func27, Tryd.ntmps27
        go_wp2_with fail
        exact bodyPost_ret (v := .tuple #[.agg #[.int .i64 0, .int .i64 0], .bool false]) (by simp [results, Tryd.results27, go_sem]) rfl ⟨rfl, (by repeat (first | with_reducible exact Below.refl _ _ | with_reducible refine Below.drew ?_ | with_reducible refine Below.alloc ?_ (by (try simp) <;> omega) _ | with_reducible refine Below.setCell ?_ (by (try simp) <;> omega) _))⟩
  · by_cases h2 : hi ≤ hi'
    · rw [if_neg h1, if_pos h2]
      by_cases h3 : lo' ≤ hi
      · rw [decide_eq_true h3, if_pos rfl, if_pos rfl]
        go_enter Tryd.func27, Tryd.ntmps27
        go_wp2_with fail
        exact bodyPost_ret (v := .tuple #[.agg #[.int .i64 lo', .int .i64 hi], .bool true]) (by simp [results, Tryd.results27, go_sem]) rfl ⟨rfl, (by repeat (first | with_reducible exact Below.refl _ _ | with_reducible refine Below.drew ?_ | with_reducible refine Below.alloc ?_ (by (try simp) <;> omega) _ | with_reducible refine Below.setCell ?_ (by (try simp) <;> omega) _))⟩
      · rw [decide_eq_false h3, if_neg (by simp), if_neg (by simp)]
        go_enter Tryd.func27, Tryd.ntmps27
        go_wp2_with fail
        exact bodyPost_ret (v := .tuple #[.agg #[.int .i64 0, .int .i64 0], .bool false]) (by simp [results, Tryd.results27, go_sem]) rfl ⟨rfl, (by repeat (first | with_reducible exact Below.refl _ _ | with_reducible refine Below.drew ?_ | with_reducible refine Below.alloc ?_ (by (try simp) <;> omega) _ | with_reducible refine Below.setCell ?_ (by (try simp) <;> omega) _))⟩
    · rw [if_neg h1, if_neg h2]
      by_cases h3 : lo' ≤ hi'
      · rw [decide_eq_true h3, if_pos rfl, if_pos rfl]
        go_enter Tryd.func27, Tryd.ntmps27
        go_wp2_with fail
        exact bodyPost_ret (v := .tuple #[.agg #[.int .i64 lo', .int .i64 hi'], .bool true]) (by simp [results, Tryd.results27, go_sem]) rfl ⟨rfl, (by repeat (first | with_reducible exact Below.refl _ _ | with_reducible refine Below.drew ?_ | with_reducible refine Below.alloc ?_ (by (try simp) <;> omega) _ | with_reducible refine Below.setCell ?_ (by (try simp) <;> omega) _))⟩
      · rw [decide_eq_false h3, if_neg (by simp), if_neg (by simp)]
        go_enter Tryd.func27, Tryd.ntmps27
        go_wp2_with fail
        exact bodyPost_ret (v := .tuple #[.agg #[.int .i64 0, .int .i64 0], .bool false]) (by simp [results, Tryd.results27, go_sem]) rfl ⟨rfl, (by repeat (first | with_reducible exact Below.refl _ _ | with_reducible refine Below.drew ?_ | with_reducible refine Below.alloc ?_ (by (try simp) <;> omega) _ | with_reducible refine Below.setCell ?_ (by (try simp) <;> omega) _))⟩
/-- a span's text -/
def spT (lo hi : Int) : List UInt8 := 91 :: (Lib.itoa lo ++ (44 :: (Lib.itoa hi ++ [93])))
theorem sp_app (x y : List UInt8) : ((⟨#[91]⟩ : ByteArray) ++ (⟨x.toArray⟩ : ByteArray)) = ⟨(91 :: x).toArray⟩ ∧ ((⟨(91 :: x).toArray⟩ : ByteArray) ++ (⟨#[44]⟩ : ByteArray)) = ⟨(91 :: (x ++ [44])).toArray⟩ ∧ ((⟨(91 :: (x ++ [44])).toArray⟩ : ByteArray) ++ (⟨y.toArray⟩ : ByteArray)) = ⟨(91 :: (x ++ (44 :: y))).toArray⟩ ∧ ((⟨(91 :: (x ++ (44 :: y))).toArray⟩ : ByteArray) ++ (⟨#[93]⟩ : ByteArray)) = ⟨(91 :: (x ++ (44 :: (y ++ [93])))).toArray⟩ := by
  refine ⟨?_, ?_, ?_, ?_⟩ <;> (apply ByteArray.ext; simp [ByteArray.data_append])
theorem rstext_any (lo hi : Int) (hlo : -9223372036854775808 ≤ lo ∧ lo ≤ 9223372036854775807) (hhi : -9223372036854775808 ≤ hi ∧ hi ≤ 9223372036854775807) (w : World) :
    Calls Tryd.prog 32 #[.agg #[.int .i64 lo, .int .i64 hi]] w fun e w' => e = .returned (.string ⟨(spT lo hi).toArray⟩) ∧ Below w.heap.size w w' := by
  unfold spT
  obtain ⟨a1, a2, a3, a4⟩ := sp_app (Lib.itoa lo) (Lib.itoa hi)
  have l1 := itoa_le lo hlo.1 hlo.2
  have l2 := itoa_le hi hhi.1 hhi.2
  have H1 := Lib.hid (fun W => dig02_loop lo hlo.1 hlo.2 W)
  have H2 := Lib.hid (fun W => dig02_loop hi hhi.1 hhi.2 W)
  generalize Lib.itoa lo = x at *
  generalize Lib.itoa hi = y at *
  have z1 : (⟨x.toArray⟩ : ByteArray).size = x.length := by simp [ByteArray.size]
  have z2 : (⟨y.toArray⟩ : ByteArray).size = y.length := by simp [ByteArray.size]
  have z3 : (⟨(91 :: x).toArray⟩ : ByteArray).size = x.length + 1 := by simp [ByteArray.size]
  have z4 : (⟨(91 :: (x ++ [44])).toArray⟩ : ByteArray).size = x.length + 2 := by simp [ByteArray.size]
  have z5 : (⟨(91 :: (x ++ (44 :: y))).toArray⟩ : ByteArray).size = x.length + y.length + 2 := by simp [ByteArray.size]; omega
  have n1 : ¬ (9223372036854775807 < 1 + x.length) := by omega
  have n2 : ¬ (9223372036854775807 < x.length + 1 + 1) := by omega
  have n3 : ¬ (9223372036854775807 < x.length + 2 + y.length) := by omega
  have n4 : ¬ (9223372036854775807 < x.length + y.length + 2 + 1) := by omega
  have A1 : Below w.heap.size w (w.alloc (.cells #[.int .i64 lo, .int .i64 hi] 47)) := (Below.refl _ _).alloc (Nat.le_refl _) _
  have X1 : Hid (Box (w.alloc (.cells #[.int .i64 lo, .int .i64 hi] 47)) w.heap.size [.int .i64 lo, .int .i64 hi]) := Lib.hid (Box.new w _ _ _ rfl _ rfl)
  go_enter Tryd.func32, Tryd.ntmps32
  go_wp2_with fail
  generalize w.alloc (.cells #[.int .i64 lo, .int .i64 hi] 47) = w1 at *
  have E : ∀ W, Below w1.heap.size w1 W → (fun W => W.cell? ⟨w.heap.size, 0, none⟩ = some (.int .i64 lo) ∧ W.cell? ⟨w.heap.size, 1, none⟩ = some (.int .i64 hi)) W := fun W h => ⟨(X1.out.below h).cell 0 _ rfl, (X1.out.below h).cell 1 _ rfl⟩
  replace E := Lib.hid E
  have D0 : Below w1.heap.size w1 w1.drew := (Below.refl _ _).drew
  refine wp_region_held_drew (S := (fun W => W.cell? ⟨w.heap.size, 0, none⟩ = some (.int .i64 lo) ∧ W.cell? ⟨w.heap.size, 1, none⟩ = some (.int .i64 hi))) (by kernel_rfl) (E.out _ D0) (fun hHeld => ?_)
  refine wpAnyH_take (i := 0) (oi := ⟨some 3, _, _, _, _, _⟩) (v := ?_) rfl (by kernel_rfl) (by kernel_rfl) (by kernel_rfl) (fun _ _ _ h => h) (Or.inl ⟨by rfl, ?hyt0⟩) (by assumption) ?_; (case hyt0 => ((intro W hSW; (try dsimp only at hSW); obtain ⟨hSW, hSW2⟩ := hSW; go_simp); (all_goals with_reducible rfl))); (try simp only [Act.put, List.setIfInBounds_toArray, List.set_cons_zero, List.set_cons_succ])
  refine wpAnyH_take (i := 1) (oi := ⟨some 4, _, _, _, _, _⟩) (v := ?_) rfl (by kernel_rfl) (by kernel_rfl) (by kernel_rfl) (fun _ _ _ h => h) (Or.inl ⟨by rfl, ?hyt1⟩) (by assumption) ?_; (case hyt1 => ((intro W hSW; (try dsimp only at hSW); obtain ⟨hSW, hSW2⟩ := hSW; go_simp); (all_goals with_reducible rfl))); (try simp only [Act.put, List.setIfInBounds_toArray, List.set_cons_zero, List.set_cons_succ])
  refine wpAnyH_take (i := 5) (oi := ⟨some 8, _, _, _, _, _⟩) (v := ?_) rfl (by kernel_rfl) (by kernel_rfl) (by kernel_rfl) (fun _ _ _ h => h) (Or.inl ⟨by rfl, ?hyt5⟩) (by assumption) ?_; (case hyt5 => ((intro W hSW; (try dsimp only at hSW); obtain ⟨hSW, hSW2⟩ := hSW; go_simp); (all_goals with_reducible rfl))); (try simp only [Act.put, List.setIfInBounds_toArray, List.set_cons_zero, List.set_cons_succ])
  refine wpAnyH_take (i := 6) (oi := ⟨some 9, _, _, _, _, _⟩) (v := ?_) rfl (by kernel_rfl) (by kernel_rfl) (by kernel_rfl) (fun _ _ _ h => h) (Or.inl ⟨by rfl, ?hyt6⟩) (by assumption) ?_; (case hyt6 => ((intro W hSW; (try dsimp only at hSW); obtain ⟨hSW, hSW2⟩ := hSW; go_simp); (all_goals with_reducible rfl))); (try simp only [Act.put, List.setIfInBounds_toArray, List.set_cons_zero, List.set_cons_succ])
  refine wpAnyH_ready (rs := [2]) (by kernel_rfl) (by simp) ?_; refine AllReadyH.cons (o := ⟨some 5, _, _, _, _, _⟩) rfl (fun K hK => ?_) AllReadyH.nil; go_simp
  go_at_call 77
  refine (H1.out _).mono ?_; rintro e w2 ⟨rfl, hb2⟩
  have D2 := D0.trans (hb2.mono D0.size)
  (try go_simp); refine hK.out _ _ (E.out _ D2) (fun hHeld2 => ?_); clear hK K hHeld; (try simp only [Act.put, List.setIfInBounds_toArray, List.set_cons_zero, List.set_cons_succ])
  refine wpAnyH_take (i := 3) (oi := ⟨some 6, _, _, _, _, _⟩) (v := ?_) rfl (by kernel_rfl) (by kernel_rfl) (by kernel_rfl) (fun _ _ _ h => h) (Or.inl ⟨by rfl, ?hyt3⟩) (by assumption) ?_; (case hyt3 => ((intro W hSW; (try dsimp only at hSW); obtain ⟨hSW, hSW2⟩ := hSW; go_simp); (all_goals with_reducible rfl))); (try simp only [Act.put, List.setIfInBounds_toArray, List.set_cons_zero, List.set_cons_succ])
  refine wpAnyH_take (i := 4) (oi := ⟨some 7, _, _, _, _, _⟩) (v := ?_) rfl (by kernel_rfl) (by kernel_rfl) (by kernel_rfl) (fun _ _ _ h => h) (Or.inl ⟨by rfl, ?hyt4⟩) (by assumption) ?_; (case hyt4 => ((intro W hSW; (try dsimp only at hSW); obtain ⟨hSW, hSW2⟩ := hSW; go_simp); (all_goals with_reducible rfl))); (try simp only [Act.put, List.setIfInBounds_toArray, List.set_cons_zero, List.set_cons_succ])
  refine wpAnyH_ready (rs := [7]) (by kernel_rfl) (by simp) ?_; refine AllReadyH.cons (o := ⟨some 10, _, _, _, _, _⟩) rfl (fun K hK => ?_) AllReadyH.nil; go_simp
  go_at_call 77
  refine (H2.out _).mono ?_; rintro e w3 ⟨rfl, hb3⟩
  have D3 := D2.trans (hb3.mono D2.size)
  (try go_simp); refine hK.out _ _ (E.out _ D3) (fun hHeld3 => ?_); clear hK K hHeld2; (try simp only [Act.put, List.setIfInBounds_toArray, List.set_cons_zero, List.set_cons_succ])
  refine wpAnyH_take (i := 8) (oi := ⟨some 11, _, _, _, _, _⟩) (v := ?_) rfl (by kernel_rfl) (by kernel_rfl) (by kernel_rfl) (fun _ _ _ h => h) (Or.inl ⟨by rfl, ?hyt8⟩) (by assumption) ?_; (case hyt8 => ((intro W hSW; (try dsimp only at hSW); obtain ⟨hSW, hSW2⟩ := hSW; go_simp); (all_goals with_reducible rfl))); (try simp only [Act.put, List.setIfInBounds_toArray, List.set_cons_zero, List.set_cons_succ])
  refine wpAnyH_take (i := 9) (oi := ⟨some 12, _, _, _, _, _⟩) (v := ?_) rfl (by kernel_rfl) (by kernel_rfl) (by kernel_rfl) (fun _ _ _ h => h) (Or.inl ⟨by rfl, ?hyt9⟩) (by assumption) ?_; (case hyt9 => ((intro W hSW; (try dsimp only at hSW); obtain ⟨hSW, hSW2⟩ := hSW; go_simp); (all_goals with_reducible rfl))); (try simp only [Act.put, List.setIfInBounds_toArray, List.set_cons_zero, List.set_cons_succ])
  refine wpAnyH_take (i := 10) (oi := ⟨some 2, _, _, _, _, _⟩) (v := ?_) rfl (by kernel_rfl) (by kernel_rfl) (by kernel_rfl) (fun _ _ _ h => h) (Or.inl ⟨by rfl, ?hyt10⟩) (by assumption) ?_; (case hyt10 => ((intro W hSW; (try dsimp only at hSW); obtain ⟨hSW, hSW2⟩ := hSW; go_simp); (all_goals with_reducible rfl))); (try simp only [Act.put, List.setIfInBounds_toArray, List.set_cons_zero, List.set_cons_succ])
  refine wpAnyH_done (by kernel_rfl) ?_ _
  go_wp2_with fail
  go_ret
  exact ⟨rfl, A1.trans (D3.mono A1.size)⟩
theorem stext_any (lo hi : Int) (hlo : -9223372036854775808 ≤ lo ∧ lo ≤ 9223372036854775807) (hhi : -9223372036854775808 ≤ hi ∧ hi ≤ 9223372036854775807) (w : World) (hP : PowT w) :
    Calls Tryd.prog 31 #[.agg #[.int .i64 lo, .int .i64 hi]] w fun e w' => e = .returned (.string ⟨(spT lo hi).toArray⟩) ∧ Below w.heap.size w w' := by
  unfold spT
  obtain ⟨a1, a2, a3, a4⟩ := sp_app (Lib.itoa lo) (Lib.itoa hi)
  have l1 := itoa_le lo hlo.1 hlo.2
  have l2 := itoa_le hi hhi.1 hhi.2
  have H1 := Lib.hid (fun W (hk : PowT W) => fmti_any lo hlo.1 hlo.2 W hk)
  have H2 := Lib.hid (fun W (hk : PowT W) => fmti_any hi hhi.1 hhi.2 W hk)
  generalize Lib.itoa lo = x at *
  generalize Lib.itoa hi = y at *
  have z1 : (⟨x.toArray⟩ : ByteArray).size = x.length := by simp [ByteArray.size]
  have z2 : (⟨y.toArray⟩ : ByteArray).size = y.length := by simp [ByteArray.size]
  have z3 : (⟨(91 :: x).toArray⟩ : ByteArray).size = x.length + 1 := by simp [ByteArray.size]
  have z4 : (⟨(91 :: (x ++ [44])).toArray⟩ : ByteArray).size = x.length + 2 := by simp [ByteArray.size]
  have z5 : (⟨(91 :: (x ++ (44 :: y))).toArray⟩ : ByteArray).size = x.length + y.length + 2 := by simp [ByteArray.size]; omega
  have n1 : ¬ (9223372036854775807 < 1 + x.length) := by omega
  have n2 : ¬ (9223372036854775807 < x.length + 1 + 1) := by omega
  have n3 : ¬ (9223372036854775807 < x.length + 2 + y.length) := by omega
  have n4 : ¬ (9223372036854775807 < x.length + y.length + 2 + 1) := by omega
  have A1 : Below w.heap.size w (w.alloc (.cells #[.int .i64 lo, .int .i64 hi] 46)) := (Below.refl _ _).alloc (Nat.le_refl _) _
  have X1 : Hid (Box (w.alloc (.cells #[.int .i64 lo, .int .i64 hi] 46)) w.heap.size [.int .i64 lo, .int .i64 hi]) := Lib.hid (Box.new w _ _ _ rfl _ rfl)
  go_enter Tryd.func31, Tryd.ntmps31
  go_wp2_with fail
  generalize w.alloc (.cells #[.int .i64 lo, .int .i64 hi] 46) = w1 at *
  have E : ∀ W, Below w1.heap.size w1 W → (fun W => W.cell? ⟨w.heap.size, 0, none⟩ = some (.int .i64 lo) ∧ W.cell? ⟨w.heap.size, 1, none⟩ = some (.int .i64 hi)) W := fun W h => ⟨(X1.out.below h).cell 0 _ rfl, (X1.out.below h).cell 1 _ rfl⟩
  replace E := Lib.hid E
  have D0 : Below w1.heap.size w1 w1.drew := (Below.refl _ _).drew
  have KK : ∀ W, Below w1.heap.size w1 W → PowT W := fun W h => hP.below (A1.trans (h.mono A1.size))
  replace KK := Lib.hid KK
  refine wp_region_held_drew (S := (fun W => W.cell? ⟨w.heap.size, 0, none⟩ = some (.int .i64 lo) ∧ W.cell? ⟨w.heap.size, 1, none⟩ = some (.int .i64 hi))) (by kernel_rfl) (E.out _ D0) (fun hHeld => ?_)
  refine wpAnyH_take (i := 0) (oi := ⟨some 3, _, _, _, _, _⟩) (v := ?_) rfl (by kernel_rfl) (by kernel_rfl) (by kernel_rfl) (fun _ _ _ h => h) (Or.inl ⟨by rfl, ?hyt0⟩) (by assumption) ?_; (case hyt0 => ((intro W hSW; (try dsimp only at hSW); obtain ⟨hSW, hSW2⟩ := hSW; go_simp); (all_goals with_reducible rfl))); (try simp only [Act.put, List.setIfInBounds_toArray, List.set_cons_zero, List.set_cons_succ])
  refine wpAnyH_take (i := 1) (oi := ⟨some 4, _, _, _, _, _⟩) (v := ?_) rfl (by kernel_rfl) (by kernel_rfl) (by kernel_rfl) (fun _ _ _ h => h) (Or.inl ⟨by rfl, ?hyt1⟩) (by assumption) ?_; (case hyt1 => ((intro W hSW; (try dsimp only at hSW); obtain ⟨hSW, hSW2⟩ := hSW; go_simp); (all_goals with_reducible rfl))); (try simp only [Act.put, List.setIfInBounds_toArray, List.set_cons_zero, List.set_cons_succ])
  refine wpAnyH_take (i := 5) (oi := ⟨some 8, _, _, _, _, _⟩) (v := ?_) rfl (by kernel_rfl) (by kernel_rfl) (by kernel_rfl) (fun _ _ _ h => h) (Or.inl ⟨by rfl, ?hyt5⟩) (by assumption) ?_; (case hyt5 => ((intro W hSW; (try dsimp only at hSW); obtain ⟨hSW, hSW2⟩ := hSW; go_simp); (all_goals with_reducible rfl))); (try simp only [Act.put, List.setIfInBounds_toArray, List.set_cons_zero, List.set_cons_succ])
  refine wpAnyH_take (i := 6) (oi := ⟨some 9, _, _, _, _, _⟩) (v := ?_) rfl (by kernel_rfl) (by kernel_rfl) (by kernel_rfl) (fun _ _ _ h => h) (Or.inl ⟨by rfl, ?hyt6⟩) (by assumption) ?_; (case hyt6 => ((intro W hSW; (try dsimp only at hSW); obtain ⟨hSW, hSW2⟩ := hSW; go_simp); (all_goals with_reducible rfl))); (try simp only [Act.put, List.setIfInBounds_toArray, List.set_cons_zero, List.set_cons_succ])
  refine wpAnyH_ready (rs := [2]) (by kernel_rfl) (by simp) ?_; refine AllReadyH.cons (o := ⟨some 5, _, _, _, _, _⟩) rfl (fun K hK => ?_) AllReadyH.nil; go_simp
  go_at_call 76
  refine (H1.out _ (KK.out _ D0)).mono ?_; rintro e w2 ⟨rfl, hb2⟩
  have D2 := D0.trans (hb2.mono D0.size)
  (try go_simp); refine hK.out _ _ (E.out _ D2) (fun hHeld2 => ?_); clear hK K hHeld; (try simp only [Act.put, List.setIfInBounds_toArray, List.set_cons_zero, List.set_cons_succ])
  refine wpAnyH_take (i := 3) (oi := ⟨some 6, _, _, _, _, _⟩) (v := ?_) rfl (by kernel_rfl) (by kernel_rfl) (by kernel_rfl) (fun _ _ _ h => h) (Or.inl ⟨by rfl, ?hyt3⟩) (by assumption) ?_; (case hyt3 => ((intro W hSW; (try dsimp only at hSW); obtain ⟨hSW, hSW2⟩ := hSW; go_simp); (all_goals with_reducible rfl))); (try simp only [Act.put, List.setIfInBounds_toArray, List.set_cons_zero, List.set_cons_succ])
  refine wpAnyH_take (i := 4) (oi := ⟨some 7, _, _, _, _, _⟩) (v := ?_) rfl (by kernel_rfl) (by kernel_rfl) (by kernel_rfl) (fun _ _ _ h => h) (Or.inl ⟨by rfl, ?hyt4⟩) (by assumption) ?_; (case hyt4 => ((intro W hSW; (try dsimp only at hSW); obtain ⟨hSW, hSW2⟩ := hSW; go_simp); (all_goals with_reducible rfl))); (try simp only [Act.put, List.setIfInBounds_toArray, List.set_cons_zero, List.set_cons_succ])
  refine wpAnyH_ready (rs := [7]) (by kernel_rfl) (by simp) ?_; refine AllReadyH.cons (o := ⟨some 10, _, _, _, _, _⟩) rfl (fun K hK => ?_) AllReadyH.nil; go_simp
  go_at_call 76
  refine (H2.out _ (KK.out _ D2)).mono ?_; rintro e w3 ⟨rfl, hb3⟩
  have D3 := D2.trans (hb3.mono D2.size)
  (try go_simp); refine hK.out _ _ (E.out _ D3) (fun hHeld3 => ?_); clear hK K hHeld2; (try simp only [Act.put, List.setIfInBounds_toArray, List.set_cons_zero, List.set_cons_succ])
  refine wpAnyH_take (i := 8) (oi := ⟨some 11, _, _, _, _, _⟩) (v := ?_) rfl (by kernel_rfl) (by kernel_rfl) (by kernel_rfl) (fun _ _ _ h => h) (Or.inl ⟨by rfl, ?hyt8⟩) (by assumption) ?_; (case hyt8 => ((intro W hSW; (try dsimp only at hSW); obtain ⟨hSW, hSW2⟩ := hSW; go_simp); (all_goals with_reducible rfl))); (try simp only [Act.put, List.setIfInBounds_toArray, List.set_cons_zero, List.set_cons_succ])
  refine wpAnyH_take (i := 9) (oi := ⟨some 12, _, _, _, _, _⟩) (v := ?_) rfl (by kernel_rfl) (by kernel_rfl) (by kernel_rfl) (fun _ _ _ h => h) (Or.inl ⟨by rfl, ?hyt9⟩) (by assumption) ?_; (case hyt9 => ((intro W hSW; (try dsimp only at hSW); obtain ⟨hSW, hSW2⟩ := hSW; go_simp); (all_goals with_reducible rfl))); (try simp only [Act.put, List.setIfInBounds_toArray, List.set_cons_zero, List.set_cons_succ])
  refine wpAnyH_take (i := 10) (oi := ⟨some 2, _, _, _, _, _⟩) (v := ?_) rfl (by kernel_rfl) (by kernel_rfl) (by kernel_rfl) (fun _ _ _ h => h) (Or.inl ⟨by rfl, ?hyt10⟩) (by assumption) ?_; (case hyt10 => ((intro W hSW; (try dsimp only at hSW); obtain ⟨hSW, hSW2⟩ := hSW; go_simp); (all_goals with_reducible rfl))); (try simp only [Act.put, List.setIfInBounds_toArray, List.set_cons_zero, List.set_cons_succ])
  refine wpAnyH_done (by kernel_rfl) ?_ _
  go_wp2_with fail
  go_ret
  exact ⟨rfl, A1.trans (D3.mono A1.size)⟩
end Go.Proofs.YtdmpopdacbdnlaaDoor
