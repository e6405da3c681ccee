/- StM, StFns, StSee, StCounts, StMost, StRef, StRef2, StRef3, StRef4, StLaw, StBk, StPlain, StRows. -/
import Derived.Test.YtdmpopdacbdnlaaDoorRecMath
import Derived.Test.YtdmpopdacbdnlaaDoorSatMath
import Derived.Lib.BitFns
import Derived.Test.YtdmpopdacbdnlaaDoorRecMay
import Derived.Test.YtdmpopdacbdnlaaDoorRows
import Derived.Deep.RegionHeld3
import Derived.Test.YtdmpopdacbdnlaaDoorSatFns
import Derived.Test.YtdmpopdacbdnlaaDoorRecPut
import Derived.Test.YtdmpopdacbdnlaaDoorOctG
import Derived.Test.YtdmpopdacbdnlaaDoorRecW
import Derived.Test.YtdmpopdacbdnlaaDoorRecRAll
import Derived.Lib.ItoaNum
import Derived.Test.YtdmpopdacbdnlaaDoorDig02
import Derived.Deep.WholeRow
/- Counts of records, plainly. No program. -/
namespace Go.Proofs.YtdmpopdacbdnlaaDoor
open Go.RowKit
set_option linter.unusedVariables false
set_option linter.unusedSimpArgs false
/-- how many of a kind; the latencies; how many of so many bits; their sum, cut; was it cut -/
def kcount (l : List Rec) (k : Nat) : Nat := (l.filter fun r => decide (r.kind.toNat = k)).length
def bitsN (z : Int) : Nat := Lib.bitLen z.toNat
def isLat (r : Rec) : Bool := decide (r.kind.toNat = 31)
def bcount (l : List Rec) (n : Nat) : Nat := (l.filter fun r => isLat r && decide (bitsN r.num = n)).length
def sum1 (p : Int × Bool) (r : Rec) : Int × Bool := if isLat r = true then (cut (p.1 + r.num), p.2 || was (p.1 + r.num)) else p
def sumP (l : List Rec) : Int × Bool := l.foldl sum1 (0, false)
theorem kcount_snoc (l : List Rec) (r : Rec) (k : Nat) : kcount (l ++ [r]) k = kcount l k + (if r.kind.toNat = k then 1 else 0) := by
  unfold kcount
  rw [List.filter_append, List.length_append]
  by_cases h : r.kind.toNat = k <;> simp [h]
theorem bcount_snoc (l : List Rec) (r : Rec) (n : Nat) : bcount (l ++ [r]) n = bcount l n + (if isLat r = true ∧ bitsN r.num = n then 1 else 0) := by
  unfold bcount
  rw [List.filter_append, List.length_append]
  by_cases h : isLat r = true <;> by_cases h2 : bitsN r.num = n <;> simp [h, h2]
theorem sumP_snoc (l : List Rec) (r : Rec) : sumP (l ++ [r]) = sum1 (sumP l) r := by simp [sumP]
theorem kcount_le (l : List Rec) (k : Nat) : kcount l k ≤ l.length := List.length_filter_le _ _
theorem bcount_le (l : List Rec) (k : Nat) : bcount l k ≤ l.length := List.length_filter_le _ _
theorem sumP_in (l : List Rec) : -9223372036854775808 ≤ (sumP l).1 ∧ (sumP l).1 ≤ 9223372036854775807 := by
  unfold sumP
  have h : ∀ (l : List Rec) (p : Int × Bool), (-9223372036854775808 ≤ p.1 ∧ p.1 ≤ 9223372036854775807) → (-9223372036854775808 ≤ (l.foldl sum1 p).1 ∧ (l.foldl sum1 p).1 ≤ 9223372036854775807) := by
    intro l
    induction l with
    | nil => intro p h; exact h
    | cons r l ih =>
      intro p h
      rw [List.foldl_cons]
      refine ih _ ?_
      unfold sum1
      split
      · exact ⟨cut_ge _, cut_le _⟩
      · exact h
  exact h l _ (by simp)
/-- a counter's cells, whatever they hold -/
structure StRaw (W : World) (g : Nat) (n : Int) (K B : Nat → Int) (s : Int) (c : Bool) : Prop where
  lt : g < W.heap.size
  dec : W.cell? ⟨g, 0, none⟩ = some (.int .i64 n)
  kinds : ∀ k, k < 256 → W.cell? ⟨g, 1 + k, none⟩ = some (.int .i64 (K k))
  bks : ∀ k, k < 64 → W.cell? ⟨g, 257 + k, none⟩ = some (.int .i64 (B k))
  sum : W.cell? ⟨g, 321, none⟩ = some (.int .i64 s)
  cut : W.cell? ⟨g, 322, none⟩ = some (.bool c)
  free : ∀ o, o < 323 → W.frozen? ⟨g, o, none⟩ = false
theorem StRaw.turn {S : Nat → Prop} {w w' : World} {g : Nat} {n : Int} {K B : Nat → Int} {s : Int} {c : Bool} (h : StRaw w g n K B s c) (t : Turn S w w') (hn : ¬ S g) : StRaw w' g n K B s c :=
  ⟨Nat.lt_of_lt_of_le h.lt t.size, (t.cell (p := ⟨g, 0, none⟩) h.lt hn).trans h.dec, fun k hk => (t.cell (p := ⟨g, 1 + k, none⟩) h.lt hn).trans (h.kinds k hk), fun k hk => (t.cell (p := ⟨g, 257 + k, none⟩) h.lt hn).trans (h.bks k hk), (t.cell (p := ⟨g, 321, none⟩) h.lt hn).trans h.sum, (t.cell (p := ⟨g, 322, none⟩) h.lt hn).trans h.cut, fun o ho => (t.frozen (p := ⟨g, o, none⟩) h.lt hn).trans (h.free o ho)⟩
theorem StRaw.below {w w' : World} {g : Nat} {n : Int} {K B : Nat → Int} {s : Int} {c : Bool} (h : StRaw w g n K B s c) (hb : Below w.heap.size w w') : StRaw w' g n K B s c := h.turn (S := fun _ => False) (Turn.ofBelow hb rfl) (fun h => h)
theorem StRaw.congr {w : World} {g : Nat} {n : Int} {K B K' B' : Nat → Int} {s : Int} {c : Bool} (h : StRaw w g n K B s c) (hK : ∀ k, k < 256 → K k = K' k) (hB : ∀ k, k < 64 → B k = B' k) : StRaw w g n K' B' s c :=
  ⟨h.lt, h.dec, fun k hk => by rw [← hK k hk]; exact h.kinds k hk, fun k hk => by rw [← hB k hk]; exact h.bks k hk, h.sum, h.cut, h.free⟩
theorem cell_set (w : World) (g o o' : Nat) (u v : Value) (hc : w.cell? ⟨g, o, none⟩ = some v) : (w.setCell ⟨g, o, none⟩ u).cell? ⟨g, o', none⟩ = if o' = o then some u else w.cell? ⟨g, o', none⟩ := by
  by_cases h : o' = o
  · subst h
    rw [if_pos rfl]
    exact World.cell?_setCell_same' _ _ _ (by rw [hc]; rfl)
  · rw [if_neg h]
    simp [go_sem, h]
theorem StRaw.setDec {w : World} {g : Nat} {n : Int} {K B : Nat → Int} {s : Int} {c : Bool} (h : StRaw w g n K B s c) (v : Int) : StRaw (w.setCell ⟨g, 0, none⟩ (.int .i64 v)) g v K B s c := by
  have e := fun o' => cell_set w g 0 o' (.int .i64 v) _ h.dec
  exact ⟨by simp [World.setCell]; exact h.lt, by rw [e, if_pos rfl], fun k hk => by rw [e, if_neg (by omega)]; exact h.kinds k hk, fun k hk => by rw [e, if_neg (by omega)]; exact h.bks k hk, by rw [e, if_neg (by omega)]; exact h.sum, by rw [e, if_neg (by omega)]; exact h.cut, fun o ho => by rw [World.frozen?_setCell]; exact h.free o ho⟩
theorem StRaw.setK {w : World} {g : Nat} {n : Int} {K B : Nat → Int} {s : Int} {c : Bool} (h : StRaw w g n K B s c) (j : Nat) (hj : j < 256) (v : Int) : StRaw (w.setCell ⟨g, 1 + j, none⟩ (.int .i64 v)) g n (fun k => if k = j then v else K k) B s c := by
  have e := fun o' => cell_set w g (1 + j) o' (.int .i64 v) _ (h.kinds j hj)
  refine ⟨by simp [World.setCell]; exact h.lt, by rw [e, if_neg (by omega)]; exact h.dec, fun k hk => ?_, fun k hk => by rw [e, if_neg (by omega)]; exact h.bks k hk, by rw [e, if_neg (by omega)]; exact h.sum, by rw [e, if_neg (by omega)]; exact h.cut, fun o ho => by rw [World.frozen?_setCell]; exact h.free o ho⟩
  rw [e]
  by_cases hh : k = j
  · subst hh; simp
  · rw [if_neg (by omega), if_neg hh]; exact h.kinds k hk
theorem StRaw.setB {w : World} {g : Nat} {n : Int} {K B : Nat → Int} {s : Int} {c : Bool} (h : StRaw w g n K B s c) (j : Nat) (hj : j < 64) (v : Int) : StRaw (w.setCell ⟨g, 257 + j, none⟩ (.int .i64 v)) g n K (fun k => if k = j then v else B k) s c := by
  have e := fun o' => cell_set w g (257 + j) o' (.int .i64 v) _ (h.bks j hj)
  refine ⟨by simp [World.setCell]; exact h.lt, by rw [e, if_neg (by omega)]; exact h.dec, fun k hk => by rw [e, if_neg (by omega)]; exact h.kinds k hk, fun k hk => ?_, by rw [e, if_neg (by omega)]; exact h.sum, by rw [e, if_neg (by omega)]; exact h.cut, fun o ho => by rw [World.frozen?_setCell]; exact h.free o ho⟩
  rw [e]
  by_cases hh : k = j
  · subst hh; simp
  · rw [if_neg (by omega), if_neg hh]; exact h.bks k hk
theorem StRaw.setS {w : World} {g : Nat} {n : Int} {K B : Nat → Int} {s : Int} {c : Bool} (h : StRaw w g n K B s c) (v : Int) : StRaw (w.setCell ⟨g, 321, none⟩ (.int .i64 v)) g n K B v c := by
  have e := fun o' => cell_set w g 321 o' (.int .i64 v) _ h.sum
  exact ⟨by simp [World.setCell]; exact h.lt, by rw [e, if_neg (by omega)]; exact h.dec, fun k hk => by rw [e, if_neg (by omega)]; exact h.kinds k hk, fun k hk => by rw [e, if_neg (by omega)]; exact h.bks k hk, by rw [e, if_pos rfl], by rw [e, if_neg (by omega)]; exact h.cut, fun o ho => by rw [World.frozen?_setCell]; exact h.free o ho⟩
theorem StRaw.setC {w : World} {g : Nat} {n : Int} {K B : Nat → Int} {s : Int} {c : Bool} (h : StRaw w g n K B s c) (v : Bool) : StRaw (w.setCell ⟨g, 322, none⟩ (.bool v)) g n K B s v := by
  have e := fun o' => cell_set w g 322 o' (.bool v) _ h.cut
  exact ⟨by simp [World.setCell]; exact h.lt, by rw [e, if_neg (by omega)]; exact h.dec, fun k hk => by rw [e, if_neg (by omega)]; exact h.kinds k hk, fun k hk => by rw [e, if_neg (by omega)]; exact h.bks k hk, by rw [e, if_neg (by omega)]; exact h.sum, by rw [e, if_pos rfl], fun o ho => by rw [World.frozen?_setCell]; exact h.free o ho⟩
/-- a counter that has seen these records -/
def StAt (W : World) (g : Nat) (n : Int) (l : List Rec) : Prop := StRaw W g n (fun k => (kcount l k : Int)) (fun k => (bcount l k : Int)) (sumP l).1 (sumP l).2
theorem StAt.below {w w' : World} {g : Nat} {n : Int} {l : List Rec} (h : StAt w g n l) (hb : Below w.heap.size w w') : StAt w' g n l := StRaw.below h hb
theorem StAt.turn {S : Nat → Prop} {w w' : World} {g : Nat} {n : Int} {l : List Rec} (h : StAt w g n l) (t : Turn S w w') (hn : ¬ S g) : StAt w' g n l := StRaw.turn h t hn
end Go.Proofs.YtdmpopdacbdnlaaDoor
/- stats: New, Decoded, Of, Bucket, Sum: contracts. -/
namespace Go.Proofs.YtdmpopdacbdnlaaDoor
open Go.RowKit
set_option linter.unusedVariables false
set_option linter.unusedSimpArgs false
set_option maxHeartbeats 2000000
set_option maxRecDepth 20000
theorem decoded_none (w : World) : Calls Tryd.prog 39 #[.pointer none] w fun e w' => e = .returned (.tuple #[]) ∧ w' = w := by
  go_enter Tryd.func39, Tryd.ntmps39
  go_wp2_with fail
  go_end0
  exact ⟨rfl, rfl⟩
theorem decoded_any (g : Nat) (n : Int) (l : List Rec) (w : World) (h : StAt w g n l) (hn : -9223372036854775808 ≤ n ∧ n < 9223372036854775807) : Calls Tryd.prog 39 #[.pointer (some ⟨g, 0, none⟩)] w fun e w' => e = .returned (.tuple #[]) ∧ w' = w.setCell ⟨g, 0, none⟩ (.int .i64 (n + 1)) := by
  have c0 := StRaw.dec h
  have f0 := StRaw.free h 0 (by omega)
  have lt := StRaw.lt h
  have hw : IntKind.i64.wrap (n + 1) = n + 1 := IntWalk.i64_in _ (by omega)
  go_enter Tryd.func39, Tryd.ntmps39
  go_wp2_with fail
  go_end0
  exact ⟨rfl, rfl⟩
theorem of_none (k : Nat) (w : World) : Calls Tryd.prog 40 #[.pointer none, .int .u8 (k : Int)] w fun e w' => e = .returned (.int .i64 0) ∧ w' = w := by
  go_enter Tryd.func40, Tryd.ntmps40
  go_wp2_with fail
  go_ret
  exact ⟨rfl, rfl⟩
theorem of_any (g : Nat) (n : Int) (l : List Rec) (k : Nat) (hk : k < 256) (w : World) (h : StAt w g n l) : Calls Tryd.prog 40 #[.pointer (some ⟨g, 0, none⟩), .int .u8 (k : Int)] w fun e w' => e = .returned (.int .i64 (kcount l k : Int)) ∧ w' = w := by
  have c0 := StRaw.kinds h k hk
  have lt := StRaw.lt h
  have k0 : (0 : Int) ≤ (k : Int) := by omega
  have k1 : (k : Int) < 256 := by omega
  go_enter Tryd.func40, Tryd.ntmps40
  go_wp2_with fail
  go_ret
  exact ⟨rfl, rfl⟩
theorem bucket_none (k : Int) (w : World) : Calls Tryd.prog 42 #[.pointer none, .int .i64 k] w fun e w' => e = .returned (.int .i64 0) ∧ w' = w := by
  go_enter Tryd.func42, Tryd.ntmps42
  go_wp2_with fail
  go_ret
  exact ⟨rfl, rfl⟩
def bkI (l : List Rec) (k : Int) : Int := if 0 ≤ k ∧ k < 64 then (bcount l k.toNat : Int) else 0
theorem bucket_any (g : Nat) (n : Int) (l : List Rec) (k : Int) (w : World) (h : StAt w g n l) : Calls Tryd.prog 42 #[.pointer (some ⟨g, 0, none⟩), .int .i64 k] w fun e w' => e = .returned (.int .i64 (bkI l k)) ∧ w' = w := by
  have lt := StRaw.lt h
  unfold bkI
  by_cases h0 : 0 ≤ k
  · by_cases h1 : k < 64
    · obtain ⟨m, rfl⟩ := Int.eq_ofNat_of_zero_le h0
      have c0 := StRaw.bks h m (by omega)
      rw [if_pos ⟨h0, h1⟩, Int.toNat_natCast]
      go_enter Tryd.func42, Tryd.ntmps42
      go_wp2_with fail
      go_ret
      exact ⟨rfl, rfl⟩
    · rw [if_neg (by omega)]
      go_enter Tryd.func42, Tryd.ntmps42
      go_wp2_with fail
      go_ret
      exact ⟨rfl, rfl⟩
  · rw [if_neg (by omega)]
    go_enter Tryd.func42, Tryd.ntmps42
    go_wp2_with fail
    go_ret
    exact ⟨rfl, rfl⟩
theorem ssum_none (w : World) : Calls Tryd.prog 44 #[.pointer none] w fun e w' => e = .returned (.tuple #[.int .i64 0, .bool false]) ∧ w' = w := by
  go_enter Tryd.func44, Tryd.ntmps44
  go_wp2_with fail
  go_ret2
  exact ⟨rfl, rfl⟩
theorem ssum_any (g : Nat) (n : Int) (l : List Rec) (w : World) (h : StAt w g n l) : Calls Tryd.prog 44 #[.pointer (some ⟨g, 0, none⟩)] w fun e w' => e = .returned (.tuple #[.int .i64 (sumP l).1, .bool (sumP l).2]) ∧ w' = w.drew := by
  have c0 := StRaw.sum h
  have c1 := StRaw.cut h
  have lt := StRaw.lt h
  go_enter Tryd.func44, Tryd.ntmps44
  go_wp2_with fail
  refine wp_region_held_drew (S := fun W => W.cell? ⟨g, 321, none⟩ = some (.int .i64 (sumP l).1) ∧ W.cell? ⟨g, 322, none⟩ = some (.bool (sumP l).2)) (by kernel_rfl) ⟨c0, c1⟩ (fun hHeld => ?_)
  refine wpAnyH_take (i := 0) (oi := ⟨some 6, _, _, _, _, _⟩) (v := ?_) rfl (by kernel_rfl) (by kernel_rfl) (by kernel_rfl) (fun _ _ _ h => h) (Or.inl ⟨by rfl, ?hyt0⟩) (by assumption) ?_; (case hyt0 => ((intro W hSW; (try dsimp only at hSW); obtain ⟨hSW, hSW2⟩ := hSW; go_simp); (all_goals with_reducible rfl))); (try simp only [Act.put, List.setIfInBounds_toArray, List.set_cons_zero, List.set_cons_succ])
  refine wpAnyH_take (i := 1) (oi := ⟨some 7, _, _, _, _, _⟩) (v := ?_) rfl (by kernel_rfl) (by kernel_rfl) (by kernel_rfl) (fun _ _ _ h => h) (Or.inl ⟨by rfl, ?hyt1⟩) (by assumption) ?_; (case hyt1 => ((intro W hSW; (try dsimp only at hSW); obtain ⟨hSW, hSW2⟩ := hSW; go_simp); (all_goals with_reducible rfl))); (try simp only [Act.put, List.setIfInBounds_toArray, List.set_cons_zero, List.set_cons_succ])
  refine wpAnyH_take (i := 2) (oi := ⟨some 8, _, _, _, _, _⟩) (v := ?_) rfl (by kernel_rfl) (by kernel_rfl) (by kernel_rfl) (fun _ _ _ h => h) (Or.inl ⟨by rfl, ?hyt2⟩) (by assumption) ?_; (case hyt2 => ((intro W hSW; (try dsimp only at hSW); obtain ⟨hSW, hSW2⟩ := hSW; go_simp); (all_goals with_reducible rfl))); (try simp only [Act.put, List.setIfInBounds_toArray, List.set_cons_zero, List.set_cons_succ])
  refine wpAnyH_take (i := 3) (oi := ⟨some 9, _, _, _, _, _⟩) (v := ?_) rfl (by kernel_rfl) (by kernel_rfl) (by kernel_rfl) (fun _ _ _ h => h) (Or.inl ⟨by rfl, ?hyt3⟩) (by assumption) ?_; (case hyt3 => ((intro W hSW; (try dsimp only at hSW); obtain ⟨hSW, hSW2⟩ := hSW; go_simp); (all_goals with_reducible rfl))); (try simp only [Act.put, List.setIfInBounds_toArray, List.set_cons_zero, List.set_cons_succ])
  refine wpAnyH_take (i := 4) (oi := ⟨some 10, _, _, _, _, _⟩) (v := ?_) rfl (by kernel_rfl) (by kernel_rfl) (by kernel_rfl) (fun _ _ _ h => h) (Or.inl ⟨by rfl, ?hyt4⟩) (by assumption) ?_; (case hyt4 => ((intro W hSW; (try dsimp only at hSW); obtain ⟨hSW, hSW2⟩ := hSW; go_simp); (all_goals with_reducible rfl))); (try simp only [Act.put, List.setIfInBounds_toArray, List.set_cons_zero, List.set_cons_succ])
  refine wpAnyH_take (i := 5) (oi := ⟨some 11, _, _, _, _, _⟩) (v := ?_) rfl (by kernel_rfl) (by kernel_rfl) (by kernel_rfl) (fun _ _ _ h => h) (Or.inl ⟨by rfl, ?hyt5⟩) (by assumption) ?_; (case hyt5 => ((intro W hSW; (try dsimp only at hSW); obtain ⟨hSW, hSW2⟩ := hSW; go_simp); (all_goals with_reducible rfl))); (try simp only [Act.put, List.setIfInBounds_toArray, List.set_cons_zero, List.set_cons_succ])
  refine wpAnyH_take (i := 6) (oi := ⟨some 12, _, _, _, _, _⟩) (v := ?_) rfl (by kernel_rfl) (by kernel_rfl) (by kernel_rfl) (fun _ _ _ h => h) (Or.inl ⟨by rfl, ?hyt6⟩) (by assumption) ?_; (case hyt6 => ((intro W hSW; (try dsimp only at hSW); obtain ⟨hSW, hSW2⟩ := hSW; go_simp); (all_goals with_reducible rfl))); (try simp only [Act.put, List.setIfInBounds_toArray, List.set_cons_zero, List.set_cons_succ])
  refine wpAnyH_take (i := 7) (oi := ⟨some 13, _, _, _, _, _⟩) (v := ?_) rfl (by kernel_rfl) (by kernel_rfl) (by kernel_rfl) (fun _ _ _ h => h) (Or.inl ⟨by rfl, ?hyt7⟩) (by assumption) ?_; (case hyt7 => ((intro W hSW; (try dsimp only at hSW); obtain ⟨hSW, hSW2⟩ := hSW; go_simp); (all_goals with_reducible rfl))); (try simp only [Act.put, List.setIfInBounds_toArray, List.set_cons_zero, List.set_cons_succ])
  refine wpAnyH_take (i := 8) (oi := ⟨some 2, _, _, _, _, _⟩) (v := ?_) rfl (by kernel_rfl) (by kernel_rfl) (by kernel_rfl) (fun _ _ _ h => h) (Or.inl ⟨by rfl, ?hyt8⟩) (by assumption) ?_; (case hyt8 => ((intro W hSW; (try dsimp only at hSW); obtain ⟨hSW, hSW2⟩ := hSW; go_simp); (all_goals with_reducible rfl))); (try simp only [Act.put, List.setIfInBounds_toArray, List.set_cons_zero, List.set_cons_succ])
  refine wpAnyH_take (i := 9) (oi := ⟨some 3, _, _, _, _, _⟩) (v := ?_) rfl (by kernel_rfl) (by kernel_rfl) (by kernel_rfl) (fun _ _ _ h => h) (Or.inl ⟨by rfl, ?hyt9⟩) (by assumption) ?_; (case hyt9 => ((intro W hSW; (try dsimp only at hSW); obtain ⟨hSW, hSW2⟩ := hSW; go_simp); (all_goals with_reducible rfl))); (try simp only [Act.put, List.setIfInBounds_toArray, List.set_cons_zero, List.set_cons_succ])
  refine wpAnyH_done (by kernel_rfl) ?_ _
  go_wp2_with fail
  go_ret2
  exact ⟨rfl, rfl⟩
/-- the zero counter's cells -/
def zcI (v : Option Value) : Bool := match v with
  | some (.int .i64 z) => decide (z = 0)
  | _ => false
def zcB (v : Option Value) : Bool := match v with
  | some (.bool b) => !b
  | _ => false
theorem zcI_eq {v : Option Value} (h : zcI v = true) : v = some (.int .i64 0) := by
  unfold zcI at h
  split at h
  · simp at h; rw [h]
  · cases h
theorem zcB_eq {v : Option Value} (h : zcB v = true) : v = some (.bool false) := by
  unfold zcB at h
  split at h
  · simp at h; rw [h]
  · cases h
theorem zc_ints : (List.range 322).all (fun k => zcI (Tryd.zeroCells123)[k]?) = true := by kernel_rfl
theorem zc_cut : zcB (Tryd.zeroCells123)[322]? = true := by kernel_rfl
theorem zc_int (k : Nat) (h : k < 322) : (Tryd.zeroCells123)[k]? = some (.int .i64 0) := by
  have := List.all_eq_true.1 zc_ints k (List.mem_range.2 h)
  exact zcI_eq this
theorem snew_any (w : World) : Calls Tryd.prog 35 #[] w fun e w' => e = .returned (.pointer (some ⟨w.heap.size, 0, none⟩)) ∧ StAt w' w.heap.size 0 [] ∧ Below w.heap.size w w' := by
  go_enter Tryd.func35, Tryd.ntmps35
  go_wp2_with fail
  go_ret
  have hcell : ∀ k, (w.alloc (.cells Tryd.zeroCells123 123)).cell? ⟨w.heap.size, k, none⟩ = (Tryd.zeroCells123)[k]? := fun k => by simp [go_sem]
  refine ⟨rfl, ⟨by simp, by rw [hcell, zc_int 0 (by omega)], fun k hk => by rw [hcell, zc_int (1 + k) (by omega)]; rfl, fun k hk => by rw [hcell, zc_int (257 + k) (by omega)]; rfl, by rw [hcell, zc_int 321 (by omega)]; rfl, by rw [hcell, zcB_eq zc_cut]; rfl, fun o ho => by simp [go_sem]⟩, (Below.refl _ _).alloc (Nat.le_refl _) _⟩
/-! See -/
theorem see_none (r : Rec) (w : World) : Calls Tryd.prog 36 #[.pointer none, recA r] w fun e w' => e = .returned (.tuple #[]) ∧ Below w.heap.size w w' := by
  unfold recA
  go_enter Tryd.func36, Tryd.ntmps36
  go_wp2_with fail
  refine bodyPost_ret (results_none rfl _ _ _) rfl ?_
  exact ⟨rfl, (Below.refl _ _).alloc (Nat.le_refl _) _⟩
end Go.Proofs.YtdmpopdacbdnlaaDoor
/- stats: See: contract. -/
namespace Go.Proofs.YtdmpopdacbdnlaaDoor
open Go.RowKit
set_option linter.unusedVariables false
set_option linter.unusedSimpArgs false
set_option maxHeartbeats 4000000
set_option maxRecDepth 20000
theorem Box.recAt {w : World} {b : Nat} {r : Rec} (h : Box w b [.int .u8 (r.kind.toNat : Int), .int .i64 r.source, .int .u64 (r.seq : Int), .int .i64 r.at_, .int .i64 r.num, .int .i64 r.code, .bool r.yes, .string ⟨r.text.toArray⟩]) : RecAt w b 0 r := by
  have c := fun i v hv => h.cell i v hv
  exact ⟨c 0 _ rfl, c 1 _ rfl, c 2 _ rfl, c 3 _ rfl, c 4 _ rfl, c 5 _ rfl, c 6 _ rfl, c 7 _ rfl⟩
/-- a record seen that is no latency -/
theorem seen_other {w : World} {g : Nat} {n : Int} {l : List Rec} {r : Rec} (h : StRaw w g n (fun k => if k = r.kind.toNat then (kcount l r.kind.toNat : Int) + 1 else (kcount l k : Int)) (fun k => (bcount l k : Int)) (sumP l).1 (sumP l).2) (hl : isLat r = false) : StAt w g n (l ++ [r]) := by
  have e : sumP (l ++ [r]) = sumP l := by rw [sumP_snoc]; unfold sum1; rw [if_neg (by rw [hl]; simp)]
  unfold StAt
  rw [e]
  refine h.congr (fun k hk => ?_) (fun k hk => ?_)
  · rw [kcount_snoc]
    by_cases hh : k = r.kind.toNat
    · subst hh; simp
    · rw [if_neg hh, if_neg (fun e => hh e.symm)]; simp
  · rw [bcount_snoc, if_neg (by rw [hl]; simp)]; simp
theorem seen_lat {w : World} {g : Nat} {n : Int} {l : List Rec} {r : Rec} (h : StRaw w g n (fun k => if k = r.kind.toNat then (kcount l r.kind.toNat : Int) + 1 else (kcount l k : Int)) (fun k => if k = bitsN r.num then (bcount l (bitsN r.num) : Int) + 1 else (bcount l k : Int)) (cut ((sumP l).1 + r.num)) ((sumP l).2 || was ((sumP l).1 + r.num))) (hl : isLat r = true) : StAt w g n (l ++ [r]) := by
  have e : sumP (l ++ [r]) = (cut ((sumP l).1 + r.num), (sumP l).2 || was ((sumP l).1 + r.num)) := by rw [sumP_snoc]; unfold sum1; rw [if_pos hl]
  unfold StAt
  rw [e]
  refine h.congr (fun k hk => ?_) (fun k hk => ?_)
  · rw [kcount_snoc]
    by_cases hh : k = r.kind.toNat
    · subst hh; simp
    · rw [if_neg hh, if_neg (fun e => hh e.symm)]; simp
  · rw [bcount_snoc]
    by_cases hh : k = bitsN r.num
    · subst hh; rw [if_pos rfl, if_pos ⟨hl, rfl⟩]; simp
    · rw [if_neg hh, if_neg (fun e => hh e.2.symm)]; simp
theorem bits_lt {z : Int} (h0 : 0 ≤ z) (h1 : z ≤ 9223372036854775807) : bitsN z < 64 := by
  unfold bitsN
  have := Lib.bitLen_le z.toNat 63 (by omega) (by omega)
  omega
theorem see_any (g : Nat) (n : Int) (l : List Rec) (r : Rec) (w : World) (h : StAt w g n l) (hok : r.ok) (hF : Forms 0 w) (hlen : l.length ≤ 100000) :
    Calls Tryd.prog 36 #[.pointer (some ⟨g, 0, none⟩), recA r] w fun e w' => e = .returned (.tuple #[]) ∧ StAt w' g n (if mayB r = true then l ++ [r] else l) ∧ Turn (fun k => k = g) w w' := by
  have HM := Lib.hid (fun W (hk : Forms 0 W) => may_any r W hk hok.text)
  have hpos := fun hm : mayB r = true => (may_facts hm hok).2.1
  generalize hbm : mayB r = bm at *
  unfold recA at HM ⊢
  have hlt := StRaw.lt h
  have hk0 := r.kind.toNat_lt
  have A1 : Below w.heap.size w (w.alloc (.cells #[.int .u8 (r.kind.toNat : Int), .int .i64 r.source, .int .u64 (r.seq : Int), .int .i64 r.at_, .int .i64 r.num, .int .i64 r.code, .bool r.yes, .string ⟨r.text.toArray⟩] 69)) := (Below.refl _ _).alloc (Nat.le_refl _) _
  have X1 : Hid (Box (w.alloc (.cells #[.int .u8 (r.kind.toNat : Int), .int .i64 r.source, .int .u64 (r.seq : Int), .int .i64 r.at_, .int .i64 r.num, .int .i64 r.code, .bool r.yes, .string ⟨r.text.toArray⟩] 69)) w.heap.size [.int .u8 (r.kind.toNat : Int), .int .i64 r.source, .int .u64 (r.seq : Int), .int .i64 r.at_, .int .i64 r.num, .int .i64 r.code, .bool r.yes, .string ⟨r.text.toArray⟩]) := Lib.hid (Box.new w _ _ _ rfl _ rfl)
  replace hpos := Lib.hid hpos
  replace hbm := Lib.hid hbm
  have hb1 := kcount_le l r.kind.toNat
  go_enter Tryd.func36, Tryd.ntmps36
  go_wp2_with fail
  refine (HM.out _ (hF.below A1)).mono ?_; rintro e w2 ⟨rfl, hb2⟩
  have B2 := A1.trans (hb2.mono A1.size)
  have hS2 := Lib.hid (h.below B2)
  replace X1 := Lib.hid (X1.out.below hb2)
  cases bm with
  | false =>
    clear A1 hb2
    go_wp2_with fail
    refine bodyPost_ret (results_none rfl _ _ _) rfl ?_
    exact ⟨rfl, by simpa using hS2.out, Turn.ofBelow B2 rfl⟩
  | true =>
    have hp := hpos.out rfl
    have hgn : g ≠ w.heap.size := by omega
    have T2 := Turn.ofBelow (S := fun k => k = g) B2 rfl
    have hk1 : (0 : Int) ≤ (r.kind.toNat : Int) := by omega
    have hk2 : (r.kind.toNat : Int) < 256 := by omega
    have c0 := StRaw.kinds hS2.out r.kind.toNat (by omega)
    have f0 := StRaw.free hS2.out (1 + r.kind.toNat) (by omega)
    have lt2 := StRaw.lt hS2.out
    have hw1 : IntKind.i64.wrap ((kcount l r.kind.toNat : Int) + 1) = (kcount l r.kind.toNat : Int) + 1 := IntWalk.i64_in _ (by omega)
    clear A1 hb2 B2
    go_wp2_with fail
    have E : ∀ W, Turn (fun k => k = g) w2 W → RecAt W w.heap.size 0 r := fun W t => (X1.out.turn t (fun e => hgn e.symm)).recAt
    replace E := Lib.hid E
    have D0 : Turn (fun k => k = g) w2 w2.drew := (Turn.refl _ _).drew
    refine wp_region_held_drew (S := fun W => RecAt W w.heap.size 0 r) (by kernel_rfl) (E.out _ D0) (fun hHeld => ?_)
    refine wpAnyH_take (i := 0) (oi := ⟨some 14, _, _, _, _, _⟩) (v := ?_) rfl (by kernel_rfl) (by kernel_rfl) (by kernel_rfl) (fun _ _ _ h => h) (Or.inl ⟨by rfl, ?hyt0⟩) (by assumption) ?_; (case hyt0 => ((intro W hSW; (try dsimp only at hSW); obtain ⟨s0, s1, s2, s3, s4, s5, s6, s7⟩ := hSW; (try simp only [Nat.zero_add] at s0 s1 s2 s3 s4 s5 s6 s7); go_simp); (all_goals with_reducible rfl))); (try simp only [Act.put, List.setIfInBounds_toArray, List.set_cons_zero, List.set_cons_succ])
    refine wpAnyH_take (i := 1) (oi := ⟨some 15, _, _, _, _, _⟩) (v := ?_) rfl (by kernel_rfl) (by kernel_rfl) (by kernel_rfl) (fun _ _ _ h => h) (Or.inl ⟨by rfl, ?hyt1⟩) (by assumption) ?_; (case hyt1 => ((intro W hSW; (try dsimp only at hSW); obtain ⟨s0, s1, s2, s3, s4, s5, s6, s7⟩ := hSW; (try simp only [Nat.zero_add] at s0 s1 s2 s3 s4 s5 s6 s7); go_simp); (all_goals with_reducible rfl))); (try simp only [Act.put, List.setIfInBounds_toArray, List.set_cons_zero, List.set_cons_succ])
    refine wpAnyH_take (i := 2) (oi := ⟨some 16, _, _, _, _, _⟩) (v := ?_) rfl (by kernel_rfl) (by kernel_rfl) (by kernel_rfl) (fun _ _ _ h => h) (Or.inl ⟨by rfl, ?hyt2⟩) (by assumption) ?_; (case hyt2 => ((intro W hSW; (try dsimp only at hSW); obtain ⟨s0, s1, s2, s3, s4, s5, s6, s7⟩ := hSW; (try simp only [Nat.zero_add] at s0 s1 s2 s3 s4 s5 s6 s7); go_simp); (all_goals with_reducible rfl))); (try simp only [Act.put, List.setIfInBounds_toArray, List.set_cons_zero, List.set_cons_succ])
    refine wpAnyH_take (i := 3) (oi := ⟨some 17, _, _, _, _, _⟩) (v := ?_) rfl (by kernel_rfl) (by kernel_rfl) (by kernel_rfl) (fun _ _ _ h => h) (Or.inl ⟨by rfl, ?hyt3⟩) (by assumption) ?_; (case hyt3 => ((intro W hSW; (try dsimp only at hSW); obtain ⟨s0, s1, s2, s3, s4, s5, s6, s7⟩ := hSW; (try simp only [Nat.zero_add] at s0 s1 s2 s3 s4 s5 s6 s7); go_simp); (all_goals with_reducible rfl))); (try simp only [Act.put, List.setIfInBounds_toArray, List.set_cons_zero, List.set_cons_succ])
    refine wpAnyH_take (i := 4) (oi := ⟨some 18, _, _, _, _, _⟩) (v := ?_) rfl (by kernel_rfl) (by kernel_rfl) (by kernel_rfl) (fun _ _ _ h => h) (Or.inl ⟨by rfl, ?hyt4⟩) (by assumption) ?_; (case hyt4 => ((intro W hSW; (try dsimp only at hSW); obtain ⟨s0, s1, s2, s3, s4, s5, s6, s7⟩ := hSW; (try simp only [Nat.zero_add] at s0 s1 s2 s3 s4 s5 s6 s7); go_simp); (all_goals with_reducible rfl))); (try simp only [Act.put, List.setIfInBounds_toArray, List.set_cons_zero, List.set_cons_succ])
    refine wpAnyH_take (i := 5) (oi := ⟨some 19, _, _, _, _, _⟩) (v := ?_) rfl (by kernel_rfl) (by kernel_rfl) (by kernel_rfl) (fun _ _ _ h => h) (Or.inl ⟨by rfl, ?hyt5⟩) (by assumption) ?_; (case hyt5 => ((intro W hSW; (try dsimp only at hSW); obtain ⟨s0, s1, s2, s3, s4, s5, s6, s7⟩ := hSW; (try simp only [Nat.zero_add] at s0 s1 s2 s3 s4 s5 s6 s7); go_simp); (all_goals with_reducible rfl))); (try simp only [Act.put, List.setIfInBounds_toArray, List.set_cons_zero, List.set_cons_succ])
    refine wpAnyH_take (i := 8) (oi := ⟨some 22, _, _, _, _, _⟩) (v := ?_) rfl (by kernel_rfl) (by kernel_rfl) (by kernel_rfl) (fun _ _ _ h => h) (Or.inl ⟨by rfl, ?hyt8⟩) (by assumption) ?_; (case hyt8 => ((intro W hSW; (try dsimp only at hSW); obtain ⟨s0, s1, s2, s3, s4, s5, s6, s7⟩ := hSW; (try simp only [Nat.zero_add] at s0 s1 s2 s3 s4 s5 s6 s7); go_simp); (all_goals with_reducible rfl))); (try simp only [Act.put, List.setIfInBounds_toArray, List.set_cons_zero, List.set_cons_succ])
    refine wpAnyH_take (i := 9) (oi := ⟨some 23, _, _, _, _, _⟩) (v := ?_) rfl (by kernel_rfl) (by kernel_rfl) (by kernel_rfl) (fun _ _ _ h => h) (Or.inl ⟨by rfl, ?hyt9⟩) (by assumption) ?_; (case hyt9 => ((intro W hSW; (try dsimp only at hSW); obtain ⟨s0, s1, s2, s3, s4, s5, s6, s7⟩ := hSW; (try simp only [Nat.zero_add] at s0 s1 s2 s3 s4 s5 s6 s7); go_simp); (all_goals with_reducible rfl))); (try simp only [Act.put, List.setIfInBounds_toArray, List.set_cons_zero, List.set_cons_succ])
    refine wpAnyH_ready (rs := [6]) (by kernel_rfl) (by simp) ?_; refine AllReadyH.cons (o := ⟨some 20, _, _, _, _, _⟩) rfl (fun K hK => ?_) AllReadyH.nil; go_simp
    (try go_simp); refine hK.out _ _ (E.out _ D0) (fun hHeld2 => ?_); clear hK K hHeld; (try simp only [Act.put, List.setIfInBounds_toArray, List.set_cons_zero, List.set_cons_succ])
    refine wpAnyH_take (i := 7) (oi := ⟨some 21, _, _, _, _, _⟩) (v := ?_) rfl (by kernel_rfl) (by kernel_rfl) (by kernel_rfl) (fun _ _ _ h => h) (Or.inl ⟨by rfl, ?hyt7⟩) (by assumption) ?_; (case hyt7 => ((intro W hSW; (try dsimp only at hSW); obtain ⟨s0, s1, s2, s3, s4, s5, s6, s7⟩ := hSW; (try simp only [Nat.zero_add] at s0 s1 s2 s3 s4 s5 s6 s7); go_simp); (all_goals with_reducible rfl))); (try simp only [Act.put, List.setIfInBounds_toArray, List.set_cons_zero, List.set_cons_succ])
    refine wpAnyH_take (i := 10) (oi := ⟨some 24, _, _, _, _, _⟩) (v := ?_) rfl (by kernel_rfl) (by kernel_rfl) (by kernel_rfl) (fun _ _ _ h => h) (Or.inl ⟨by rfl, ?hyt10⟩) (by assumption) ?_; (case hyt10 => ((intro W hSW; (try dsimp only at hSW); obtain ⟨s0, s1, s2, s3, s4, s5, s6, s7⟩ := hSW; (try simp only [Nat.zero_add] at s0 s1 s2 s3 s4 s5 s6 s7); go_simp); (all_goals with_reducible rfl))); (try simp only [Act.put, List.setIfInBounds_toArray, List.set_cons_zero, List.set_cons_succ])
    refine wpAnyH_ready (rs := [11]) (by kernel_rfl) (by simp) ?_; refine AllReadyH.cons (o := ⟨none, _, _, _, _, _⟩) rfl (fun K hK => ?_) AllReadyH.nil; go_simp
    have D1 : Turn (fun k => k = g) w2 (w2.drew.setCell ⟨g, 1 + r.kind.toNat, none⟩ (.int .i64 ((kcount l r.kind.toNat : Int) + 1))) := D0.setCell _ (fun _ => rfl) _
    (try go_simp); refine hK.out _ _ (E.out _ D1) (fun hHeld3 => ?_); clear hK K hHeld2; (try simp only [Act.put, List.setIfInBounds_toArray, List.set_cons_zero, List.set_cons_succ])
    refine wpAnyH_done (by kernel_rfl) ?_ _
    have R3 := StRaw.setK (hS2.out.below ((Below.refl _ w2).drew)) r.kind.toNat (by omega) ((kcount l r.kind.toNat : Int) + 1)
    have X3 := Lib.hid (X1.out.turn D1 (fun e => hgn e.symm))
    have hcomm : w2.drew.setCell ⟨g, 1 + r.kind.toNat, none⟩ (.int .i64 ((kcount l r.kind.toNat : Int) + 1)) = (w2.setCell ⟨g, 1 + r.kind.toNat, none⟩ (.int .i64 ((kcount l r.kind.toNat : Int) + 1))).drew := rfl
    rw [hcomm] at D1 R3 X3
    try rw [hcomm]
    clear hcomm
    generalize (w2.setCell ⟨g, 1 + r.kind.toNat, none⟩ (.int .i64 ((kcount l r.kind.toNat : Int) + 1))).drew = w3 at D1 R3 X3 ⊢
    clear hHeld3 c0 f0 D0 E
    have T3 := T2.trans D1 (fun _ _ h => h)
    have x0 := X3.out.cell 0 _ rfl
    have x4 := X3.out.cell 4 _ rfl
    have xlt := X3.out.lt
    replace R3 := Lib.hid R3
    by_cases hl : r.kind.toNat = 31
    · have hl2 : (r.kind.toNat : Int) = 31 := by omega
      replace hl := Lib.hid hl
      have hn0 := hp.num
      have hw2 : IntKind.u64.wrap r.num = r.num := IntWalk.u64_in _ (by omega)
      have hbl := bits_lt hn0.1 hn0.2
      have hbc := bcount_le l (bitsN r.num)
      have hLn := Lib.hid (Tryd.bits_Len64 r.num w3 hn0.1 (by omega))
      rw [hl2] at x0
      replace hl2 := Lib.hid hl2
      go_wp2_with fail
      refine hLn.out.mono ?_; rintro e w4 ⟨rfl, rfl⟩
      have hbi : ((Lib.bitLen r.num.toNat : Nat) : Int) = (bitsN r.num : Int) := rfl
      rw [hbi]
      generalize hbn : bitsN r.num = bn at *
      replace hbn := Lib.hid hbn
      have b0 := StRaw.bks R3.out bn hbl
      have bf := StRaw.free R3.out (257 + bn) (by omega)
      have gl := StRaw.lt R3.out
      have hb0 : (0 : Int) ≤ (bn : Int) := by omega
      have hb1' : (bn : Int) < 64 := by omega
      have hw4 : IntKind.i64.wrap ((bcount l bn : Int) + 1) = (bcount l bn : Int) + 1 := IntWalk.i64_in _ (by omega)
      go_wp2_with fail
      refine wp_region_held_drew (S := fun _ => True) (by kernel_rfl) trivial (fun hHeld => ?_)
      refine wpAnyH_take (i := 0) (oi := ⟨some 34, _, _, _, _, _⟩) (v := ?_) rfl (by kernel_rfl) (by kernel_rfl) (by kernel_rfl) (fun _ _ _ h => h) (Or.inl ⟨by rfl, ?hyt0⟩) (by assumption) ?_; (case hyt0 => ((intro W hSW; (try dsimp only at hSW); go_simp); (all_goals with_reducible rfl))); (try simp only [Act.put, List.setIfInBounds_toArray, List.set_cons_zero, List.set_cons_succ])
      refine wpAnyH_take (i := 1) (oi := ⟨some 35, _, _, _, _, _⟩) (v := ?_) rfl (by kernel_rfl) (by kernel_rfl) (by kernel_rfl) (fun _ _ _ h => h) (Or.inl ⟨by rfl, ?hyt1⟩) (by assumption) ?_; (case hyt1 => ((intro W hSW; (try dsimp only at hSW); go_simp); (all_goals with_reducible rfl))); (try simp only [Act.put, List.setIfInBounds_toArray, List.set_cons_zero, List.set_cons_succ])
      refine wpAnyH_take (i := 2) (oi := ⟨some 36, _, _, _, _, _⟩) (v := ?_) rfl (by kernel_rfl) (by kernel_rfl) (by kernel_rfl) (fun _ _ _ h => h) (Or.inl ⟨by rfl, ?hyt2⟩) (by assumption) ?_; (case hyt2 => ((intro W hSW; (try dsimp only at hSW); go_simp); (all_goals with_reducible rfl))); (try simp only [Act.put, List.setIfInBounds_toArray, List.set_cons_zero, List.set_cons_succ])
      refine wpAnyH_take (i := 3) (oi := ⟨some 37, _, _, _, _, _⟩) (v := ?_) rfl (by kernel_rfl) (by kernel_rfl) (by kernel_rfl) (fun _ _ _ h => h) (Or.inl ⟨by rfl, ?hyt3⟩) (by assumption) ?_; (case hyt3 => ((intro W hSW; (try dsimp only at hSW); go_simp); (all_goals with_reducible rfl))); (try simp only [Act.put, List.setIfInBounds_toArray, List.set_cons_zero, List.set_cons_succ])
      refine wpAnyH_take (i := 4) (oi := ⟨some 38, _, _, _, _, _⟩) (v := ?_) rfl (by kernel_rfl) (by kernel_rfl) (by kernel_rfl) (fun _ _ _ h => h) (Or.inl ⟨by rfl, ?hyt4⟩) (by assumption) ?_; (case hyt4 => ((intro W hSW; (try dsimp only at hSW); go_simp); (all_goals with_reducible rfl))); (try simp only [Act.put, List.setIfInBounds_toArray, List.set_cons_zero, List.set_cons_succ])
      refine wpAnyH_take (i := 7) (oi := ⟨some 41, _, _, _, _, _⟩) (v := ?_) rfl (by kernel_rfl) (by kernel_rfl) (by kernel_rfl) (fun _ _ _ h => h) (Or.inl ⟨by rfl, ?hyt7⟩) (by assumption) ?_; (case hyt7 => ((intro W hSW; (try dsimp only at hSW); go_simp); (all_goals with_reducible rfl))); (try simp only [Act.put, List.setIfInBounds_toArray, List.set_cons_zero, List.set_cons_succ])
      refine wpAnyH_take (i := 8) (oi := ⟨some 42, _, _, _, _, _⟩) (v := ?_) rfl (by kernel_rfl) (by kernel_rfl) (by kernel_rfl) (fun _ _ _ h => h) (Or.inl ⟨by rfl, ?hyt8⟩) (by assumption) ?_; (case hyt8 => ((intro W hSW; (try dsimp only at hSW); go_simp); (all_goals with_reducible rfl))); (try simp only [Act.put, List.setIfInBounds_toArray, List.set_cons_zero, List.set_cons_succ])
      refine wpAnyH_ready (rs := [5]) (by kernel_rfl) (by simp) ?_; refine AllReadyH.cons (o := ⟨some 39, _, _, _, _, _⟩) rfl (fun K hK => ?_) AllReadyH.nil; go_simp
      (try go_simp); refine hK.out _ _ trivial (fun hHeld2 => ?_); clear hK K hHeld; (try simp only [Act.put, List.setIfInBounds_toArray, List.set_cons_zero, List.set_cons_succ])
      refine wpAnyH_take (i := 6) (oi := ⟨some 40, _, _, _, _, _⟩) (v := ?_) rfl (by kernel_rfl) (by kernel_rfl) (by kernel_rfl) (fun _ _ _ h => h) (Or.inl ⟨by rfl, ?hyt6⟩) (by assumption) ?_; (case hyt6 => ((intro W hSW; (try dsimp only at hSW); go_simp); (all_goals with_reducible rfl))); (try simp only [Act.put, List.setIfInBounds_toArray, List.set_cons_zero, List.set_cons_succ])
      refine wpAnyH_take (i := 9) (oi := ⟨some 43, _, _, _, _, _⟩) (v := ?_) rfl (by kernel_rfl) (by kernel_rfl) (by kernel_rfl) (fun _ _ _ h => h) (Or.inl ⟨by rfl, ?hyt9⟩) (by assumption) ?_; (case hyt9 => ((intro W hSW; (try dsimp only at hSW); go_simp); (all_goals with_reducible rfl))); (try simp only [Act.put, List.setIfInBounds_toArray, List.set_cons_zero, List.set_cons_succ])
      refine wpAnyH_ready (rs := [10]) (by kernel_rfl) (by simp) ?_; refine AllReadyH.cons (o := ⟨none, _, _, _, _, _⟩) rfl (fun K hK => ?_) AllReadyH.nil; go_simp
      (try go_simp); refine hK.out _ _ trivial (fun hHeld3 => ?_); clear hK K hHeld2; (try simp only [Act.put, List.setIfInBounds_toArray, List.set_cons_zero, List.set_cons_succ])
      refine wpAnyH_done (by kernel_rfl) ?_ _
      have hcomm : w4.drew.setCell ⟨g, 257 + bn, none⟩ (.int .i64 ((bcount l bn : Int) + 1)) = (w4.setCell ⟨g, 257 + bn, none⟩ (.int .i64 ((bcount l bn : Int) + 1))).drew := rfl
      have D6 : Turn (fun k => k = g) w4 (w4.setCell ⟨g, 257 + bn, none⟩ (.int .i64 ((bcount l bn : Int) + 1))).drew := ((Turn.refl (fun k => k = g) w4).setCell ⟨g, 257 + bn, none⟩ (fun _ => rfl) _).drew
      have R6 := (StRaw.setB R3.out bn hbl ((bcount l bn : Int) + 1)).below ((Below.refl _ _).drew)
      have X6 := Lib.hid (X3.out.turn D6 (fun e => hgn e.symm))
      try rw [hcomm]
      clear hcomm b0 bf hHeld3 x0 x4 xlt
      generalize (w4.setCell ⟨g, 257 + bn, none⟩ (.int .i64 ((bcount l bn : Int) + 1))).drew = w6 at D6 R6 X6 ⊢
      have T6 := T3.trans D6 (fun _ _ h => h)
      replace R6 := Lib.hid R6
      have hsi := sumP_in l
      have HA := Lib.hid (fun W => sat_add (sumP l).1 r.num W hsi.1 hsi.2 (by omega) hn0.2)
      unfold pairV at HA
      go_wp2_with fail
      have E7 : ∀ W, Below w6.heap.size w6 W → W.cell? ⟨w.heap.size, 4, none⟩ = some (.int .i64 r.num) ∧ W.cell? ⟨g, 321, none⟩ = some (.int .i64 (sumP l).1) := fun W hb => ⟨(X6.out.below hb).cell 4 _ rfl, (R6.out.below hb).sum⟩
      replace E7 := Lib.hid E7
      refine wp_region_held_drew (S := fun W => W.cell? ⟨w.heap.size, 4, none⟩ = some (.int .i64 r.num) ∧ W.cell? ⟨g, 321, none⟩ = some (.int .i64 (sumP l).1)) (by kernel_rfl) (E7.out _ (Below.refl _ _).drew) (fun hHeld => ?_)
      refine wpAnyH_take (i := 0) (oi := ⟨some 45, _, _, _, _, _⟩) (v := ?_) rfl (by kernel_rfl) (by kernel_rfl) (by kernel_rfl) (fun _ _ _ h => h) (Or.inl ⟨by rfl, ?hyt0⟩) (by assumption) ?_; (case hyt0 => ((intro W hSW; (try dsimp only at hSW); obtain ⟨hSW, hSW2⟩ := hSW; go_simp); (all_goals with_reducible rfl))); (try simp only [Act.put, List.setIfInBounds_toArray, List.set_cons_zero, List.set_cons_succ])
      refine wpAnyH_take (i := 1) (oi := ⟨some 46, _, _, _, _, _⟩) (v := ?_) rfl (by kernel_rfl) (by kernel_rfl) (by kernel_rfl) (fun _ _ _ h => h) (Or.inl ⟨by rfl, ?hyt1⟩) (by assumption) ?_; (case hyt1 => ((intro W hSW; (try dsimp only at hSW); obtain ⟨hSW, hSW2⟩ := hSW; go_simp); (all_goals with_reducible rfl))); (try simp only [Act.put, List.setIfInBounds_toArray, List.set_cons_zero, List.set_cons_succ])
      refine wpAnyH_take (i := 2) (oi := ⟨some 47, _, _, _, _, _⟩) (v := ?_) rfl (by kernel_rfl) (by kernel_rfl) (by kernel_rfl) (fun _ _ _ h => h) (Or.inl ⟨by rfl, ?hyt2⟩) (by assumption) ?_; (case hyt2 => ((intro W hSW; (try dsimp only at hSW); obtain ⟨hSW, hSW2⟩ := hSW; go_simp); (all_goals with_reducible rfl))); (try simp only [Act.put, List.setIfInBounds_toArray, List.set_cons_zero, List.set_cons_succ])
      refine wpAnyH_take (i := 3) (oi := ⟨some 48, _, _, _, _, _⟩) (v := ?_) rfl (by kernel_rfl) (by kernel_rfl) (by kernel_rfl) (fun _ _ _ h => h) (Or.inl ⟨by rfl, ?hyt3⟩) (by assumption) ?_; (case hyt3 => ((intro W hSW; (try dsimp only at hSW); obtain ⟨hSW, hSW2⟩ := hSW; go_simp); (all_goals with_reducible rfl))); (try simp only [Act.put, List.setIfInBounds_toArray, List.set_cons_zero, List.set_cons_succ])
      refine wpAnyH_take (i := 4) (oi := ⟨some 49, _, _, _, _, _⟩) (v := ?_) rfl (by kernel_rfl) (by kernel_rfl) (by kernel_rfl) (fun _ _ _ h => h) (Or.inl ⟨by rfl, ?hyt4⟩) (by assumption) ?_; (case hyt4 => ((intro W hSW; (try dsimp only at hSW); obtain ⟨hSW, hSW2⟩ := hSW; go_simp); (all_goals with_reducible rfl))); (try simp only [Act.put, List.setIfInBounds_toArray, List.set_cons_zero, List.set_cons_succ])
      refine wpAnyH_take (i := 5) (oi := ⟨some 50, _, _, _, _, _⟩) (v := ?_) rfl (by kernel_rfl) (by kernel_rfl) (by kernel_rfl) (fun _ _ _ h => h) (Or.inl ⟨by rfl, ?hyt5⟩) (by assumption) ?_; (case hyt5 => ((intro W hSW; (try dsimp only at hSW); obtain ⟨hSW, hSW2⟩ := hSW; go_simp); (all_goals with_reducible rfl))); (try simp only [Act.put, List.setIfInBounds_toArray, List.set_cons_zero, List.set_cons_succ])
      refine wpAnyH_ready (rs := [6]) (by kernel_rfl) (by simp) ?_; refine AllReadyH.cons (o := ⟨some 51, _, _, _, _, _⟩) rfl (fun K hK => ?_) AllReadyH.nil; go_simp
      go_at_call 71
      refine (HA.out _).mono ?_; rintro e w7 ⟨rfl, rfl⟩
      (try go_simp); refine hK.out _ _ (E7.out _ (Below.refl _ _).drew) (fun hHeld4 => ?_); clear hK K hHeld; (try simp only [Act.put, List.setIfInBounds_toArray, List.set_cons_zero, List.set_cons_succ])
      refine wpAnyH_take (i := 7) (oi := ⟨some 44, _, _, _, _, _⟩) (v := ?_) rfl (by kernel_rfl) (by kernel_rfl) (by kernel_rfl) (fun _ _ _ h => h) (Or.inl ⟨by rfl, ?hyt7⟩) (by assumption) ?_; (case hyt7 => ((intro W hSW; (try dsimp only at hSW); obtain ⟨hSW, hSW2⟩ := hSW; go_simp); (all_goals with_reducible rfl))); (try simp only [Act.put, List.setIfInBounds_toArray, List.set_cons_zero, List.set_cons_succ])
      refine wpAnyH_take (i := 8) (oi := ⟨some 52, _, _, _, _, _⟩) (v := ?_) rfl (by kernel_rfl) (by kernel_rfl) (by kernel_rfl) (fun _ _ _ h => h) (Or.inl ⟨by rfl, ?hyt8⟩) (by assumption) ?_; (case hyt8 => ((intro W hSW; (try dsimp only at hSW); obtain ⟨hSW, hSW2⟩ := hSW; go_simp); (all_goals with_reducible rfl))); (try simp only [Act.put, List.setIfInBounds_toArray, List.set_cons_zero, List.set_cons_succ])
      refine wpAnyH_take (i := 9) (oi := ⟨some 53, _, _, _, _, _⟩) (v := ?_) rfl (by kernel_rfl) (by kernel_rfl) (by kernel_rfl) (fun _ _ _ h => h) (Or.inl ⟨by rfl, ?hyt9⟩) (by assumption) ?_; (case hyt9 => ((intro W hSW; (try dsimp only at hSW); obtain ⟨hSW, hSW2⟩ := hSW; go_simp); (all_goals with_reducible rfl))); (try simp only [Act.put, List.setIfInBounds_toArray, List.set_cons_zero, List.set_cons_succ])
      refine wpAnyH_take (i := 10) (oi := ⟨some 5, _, _, _, _, _⟩) (v := ?_) rfl (by kernel_rfl) (by kernel_rfl) (by kernel_rfl) (fun _ _ _ h => h) (Or.inl ⟨by rfl, ?hyt10⟩) (by assumption) ?_; (case hyt10 => ((intro W hSW; (try dsimp only at hSW); obtain ⟨hSW, hSW2⟩ := hSW; go_simp); (all_goals with_reducible rfl))); (try simp only [Act.put, List.setIfInBounds_toArray, List.set_cons_zero, List.set_cons_succ])
      refine wpAnyH_take (i := 11) (oi := ⟨some 6, _, _, _, _, _⟩) (v := ?_) rfl (by kernel_rfl) (by kernel_rfl) (by kernel_rfl) (fun _ _ _ h => h) (Or.inl ⟨by rfl, ?hyt11⟩) (by assumption) ?_; (case hyt11 => ((intro W hSW; (try dsimp only at hSW); obtain ⟨hSW, hSW2⟩ := hSW; go_simp); (all_goals with_reducible rfl))); (try simp only [Act.put, List.setIfInBounds_toArray, List.set_cons_zero, List.set_cons_succ])
      refine wpAnyH_done (by kernel_rfl) ?_ _
      clear hHeld4
      have R7 := R6
      have s0 := R7.out.sum
      have s1 := R7.out.cut
      have s2 := R7.out.free 321 (by omega)
      have s3 := R7.out.free 322 (by omega)
      have s4 := R7.out.lt
      have RF := Lib.hid ((R7.out.setS (cut ((sumP l).1 + r.num))).setC ((sumP l).2 || was ((sumP l).1 + r.num)))
      have TF : Turn (fun k => k = g) w ((w6.setCell ⟨g, 321, none⟩ (.int .i64 (cut ((sumP l).1 + r.num)))).setCell ⟨g, 322, none⟩ (.bool ((sumP l).2 || was ((sumP l).1 + r.num)))) := ((T6).setCell _ (fun _ => rfl) _).setCell _ (fun _ => rfl) _
      replace TF := Lib.hid TF
      have hll : isLat r = true := by unfold isLat; simpa using hl.out
      replace hll := Lib.hid hll
      clear HM X1 X3 X6 E7 HA hLn D1 D6 T2 T3 T6 hF hw1 hw2 hw4 hbi
      by_cases hc : (sumP l).2 = true
      · rw [hc, Bool.true_or] at RF TF
        rw [hc] at s1
        replace hc := Lib.hid hc
        go_wp2_with fail
        go_end0
        have hb := hbn.out
        subst hb
        refine ⟨rfl, ?_, (TF.out.trans ((Turn.refl (fun k => k = g) _).drew) (fun _ _ h => h))⟩
        refine seen_lat ?_ hll.out
        rw [hc.out, Bool.true_or]
        exact RF.out.below ((Below.refl _ _).drew)
      · rw [Bool.not_eq_true] at hc
        rw [hc, Bool.false_or] at RF TF
        rw [hc] at s1
        replace hc := Lib.hid hc
        go_wp2_with fail
        go_end0
        have hb := hbn.out
        subst hb
        refine ⟨rfl, ?_, (TF.out.trans ((Turn.refl (fun k => k = g) _).drew) (fun _ _ h => h))⟩
        refine seen_lat ?_ hll.out
        rw [hc.out, Bool.false_or]
        exact RF.out.below ((Below.refl _ _).drew)
    · have hl2 : ((r.kind.toNat : Int) == 31) = false := by rw [beq_eq_false_iff_ne]; omega
      replace hl := Lib.hid hl
      go_wp2_with fail
      refine bodyPost_ret (results_none rfl _ _ _) rfl ?_
      exact ⟨rfl, by simpa using seen_other R3.out (by unfold isLat; simpa using hl.out), T3⟩
end Go.Proofs.YtdmpopdacbdnlaaDoor
/- stats: Counts: contract. -/
namespace Go.Proofs.YtdmpopdacbdnlaaDoor
open Go.RowKit
set_option linter.unusedVariables false
set_option linter.unusedSimpArgs false
set_option maxHeartbeats 4000000
set_option maxRecDepth 20000
theorem counts_none (q : Int) (w : World) : Calls Tryd.prog 46 #[.pointer none, .int .i64 q] w fun e w' => e = .returned (.agg #[.int .i64 0, .int .i64 0, .int .i64 0, .int .i64 0, .int .i64 0, .int .i64 0]) ∧ Below w.heap.size w w' := by
  go_enter Tryd.func46, Tryd.ntmps46
  go_wp2_with fail
  refine bodyPost_ret (v := .agg #[.int .i64 0, .int .i64 0, .int .i64 0, .int .i64 0, .int .i64 0, .int .i64 0]) (by simp [results, Tryd.results46, go_sem]) rfl ⟨rfl, ?_⟩
  exact (Below.refl _ _).alloc (Nat.le_refl _) _
theorem counts_any (g : Nat) (n : Int) (l : List Rec) (q : Int) (w : World) (h : StAt w g n l) : Calls Tryd.prog 46 #[.pointer (some ⟨g, 0, none⟩), .int .i64 q] w fun e w' => e = .returned (.agg #[.int .i64 n, .int .i64 (kcount l 23 : Int), .int .i64 (kcount l 21 : Int), .int .i64 (kcount l 22 : Int), .int .i64 (kcount l 20 : Int), .int .i64 q]) ∧ Below w.heap.size w w' := by
  have lt := StRaw.lt h
  have hS := Lib.hid h
  have E : ∀ W, Below w.heap.size w W → StAt W g n l := fun W hb => hS.out.below hb
  replace E := Lib.hid E
  clear h
  go_enter Tryd.func46, Tryd.ntmps46
  go_wp2_with fail
  have A1 : Below w.heap.size w (w.alloc (.cells #[.int .i64 0, .int .i64 0, .int .i64 0, .int .i64 0, .int .i64 0, .int .i64 0] 81)) := (Below.refl _ _).alloc (Nat.le_refl _) _
  have c0 := StRaw.dec (E.out _ A1.drew)
  have H1 := Lib.hid (of_any g n l 23 (by omega) _ (E.out _ A1.drew))
  have H2 := Lib.hid (of_any g n l 21 (by omega) _ (E.out _ A1.drew))
  have H3 := Lib.hid (of_any g n l 22 (by omega) _ (E.out _ A1.drew))
  have H4 := Lib.hid (of_any g n l 20 (by omega) _ (E.out _ A1.drew))
  refine wp_region_held_drew (S := fun W => W.cell? ⟨g, 0, none⟩ = some (.int .i64 n)) (by kernel_rfl) c0 (fun hHeld => ?_)
  refine wpAnyH_take (i := 0) (oi := ⟨some 8, _, _, _, _, _⟩) (v := ?_) rfl (by kernel_rfl) (by kernel_rfl) (by kernel_rfl) (fun _ _ _ h => h) (Or.inl ⟨by rfl, ?hyt0⟩) (by assumption) ?_; (case hyt0 => ((intro W hSW; (try dsimp only at hSW); go_simp); (all_goals with_reducible rfl))); (try simp only [Act.put, List.setIfInBounds_toArray, List.set_cons_zero, List.set_cons_succ])
  refine wpAnyH_take (i := 1) (oi := ⟨some 9, _, _, _, _, _⟩) (v := ?_) rfl (by kernel_rfl) (by kernel_rfl) (by kernel_rfl) (fun _ _ _ h => h) (Or.inl ⟨by rfl, ?hyt1⟩) (by assumption) ?_; (case hyt1 => ((intro W hSW; (try dsimp only at hSW); go_simp); (all_goals with_reducible rfl))); (try simp only [Act.put, List.setIfInBounds_toArray, List.set_cons_zero, List.set_cons_succ])
  refine wpAnyH_take (i := 2) (oi := ⟨some 10, _, _, _, _, _⟩) (v := ?_) rfl (by kernel_rfl) (by kernel_rfl) (by kernel_rfl) (fun _ _ _ h => h) (Or.inl ⟨by rfl, ?hyt2⟩) (by assumption) ?_; (case hyt2 => ((intro W hSW; (try dsimp only at hSW); go_simp); (all_goals with_reducible rfl))); (try simp only [Act.put, List.setIfInBounds_toArray, List.set_cons_zero, List.set_cons_succ])
  refine wpAnyH_take (i := 3) (oi := ⟨some 11, _, _, _, _, _⟩) (v := ?_) rfl (by kernel_rfl) (by kernel_rfl) (by kernel_rfl) (fun _ _ _ h => h) (Or.inl ⟨by rfl, ?hyt3⟩) (by assumption) ?_; (case hyt3 => ((intro W hSW; (try dsimp only at hSW); go_simp); (all_goals with_reducible rfl))); (try simp only [Act.put, List.setIfInBounds_toArray, List.set_cons_zero, List.set_cons_succ])
  refine wpAnyH_take (i := 4) (oi := ⟨some 12, _, _, _, _, _⟩) (v := ?_) rfl (by kernel_rfl) (by kernel_rfl) (by kernel_rfl) (fun _ _ _ h => h) (Or.inl ⟨by rfl, ?hyt4⟩) (by assumption) ?_; (case hyt4 => ((intro W hSW; (try dsimp only at hSW); go_simp); (all_goals with_reducible rfl))); (try simp only [Act.put, List.setIfInBounds_toArray, List.set_cons_zero, List.set_cons_succ])
  refine wpAnyH_take (i := 6) (oi := ⟨some 14, _, _, _, _, _⟩) (v := ?_) rfl (by kernel_rfl) (by kernel_rfl) (by kernel_rfl) (fun _ _ _ h => h) (Or.inl ⟨by rfl, ?hyt6⟩) (by assumption) ?_; (case hyt6 => ((intro W hSW; (try dsimp only at hSW); go_simp); (all_goals with_reducible rfl))); (try simp only [Act.put, List.setIfInBounds_toArray, List.set_cons_zero, List.set_cons_succ])
  refine wpAnyH_take (i := 8) (oi := ⟨some 16, _, _, _, _, _⟩) (v := ?_) rfl (by kernel_rfl) (by kernel_rfl) (by kernel_rfl) (fun _ _ _ h => h) (Or.inl ⟨by rfl, ?hyt8⟩) (by assumption) ?_; (case hyt8 => ((intro W hSW; (try dsimp only at hSW); go_simp); (all_goals with_reducible rfl))); (try simp only [Act.put, List.setIfInBounds_toArray, List.set_cons_zero, List.set_cons_succ])
  refine wpAnyH_take (i := 10) (oi := ⟨some 18, _, _, _, _, _⟩) (v := ?_) rfl (by kernel_rfl) (by kernel_rfl) (by kernel_rfl) (fun _ _ _ h => h) (Or.inl ⟨by rfl, ?hyt10⟩) (by assumption) ?_; (case hyt10 => ((intro W hSW; (try dsimp only at hSW); go_simp); (all_goals with_reducible rfl))); (try simp only [Act.put, List.setIfInBounds_toArray, List.set_cons_zero, List.set_cons_succ])
  refine wpAnyH_take (i := 12) (oi := ⟨some 20, _, _, _, _, _⟩) (v := ?_) rfl (by kernel_rfl) (by kernel_rfl) (by kernel_rfl) (fun _ _ _ h => h) (Or.inl ⟨by rfl, ?hyt12⟩) (by assumption) ?_; (case hyt12 => ((intro W hSW; (try dsimp only at hSW); go_simp); (all_goals with_reducible rfl))); (try simp only [Act.put, List.setIfInBounds_toArray, List.set_cons_zero, List.set_cons_succ])
  refine wpAnyH_ready (rs := [5]) (by kernel_rfl) (by simp) ?_; refine AllReadyH.cons (o := ⟨some 13, _, _, _, _, _⟩) rfl (fun K hK => ?_) AllReadyH.nil; go_simp
  go_at_call 40
  refine H1.out.mono ?_; rintro e w7 ⟨rfl, rfl⟩
  (try go_simp); refine hK.out _ _ c0 (fun hHeld2 => ?_); clear hK K hHeld; (try simp only [Act.put, List.setIfInBounds_toArray, List.set_cons_zero, List.set_cons_succ])
  refine wpAnyH_ready (rs := [7]) (by kernel_rfl) (by simp) ?_; refine AllReadyH.cons (o := ⟨some 15, _, _, _, _, _⟩) rfl (fun K hK => ?_) AllReadyH.nil; go_simp
  go_at_call 40
  refine H2.out.mono ?_; rintro e w7 ⟨rfl, rfl⟩
  (try go_simp); refine hK.out _ _ c0 (fun hHeld3 => ?_); clear hK K hHeld2; (try simp only [Act.put, List.setIfInBounds_toArray, List.set_cons_zero, List.set_cons_succ])
  refine wpAnyH_ready (rs := [9]) (by kernel_rfl) (by simp) ?_; refine AllReadyH.cons (o := ⟨some 17, _, _, _, _, _⟩) rfl (fun K hK => ?_) AllReadyH.nil; go_simp
  go_at_call 40
  refine H3.out.mono ?_; rintro e w7 ⟨rfl, rfl⟩
  (try go_simp); refine hK.out _ _ c0 (fun hHeld4 => ?_); clear hK K hHeld3; (try simp only [Act.put, List.setIfInBounds_toArray, List.set_cons_zero, List.set_cons_succ])
  refine wpAnyH_ready (rs := [11]) (by kernel_rfl) (by simp) ?_; refine AllReadyH.cons (o := ⟨some 19, _, _, _, _, _⟩) rfl (fun K hK => ?_) AllReadyH.nil; go_simp
  go_at_call 40
  refine H4.out.mono ?_; rintro e w7 ⟨rfl, rfl⟩
  (try go_simp); refine hK.out _ _ c0 (fun hHeld5 => ?_); clear hK K hHeld4; (try simp only [Act.put, List.setIfInBounds_toArray, List.set_cons_zero, List.set_cons_succ])
  refine wpAnyH_take (i := 13) (oi := ⟨some 21, _, _, _, _, _⟩) (v := ?_) rfl (by kernel_rfl) (by kernel_rfl) (by kernel_rfl) (fun _ _ _ h => h) (Or.inl ⟨by rfl, ?hyt13⟩) (by assumption) ?_; (case hyt13 => ((intro W hSW; (try dsimp only at hSW); go_simp); (all_goals with_reducible rfl))); (try simp only [Act.put, List.setIfInBounds_toArray, List.set_cons_zero, List.set_cons_succ])
  have A2 : Below w.heap.size w (w.alloc (.cells #[.int .i64 n, .int .i64 (kcount l 23 : Int), .int .i64 (kcount l 21 : Int), .int .i64 (kcount l 22 : Int), .int .i64 (kcount l 20 : Int), .int .i64 q] 81)).drew := ((Below.refl _ _).alloc (Nat.le_refl _) _).drew
  have c2 := StRaw.dec (E.out _ A2)
  refine wpAnyH_ready (rs := [14]) (by kernel_rfl) (by simp) ?_; refine AllReadyH.cons (o := ⟨none, _, _, _, _, _⟩) rfl (fun K hK => ?_) AllReadyH.nil; go_simp
  (try go_simp); refine hK.out _ _ c2 (fun hHeld6 => ?_); clear hK K hHeld5; (try simp only [Act.put, List.setIfInBounds_toArray, List.set_cons_zero, List.set_cons_succ])
  refine wpAnyH_done (by kernel_rfl) ?_ _
  clear hHeld6
  go_wp2_with fail
  refine bodyPost_ret (v := .agg #[.int .i64 n, .int .i64 (kcount l 23 : Int), .int .i64 (kcount l 21 : Int), .int .i64 (kcount l 22 : Int), .int .i64 (kcount l 20 : Int), .int .i64 q]) (by simp [results, Tryd.results46, go_sem]) rfl ⟨rfl, ?_⟩
  exact A2
/-- what a part of the latencies is at most: the k-th bucket, f to go, b in those before -/
def mostGo (l : List Rec) (c : Int) : Nat → Nat → Int → Int
  | _, 0, _ => 0
  | k, f + 1, b => if c ≤ (b + (bcount l k : Int)) * 100 then (2 : Int) ^ k - 1 else mostGo l c (k + 1) f (b + (bcount l k : Int))
def mostP (l : List Rec) (part : Int) : Int := if (kcount l 31 : Int) = 0 ∨ part < 0 ∨ 100 < part then 0 else mostGo l (part * (kcount l 31 : Int)) 0 64 0
theorem most_none (part : Int) (w : World) : Calls Tryd.prog 47 #[.pointer none, .int .i64 part] w fun e w' => e = .returned (.int .i64 0) ∧ w' = w := by
  have H := Lib.hid (of_none 31 w)
  go_enter Tryd.func47, Tryd.ntmps47
  go_wp2_with fail
  refine H.out.mono ?_; rintro e w1 ⟨rfl, rfl⟩
  go_wp2_with fail
  go_ret
  exact ⟨rfl, rfl⟩
end Go.Proofs.YtdmpopdacbdnlaaDoor
/- stats: Most: contract. -/
namespace Go.Proofs.YtdmpopdacbdnlaaDoor
open Go.RowKit
set_option linter.unusedVariables false
set_option linter.unusedSimpArgs false
set_option maxHeartbeats 4000000
set_option maxRecDepth 20000
/-- the sum of the first k buckets -/
def belowB (l : List Rec) : Nat → Int
  | 0 => 0
  | k + 1 => belowB l k + (bcount l k : Int)
theorem belowB_le (l : List Rec) (k : Nat) : 0 ≤ belowB l k ∧ belowB l k ≤ k * (l.length : Int) := by
  induction k with
  | zero => simp [belowB]
  | succ k ih =>
    have := bcount_le l k
    simp only [belowB]
    have e : ((k + 1 : Nat) : Int) * (l.length : Int) = k * (l.length : Int) + (l.length : Int) := by rw [Int.natCast_succ, Int.add_mul, Int.one_mul]
    rw [e]
    omega
theorem mostGo_hit (l : List Rec) (c : Int) (k : Nat) (hk : k < 64) (h : c ≤ belowB l (k + 1) * 100) : mostGo l c k (64 - k) (belowB l k) = (2 : Int) ^ k - 1 := by
  obtain ⟨f, hf⟩ : ∃ f, 64 - k = f + 1 := ⟨63 - k, by omega⟩
  rw [hf]
  unfold mostGo
  exact if_pos h
theorem mostGo_miss (l : List Rec) (c : Int) (k : Nat) (hk : k < 64) (h : ¬ c ≤ belowB l (k + 1) * 100) : mostGo l c k (64 - k) (belowB l k) = mostGo l c (k + 1) (64 - (k + 1)) (belowB l (k + 1)) := by
  obtain ⟨f, hf⟩ : ∃ f, 64 - k = f + 1 := ⟨63 - k, by omega⟩
  rw [hf]
  have e : 64 - (k + 1) = f := by omega
  rw [e]
  conv => lhs; unfold mostGo
  exact if_neg h
theorem pow_in (k : Nat) (h : k < 64) : (1 : Int) ≤ 2 ^ k ∧ (2 : Int) ^ k ≤ 9223372036854775808 := by
  have e : ((2 : Int) ^ k) = ((2 ^ k : Nat) : Int) := by simp
  have a : 1 ≤ 2 ^ k := Nat.one_le_two_pow
  have b : 2 ^ k ≤ 2 ^ 63 := Nat.pow_le_pow_right (by omega) (by omega)
  rw [e]
  omega
theorem most_any (g : Nat) (n : Int) (l : List Rec) (part : Int) (w : World) (h : StAt w g n l) (hlen : l.length ≤ 100000) : Calls Tryd.prog 47 #[.pointer (some ⟨g, 0, none⟩), .int .i64 part] w fun e w' => e = .returned (.int .i64 (mostP l part)) ∧ w' = w := by
  have lt := StRaw.lt h
  have HO := Lib.hid (of_any g n l 31 (by omega) w h)
  have hS := Lib.hid h
  have ha0 := kcount_le l 31
  generalize hv : mostP l part = mv
  unfold mostP at hv
  clear h
  generalize kcount l 31 = all at *
  replace hv := Lib.hid hv
  go_enter Tryd.func47, Tryd.ntmps47
  go_wp2_with fail
  refine HO.out.mono ?_; rintro e w1 ⟨rfl, rfl⟩
  by_cases h0 : (all : Int) = 0
  · have hv2 := Lib.hid ((if_pos (.inl h0)).symm.trans hv.out)
    go_wp2_with fail
    go_ret
    exact ⟨by rw [← hv2.out]; rfl, rfl⟩
  by_cases h1 : part < 0
  · have hv2 := Lib.hid ((if_pos (.inr (.inl h1))).symm.trans hv.out)
    go_wp2_with fail
    go_ret
    exact ⟨by rw [← hv2.out]; rfl, rfl⟩
  by_cases h2 : 100 < part
  · have hv2 := Lib.hid ((if_pos (.inr (.inr h2))).symm.trans hv.out)
    go_wp2_with fail
    go_ret
    exact ⟨by rw [← hv2.out]; rfl, rfl⟩
  replace hv := (if_neg (by omega)).symm.trans hv.out
  obtain ⟨p, rfl⟩ := Int.eq_ofNat_of_zero_le (show 0 ≤ part by omega)
  have hpa : p * all ≤ 100 * 100000 := Nat.mul_le_mul (by omega) (by omega)
  have hc : ((p : Int) * (all : Int)) = ((p * all : Nat) : Int) := by simp
  have hwc : IntKind.i64.wrap ((p : Int) * (all : Int)) = ((p * all : Nat) : Int) := by rw [hc]; exact IntWalk.i64_in _ (by omega)
  rw [hc] at hv
  replace hv := Lib.hid hv
  clear hc
  generalize p * all = c at *
  have e0 : ((all : Int) == 0) = false := by rw [beq_eq_false_iff_ne]; exact h0
  have e1 : (decide ((p : Int) < 0)) = false := decide_eq_false (by omega)
  have e2 : (decide (100 < (p : Int))) = false := decide_eq_false (by omega)
  go_wp2_with fail
  go_loopw [6, 20] (fun b i wr => ∃ k : Nat, k ≤ 64 ∧ i = .int .i64 k ∧ b = .int .i64 (belowB l k) ∧ wr = w1 ∧ Hid (mostGo l (c : Int) 0 64 0 = mostGo l (c : Int) k (64 - k) (belowB l k))) (fun b i wr => 64 - (intOf i).toNat)
  case atStart => exact ⟨0, Nat.zero_le _, rfl, rfl, rfl, Lib.hid rfl⟩
  case round =>
    obtain ⟨k, hk, rfl, rfl, rfl, hm⟩ := hrel
    have hbb := belowB_le l k
    have hkl : (k : Int) * (l.length : Int) ≤ 64 * 100000 := by
      have : k * l.length ≤ 64 * 100000 := Nat.mul_le_mul hk hlen
      have e : (k : Int) * (l.length : Int) = ((k * l.length : Nat) : Int) := (Int.natCast_mul _ _).symm
      rw [e]; omega
    by_cases hlt : k < 64
    · have c0 := StRaw.bks hS.out k hlt
      have hbc := bcount_le l k
      have hst : belowB l k + (bcount l k : Int) = belowB l (k + 1) := rfl
      have hw1 : IntKind.i64.wrap (belowB l k + (bcount l k : Int)) = belowB l (k + 1) := by rw [← hst]; exact IntWalk.i64_in _ (by omega)
      have hw2 : IntKind.i64.wrap (belowB l (k + 1) * 100) = belowB l (k + 1) * 100 := IntWalk.i64_in _ (by omega)
      have hit := mostGo_hit l (c : Int) k hlt
      have miss := mostGo_miss l (c : Int) k hlt
      generalize hb1 : belowB l (k + 1) = b1 at *
      replace hb1 := Lib.hid hb1
      replace hst := Lib.hid hst
      generalize belowB l k = b0 at *
      generalize hbn : bcount l k = bn at *
      replace hbn := Lib.hid hbn
      by_cases hge : (c : Int) ≤ b1 * 100
      · have hres := Lib.hid (hm.out.trans (hit hge))
        clear hit miss hm
        have hp := pow_in k hlt
        have hp1 : IntKind.u64.wrap ((2 : Int) ^ k) = (2 : Int) ^ k := IntWalk.u64_in _ (by omega)
        have hp2 : IntKind.u64.wrap ((2 : Int) ^ k - 1) = (2 : Int) ^ k - 1 := IntWalk.u64_in _ (by omega)
        have hp3 : wrap64 ((2 : Int) ^ k - 1) = (2 : Int) ^ k - 1 := by unfold wrap64; omega
        go_wp2_with fail
        go_ret
        exact ⟨by rw [← hv.out, hres.out]; rfl, rfl⟩
      · have hres := Lib.hid (hm.out.trans (miss hge))
        clear hit miss hm
        go_wp2_with fail
        go_roundw
        case rel => exact ⟨k + 1, by omega, rfl, by rw [hb1.out], trivial, by rw [hb1.out]; exact hres⟩
        case measure => simp [intOf]; omega
    · have : k = 64 := by omega
      subst this
      have hres := hm.out
      go_wp2_with fail
      go_ret
      exact ⟨by rw [← hv.out, hres]; rfl, rfl⟩
end Go.Proofs.YtdmpopdacbdnlaaDoor
/- lookoutref25: Bits: contract. -/
namespace Go.Proofs.YtdmpopdacbdnlaaDoor
open Go.RowKit
set_option linter.unusedVariables false
set_option linter.unusedSimpArgs false
set_option maxHeartbeats 4000000
set_option maxRecDepth 20000
theorem bits_any (z : Int) (hz : z ≤ 9223372036854775807) (w : World) : Calls Tryd.prog 79 #[.int .i64 z] w fun e w' => e = .returned (.int .i64 (bitsN z : Int)) ∧ w' = w := by
  by_cases h0 : 0 < z
  · obtain ⟨u, rfl⟩ := Int.eq_ofNat_of_zero_le (show 0 ≤ z by omega)
    have hb : bitsN (u : Int) = Lib.bitLen u := by unfold bitsN; rw [Int.toNat_natCast]
    rw [hb]
    clear hb
    have hle : Lib.bitLen u ≤ 63 := Lib.bitLen_le u 63 (by omega) (by omega)
    generalize hbl : Lib.bitLen u = bl at *
    replace hbl := Lib.hid hbl
    go_enter Tryd.func79, Tryd.ntmps79
    go_wp2_with fail
    go_loopw [0, 3] (fun n k wr => ∃ (m j : Nat), m ≤ u ∧ n = .int .i64 (m : Int) ∧ k = .int .i64 (j : Int) ∧ Hid (j + Lib.bitLen m = bl) ∧ wr = w) (fun n k wr => (intOf n).toNat)
    case atStart => exact ⟨u, 0, Nat.le_refl _, rfl, rfl, Lib.hid (by rw [Nat.zero_add]; exact hbl.out), rfl⟩
    case round =>
      obtain ⟨m, j, hm, rfl, rfl, hj, rfl⟩ := hrel
      by_cases hm0 : 0 < m
      · have hh := Lib.bitLen_half m (by omega) (by omega)
        have hj2 := hj.out
        rw [hh] at hj2
        have hjl : j < 63 := by omega
        have hm0' : (0 : Int) < (m : Int) := by omega
        have hdiv : ((m : Int)).tdiv 2 = ((m / 2 : Nat) : Int) := by rw [Int.tdiv_eq_ediv_of_nonneg (by omega)]; rfl
        replace hj2 := Lib.hid (show (j + 1) + Lib.bitLen (m / 2) = bl by omega)
        clear hh hj
        go_wp2_with fail
        go_roundw
        case rel => exact ⟨m / 2, j + 1, by omega, by go_num, by go_num, hj2, trivial⟩
        case measure => simp [intOf]; omega
      · have hm1 : m = 0 := by omega
        subst hm1
        have e : j = bl := by have := hj.out; have z : Lib.bitLen 0 = 0 := rfl; omega
        subst e
        go_wp2_with fail
        go_ret
        exact ⟨rfl, rfl⟩
  · have hb : bitsN z = 0 := by unfold bitsN; rw [Int.toNat_of_nonpos (by omega)]; rfl
    rw [hb]
    have hn : ¬ (0 < z) := h0
    go_enter Tryd.func79, Tryd.ntmps79
    go_wp2_with fail
    go_loopw [0, 3] (fun n k wr => n = .int .i64 z ∧ k = .int .i64 0 ∧ wr = w) (fun n k wr => 0)
    case atStart => exact ⟨rfl, rfl, rfl⟩
    case round =>
      obtain ⟨rfl, rfl, rfl⟩ := hrel
      go_wp2_with fail
      go_ret
      exact ⟨rfl, rfl⟩
theorem take_succ25 {l : List Rec} {k : Nat} (h : k < l.length) : l.take (k + 1) = l.take k ++ [l.getD k (Rec.zero 0)] := by
  rw [List.take_succ_eq_append_getElem h]; simp [List.getD, h]
theorem rof_any (n : Int) (q : Option Addr) (m c : Nat) (l : List Rec) (k : Nat) (hk : k < 256) (w : World) (h : RowG 8 w q m (l.map recVs)) (hm : m ≤ 100000) :
    Calls Tryd.prog 41 #[.agg #[.int .i64 n, .slice q m c], .int .u8 (k : Int)] w fun e w' => e = .returned (.int .i64 (kcount l k : Int)) ∧ Below w.heap.size w w' := by
  have hll : l.length = m := by have := h.length; rw [List.length_map] at this; exact this
  replace h := Lib.hid h
  go_enter Tryd.func41, Tryd.ntmps41
  go_wp2_with fail
  have A1 : Below w.heap.size w (w.alloc (.cells #[.int .i64 n, .slice q m c] 65)) := (Below.refl _ _).alloc (Nat.le_refl _) _
  have X1 := Lib.hid (Box.new w [.int .i64 n, .slice q m c] _ 65 rfl _ rfl)
  replace h := Lib.hid (h.out.below A1)
  replace X1 := Lib.hid X1.out
  generalize hw1 : w.alloc (.cells #[.int .i64 n, .slice q m c] 65) = w1 at *
  clear hw1
  have x1 := X1.out.cell 1 _ rfl
  have xl := X1.out.lt
  have k0 : (0 : Int) ≤ (k : Int) := by omega
  have k1 : (k : Int) < 256 := by omega
  go_loopw [5, 6] (fun cnt i wr => ∃ j : Nat, j ≤ m ∧ i = .int .i64 (j : Int) ∧ cnt = .int .i64 (kcount (l.take j) k : Int) ∧ wr = w1) (fun cnt i wr => m - (intOf i).toNat)
  case atStart => exact ⟨0, Nat.zero_le _, rfl, rfl, rfl⟩
  case round =>
    obtain ⟨j, hj, rfl, rfl, rfl⟩ := hrel
    by_cases hlt : j < m
    · obtain ⟨b, off, rfl, hbl, hc⟩ := RowG.rec_ h.out (by omega)
      have r0 := (hc j hlt).c0
      clear hc
      have hcl := kcount_le (l.take j) k
      have htl : (l.take j).length ≤ j := by rw [List.length_take]; omega
      have hts : kcount (l.take (j + 1)) k = kcount (l.take j) k + (if (l.getD j (Rec.zero 0)).kind.toNat = k then 1 else 0) := by rw [take_succ25 (by omega), kcount_snoc]
      have hkk := (l.getD j (Rec.zero 0)).kind.toNat_lt
      generalize (l.getD j (Rec.zero 0)).kind.toNat = x at *
      generalize kcount (l.take j) k = cn at *
      generalize hnx : kcount (l.take (j + 1)) k = cx at *
      replace hnx := Lib.hid hnx
      by_cases he : x = k
      · subst he
        rw [if_pos rfl] at hts
        subst hts
        go_wp2_with fail
        go_roundw
        case rel => exact ⟨j + 1, by omega, by go_num, by rw [hnx.out]; go_num, trivial⟩
        case measure => simp [intOf]; omega
      · rw [if_neg he] at hts
        have he2 : ((x : Int) == (k : Int)) = false := by rw [beq_eq_false_iff_ne]; omega
        subst hts
        replace he := Lib.hid he
        go_wp2_with fail
        go_roundw
        case rel => exact ⟨j + 1, by omega, by go_num, by rw [hnx.out], trivial⟩
        case measure => simp [intOf]; omega
    · have : j = m := by omega
      subst this
      have e : l.take j = l := List.take_of_length_le (by omega)
      have hlt2 : ¬ ((j : Int) < (j : Int)) := by omega
      go_wp2_with fail
      go_ret
      exact ⟨rfl, A1⟩
/-- latencies of so many bits -/
def bcI (l : List Rec) (z : Int) : Nat := (l.filter fun r => isLat r && decide ((bitsN r.num : Int) = z)).length
theorem bcI_snoc (l : List Rec) (r : Rec) (z : Int) : bcI (l ++ [r]) z = bcI l z + (if isLat r = true ∧ (bitsN r.num : Int) = z then 1 else 0) := by
  unfold bcI
  rw [List.filter_append, List.length_append]
  by_cases h : isLat r = true <;> by_cases h2 : (bitsN r.num : Int) = z <;> simp [h, h2]
theorem bcI_le (l : List Rec) (z : Int) : bcI l z ≤ l.length := List.length_filter_le _ _
theorem rbucket_any (n : Int) (q : Option Addr) (m c : Nat) (l : List Rec) (z : Int) (w : World) (h : RowG 8 w q m (l.map recVs)) (hm : m ≤ 100000) (hn : ∀ r ∈ l, -9223372036854775808 ≤ r.num ∧ r.num ≤ 9223372036854775807) :
    Calls Tryd.prog 43 #[.agg #[.int .i64 n, .slice q m c], .int .i64 z] w fun e w' => e = .returned (.int .i64 (bcI l z : Int)) ∧ Below w.heap.size w w' := by
  have hll : l.length = m := by have := h.length; rw [List.length_map] at this; exact this
  replace h := Lib.hid h
  replace hn := Lib.hid hn
  go_enter Tryd.func43, Tryd.ntmps43
  go_wp2_with fail
  have A1 : Below w.heap.size w (w.alloc (.cells #[.int .i64 n, .slice q m c] 65)) := (Below.refl _ _).alloc (Nat.le_refl _) _
  have X1 := Lib.hid (Box.new w [.int .i64 n, .slice q m c] _ 65 rfl _ rfl)
  replace h := Lib.hid (h.out.below A1)
  replace X1 := Lib.hid X1.out
  generalize hw1 : w.alloc (.cells #[.int .i64 n, .slice q m c] 65) = w1 at *
  clear hw1
  have x1 := X1.out.cell 1 _ rfl
  have xl := X1.out.lt
  go_loopw [5, 6] (fun cnt i wr => ∃ j : Nat, j ≤ m ∧ i = .int .i64 (j : Int) ∧ cnt = .int .i64 (bcI (l.take j) z : Int) ∧ wr = w1) (fun cnt i wr => m - (intOf i).toNat)
  case atStart => exact ⟨0, Nat.zero_le _, rfl, rfl, rfl⟩
  case round =>
    obtain ⟨j, hj, rfl, rfl, rfl⟩ := hrel
    by_cases hlt : j < m
    · obtain ⟨b, off, rfl, hbl, hc⟩ := RowG.rec_ h.out (by omega)
      have r0 := (hc j hlt).c0
      have r4 := (hc j hlt).c4
      clear hc
      have hcl := bcI_le (l.take j) z
      have htl : (l.take j).length ≤ j := by rw [List.length_take]; omega
      have hnr := hn.out (l.getD j (Rec.zero 0)) (by simp [List.getD, show j < l.length from by omega])
      have hts : bcI (l.take (j + 1)) z = bcI (l.take j) z + (if isLat (l.getD j (Rec.zero 0)) = true ∧ (bitsN (l.getD j (Rec.zero 0)).num : Int) = z then 1 else 0) := by rw [take_succ25 (by omega), bcI_snoc]
      have hkk := (l.getD j (Rec.zero 0)).kind.toNat_lt
      unfold isLat at hts
      have HB := Lib.hid (bits_any (l.getD j (Rec.zero 0)).num hnr.2 wr)
      generalize (l.getD j (Rec.zero 0)).kind.toNat = x at *
      generalize bitsN (l.getD j (Rec.zero 0)).num = bn at *
      generalize (l.getD j (Rec.zero 0)).num = nm at *
      generalize bcI (l.take j) z = cn at *
      generalize hnx : bcI (l.take (j + 1)) z = cx at *
      replace hnx := Lib.hid hnx
      by_cases he : x = 31
      · subst he
        by_cases hz : (bn : Int) = z
        · rw [if_pos ⟨by simp, hz⟩] at hts
          subst hts
          subst hz
          go_wp2_with fail
          refine HB.out.mono ?_; rintro e w5 ⟨rfl, rfl⟩
          go_wp2_with fail
          go_roundw
          case rel => exact ⟨j + 1, by omega, by go_num, by rw [hnx.out]; go_num, trivial⟩
          case measure => simp [intOf]; omega
        · rw [if_neg (fun e => hz e.2)] at hts
          have he2 : ((bn : Int) == z) = false := by rw [beq_eq_false_iff_ne]; exact hz
          subst hts
          replace hz := Lib.hid hz
          go_wp2_with fail
          refine HB.out.mono ?_; rintro e w5 ⟨rfl, rfl⟩
          go_wp2_with fail
          go_roundw
          case rel => exact ⟨j + 1, by omega, by go_num, by rw [hnx.out], trivial⟩
          case measure => simp [intOf]; omega
      · rw [if_neg (fun e => he (by simpa using e.1))] at hts
        have he2 : ((x : Int) == 31) = false := by rw [beq_eq_false_iff_ne]; omega
        subst hts
        replace he := Lib.hid he
        go_wp2_with fail
        go_roundw
        case rel => exact ⟨j + 1, by omega, by go_num, by rw [hnx.out], trivial⟩
        case measure => simp [intOf]; omega
    · have : j = m := by omega
      subst this
      have e : l.take j = l := List.take_of_length_le (by omega)
      have hlt2 : ¬ ((j : Int) < (j : Int)) := by omega
      go_wp2_with fail
      go_ret
      exact ⟨rfl, A1⟩
end Go.Proofs.YtdmpopdacbdnlaaDoor
/- lookoutref25: Sum: contract. -/
namespace Go.Proofs.YtdmpopdacbdnlaaDoor
open Go.RowKit
set_option linter.unusedVariables false
set_option linter.unusedSimpArgs false
set_option maxHeartbeats 4000000
set_option maxRecDepth 20000
theorem rsum_any (n : Int) (q : Option Addr) (m c : Nat) (l : List Rec) (w : World) (h : RowG 8 w q m (l.map recVs)) (hm : m ≤ 100000) (hn : ∀ r ∈ l, -9223372036854775808 ≤ r.num ∧ r.num ≤ 9223372036854775807) :
    Calls Tryd.prog 45 #[.agg #[.int .i64 n, .slice q m c]] w fun e w' => e = .returned (.tuple #[.int .i64 (sumP l).1, .bool (sumP l).2]) ∧ Below w.heap.size w w' := by
  have hll : l.length = m := by have := h.length; rw [List.length_map] at this; exact this
  replace h := Lib.hid h
  replace hn := Lib.hid hn
  go_enter Tryd.func45, Tryd.ntmps45
  go_wp2_with fail
  have A1 : Below w.heap.size w (w.alloc (.cells #[.int .i64 n, .slice q m c] 65)) := (Below.refl _ _).alloc (Nat.le_refl _) _
  have X1 := Lib.hid (Box.new w [.int .i64 n, .slice q m c] _ 65 rfl _ rfl)
  replace h := Lib.hid (h.out.below A1)
  replace X1 := Lib.hid X1.out
  generalize hw1 : w.alloc (.cells #[.int .i64 n, .slice q m c] 65) = w1 at *
  clear hw1
  have x1 := X1.out.cell 1 _ rfl
  have xl := X1.out.lt
  go_loopw [4, 5, 6] (fun s b i wr => ∃ j : Nat, j ≤ m ∧ i = .int .i64 (j : Int) ∧ s = .int .i64 (sumP (l.take j)).1 ∧ b = .bool (sumP (l.take j)).2 ∧ wr = w1) (fun s b i wr => m - (intOf i).toNat)
  case atStart => exact ⟨0, Nat.zero_le _, rfl, rfl, rfl, rfl⟩
  case round =>
    obtain ⟨j, hj, rfl, rfl, rfl, rfl⟩ := hrel
    by_cases hlt : j < m
    · obtain ⟨b, off, rfl, hbl, hc⟩ := RowG.rec_ h.out (by omega)
      have r0 := (hc j hlt).c0
      have r4 := (hc j hlt).c4
      clear hc
      have hnr := hn.out (l.getD j (Rec.zero 0)) (by simp [List.getD, show j < l.length from by omega])
      have hts : sumP (l.take (j + 1)) = sum1 (sumP (l.take j)) (l.getD j (Rec.zero 0)) := by rw [take_succ25 (by omega), sumP_snoc]
      have hsi := sumP_in (l.take j)
      have hkk := (l.getD j (Rec.zero 0)).kind.toNat_lt
      unfold sum1 isLat at hts
      generalize (l.getD j (Rec.zero 0)).kind.toNat = x at *
      generalize (l.getD j (Rec.zero 0)).num = nm at *
      generalize hnx : sumP (l.take (j + 1)) = cx at *
      replace hnx := Lib.hid hnx
      generalize sumP (l.take j) = cn at *
      obtain ⟨s0, b0⟩ := cn
      simp only at hts hsi ⊢
      by_cases he : x = 31
      · rw [if_pos (by simp [he])] at hts
        have hx : (x : Int) = 31 := by omega
        rw [hx] at r0
        replace hx := Lib.hid hx
        subst hts
        have HA := Lib.hid (ref_add s0 nm wr hsi.1 hsi.2 hnr.1 hnr.2)
        unfold pairV at HA
        replace he := Lib.hid he
        go_wp2_with fail
        refine HA.out.mono ?_; rintro e w5 ⟨rfl, rfl⟩
        cases b0 with
        | true =>
          go_wp2_with fail
          go_roundw
          case rel => exact ⟨j + 1, by omega, by go_num, by rw [hnx.out], by rw [hnx.out]; rfl, trivial⟩
          case measure => simp [intOf]; omega
        | false =>
          go_wp2_with fail
          go_roundw
          case rel => exact ⟨j + 1, by omega, by go_num, by rw [hnx.out], by rw [hnx.out]; rfl, trivial⟩
          case measure => simp [intOf]; omega
      · rw [if_neg (by simpa using he)] at hts
        have he2 : ((x : Int) == 31) = false := by rw [beq_eq_false_iff_ne]; omega
        subst hts
        replace he := Lib.hid he
        go_wp2_with fail
        go_roundw
        case rel => exact ⟨j + 1, by omega, by go_num, by rw [hnx.out], by rw [hnx.out], trivial⟩
        case measure => simp [intOf]; omega
    · have : j = m := by omega
      subst this
      have e : l.take j = l := List.take_of_length_le (by omega)
      have hlt2 : ¬ ((j : Int) < (j : Int)) := by omega
      go_wp2_with fail
      go_ret2
      exact ⟨rfl, A1⟩
end Go.Proofs.YtdmpopdacbdnlaaDoor
/- lookoutref25: See: contract. -/
namespace Go.Proofs.YtdmpopdacbdnlaaDoor
open Go.RowKit
set_option linter.unusedVariables false
set_option linter.unusedSimpArgs false
set_option maxHeartbeats 4000000
set_option maxRecDepth 20000
theorem rsee_no (n : Int) (q : Option Addr) (m c : Nat) (r : Rec) (w : World) (hok : r.ok) (hb : mayB r = false) :
    Calls Tryd.prog 37 #[.agg #[.int .i64 n, .slice q m c], recA r] w fun e w' => e = .returned (.agg #[.int .i64 n, .slice q m c]) ∧ Below w.heap.size w w' := by
  have HM := Lib.hid (fun W => rrmay_any r hok W)
  rw [hb] at HM
  replace hb := Lib.hid hb
  unfold recA at HM ⊢
  go_enter Tryd.func37, Tryd.ntmps37
  go_wp2_with fail
  refine (HM.out _).mono ?_; rintro e w2 ⟨rfl, hb2⟩
  have A1 : Below w.heap.size w (((w.alloc (.cells #[.int .i64 n, .slice q m c] 65)).alloc (.cells #[.int .u8 (r.kind.toNat : Int), .int .i64 r.source, .int .u64 (r.seq : Int), .int .i64 r.at_, .int .i64 r.num, .int .i64 r.code, .bool r.yes, .string ⟨r.text.toArray⟩] 71)).alloc (.cells #[.int .i64 0, .slice none 0 0] 65)) := (by repeat (first | with_reducible exact Below.refl _ _ | with_reducible refine Below.drew ?_ | with_reducible refine Below.alloc ?_ (by (try simp) <;> omega) _ | with_reducible refine Below.setCell ?_ (by (try simp) <;> omega) _))
  have X1 := Lib.hid (Box.new w [.int .i64 n, .slice q m c] _ 65 rfl _ rfl)
  have AX : Below (w.heap.size + 1) (w.alloc (.cells #[.int .i64 n, .slice q m c] 65)) (((w.alloc (.cells #[.int .i64 n, .slice q m c] 65)).alloc (.cells #[.int .u8 (r.kind.toNat : Int), .int .i64 r.source, .int .u64 (r.seq : Int), .int .i64 r.at_, .int .i64 r.num, .int .i64 r.code, .bool r.yes, .string ⟨r.text.toArray⟩] 71)).alloc (.cells #[.int .i64 0, .slice none 0 0] 65)) := ((Below.refl _ _).alloc (by simp) _).alloc (by simp) _
  have X2 := Lib.hid ((X1.out.below (by simpa using AX)).below hb2)
  have R1 := Lib.hid ((Box.new ((w.alloc (.cells #[.int .i64 n, .slice q m c] 65)).alloc (.cells #[.int .u8 (r.kind.toNat : Int), .int .i64 r.source, .int .u64 (r.seq : Int), .int .i64 r.at_, .int .i64 r.num, .int .i64 r.code, .bool r.yes, .string ⟨r.text.toArray⟩] 71)) [.int .i64 0, .slice none 0 0] _ 65 rfl (w.heap.size + 1 + 1) (by simp)).below hb2)
  have B2 := A1.trans (hb2.mono A1.size)
  clear A1 AX X1 hb2
  have c0 := X2.out.cell 0 _ rfl
  have c1 := X2.out.cell 1 _ rfl
  have cl := X2.out.lt
  have r0 := R1.out.cell 0 _ rfl
  have r1 := R1.out.cell 1 _ rfl
  have rl := R1.out.lt
  have f0 := R1.out.free 0 (by simp)
  have f1 := R1.out.free 1 (by simp)
  go_wp2_with fail
  have RF := (R1.out.set 0 (.int .i64 n) (by simp)).set 1 (.slice q m c) (by simp)
  have e0 := RF.cell 0 (.int .i64 n) rfl
  have e1 := RF.cell 1 (.slice q m c) rfl
  have BF : Below w.heap.size w ((w2.setCell ⟨w.heap.size + 1 + 1, 0, none⟩ (.int .i64 n)).setCell ⟨w.heap.size + 1 + 1, 1, none⟩ (.slice q m c)) := (B2.setCell (by simp; omega) _).setCell (by simp; omega) _
  generalize (w2.setCell ⟨w.heap.size + 1 + 1, 0, none⟩ (.int .i64 n)).setCell ⟨w.heap.size + 1 + 1, 1, none⟩ (.slice q m c) = wF at *
  exact bodyPost_ret (v := .agg #[.int .i64 n, .slice q m c]) (by simp [results, Tryd.results37, go_sem, e0, e1]) rfl ⟨rfl, BF⟩
theorem RowG.news {m : Nat} {w : World} {q : Option Addr} {n : Nat} {cs : List (List Value)} (h : RowG m w q n cs) (hw : ∀ c ∈ cs, c.length = m) (b off : Nat) (hq : q = some ⟨b, off, none⟩) (hm : 0 < m) :
    ∀ j u, cs.flatten[j]? = some u → w.cell? ((⟨b, off, none⟩ : Addr).add j) = some u := by
  intro j u hj
  have hlt := (List.getElem?_eq_some_iff.1 hj).1
  rw [flatten_len m cs hw] at hlt
  have hi : j / m < cs.length := Nat.div_lt_of_lt_mul (by rw [Nat.mul_comm]; exact hlt)
  have hr : j % m < m := Nat.mod_lt _ hm
  have hd : j / m * m + j % m = j := by rw [Nat.mul_comm]; exact Nat.div_add_mod j m
  have hf := flatten_get m cs hw (j / m) (j % m) hi hr
  rw [hd, hj] at hf
  rcases h.at_ with h0 | ⟨b', off', e, hb, hc⟩
  · exact absurd hi (by rw [h.length, h0]; exact Nat.not_lt_zero _)
  · rw [hq] at e
    cases e
    have := hc (j / m) (by rw [← h.length]; exact hi) (j % m) u hf.symm
    rw [Nat.add_assoc, hd] at this
    rw [WideShapes.add_plain]
    exact this
theorem recVs_all (l : List Rec) : ∀ u ∈ (l.map recVs).flatten, u.oneCell' = true := by
  intro u hu
  obtain ⟨x, hx, hux⟩ := List.mem_flatten.1 hu
  obtain ⟨r, _, rfl⟩ := List.mem_map.1 hx
  exact recVs_one r u (by simpa using hux)
theorem rsee_yes (n : Int) (q : Option Addr) (m c : Nat) (l : List Rec) (r : Rec) (w : World) (h : RowG 8 w q m (l.map recVs)) (b off : Nat) (hq : q = some ⟨b, off, none⟩) (hbw : b < w.heap.size) (hm : m ≤ 1000) (hok : r.ok) (hb : mayB r = true) :
    Calls Tryd.prog 37 #[.agg #[.int .i64 n, .slice q m c], recA r] w fun e w' => ∃ q' c', e = .returned (.agg #[.int .i64 n, .slice q' (m + 1) c']) ∧ RowG 8 w' q' (m + 1) ((l ++ [r]).map recVs) ∧ Below w.heap.size w w' ∧ ∀ x, q' = some x → w.heap.size ≤ x.block := by
  have HM := Lib.hid (fun W => rrmay_any r hok W)
  rw [hb] at HM
  replace hb := Lib.hid hb
  unfold recA at HM ⊢
  subst hq
  have hll : l.length = m := by have := h.length; rw [List.length_map] at this; exact this
  replace h := Lib.hid h
  replace hll := Lib.hid hll
  go_enter Tryd.func37, Tryd.ntmps37
  go_wp2_with fail
  refine (HM.out _).mono ?_; rintro e w2 ⟨rfl, hb2⟩
  have A1 : Below w.heap.size w (((w.alloc (.cells #[.int .i64 n, .slice (some ⟨b, off, none⟩) m c] 65)).alloc (.cells #[.int .u8 (r.kind.toNat : Int), .int .i64 r.source, .int .u64 (r.seq : Int), .int .i64 r.at_, .int .i64 r.num, .int .i64 r.code, .bool r.yes, .string ⟨r.text.toArray⟩] 71)).alloc (.cells #[.int .i64 0, .slice none 0 0] 65)) := (by repeat (first | with_reducible exact Below.refl _ _ | with_reducible refine Below.drew ?_ | with_reducible refine Below.alloc ?_ (by (try simp) <;> omega) _ | with_reducible refine Below.setCell ?_ (by (try simp) <;> omega) _))
  have X1 := Lib.hid (Box.new w [.int .i64 n, .slice (some ⟨b, off, none⟩) m c] _ 65 rfl _ rfl)
  have AX : Below (w.heap.size + 1) (w.alloc (.cells #[.int .i64 n, .slice (some ⟨b, off, none⟩) m c] 65)) (((w.alloc (.cells #[.int .i64 n, .slice (some ⟨b, off, none⟩) m c] 65)).alloc (.cells #[.int .u8 (r.kind.toNat : Int), .int .i64 r.source, .int .u64 (r.seq : Int), .int .i64 r.at_, .int .i64 r.num, .int .i64 r.code, .bool r.yes, .string ⟨r.text.toArray⟩] 71)).alloc (.cells #[.int .i64 0, .slice none 0 0] 65)) := ((Below.refl _ _).alloc (by simp) _).alloc (by simp) _
  have X2 := Lib.hid ((X1.out.below (by simpa using AX)).below hb2)
  have AY : Below (w.heap.size + 2) ((w.alloc (.cells #[.int .i64 n, .slice (some ⟨b, off, none⟩) m c] 65)).alloc (.cells #[.int .u8 (r.kind.toNat : Int), .int .i64 r.source, .int .u64 (r.seq : Int), .int .i64 r.at_, .int .i64 r.num, .int .i64 r.code, .bool r.yes, .string ⟨r.text.toArray⟩] 71)) (((w.alloc (.cells #[.int .i64 n, .slice (some ⟨b, off, none⟩) m c] 65)).alloc (.cells #[.int .u8 (r.kind.toNat : Int), .int .i64 r.source, .int .u64 (r.seq : Int), .int .i64 r.at_, .int .i64 r.num, .int .i64 r.code, .bool r.yes, .string ⟨r.text.toArray⟩] 71)).alloc (.cells #[.int .i64 0, .slice none 0 0] 65)) := (Below.refl _ _).alloc (by simp) _
  have Y2 := Lib.hid (((Box.new (w.alloc (.cells #[.int .i64 n, .slice (some ⟨b, off, none⟩) m c] 65)) (recVs r) _ 71 rfl (w.heap.size + 1) (by simp)).below (AY.mono (by simp))).below hb2)
  have R1 := Lib.hid ((Box.new ((w.alloc (.cells #[.int .i64 n, .slice (some ⟨b, off, none⟩) m c] 65)).alloc (.cells #[.int .u8 (r.kind.toNat : Int), .int .i64 r.source, .int .u64 (r.seq : Int), .int .i64 r.at_, .int .i64 r.num, .int .i64 r.code, .bool r.yes, .string ⟨r.text.toArray⟩] 71)) [.int .i64 0, .slice none 0 0] _ 65 rfl (w.heap.size + 1 + 1) (by simp)).below hb2)
  have B2 := A1.trans (hb2.mono A1.size)
  clear A1 AX AY X1 hb2
  have h2 := Lib.hid (h.out.below B2)
  have c0 := X2.out.cell 0 _ rfl
  have c1 := X2.out.cell 1 _ rfl
  have cl := X2.out.lt
  have rl := R1.out.lt
  have tok1 : True := trivial
  have hwd : ∀ u ∈ l.map recVs, u.length = 8 := fun u hu => by obtain ⟨r, _, rfl⟩ := List.mem_map.1 hu; rfl
  replace hwd := Lib.hid hwd
  go_wp2_with (first | (at_builtin; have _t := tok1; refine append_g 63 71 _ 8 72 infoX (by rfl) (by omega) Tryd.underlying63 rfl _ _ rfl w2.heap.size (.slice none 0 0) [] rfl (OwnG.nil _ _ _ _) ⟨b, off, none⟩ m c (l.map recVs) h2.out.length rfl hwd.out (RowG.news h2.out hwd.out b off rfl (by omega)) (recVs_all l) (by simp; unfold maxLen; omega) (by simp; omega) (Nat.le_refl _) ?_; intro v3 w3 hO3 hG3; clear tok1; have tok2 : True := trivial; rw [List.nil_append] at hO3; obtain ⟨q3, c3, rfl, _, _, _⟩ := hO3.row; rw [List.length_map] at hO3; replace hO3 := Lib.hid hO3; have B3 : Below w2.heap.size w2 w3 := (Below.refl _ _).grown hG3 (Nat.le_refl _) (fun j hj => by cases hj); have y0 := (Y2.out.below B3).cell 0 _ rfl; have y1 := (Y2.out.below B3).cell 1 _ rfl; have y2 := (Y2.out.below B3).cell 2 _ rfl; have y3 := (Y2.out.below B3).cell 3 _ rfl; have y4 := (Y2.out.below B3).cell 4 _ rfl; have y5 := (Y2.out.below B3).cell 5 _ rfl; have y6 := (Y2.out.below B3).cell 6 _ rfl; have y7 := (Y2.out.below B3).cell 7 _ rfl; have z3 := B3.size; clear hG3) | (at_builtin; have _t := tok2; refine append_g 63 71 _ 8 72 infoX (by rfl) (by omega) Tryd.underlying63 rfl _ _ rfl w2.heap.size (.slice q3 l.length c3) (l.map recVs) rfl (hO3.out.below ((Below.refl _ _).alloc (Nat.le_refl _) _)) ⟨w3.heap.size, 0, none⟩ 1 1 [recVs r] rfl rfl (by simp [recVs]) (Box.news (Box.new _ _ _ _ rfl _ rfl)) (recVs_one r) (by rw [List.length_map, hll.out]; unfold maxLen; omega) (by rw [List.length_map, hll.out]; omega) (by simp; omega) ?_; intro v4 w4 hO4 hG4; clear tok2; obtain ⟨q4, c4, rfl, _, _, _⟩ := hO4.row; have B4 : Below w2.heap.size w2 w4 := (B3.alloc z3 _).grown hG4 (by simp; omega) (fun j hj => (hO3.out.owns.lt j hj).1); clear hG4; replace hO4 := Lib.hid hO4; have d0 := (X2.out.below B4).cell 0 _ rfl; have r0 := (R1.out.below B4).cell 0 _ rfl; have r1 := (R1.out.below B4).cell 1 _ rfl; have f0 := (R1.out.below B4).free 0 (by simp); have f1 := (R1.out.below B4).free 1 (by simp); have z4 := B4.size; clear y0 y1 y2 y3 y4 y5 y6 y7))
  have hm2 := hll.out
  subst hm2
  obtain ⟨q5, c5, he5, hR5, _, hx5⟩ := hO4.out.row
  cases he5
  have hlr : (l.map recVs ++ [recVs r]) = (l ++ [r]).map recVs := by simp
  have hln : (l.map recVs ++ [recVs r]).length = l.length + 1 := by simp
  have RF := ((R1.out.below B4).set 0 (.int .i64 n) (by simp)).set 1 (.slice q4 (l.length + 1) c4) (by simp)
  have e0 := RF.cell 0 (.int .i64 n) rfl
  have e1 := RF.cell 1 (.slice q4 (l.length + 1) c4) rfl
  have TF : Turn (fun k => k = w.heap.size + 1 + 1) w4 ((w4.setCell ⟨w.heap.size + 1 + 1, 0, none⟩ (.int .i64 n)).setCell ⟨w.heap.size + 1 + 1, 1, none⟩ (.slice q4 (l.length + 1) c4)) := ((Turn.refl (fun k => k = w.heap.size + 1 + 1) w4).setCell _ (fun _ => rfl) _).setCell _ (fun _ => rfl) _
  have hRF := RowG.turn hR5 TF (fun x e hS => by have := (hx5 x e).1; omega)
  have B5 : Below w.heap.size w w4 := B2.trans (B4.mono B2.size)
  have BF : Below w.heap.size w ((w4.setCell ⟨w.heap.size + 1 + 1, 0, none⟩ (.int .i64 n)).setCell ⟨w.heap.size + 1 + 1, 1, none⟩ (.slice q4 (l.length + 1) c4)) := (B5.setCell (by simp; omega) _).setCell (by simp; omega) _
  rw [hln, hlr] at hRF
  generalize (w4.setCell ⟨w.heap.size + 1 + 1, 0, none⟩ (.int .i64 n)).setCell ⟨w.heap.size + 1 + 1, 1, none⟩ (.slice q4 (l.length + 1) c4) = wF at *
  exact bodyPost_ret (v := .agg #[.int .i64 n, .slice q4 (l.length + 1) c4]) (by simp [results, Tryd.results37, go_sem, e0, e1]) rfl ⟨q4, c4, rfl, hRF, BF, fun x e => Nat.le_trans B2.size (hx5 x e).1⟩
end Go.Proofs.YtdmpopdacbdnlaaDoor
/- lookoutref25: See of nothing yet: contract. -/
namespace Go.Proofs.YtdmpopdacbdnlaaDoor
open Go.RowKit
set_option linter.unusedVariables false
set_option linter.unusedSimpArgs false
set_option maxHeartbeats 4000000
set_option maxRecDepth 20000
theorem rsee_nil (n : Int) (r : Rec) (w : World) (hok : r.ok) (hb : mayB r = true) :
    Calls Tryd.prog 37 #[.agg #[.int .i64 n, .slice none 0 0], recA r] w fun e w' => ∃ q' c', e = .returned (.agg #[.int .i64 n, .slice q' 1 c']) ∧ RowG 8 w' q' 1 ([r].map recVs) ∧ Below w.heap.size w w' ∧ ∀ x, q' = some x → w.heap.size ≤ x.block := by
  have HM := Lib.hid (fun W => rrmay_any r hok W)
  rw [hb] at HM
  replace hb := Lib.hid hb
  unfold recA at HM ⊢
  go_enter Tryd.func37, Tryd.ntmps37
  go_wp2_with fail
  refine (HM.out _).mono ?_; rintro e w2 ⟨rfl, hb2⟩
  have A1 : Below w.heap.size w (((w.alloc (.cells #[.int .i64 n, .slice none 0 0] 65)).alloc (.cells #[.int .u8 (r.kind.toNat : Int), .int .i64 r.source, .int .u64 (r.seq : Int), .int .i64 r.at_, .int .i64 r.num, .int .i64 r.code, .bool r.yes, .string ⟨r.text.toArray⟩] 71)).alloc (.cells #[.int .i64 0, .slice none 0 0] 65)) := (by repeat (first | with_reducible exact Below.refl _ _ | with_reducible refine Below.drew ?_ | with_reducible refine Below.alloc ?_ (by (try simp) <;> omega) _ | with_reducible refine Below.setCell ?_ (by (try simp) <;> omega) _))
  have X1 := Lib.hid (Box.new w [.int .i64 n, .slice none 0 0] _ 65 rfl _ rfl)
  have AX : Below (w.heap.size + 1) (w.alloc (.cells #[.int .i64 n, .slice none 0 0] 65)) (((w.alloc (.cells #[.int .i64 n, .slice none 0 0] 65)).alloc (.cells #[.int .u8 (r.kind.toNat : Int), .int .i64 r.source, .int .u64 (r.seq : Int), .int .i64 r.at_, .int .i64 r.num, .int .i64 r.code, .bool r.yes, .string ⟨r.text.toArray⟩] 71)).alloc (.cells #[.int .i64 0, .slice none 0 0] 65)) := ((Below.refl _ _).alloc (by simp) _).alloc (by simp) _
  have X2 := Lib.hid ((X1.out.below (by simpa using AX)).below hb2)
  have AY : Below (w.heap.size + 2) ((w.alloc (.cells #[.int .i64 n, .slice none 0 0] 65)).alloc (.cells #[.int .u8 (r.kind.toNat : Int), .int .i64 r.source, .int .u64 (r.seq : Int), .int .i64 r.at_, .int .i64 r.num, .int .i64 r.code, .bool r.yes, .string ⟨r.text.toArray⟩] 71)) (((w.alloc (.cells #[.int .i64 n, .slice none 0 0] 65)).alloc (.cells #[.int .u8 (r.kind.toNat : Int), .int .i64 r.source, .int .u64 (r.seq : Int), .int .i64 r.at_, .int .i64 r.num, .int .i64 r.code, .bool r.yes, .string ⟨r.text.toArray⟩] 71)).alloc (.cells #[.int .i64 0, .slice none 0 0] 65)) := (Below.refl _ _).alloc (by simp) _
  have Y2 := Lib.hid (((Box.new (w.alloc (.cells #[.int .i64 n, .slice none 0 0] 65)) (recVs r) _ 71 rfl (w.heap.size + 1) (by simp)).below (AY.mono (by simp))).below hb2)
  have R1 := Lib.hid ((Box.new ((w.alloc (.cells #[.int .i64 n, .slice none 0 0] 65)).alloc (.cells #[.int .u8 (r.kind.toNat : Int), .int .i64 r.source, .int .u64 (r.seq : Int), .int .i64 r.at_, .int .i64 r.num, .int .i64 r.code, .bool r.yes, .string ⟨r.text.toArray⟩] 71)) [.int .i64 0, .slice none 0 0] _ 65 rfl (w.heap.size + 1 + 1) (by simp)).below hb2)
  have B2 := A1.trans (hb2.mono A1.size)
  clear A1 AX AY X1 hb2
  have c0 := X2.out.cell 0 _ rfl
  have c1 := X2.out.cell 1 _ rfl
  have cl := X2.out.lt
  have rl := R1.out.lt
  have tok1 : True := trivial
  obtain ⟨ix, hi, _, _, _⟩ := info_parts infoX
  go_wp2_with (first | (at_builtin; have _t := tok1; refine wpList_append_own_none rfl _ _ 63 rfl w2.heap.size 71 ix 8 Tryd.underlying63 hi (.slice none 0 0) 0 [] rfl (World.ownsRow_nil _ _ _ _) rfl ?_; clear tok1; have tok2 : True := trivial; have y0 := Y2.out.cell 0 _ rfl; have y1 := Y2.out.cell 1 _ rfl; have y2 := Y2.out.cell 2 _ rfl; have y3 := Y2.out.cell 3 _ rfl; have y4 := Y2.out.cell 4 _ rfl; have y5 := Y2.out.cell 5 _ rfl; have y6 := Y2.out.cell 6 _ rfl; have y7 := Y2.out.cell 7 _ rfl) | (at_builtin; have _t := tok2; refine append_g 63 71 _ 8 72 infoX (by rfl) (by omega) Tryd.underlying63 rfl _ _ rfl w2.heap.size (.slice none 0 0) [] rfl (OwnG.nil _ _ _ _) ⟨w2.heap.size, 0, none⟩ 1 1 [recVs r] rfl rfl (by simp [recVs]) (Box.news (Box.new _ _ _ _ rfl _ rfl)) (recVs_one r) (by first | (simp; done) | (simp; unfold maxLen; omega)) (by simp) (by simp) ?_; intro v4 w4 hO4 hG4; clear tok2; obtain ⟨q4, c4, rfl, _, _, _⟩ := hO4.row; have B4 : Below w2.heap.size w2 w4 := ((Below.refl w2.heap.size w2).alloc (Nat.le_refl _) _).grown hG4 (by simp) (fun j hj => by cases hj); clear hG4; replace hO4 := Lib.hid hO4; have d0 := (X2.out.below B4).cell 0 _ rfl; have r0 := (R1.out.below B4).cell 0 _ rfl; have r1 := (R1.out.below B4).cell 1 _ rfl; have f0 := (R1.out.below B4).free 0 (by simp); have f1 := (R1.out.below B4).free 1 (by simp); have z4 := B4.size; clear y0 y1 y2 y3 y4 y5 y6 y7))
  obtain ⟨q5, c5, he5, hR5, _, hx5⟩ := hO4.out.row
  cases he5
  have hlr : ([] ++ [recVs r]) = [r].map recVs := by simp
  have hln : ([] ++ [recVs r]).length = 1 := by simp
  have RF := ((R1.out.below B4).set 0 (.int .i64 n) (by simp)).set 1 (.slice q4 1 c4) (by simp)
  have e0 := RF.cell 0 (.int .i64 n) rfl
  have e1 := RF.cell 1 (.slice q4 1 c4) rfl
  have TF : Turn (fun k => k = w.heap.size + 1 + 1) w4 ((w4.setCell ⟨w.heap.size + 1 + 1, 0, none⟩ (.int .i64 n)).setCell ⟨w.heap.size + 1 + 1, 1, none⟩ (.slice q4 1 c4)) := ((Turn.refl (fun k => k = w.heap.size + 1 + 1) w4).setCell _ (fun _ => rfl) _).setCell _ (fun _ => rfl) _
  have hRF := RowG.turn hR5 TF (fun x e hS => by have := (hx5 x e).1; omega)
  have B5 : Below w.heap.size w w4 := B2.trans (B4.mono B2.size)
  have BF : Below w.heap.size w ((w4.setCell ⟨w.heap.size + 1 + 1, 0, none⟩ (.int .i64 n)).setCell ⟨w.heap.size + 1 + 1, 1, none⟩ (.slice q4 1 c4)) := (B5.setCell (by simp; omega) _).setCell (by simp; omega) _
  rw [hln, hlr] at hRF
  generalize (w4.setCell ⟨w.heap.size + 1 + 1, 0, none⟩ (.int .i64 n)).setCell ⟨w.heap.size + 1 + 1, 1, none⟩ (.slice q4 1 c4) = wF at *
  exact bodyPost_ret (v := .agg #[.int .i64 n, .slice q4 1 c4]) (by simp [results, Tryd.results37, go_sem, e0, e1]) rfl ⟨q4, c4, rfl, hRF, BF, fun x e => Nat.le_trans B2.size (hx5 x e).1⟩
end Go.Proofs.YtdmpopdacbdnlaaDoor
/- lookoutlaw25: plain, late, few: contracts. -/
namespace Go.Proofs.YtdmpopdacbdnlaaDoor
open Go.RowKit
set_option linter.unusedVariables false
set_option linter.unusedSimpArgs false
set_option maxHeartbeats 4000000
set_option maxRecDepth 20000
theorem splain_any (r : Rec) (w : World) : Calls Tryd.prog 38 #[recA r] w fun e w' => e = .returned (recA r) ∧ Below w.heap.size w w' := by
  unfold recA
  go_enter Tryd.func38, Tryd.ntmps38
  go_wp2_with fail
  exact bodyPost_ret (v := recA r) (by simp [results, Tryd.results38, go_sem, recA]) rfl ⟨rfl, by repeat (first | exact Below.refl _ _ | with_reducible refine Below.alloc ?_ (by (try simp) <;> omega) _ | with_reducible refine Below.setCell ?_ (by (try simp) <;> omega) _)⟩
/-- a latency -/
def lateR (z : Int) : Rec := { Rec.zero 31 with num := z }
theorem late_any (z : Int) (w : World) : Calls Tryd.prog 51 #[.int .i64 z] w fun e w' => e = .returned (recA (lateR z)) ∧ Below w.heap.size w w' := by
  go_enter Tryd.func51, Tryd.ntmps51
  go_wp2_with fail
  exact bodyPost_ret (v := recA (lateR z)) (by simp [results, Tryd.results51, go_sem, recA, lateR, Rec.zero]) rfl ⟨rfl, by repeat (first | exact Below.refl _ _ | with_reducible refine Below.alloc ?_ (by (try simp) <;> omega) _ | with_reducible refine Below.setCell ?_ (by (try simp) <;> omega) _)⟩
/-- records are few, with short texts -/
def few25 (l : List Rec) : Bool := l.all (fun r => decide (r.text.length ≤ 300)) && decide (l.length ≤ 60)
theorem few25_any (q : Option Addr) (m c : Nat) (l : List Rec) (w : World) (h : RowG 8 w q m (l.map recVs)) (ht : ∀ r ∈ l, r.text.length ≤ maxLen) :
    Calls Tryd.prog 34 #[.slice q m c] w fun e w' => e = .returned (.bool (few25 l)) ∧ w' = w := by
  have hll : l.length = m := by have := h.length; rw [List.length_map] at this; exact this
  have hms : m ≤ 9223372036854775807 := by have := h.small; unfold maxLen at this; omega
  generalize hv : few25 l = fv
  replace hv := Lib.hid hv
  replace h := Lib.hid h
  replace ht := Lib.hid ht
  go_enter Tryd.func34, Tryd.ntmps34
  go_wp2_with fail
  go_loopw [3] (fun i wr => ∃ j : Nat, j ≤ m ∧ i = .int .i64 (j : Int) ∧ Hid (∀ r ∈ l.take j, r.text.length ≤ 300) ∧ wr = w) (fun i wr => m - (intOf i).toNat)
  case atStart => exact ⟨0, Nat.zero_le _, rfl, Lib.hid (by simp), rfl⟩
  case round =>
    obtain ⟨j, hj, rfl, hall, rfl⟩ := hrel
    by_cases hlt : j < m
    · obtain ⟨b, off, rfl, hbl, hc⟩ := RowG.rec_ h.out (by omega)
      have r7 := (hc j hlt).c7
      clear hc
      have hmem : l.getD j (Rec.zero 0) ∈ l := by simp [List.getD, show j < l.length from by omega]
      have htl := ht.out _ hmem
      unfold maxLen at htl
      have hts := Lib.hid (take_succ25 (l := l) (k := j) (by omega))
      replace hmem := Lib.hid hmem
      generalize l.getD j (Rec.zero 0) = x at *
      have hsz : (⟨x.text.toArray⟩ : ByteArray).size = x.text.length := by simp [ByteArray.size]
      by_cases h3 : 300 < x.text.length
      · have hfv : fv = false := by
          rw [← hv.out, few25, Bool.and_eq_false_iff]
          left
          rw [List.all_eq_false]
          exact ⟨x, hmem.out, by simp; omega⟩
        subst hfv
        go_wp2_with fail
        go_ret
        exact ⟨rfl, rfl⟩
      · have hn : Hid (∀ r ∈ l.take (j + 1), r.text.length ≤ 300) := by
          rw [hts.out]
          refine Lib.hid (fun r hr => ?_)
          rcases List.mem_append.1 hr with h1 | h1
          · exact hall.out r h1
          · rw [List.mem_singleton] at h1; subst h1; omega
        go_wp2_with fail
        go_roundw
        case rel => exact ⟨j + 1, by omega, by go_num, hn, trivial⟩
        case measure => simp [intOf]; omega
    · have : j = m := by omega
      subst this
      have hlt2 : ¬ ((j : Int) < (j : Int)) := by omega
      have hal := hall.out
      rw [List.take_of_length_le (by omega)] at hal
      have hfv : fv = decide ((j : Int) ≤ 60) := by
        rw [← hv.out, few25, hll]
        have : l.all (fun r => decide (r.text.length ≤ 300)) = true := List.all_eq_true.2 (fun r hr => by simpa using hal r hr)
        rw [this, Bool.true_and]
        exact decide_eq_decide.2 (by omega)
      replace hfv := Lib.hid hfv
      go_wp2_with fail
      go_ret
      exact ⟨by rw [hfv.out]; rfl, rfl⟩
end Go.Proofs.YtdmpopdacbdnlaaDoor
/- the reference's buckets are the program's. Plain. -/
namespace Go.Proofs.YtdmpopdacbdnlaaDoor
open Go.RowKit
set_option linter.unusedVariables false
set_option linter.unusedSimpArgs false
theorem bitsN_lt {z : Int} (h1 : z ≤ 9223372036854775807) : bitsN z < 64 := by
  by_cases h0 : 0 ≤ z
  · exact bits_lt h0 h1
  · unfold bitsN; rw [Int.toNat_of_nonpos (by omega)]; decide
theorem bcI_bkI (l : List Rec) (hn : ∀ r ∈ l, r.num ≤ 9223372036854775807) (z : Int) : (bcI l z : Int) = bkI l z := by
  unfold bkI bcI bcount
  by_cases h : 0 ≤ z ∧ z < 64
  · rw [if_pos h]
    have e : (fun r : Rec => isLat r && decide ((bitsN r.num : Int) = z)) = (fun r : Rec => isLat r && decide (bitsN r.num = z.toNat)) := by
      funext r
      have : ((bitsN r.num : Int) = z) ↔ (bitsN r.num = z.toNat) := by omega
      simp only [this]
    rw [e]
  · rw [if_neg h]
    have e : l.filter (fun r => isLat r && decide ((bitsN r.num : Int) = z)) = [] := by
      rw [List.filter_eq_nil_iff]
      intro r hr
      have := bitsN_lt (hn r hr)
      simp
      omega
    rw [e]; rfl
end Go.Proofs.YtdmpopdacbdnlaaDoor
/- Plain laws on counts, buckets and what a part is at most. No program. -/
namespace Go.Proofs.YtdmpopdacbdnlaaDoor
open Go.RowKit
set_option linter.unusedVariables false
set_option linter.unusedSimpArgs false
theorem bcount_cons (r : Rec) (l : List Rec) (k : Nat) : bcount (r :: l) k = bcount l k + (if isLat r = true ∧ bitsN r.num = k then 1 else 0) := by
  unfold bcount
  rw [List.filter_cons]
  by_cases h : isLat r = true <;> by_cases h2 : bitsN r.num = k <;> simp [h, h2]
theorem belowB_nil (k : Nat) : belowB [] k = 0 := by
  induction k with
  | zero => rfl
  | succ k ih => simp only [belowB, ih]; rfl
theorem belowB_cons (r : Rec) (l : List Rec) (k : Nat) : belowB (r :: l) k = belowB l k + (if isLat r = true ∧ bitsN r.num < k then 1 else 0) := by
  induction k with
  | zero => simp [belowB]
  | succ k ih =>
    simp only [belowB, ih, bcount_cons]
    by_cases h : isLat r = true
    · by_cases h2 : bitsN r.num = k
      · rw [if_neg (by omega), if_pos ⟨h, h2⟩, if_pos ⟨h, by omega⟩]; omega
      · by_cases h3 : bitsN r.num < k
        · rw [if_pos ⟨h, h3⟩, if_neg (fun e => h2 e.2), if_pos ⟨h, by omega⟩]; omega
        · rw [if_neg (fun e => h3 e.2), if_neg (fun e => h2 e.2), if_neg (fun e => by omega)]; omega
    · rw [if_neg (fun e => h e.1), if_neg (fun e => h e.1), if_neg (fun e => h e.1)]; omega
theorem bitLen_lt_iff (n k : Nat) (hk : k ≤ 63) (hn : n < 2 ^ 64) : Lib.bitLen n ≤ k ↔ n < 2 ^ k := by
  constructor
  · intro h
    by_cases h0 : n = 0
    · subst h0; exact Nat.two_pow_pos k
    · have := Lib.bitLenAux_bounds 64 n hn h0
      exact Nat.lt_of_lt_of_le this.2.2 (Nat.pow_le_pow_right (by omega) h)
  · exact Lib.bitLen_le n k (by omega)
theorem bits_leq {z : Int} (h1 : z ≤ 9223372036854775807) (k : Nat) (hk : k < 64) : bitsN z < k + 1 ↔ z ≤ 2 ^ k - 1 := by
  unfold bitsN
  have e : ((2 : Int) ^ k) = ((2 ^ k : Nat) : Int) := by simp
  have := bitLen_lt_iff z.toNat k (by omega) (by omega)
  have p := Nat.two_pow_pos k
  rw [e]
  constructor
  · intro h
    have := this.1 (by omega)
    omega
  · intro h
    have := this.2 (by omega)
    omega
/-- how many latencies are at most so much -/
def leqN (l : List Rec) (z : Int) : Nat := (l.filter fun r => isLat r && decide (r.num ≤ z)).length
theorem leqN_snoc (l : List Rec) (r : Rec) (z : Int) : leqN (l ++ [r]) z = leqN l z + (if isLat r = true ∧ r.num ≤ z then 1 else 0) := by
  unfold leqN
  rw [List.filter_append, List.length_append]
  by_cases h : isLat r = true <;> by_cases h2 : r.num ≤ z <;> simp [h, h2]
theorem leqN_cons (l : List Rec) (r : Rec) (z : Int) : leqN (r :: l) z = leqN l z + (if isLat r = true ∧ r.num ≤ z then 1 else 0) := by
  unfold leqN
  rw [List.filter_cons]
  by_cases h : isLat r = true <;> by_cases h2 : r.num ≤ z <;> simp [h, h2]
theorem leqN_le (l : List Rec) (z : Int) : leqN l z ≤ l.length := List.length_filter_le _ _
theorem leqN_below (l : List Rec) (hn : ∀ r ∈ l, r.num ≤ 9223372036854775807) (k : Nat) (hk : k < 64) : (leqN l (2 ^ k - 1) : Int) = belowB l (k + 1) := by
  induction l with
  | nil => rw [belowB_nil]; rfl
  | cons r l ih =>
    rw [leqN_cons, belowB_cons, ← ih (fun x hx => hn x (by simp [hx]))]
    have e := bits_leq (hn r (by simp)) k hk
    by_cases h : isLat r = true
    · by_cases h2 : r.num ≤ 2 ^ k - 1
      · rw [if_pos ⟨h, h2⟩, if_pos ⟨h, e.2 h2⟩]; simp
      · rw [if_neg (fun x => h2 x.2), if_neg (fun x => h2 (e.1 x.2))]; simp
    · rw [if_neg (fun x => h x.1), if_neg (fun x => h x.1)]; simp
theorem kcount_cons (r : Rec) (l : List Rec) (k : Nat) : kcount (r :: l) k = kcount l k + (if r.kind.toNat = k then 1 else 0) := by
  unfold kcount
  rw [List.filter_cons]
  by_cases h : r.kind.toNat = k <;> simp [h]
theorem isLat_iff (r : Rec) : isLat r = true ↔ r.kind.toNat = 31 := by unfold isLat; simp
theorem belowB_all (l : List Rec) (hn : ∀ r ∈ l, r.num ≤ 9223372036854775807) : belowB l 64 = (kcount l 31 : Int) := by
  induction l with
  | nil => rw [belowB_nil]; rfl
  | cons r l ih =>
    rw [belowB_cons, kcount_cons, ih (fun x hx => hn x (by simp [hx]))]
    have e := bitsN_lt (hn r (by simp))
    by_cases h : isLat r = true
    · rw [if_pos ⟨h, e⟩, if_pos ((isLat_iff r).1 h)]; simp
    · rw [if_neg (fun x => h x.1), if_neg (fun x => h ((isLat_iff r).2 x))]; simp
/-- the bucket at which a part is reached -/
theorem mostGo_at (l : List Rec) (c : Int) (k : Nat) (hk : k < 64) (h : c ≤ belowB l (k + 1) * 100) (hb : ∀ j, j < k → ¬ c ≤ belowB l (j + 1) * 100) : mostGo l c 0 64 0 = (2 : Int) ^ k - 1 := by
  have step : ∀ j, j ≤ k → mostGo l c 0 64 0 = mostGo l c j (64 - j) (belowB l j) := by
    intro j
    induction j with
    | zero => intro _; rfl
    | succ j ih =>
      intro hj
      rw [ih (by omega), mostGo_miss l c j (by omega) (hb j (by omega))]
  rw [step k (Nat.le_refl _), mostGo_hit l c k hk h]
theorem first_of (p : Nat → Prop) [DecidablePred p] : ∀ n, p n → ∃ k, k ≤ n ∧ p k ∧ ∀ j, j < k → ¬ p j := by
  intro n
  induction n using Nat.strongRecOn with
  | _ n ih =>
    intro hp
    by_cases h : ∃ j, j < n ∧ p j
    · obtain ⟨j, hj, hpj⟩ := h
      obtain ⟨k, hk, h1, h2⟩ := ih j hj hpj
      exact ⟨k, by omega, h1, h2⟩
    · exact ⟨n, Nat.le_refl _, hp, fun j hj hpj => h ⟨j, hj, hpj⟩⟩
theorem mostP_at (l : List Rec) (hn : ∀ r ∈ l, r.num ≤ 9223372036854775807) (part : Int) (h0 : 0 ≤ part) (h1 : part ≤ 100) (ha : kcount l 31 ≠ 0) :
    ∃ k, k < 64 ∧ mostP l part = (2 : Int) ^ k - 1 ∧ part * (kcount l 31 : Int) ≤ belowB l (k + 1) * 100 ∧ ∀ j, j < k → ¬ part * (kcount l 31 : Int) ≤ belowB l (j + 1) * 100 := by
  have hall : part * (kcount l 31 : Int) ≤ belowB l (63 + 1) * 100 := by
    rw [belowB_all l hn, Int.mul_comm]
    exact Int.mul_le_mul_of_nonneg_left h1 (by omega)
  obtain ⟨k, hk, hp, hb⟩ := first_of (fun k => part * (kcount l 31 : Int) ≤ belowB l (k + 1) * 100) 63 hall
  refine ⟨k, by omega, ?_, hp, hb⟩
  unfold mostP
  rw [if_neg (by omega)]
  exact mostGo_at l _ k (by omega) hp hb
theorem mostP_none (l : List Rec) (part : Int) (h : kcount l 31 = 0) : mostP l part = 0 := by unfold mostP; rw [if_pos (.inl (by omega))]
theorem pow_le2 {a b : Nat} (h : a ≤ b) : (2 : Int) ^ a ≤ 2 ^ b := by
  have e : ∀ k : Nat, ((2 : Int) ^ k) = ((2 ^ k : Nat) : Int) := fun k => by simp
  rw [e, e]
  exact Int.ofNat_le.2 (Nat.pow_le_pow_right (by omega) h)
theorem mostP_grows (l : List Rec) (hn : ∀ r ∈ l, r.num ≤ 9223372036854775807) (x y : Int) (hx : 0 ≤ x) (hxy : x ≤ y) (hy : y ≤ 100) : mostP l x ≤ mostP l y := by
  by_cases ha : kcount l 31 = 0
  · rw [mostP_none l x ha, mostP_none l y ha]; omega
  obtain ⟨a, _, ea, _, a2⟩ := mostP_at l hn x hx (by omega) ha
  obtain ⟨b, _, eb, b1, _⟩ := mostP_at l hn y (by omega) hy ha
  have hab : a ≤ b := by
    by_cases hh : a ≤ b
    · exact hh
    · exfalso
      refine a2 b (by omega) (Int.le_trans (Int.mul_le_mul_of_nonneg_right hxy (by omega)) b1)
  have := pow_le2 hab
  rw [ea, eb]
  omega
theorem belowB_full (l : List Rec) (k : Nat) (h : (kcount l 31 : Int) ≤ belowB l k) : ∀ r ∈ l, isLat r = true → bitsN r.num < k := by
  have hle : ∀ l : List Rec, belowB l k ≤ (kcount l 31 : Int) := by
    intro l
    induction l with
    | nil => rw [belowB_nil]; omega
    | cons r l ih =>
      rw [belowB_cons, kcount_cons]
      by_cases h : isLat r = true
      · rw [if_pos ((isLat_iff r).1 h)]
        split <;> simp <;> omega
      · rw [if_neg (fun x => h x.1), if_neg (fun x => h ((isLat_iff r).2 x))]; simpa using ih
  induction l with
  | nil => simp
  | cons r l ih =>
    rw [belowB_cons, kcount_cons] at h
    have hl := hle l
    intro x hx hL
    by_cases hr : isLat r = true
    · by_cases hb : bitsN r.num < k
      · rw [if_pos ((isLat_iff r).1 hr), if_pos ⟨hr, hb⟩] at h
        rcases List.mem_cons.1 hx with rfl | hx
        · exact hb
        · exact ih (by simp at h; omega) x hx hL
      · rw [if_pos ((isLat_iff r).1 hr), if_neg (fun e => hb e.2)] at h
        simp at h; omega
    · rw [if_neg (fun x => hr ((isLat_iff r).2 x)), if_neg (fun x => hr x.1)] at h
      rcases List.mem_cons.1 hx with rfl | hx
      · exact absurd hL hr
      · exact ih (by simpa using h) x hx hL
theorem most_all (l : List Rec) (hn : ∀ r ∈ l, r.num ≤ 9223372036854775807) (r : Rec) (hr : r ∈ l) (hL : isLat r = true) : r.num ≤ mostP l 100 := by
  have ha : kcount l 31 ≠ 0 := by
    unfold kcount
    intro h
    rw [List.length_eq_zero_iff, List.filter_eq_nil_iff] at h
    exact h r hr (by simpa using (isLat_iff r).1 hL)
  obtain ⟨k, hk, e, h1, _⟩ := mostP_at l hn 100 (by omega) (by omega) ha
  have hb := belowB_full l (k + 1) (by omega) r hr hL
  rw [e]
  exact (bits_leq (hn r hr) k hk).1 hb
theorem most_tight (l : List Rec) (hn : ∀ r ∈ l, r.num ≤ 9223372036854775807) (m : Int) (hm : 0 < m) (hmx : ∀ r ∈ l, isLat r = true → r.num ≤ m) : mostP l 100 / 2 < m := by
  by_cases ha : kcount l 31 = 0
  · rw [mostP_none l _ ha]; omega
  obtain ⟨k, hk, e, h1, h2⟩ := mostP_at l hn 100 (by omega) (by omega) ha
  rw [e]
  rcases Nat.eq_zero_or_pos k with h0 | h0
  · subst h0; simp; omega
  · obtain ⟨j, rfl⟩ : ∃ j, k = j + 1 := ⟨k - 1, by omega⟩
    have hj := h2 j (by omega)
    have hp := (pow_in j (by omega)).1
    have e2 : (2 : Int) ^ (j + 1) = 2 * 2 ^ j := by rw [Int.pow_succ]; omega
    rw [e2]
    have hle : ∃ r ∈ l, isLat r = true ∧ ¬ bitsN r.num < j + 1 := by
      by_cases hh : ∃ r ∈ l, isLat r = true ∧ ¬ bitsN r.num < j + 1
      · exact hh
      · exfalso
        apply hj
        have : ∀ l : List Rec, (∀ r ∈ l, isLat r = true → bitsN r.num < j + 1) → (kcount l 31 : Int) = belowB l (j + 1) := by
          intro l
          induction l with
          | nil => intro _; rw [belowB_nil]; rfl
          | cons r l ih =>
            intro hb
            rw [belowB_cons, kcount_cons, ← ih (fun x hx => hb x (by simp [hx]))]
            by_cases h : isLat r = true
            · rw [if_pos ((isLat_iff r).1 h), if_pos ⟨h, hb r (by simp) h⟩]; simp
            · rw [if_neg (fun x => h ((isLat_iff r).2 x)), if_neg (fun x => h x.1)]; simp
        rw [← this l (fun r hr hL => by
          by_cases hb : bitsN r.num < j + 1
          · exact hb
          · exact absurd ⟨r, hr, hL, hb⟩ hh)]
        omega
    obtain ⟨r, hr, hL, hb⟩ := hle
    have h3 := hmx r hr hL
    have h4 : ¬ r.num ≤ 2 ^ j - 1 := fun h => hb ((bits_leq (hn r hr) j (by omega)).2 h)
    omega
/-! the order plays no part -/
theorem kcount_perm {l l' : List Rec} (h : l.Perm l') (k : Nat) : kcount l k = kcount l' k := (h.filter _).length_eq
theorem bcount_perm {l l' : List Rec} (h : l.Perm l') (k : Nat) : bcount l k = bcount l' k := (h.filter _).length_eq
theorem mostGo_congr {l l' : List Rec} (h : ∀ k, bcount l k = bcount l' k) (c : Int) : ∀ (f k : Nat) (b : Int), mostGo l c k f b = mostGo l' c k f b
  | 0, _, _ => rfl
  | f + 1, k, b => by unfold mostGo; rw [h k, mostGo_congr h c f]
theorem mostP_perm {l l' : List Rec} (h : l.Perm l') (part : Int) : mostP l part = mostP l' part := by
  unfold mostP
  rw [kcount_perm h, mostGo_congr (fun k => bcount_perm h k)]
/-- the list, turned -/
def rotL (l : List Rec) (t : Nat) : List Rec := l.drop (t % l.length) ++ l.take (t % l.length)
theorem rotL_perm (l : List Rec) (t : Nat) : (rotL l t).Perm l := by
  unfold rotL
  have := List.perm_append_comm (l₁ := l.drop (t % l.length)) (l₂ := l.take (t % l.length))
  rwa [List.take_append_drop] at this
theorem rotL_len (l : List Rec) (t : Nat) : (rotL l t).length = l.length := (rotL_perm l t).length_eq
theorem rotL_get (l : List Rec) (t i : Nat) (hi : i < l.length) : (rotL l t).getD i (Rec.zero 0) = l.getD ((i + t) % l.length) (Rec.zero 0) := by
  unfold rotL
  have hm : t % l.length < l.length := Nat.mod_lt _ (by omega)
  have e : (i + t) % l.length = (i + t % l.length) % l.length := by rw [Nat.add_mod, Nat.mod_eq_of_lt hi]
  rw [e]
  generalize t % l.length = s at *
  simp only [List.getD_eq_getElem?_getD]
  by_cases h : i + s < l.length
  · rw [Nat.mod_eq_of_lt h, List.getElem?_append_left (by rw [List.length_drop]; omega), List.getElem?_drop, Nat.add_comm]
  · have e2 : (i + s) % l.length = i + s - l.length := by rw [Nat.mod_eq_sub_mod (by omega), Nat.mod_eq_of_lt (by omega)]
    rw [e2, List.getElem?_append_right (by rw [List.length_drop]; omega), List.length_drop, List.getElem?_take_of_lt (by omega)]
    congr 2
    omega
/-- all kinds' counts -/
def sumK (l : List Rec) : Nat → Nat
  | 0 => 0
  | k + 1 => sumK l k + kcount l k
theorem sumK_nil (k : Nat) : sumK [] k = 0 := by
  induction k with
  | zero => rfl
  | succ k ih => simp only [sumK, ih]; rfl
theorem sumK_cons (r : Rec) (l : List Rec) (k : Nat) : sumK (r :: l) k = sumK l k + (if r.kind.toNat < k then 1 else 0) := by
  induction k with
  | zero => simp [sumK]
  | succ k ih =>
    simp only [sumK, ih, kcount_cons]
    by_cases h : r.kind.toNat = k
    · rw [if_neg (by omega), if_pos h, if_pos (by omega)]; omega
    · by_cases h3 : r.kind.toNat < k
      · rw [if_pos h3, if_neg h, if_pos (by omega)]; omega
      · rw [if_neg h3, if_neg h, if_neg (by omega)]; omega
theorem sumK_all (l : List Rec) : sumK l 256 = l.length := by
  induction l with
  | nil => rw [sumK_nil]; rfl
  | cons r l ih => rw [sumK_cons, ih, if_pos r.kind.toNat_lt]; rfl
theorem sumK_le (l : List Rec) (k : Nat) : sumK l k ≤ k * l.length := by
  induction k with
  | zero => simp [sumK]
  | succ k ih =>
    have := kcount_le l k
    simp only [sumK]
    rw [Nat.succ_mul]
    omega
/-- those that may be -/
def seenL (l : List Rec) : List Rec := l.filter mayB
theorem seenL_snoc (l : List Rec) (r : Rec) : seenL (l ++ [r]) = if mayB r = true then seenL l ++ [r] else seenL l := by
  unfold seenL
  rw [List.filter_append]
  by_cases h : mayB r = true <;> simp [h]
theorem seenL_le (l : List Rec) : (seenL l).length ≤ l.length := List.length_filter_le _ _
theorem seenL_perm {l l' : List Rec} (h : l.Perm l') : (seenL l).Perm (seenL l') := h.filter _
end Go.Proofs.YtdmpopdacbdnlaaDoor
/- stats: the rows of Show, plainly; AppendInt. -/
namespace Go.Proofs.YtdmpopdacbdnlaaDoor
open Go.RowKit
set_option linter.unusedVariables false
set_option linter.unusedSimpArgs false
set_option maxHeartbeats 4000000
set_option maxRecDepth 20000
theorem byteCells_bv (l : List UInt8) : Lib.byteCells l = bv l := rfl
theorem appi_any (B : Nat) (i : Int) (h0 : -9223372036854775808 ≤ i) (h1 : i ≤ 9223372036854775807) (v : Value) (l : List UInt8) (w : World) (hown : OwnB 5 B w v l) (hBw : B ≤ w.heap.size) (hl : l.length ≤ 1000) (hT : Lib.TabBelow Tryd.prog B w "internal/strconv.uint64pow10" .u64 Lib.pow10Tab) :
    Calls Tryd.prog 80 #[v, .int .i64 i, .int .i64 10] w fun e w' => ∃ v', e = .returned v' ∧ OwnB 5 B w' v' (l ++ Lib.itoa i) ∧ Below B w w' := by
  have hi := itoa_le i h0 h1
  refine (Tryd.strconv_AppendInt_10 B l.length i h0 h1 v (bv l) w hown.owns hBw (by omega) hT).mono ?_
  rintro e w' ⟨v', rfl, hO, hb, _⟩
  refine ⟨v', rfl, ⟨?_, by rw [List.length_append]; unfold maxLen; omega⟩, hb⟩
  rw [List.length_append, bv_append, ← byteCells_bv (Lib.itoa i)]
  exact hO
/-- words and numbers as a text -/
def textP : List (List UInt8 × Int) → List UInt8
  | [] => []
  | x :: l => x.1 ++ Lib.itoa x.2 ++ textP l
theorem textP_snoc (l : List (List UInt8 × Int)) (x : List UInt8 × Int) : textP (l ++ [x]) = textP l ++ x.1 ++ Lib.itoa x.2 := by
  induction l with
  | nil => simp [textP]
  | cons y l ih => simp [textP, ih]
/-- the rows of Show -/
def rowsP (n q : Int) (l : List Rec) : List (List UInt8 × Int) := [([100, 101, 99, 111, 100, 101, 100, 32], n), ([32, 97, 99, 99, 101, 112, 116, 101, 100, 32], (kcount l 23 : Int)), ([32, 115, 104, 101, 100, 32], (kcount l 21 : Int)), ([32, 108, 97, 116, 101, 32], (kcount l 22 : Int)), ([32, 114, 101, 106, 101, 99, 116, 101, 100, 32], (kcount l 20 : Int)), ([32, 113, 117, 101, 117, 101, 100, 32], q), ([32, 102, 105, 110, 97, 108, 115, 32], (kcount l 30 : Int)), ([32, 104, 97, 108, 102, 32], mostP l 50), ([32, 109, 111, 115, 116, 32], mostP l 100), ([32, 115, 117, 109, 32], (sumP l).1)]
theorem mostGo_in (l : List Rec) (c : Int) : ∀ (f k : Nat) (b : Int), k + f ≤ 64 → 0 ≤ mostGo l c k f b ∧ mostGo l c k f b ≤ 9223372036854775807
  | 0, _, _, _ => by unfold mostGo; omega
  | f + 1, k, b, h => by
    unfold mostGo
    split
    · have := pow_in k (by omega); omega
    · exact mostGo_in l c f (k + 1) _ (by omega)
theorem mostP_in (l : List Rec) (part : Int) : 0 ≤ mostP l part ∧ mostP l part ≤ 9223372036854775807 := by
  unfold mostP
  split
  · omega
  · exact mostGo_in l _ 64 0 0 (by omega)
/-- a row that may be shown -/
def rowOk (x : List UInt8 × Int) : Prop := x.1.length ≤ 10 ∧ -9223372036854775808 ≤ x.2 ∧ x.2 ≤ 9223372036854775807
theorem rowsP_ok (n q : Int) (l : List Rec) (hlen : l.length ≤ 100000) (hn : -9223372036854775808 ≤ n ∧ n ≤ 9223372036854775807) (hq : -9223372036854775808 ≤ q ∧ q ≤ 9223372036854775807) : ∀ x ∈ rowsP n q l, rowOk x := by
  have k := fun j => kcount_le l j
  have s := sumP_in l
  have m1 := mostP_in l 50
  have m2 := mostP_in l 100
  have k1 := k 23; have k2 := k 21; have k3 := k 22; have k4 := k 20; have k5 := k 30
  intro x hx
  simp only [rowsP, List.mem_cons, List.not_mem_nil, or_false] at hx
  rcases hx with rfl | rfl | rfl | rfl | rfl | rfl | rfl | rfl | rfl | rfl <;> refine ⟨by simp, ?_, ?_⟩ <;> simp only <;> omega
theorem textP_le (R : List (List UInt8 × Int)) (h : ∀ x ∈ R, rowOk x) : (textP R).length ≤ 31 * R.length := by
  induction R with
  | nil => simp [textP]
  | cons x R ih =>
    have h1 := h x (by simp)
    have h2 := itoa_le x.2 h1.2.1 h1.2.2
    have h3 := ih (fun y hy => h y (by simp [hy]))
    simp only [textP, List.length_append, List.length_cons]
    have := h1.1
    omega
/-- the rows as cells -/
def rowsV (R : List (List UInt8 × Int)) : List Value := R.flatMap fun x => [.string ⟨x.1.toArray⟩, .int .i64 x.2]
theorem rowsV_drop (R : List (List UInt8 × Int)) (k : Nat) : (rowsV R).drop (k * 2) = rowsV (R.drop k) := by
  induction k generalizing R with
  | zero => simp
  | succ k ih =>
    cases R with
    | nil => simp [rowsV]
    | cons x R =>
      have e : (k + 1) * 2 = k * 2 + 2 := by omega
      have e2 : rowsV (x :: R) = [.string ⟨x.1.toArray⟩, .int .i64 x.2] ++ rowsV R := rfl
      rw [e, e2, Nat.add_comm, ← List.drop_drop]
      exact ih R
theorem rowsV_extract (R : List (List UInt8 × Int)) (k : Nat) (x : List UInt8 × Int) (hx : R[k]? = some x) : (rowsV R).toArray.extract (k * 2) (k * 2 + 2) = #[.string ⟨x.1.toArray⟩, .int .i64 x.2] := by
  obtain ⟨hk, rfl⟩ := List.getElem?_eq_some_iff.1 hx
  rw [List.extract_toArray, List.extract_eq_take_drop, rowsV_drop, List.drop_eq_getElem_cons hk]
  have e : k * 2 + 2 - k * 2 = 2 := by omega
  rw [e]
  rfl
theorem index_rows (W : World) (R : List (List UInt8 × Int)) (k : Nat) (x : List UInt8 × Int) (hx : R[k]? = some x) (hk : k < 10) :
    (Instr.index 129 (.agg (rowsV R).toArray) (.int .i64 (k : Int))).run Tryd.prog W = .ok (.agg #[.string ⟨x.1.toArray⟩, .int .i64 x.2]) W := by
  have h := rowsV_extract R k x hx
  have h1 : (0 : Int) ≤ (k : Int) := by omega
  have h2 : (k : Int) < 10 := by omega
  have h3 : (k : Int).toNat = k := by omega
  generalize (rowsV R).toArray = A at *
  have hs : (Tryd.prog.info? 128).map (·.size) = some 2 := by kernel_rfl
  cases hq : Tryd.prog.info? 128 with
  | none => rw [hq] at hs; cases hs
  | some i =>
    rw [hq] at hs
    have hsz : i.size = 2 := by simpa using hs
    simp [Instr.index, asIntOf, run_underlying Tryd.underlying129, part, isAgg, run_underlying Tryd.underlying128, sizeOf, typeInfo, hq, hsz, h1, h2, h3, h, hk]
end Go.Proofs.YtdmpopdacbdnlaaDoor
