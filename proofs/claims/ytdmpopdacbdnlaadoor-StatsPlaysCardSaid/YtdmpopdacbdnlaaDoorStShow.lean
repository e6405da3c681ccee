/- stats: Show: contract. -/
import Derived.Test.YtdmpopdacbdnlaaDoorStG
namespace Go.Proofs.YtdmpopdacbdnlaaDoor
open Go.RowKit
set_option linter.unusedVariables false
set_option linter.unusedSimpArgs false
set_option maxHeartbeats 4000000
set_option maxRecDepth 20000
theorem if_wanted {P : Program} {o : Oper} {b : Bool} {a a' : Act} {w w' : World} {K : Act → World → Prop} {Q : Exit → Act → World → Prop} (hb : b = true) (h : Oper.wp P o a w K Q) : if b = true then Oper.wp P o a w K Q else K a' w' := by
  rw [if_pos hb]; exact h
theorem region_tail {P : Program} {ops : Array Oper} {Q : Exit → Act → World → Prop} {id : Nat} {a : Act} {w : World} (aF : Act) (wF : World) (tail : Q .normal aF wF) (h : Q .normal aF wF → (Code.region id ops true).wp P Q a w) : (Code.region id ops true).wp P Q a w := h tail
theorem sshow_none (q : Int) (w : World) : Calls Tryd.prog 49 #[.pointer none, .int .i64 q] w fun e w' => e = .returned (.string ⟨#[]⟩) ∧ w' = w := by
  go_enter Tryd.func49, Tryd.ntmps49
  go_wp2_with fail
  go_ret
  exact ⟨rfl, rfl⟩
theorem sshow_any (g : Nat) (n q : Int) (l : List Rec) (w : World) (h : StAt w g n l) (hlen : l.length ≤ 100000) (hT : PowT w) (hn : -9223372036854775808 ≤ n ∧ n ≤ 9223372036854775807) (hq : -9223372036854775808 ≤ q ∧ q ≤ 9223372036854775807) :
    Calls Tryd.prog 49 #[.pointer (some ⟨g, 0, none⟩), .int .i64 q] w fun e w' => e = .returned (.string ⟨(textP (rowsP n q l)).toArray⟩) ∧ Below w.heap.size w w' := by
  have lt := StRaw.lt h
  have hS := Lib.hid h
  have HC := Lib.hid (counts_any g n l q w h)
  generalize hrp : textP (rowsP n q l) = tp
  replace hrp := Lib.hid hrp
  clear h
  go_enter Tryd.func49, Tryd.ntmps49
  go_wp2_with fail
  refine HC.out.mono ?_; rintro e w2 ⟨rfl, hb2⟩
  go_wp2_with fail
  have A3 : Below w2.heap.size w2 (w2.alloc (.cells #[.int .i64 n, .int .i64 (kcount l 23 : Int), .int .i64 (kcount l 21 : Int), .int .i64 (kcount l 22 : Int), .int .i64 (kcount l 20 : Int), .int .i64 q] 81)) := (Below.refl _ _).alloc (Nat.le_refl _) _
  have X3 := Lib.hid (Box.new w2 [.int .i64 n, .int .i64 (kcount l 23 : Int), .int .i64 (kcount l 21 : Int), .int .i64 (kcount l 22 : Int), .int .i64 (kcount l 20 : Int), .int .i64 q] _ 81 rfl _ rfl)
  have B3 := hb2.trans (A3.mono hb2.size)
  have z3 := A3.size
  replace X3 := Lib.hid X3.out
  have E1 : ∀ W, Below w.heap.size w W → StAt W g n l := fun W hb => hS.out.below hb
  replace E1 := Lib.hid E1
  generalize hw3 : w2.alloc (.cells #[.int .i64 n, .int .i64 (kcount l 23 : Int), .int .i64 (kcount l 21 : Int), .int .i64 (kcount l 22 : Int), .int .i64 (kcount l 20 : Int), .int .i64 q] 81) = w3 at *
  clear hw3
  refine (ssum_any g n l w3 (E1.out _ B3)).mono ?_; rintro e w4 ⟨rfl, rfl⟩
  go_wp2_with fail
  have E : ∀ W, Below w3.heap.size w3 W → W.cell? ⟨w2.heap.size, 0, none⟩ = some (.int .i64 n) ∧ W.cell? ⟨w2.heap.size, 1, none⟩ = some (.int .i64 (kcount l 23 : Int)) ∧ W.cell? ⟨w2.heap.size, 2, none⟩ = some (.int .i64 (kcount l 21 : Int)) ∧ W.cell? ⟨w2.heap.size, 3, none⟩ = some (.int .i64 (kcount l 22 : Int)) ∧ W.cell? ⟨w2.heap.size, 4, none⟩ = some (.int .i64 (kcount l 20 : Int)) ∧ W.cell? ⟨w2.heap.size, 5, none⟩ = some (.int .i64 q) ∧ True := fun W hb => by
    have c := fun i v hv => (X3.out.below hb).cell i v hv
    exact ⟨c 0 _ rfl, c 1 _ rfl, c 2 _ rfl, c 3 _ rfl, c 4 _ rfl, c 5 _ rfl, trivial⟩
  replace E := Lib.hid E
  have E2 : ∀ W, Below w3.heap.size w3 W → StAt W g n l := fun W hb => E1.out W (B3.trans (hb.mono B3.size))
  replace E2 := Lib.hid E2
  refine region_tail ?aF ?wF ?tail ?main
  case main =>
    intro htail
    refine wp_region_held_drew (S := fun W => W.cell? ⟨w2.heap.size, 0, none⟩ = some (.int .i64 n) ∧ W.cell? ⟨w2.heap.size, 1, none⟩ = some (.int .i64 (kcount l 23 : Int)) ∧ W.cell? ⟨w2.heap.size, 2, none⟩ = some (.int .i64 (kcount l 21 : Int)) ∧ W.cell? ⟨w2.heap.size, 3, none⟩ = some (.int .i64 (kcount l 22 : Int)) ∧ W.cell? ⟨w2.heap.size, 4, none⟩ = some (.int .i64 (kcount l 20 : Int)) ∧ W.cell? ⟨w2.heap.size, 5, none⟩ = some (.int .i64 q) ∧ True) (by as_aux_lemma => kernel_rfl) (E.out _ ((Below.refl _ _).drew.drew)) (fun hHeld => ?_)
    refine wpAnyH_take (i := 0) (oi := ⟨some 24, _, _, _, _, _⟩) (v := ?_) rfl (by as_aux_lemma => kernel_rfl) (by as_aux_lemma => kernel_rfl) (by as_aux_lemma => kernel_rfl) (fun _ _ _ h => h) (Or.inl ⟨by rfl, ?hyt0⟩) (by assumption) ?_; (case hyt0 => ((intro W hSW; (try dsimp only at hSW); obtain ⟨s1, s2, s3, s4, s5, s6, s7⟩ := hSW; go_simp); (all_goals with_reducible rfl))); (try simp only [Act.put, List.setIfInBounds_toArray, List.set_cons_zero, List.set_cons_succ])
    refine wpAnyH_take (i := 1) (oi := ⟨some 25, _, _, _, _, _⟩) (v := ?_) rfl (by as_aux_lemma => kernel_rfl) (by as_aux_lemma => kernel_rfl) (by as_aux_lemma => kernel_rfl) (fun _ _ _ h => h) (Or.inl ⟨by rfl, ?hyt1⟩) (by assumption) ?_; (case hyt1 => ((intro W hSW; (try dsimp only at hSW); obtain ⟨s1, s2, s3, s4, s5, s6, s7⟩ := hSW; go_simp); (all_goals with_reducible rfl))); (try simp only [Act.put, List.setIfInBounds_toArray, List.set_cons_zero, List.set_cons_succ])
    refine wpAnyH_take (i := 2) (oi := ⟨some 26, _, _, _, _, _⟩) (v := ?_) rfl (by as_aux_lemma => kernel_rfl) (by as_aux_lemma => kernel_rfl) (by as_aux_lemma => kernel_rfl) (fun _ _ _ h => h) (Or.inl ⟨by rfl, ?hyt2⟩) (by assumption) ?_; (case hyt2 => ((intro W hSW; (try dsimp only at hSW); obtain ⟨s1, s2, s3, s4, s5, s6, s7⟩ := hSW; go_simp); (all_goals with_reducible rfl))); (try simp only [Act.put, List.setIfInBounds_toArray, List.set_cons_zero, List.set_cons_succ])
    refine wpAnyH_take (i := 3) (oi := ⟨some 27, _, _, _, _, _⟩) (v := ?_) rfl (by as_aux_lemma => kernel_rfl) (by as_aux_lemma => kernel_rfl) (by as_aux_lemma => kernel_rfl) (fun _ _ _ h => h) (Or.inl ⟨by rfl, ?hyt3⟩) (by assumption) ?_; (case hyt3 => ((intro W hSW; (try dsimp only at hSW); obtain ⟨s1, s2, s3, s4, s5, s6, s7⟩ := hSW; go_simp); (all_goals with_reducible rfl))); (try simp only [Act.put, List.setIfInBounds_toArray, List.set_cons_zero, List.set_cons_succ])
    refine wpAnyH_take (i := 4) (oi := ⟨some 28, _, _, _, _, _⟩) (v := ?_) rfl (by as_aux_lemma => kernel_rfl) (by as_aux_lemma => kernel_rfl) (by as_aux_lemma => kernel_rfl) (fun _ _ _ h => h) (Or.inl ⟨by rfl, ?hyt4⟩) (by assumption) ?_; (case hyt4 => ((intro W hSW; (try dsimp only at hSW); obtain ⟨s1, s2, s3, s4, s5, s6, s7⟩ := hSW; go_simp); (all_goals with_reducible rfl))); (try simp only [Act.put, List.setIfInBounds_toArray, List.set_cons_zero, List.set_cons_succ])
    refine wpAnyH_take (i := 5) (oi := ⟨some 29, _, _, _, _, _⟩) (v := ?_) rfl (by as_aux_lemma => kernel_rfl) (by as_aux_lemma => kernel_rfl) (by as_aux_lemma => kernel_rfl) (fun _ _ _ h => h) (Or.inl ⟨by rfl, ?hyt5⟩) (by assumption) ?_; (case hyt5 => ((intro W hSW; (try dsimp only at hSW); obtain ⟨s1, s2, s3, s4, s5, s6, s7⟩ := hSW; go_simp); (all_goals with_reducible rfl))); (try simp only [Act.put, List.setIfInBounds_toArray, List.set_cons_zero, List.set_cons_succ])
    refine wpAnyH_take (i := 6) (oi := ⟨some 30, _, _, _, _, _⟩) (v := ?_) rfl (by as_aux_lemma => kernel_rfl) (by as_aux_lemma => kernel_rfl) (by as_aux_lemma => kernel_rfl) (fun _ _ _ h => h) (Or.inl ⟨by rfl, ?hyt6⟩) (by assumption) ?_; (case hyt6 => ((intro W hSW; (try dsimp only at hSW); obtain ⟨s1, s2, s3, s4, s5, s6, s7⟩ := hSW; go_simp); (all_goals with_reducible rfl))); (try simp only [Act.put, List.setIfInBounds_toArray, List.set_cons_zero, List.set_cons_succ])
    refine wpAnyH_take (i := 7) (oi := ⟨some 31, _, _, _, _, _⟩) (v := ?_) rfl (by as_aux_lemma => kernel_rfl) (by as_aux_lemma => kernel_rfl) (by as_aux_lemma => kernel_rfl) (fun _ _ _ h => h) (Or.inl ⟨by rfl, ?hyt7⟩) (by assumption) ?_; (case hyt7 => ((intro W hSW; (try dsimp only at hSW); obtain ⟨s1, s2, s3, s4, s5, s6, s7⟩ := hSW; go_simp); (all_goals with_reducible rfl))); (try simp only [Act.put, List.setIfInBounds_toArray, List.set_cons_zero, List.set_cons_succ])
    refine wpAnyH_take (i := 8) (oi := ⟨some 32, _, _, _, _, _⟩) (v := ?_) rfl (by as_aux_lemma => kernel_rfl) (by as_aux_lemma => kernel_rfl) (by as_aux_lemma => kernel_rfl) (fun _ _ _ h => h) (Or.inl ⟨by rfl, ?hyt8⟩) (by assumption) ?_; (case hyt8 => ((intro W hSW; (try dsimp only at hSW); obtain ⟨s1, s2, s3, s4, s5, s6, s7⟩ := hSW; go_simp); (all_goals with_reducible rfl))); (try simp only [Act.put, List.setIfInBounds_toArray, List.set_cons_zero, List.set_cons_succ])
    refine wpAnyH_take (i := 9) (oi := ⟨some 33, _, _, _, _, _⟩) (v := ?_) rfl (by as_aux_lemma => kernel_rfl) (by as_aux_lemma => kernel_rfl) (by as_aux_lemma => kernel_rfl) (fun _ _ _ h => h) (Or.inl ⟨by rfl, ?hyt9⟩) (by assumption) ?_; (case hyt9 => ((intro W hSW; (try dsimp only at hSW); obtain ⟨s1, s2, s3, s4, s5, s6, s7⟩ := hSW; go_simp); (all_goals with_reducible rfl))); (try simp only [Act.put, List.setIfInBounds_toArray, List.set_cons_zero, List.set_cons_succ])
    refine wpAnyH_take (i := 10) (oi := ⟨some 34, _, _, _, _, _⟩) (v := ?_) rfl (by as_aux_lemma => kernel_rfl) (by as_aux_lemma => kernel_rfl) (by as_aux_lemma => kernel_rfl) (fun _ _ _ h => h) (Or.inl ⟨by rfl, ?hyt10⟩) (by assumption) ?_; (case hyt10 => ((intro W hSW; (try dsimp only at hSW); obtain ⟨s1, s2, s3, s4, s5, s6, s7⟩ := hSW; go_simp); (all_goals with_reducible rfl))); (try simp only [Act.put, List.setIfInBounds_toArray, List.set_cons_zero, List.set_cons_succ])
    refine wpAnyH_take (i := 11) (oi := ⟨some 35, _, _, _, _, _⟩) (v := ?_) rfl (by as_aux_lemma => kernel_rfl) (by as_aux_lemma => kernel_rfl) (by as_aux_lemma => kernel_rfl) (fun _ _ _ h => h) (Or.inl ⟨by rfl, ?hyt11⟩) (by assumption) ?_; (case hyt11 => ((intro W hSW; (try dsimp only at hSW); obtain ⟨s1, s2, s3, s4, s5, s6, s7⟩ := hSW; go_simp); (all_goals with_reducible rfl))); (try simp only [Act.put, List.setIfInBounds_toArray, List.set_cons_zero, List.set_cons_succ])
    refine wpAnyH_take (i := 12) (oi := ⟨some 36, _, _, _, _, _⟩) (v := ?_) rfl (by as_aux_lemma => kernel_rfl) (by as_aux_lemma => kernel_rfl) (by as_aux_lemma => kernel_rfl) (fun _ _ _ h => h) (Or.inl ⟨by rfl, ?hyt12⟩) (by assumption) ?_; (case hyt12 => ((intro W hSW; (try dsimp only at hSW); obtain ⟨s1, s2, s3, s4, s5, s6, s7⟩ := hSW; go_simp); (all_goals with_reducible rfl))); (try simp only [Act.put, List.setIfInBounds_toArray, List.set_cons_zero, List.set_cons_succ])
    refine wpAnyH_take (i := 13) (oi := ⟨some 37, _, _, _, _, _⟩) (v := ?_) rfl (by as_aux_lemma => kernel_rfl) (by as_aux_lemma => kernel_rfl) (by as_aux_lemma => kernel_rfl) (fun _ _ _ h => h) (Or.inl ⟨by rfl, ?hyt13⟩) (by assumption) ?_; (case hyt13 => ((intro W hSW; (try dsimp only at hSW); obtain ⟨s1, s2, s3, s4, s5, s6, s7⟩ := hSW; go_simp); (all_goals with_reducible rfl))); (try simp only [Act.put, List.setIfInBounds_toArray, List.set_cons_zero, List.set_cons_succ])
    refine wpAnyH_take (i := 14) (oi := ⟨some 38, _, _, _, _, _⟩) (v := ?_) rfl (by as_aux_lemma => kernel_rfl) (by as_aux_lemma => kernel_rfl) (by as_aux_lemma => kernel_rfl) (fun _ _ _ h => h) (Or.inl ⟨by rfl, ?hyt14⟩) (by assumption) ?_; (case hyt14 => ((intro W hSW; (try dsimp only at hSW); obtain ⟨s1, s2, s3, s4, s5, s6, s7⟩ := hSW; go_simp); (all_goals with_reducible rfl))); (try simp only [Act.put, List.setIfInBounds_toArray, List.set_cons_zero, List.set_cons_succ])
    refine wpAnyH_take (i := 15) (oi := ⟨some 39, _, _, _, _, _⟩) (v := ?_) rfl (by as_aux_lemma => kernel_rfl) (by as_aux_lemma => kernel_rfl) (by as_aux_lemma => kernel_rfl) (fun _ _ _ h => h) (Or.inl ⟨by rfl, ?hyt15⟩) (by assumption) ?_; (case hyt15 => ((intro W hSW; (try dsimp only at hSW); obtain ⟨s1, s2, s3, s4, s5, s6, s7⟩ := hSW; go_simp); (all_goals with_reducible rfl))); (try simp only [Act.put, List.setIfInBounds_toArray, List.set_cons_zero, List.set_cons_succ])
    refine wpAnyH_take (i := 16) (oi := ⟨some 40, _, _, _, _, _⟩) (v := ?_) rfl (by as_aux_lemma => kernel_rfl) (by as_aux_lemma => kernel_rfl) (by as_aux_lemma => kernel_rfl) (fun _ _ _ h => h) (Or.inl ⟨by rfl, ?hyt16⟩) (by assumption) ?_; (case hyt16 => ((intro W hSW; (try dsimp only at hSW); obtain ⟨s1, s2, s3, s4, s5, s6, s7⟩ := hSW; go_simp); (all_goals with_reducible rfl))); (try simp only [Act.put, List.setIfInBounds_toArray, List.set_cons_zero, List.set_cons_succ])
    refine wpAnyH_take (i := 17) (oi := ⟨some 41, _, _, _, _, _⟩) (v := ?_) rfl (by as_aux_lemma => kernel_rfl) (by as_aux_lemma => kernel_rfl) (by as_aux_lemma => kernel_rfl) (fun _ _ _ h => h) (Or.inl ⟨by rfl, ?hyt17⟩) (by assumption) ?_; (case hyt17 => ((intro W hSW; (try dsimp only at hSW); obtain ⟨s1, s2, s3, s4, s5, s6, s7⟩ := hSW; go_simp); (all_goals with_reducible rfl))); (try simp only [Act.put, List.setIfInBounds_toArray, List.set_cons_zero, List.set_cons_succ])
    refine wpAnyH_take (i := 18) (oi := ⟨some 42, _, _, _, _, _⟩) (v := ?_) rfl (by as_aux_lemma => kernel_rfl) (by as_aux_lemma => kernel_rfl) (by as_aux_lemma => kernel_rfl) (fun _ _ _ h => h) (Or.inl ⟨by rfl, ?hyt18⟩) (by assumption) ?_; (case hyt18 => ((intro W hSW; (try dsimp only at hSW); obtain ⟨s1, s2, s3, s4, s5, s6, s7⟩ := hSW; go_simp); (all_goals with_reducible rfl))); (try simp only [Act.put, List.setIfInBounds_toArray, List.set_cons_zero, List.set_cons_succ])
    refine wpAnyH_take (i := 19) (oi := ⟨some 43, _, _, _, _, _⟩) (v := ?_) rfl (by as_aux_lemma => kernel_rfl) (by as_aux_lemma => kernel_rfl) (by as_aux_lemma => kernel_rfl) (fun _ _ _ h => h) (Or.inl ⟨by rfl, ?hyt19⟩) (by assumption) ?_; (case hyt19 => ((intro W hSW; (try dsimp only at hSW); obtain ⟨s1, s2, s3, s4, s5, s6, s7⟩ := hSW; go_simp); (all_goals with_reducible rfl))); (try simp only [Act.put, List.setIfInBounds_toArray, List.set_cons_zero, List.set_cons_succ])
    refine wpAnyH_take (i := 22) (oi := ⟨some 46, _, _, _, _, _⟩) (v := ?_) rfl (by as_aux_lemma => kernel_rfl) (by as_aux_lemma => kernel_rfl) (by as_aux_lemma => kernel_rfl) (fun _ _ _ h => h) (Or.inl ⟨by rfl, ?hyt22⟩) (by assumption) ?_; (case hyt22 => ((intro W hSW; (try dsimp only at hSW); obtain ⟨s1, s2, s3, s4, s5, s6, s7⟩ := hSW; go_simp); (all_goals with_reducible rfl))); (try simp only [Act.put, List.setIfInBounds_toArray, List.set_cons_zero, List.set_cons_succ])
    refine wpAnyH_take (i := 23) (oi := ⟨some 47, _, _, _, _, _⟩) (v := ?_) rfl (by as_aux_lemma => kernel_rfl) (by as_aux_lemma => kernel_rfl) (by as_aux_lemma => kernel_rfl) (fun _ _ _ h => h) (Or.inl ⟨by rfl, ?hyt23⟩) (by assumption) ?_; (case hyt23 => ((intro W hSW; (try dsimp only at hSW); obtain ⟨s1, s2, s3, s4, s5, s6, s7⟩ := hSW; go_simp); (all_goals with_reducible rfl))); (try simp only [Act.put, List.setIfInBounds_toArray, List.set_cons_zero, List.set_cons_succ])
    refine wpAnyH_take (i := 26) (oi := ⟨some 50, _, _, _, _, _⟩) (v := ?_) rfl (by as_aux_lemma => kernel_rfl) (by as_aux_lemma => kernel_rfl) (by as_aux_lemma => kernel_rfl) (fun _ _ _ h => h) (Or.inl ⟨by rfl, ?hyt26⟩) (by assumption) ?_; (case hyt26 => ((intro W hSW; (try dsimp only at hSW); obtain ⟨s1, s2, s3, s4, s5, s6, s7⟩ := hSW; go_simp); (all_goals with_reducible rfl))); (try simp only [Act.put, List.setIfInBounds_toArray, List.set_cons_zero, List.set_cons_succ])
    refine wpAnyH_take (i := 27) (oi := ⟨some 51, _, _, _, _, _⟩) (v := ?_) rfl (by as_aux_lemma => kernel_rfl) (by as_aux_lemma => kernel_rfl) (by as_aux_lemma => kernel_rfl) (fun _ _ _ h => h) (Or.inl ⟨by rfl, ?hyt27⟩) (by assumption) ?_; (case hyt27 => ((intro W hSW; (try dsimp only at hSW); obtain ⟨s1, s2, s3, s4, s5, s6, s7⟩ := hSW; go_simp); (all_goals with_reducible rfl))); (try simp only [Act.put, List.setIfInBounds_toArray, List.set_cons_zero, List.set_cons_succ])
    refine wpAnyH_take (i := 30) (oi := ⟨some 54, _, _, _, _, _⟩) (v := ?_) rfl (by as_aux_lemma => kernel_rfl) (by as_aux_lemma => kernel_rfl) (by as_aux_lemma => kernel_rfl) (fun _ _ _ h => h) (Or.inl ⟨by rfl, ?hyt30⟩) (by assumption) ?_; (case hyt30 => ((intro W hSW; (try dsimp only at hSW); obtain ⟨s1, s2, s3, s4, s5, s6, s7⟩ := hSW; go_simp); (all_goals with_reducible rfl))); (try simp only [Act.put, List.setIfInBounds_toArray, List.set_cons_zero, List.set_cons_succ])
    refine wpAnyH_take (i := 31) (oi := ⟨some 55, _, _, _, _, _⟩) (v := ?_) rfl (by as_aux_lemma => kernel_rfl) (by as_aux_lemma => kernel_rfl) (by as_aux_lemma => kernel_rfl) (fun _ _ _ h => h) (Or.inl ⟨by rfl, ?hyt31⟩) (by assumption) ?_; (case hyt31 => ((intro W hSW; (try dsimp only at hSW); obtain ⟨s1, s2, s3, s4, s5, s6, s7⟩ := hSW; go_simp); (all_goals with_reducible rfl))); (try simp only [Act.put, List.setIfInBounds_toArray, List.set_cons_zero, List.set_cons_succ])
    refine wpAnyH_ready (rs := [20, 33]) (by as_aux_lemma => kernel_rfl) (by simp) ?_
    refine AllReadyH.cons (o := ⟨some 44, _, _, _, _, _⟩) rfl (fun K hK => ?oA0) (AllReadyH.cons (o := ⟨some 10, _, _, _, _, _⟩) rfl (fun K hK => ?oB0) AllReadyH.nil)
    case' oB0 =>
      go_simp
      (try go_simp); refine hK.out _ _ (E.out _ (((Below.refl _ _).alloc (Nat.le_refl _) _).drew.drew)) (fun hHx => ?_); clear hK K hHeld; have hHeld := hHx; clear hHx; (try simp only [Act.put, List.setIfInBounds_toArray, List.set_cons_zero, List.set_cons_succ])
      refine wpAnyH_ready (rs := [20]) (by as_aux_lemma => kernel_rfl) (by simp) ?_; refine AllReadyH.cons (o := ⟨some 44, _, _, _, _, _⟩) rfl (fun K hK => ?_) AllReadyH.nil; go_simp
      go_at_call 40
      refine (of_any g n l 30 (by omega) _ (E2.out _ (((Below.refl _ _).alloc (Nat.le_refl _) _).drew.drew))).mono ?_; rintro e w8 ⟨rfl, rfl⟩
      (try go_simp); refine hK.out _ _ (E.out _ (((Below.refl _ _).alloc (Nat.le_refl _) _).drew.drew)) (fun hHx => ?_); clear hK K hHeld; have hHeld := hHx; clear hHx; (try simp only [Act.put, List.setIfInBounds_toArray, List.set_cons_zero, List.set_cons_succ])
      refine wpAnyH_take (i := 21) (oi := ⟨some 45, _, _, _, _, _⟩) (v := ?_) rfl (by as_aux_lemma => kernel_rfl) (by as_aux_lemma => kernel_rfl) (by as_aux_lemma => kernel_rfl) (fun _ _ _ h => h) (Or.inl ⟨by rfl, ?hyt21⟩) (by assumption) ?_; (case hyt21 => ((intro W hSW; (try dsimp only at hSW); obtain ⟨s1, s2, s3, s4, s5, s6, s7⟩ := hSW; go_simp); (all_goals with_reducible rfl))); (try simp only [Act.put, List.setIfInBounds_toArray, List.set_cons_zero, List.set_cons_succ])
      refine wpAnyH_ready (rs := [24]) (by as_aux_lemma => kernel_rfl) (by simp) ?_; refine AllReadyH.cons (o := ⟨some 48, _, _, _, _, _⟩) rfl (fun K hK => ?_) AllReadyH.nil; go_simp
      go_at_call 47
      refine (most_any g n l 50 _ (E2.out _ (((Below.refl _ _).alloc (Nat.le_refl _) _).drew.drew)) hlen).mono ?_; rintro e w8 ⟨rfl, rfl⟩
      (try go_simp); refine hK.out _ _ (E.out _ (((Below.refl _ _).alloc (Nat.le_refl _) _).drew.drew)) (fun hHx => ?_); clear hK K hHeld; have hHeld := hHx; clear hHx; (try simp only [Act.put, List.setIfInBounds_toArray, List.set_cons_zero, List.set_cons_succ])
      refine wpAnyH_take (i := 25) (oi := ⟨some 49, _, _, _, _, _⟩) (v := ?_) rfl (by as_aux_lemma => kernel_rfl) (by as_aux_lemma => kernel_rfl) (by as_aux_lemma => kernel_rfl) (fun _ _ _ h => h) (Or.inl ⟨by rfl, ?hyt25⟩) (by assumption) ?_; (case hyt25 => ((intro W hSW; (try dsimp only at hSW); obtain ⟨s1, s2, s3, s4, s5, s6, s7⟩ := hSW; go_simp); (all_goals with_reducible rfl))); (try simp only [Act.put, List.setIfInBounds_toArray, List.set_cons_zero, List.set_cons_succ])
      refine wpAnyH_ready (rs := [28]) (by as_aux_lemma => kernel_rfl) (by simp) ?_; refine AllReadyH.cons (o := ⟨some 52, _, _, _, _, _⟩) rfl (fun K hK => ?_) AllReadyH.nil; go_simp
      go_at_call 47
      refine (most_any g n l 100 _ (E2.out _ (((Below.refl _ _).alloc (Nat.le_refl _) _).drew.drew)) hlen).mono ?_; rintro e w8 ⟨rfl, rfl⟩
      (try go_simp); refine hK.out _ _ (E.out _ (((Below.refl _ _).alloc (Nat.le_refl _) _).drew.drew)) (fun hHx => ?_); clear hK K hHeld; have hHeld := hHx; clear hHx; (try simp only [Act.put, List.setIfInBounds_toArray, List.set_cons_zero, List.set_cons_succ])
      refine wpAnyH_take (i := 29) (oi := ⟨some 53, _, _, _, _, _⟩) (v := ?_) rfl (by as_aux_lemma => kernel_rfl) (by as_aux_lemma => kernel_rfl) (by as_aux_lemma => kernel_rfl) (fun _ _ _ h => h) (Or.inl ⟨by rfl, ?hyt29⟩) (by assumption) ?_; (case hyt29 => ((intro W hSW; (try dsimp only at hSW); obtain ⟨s1, s2, s3, s4, s5, s6, s7⟩ := hSW; go_simp); (all_goals with_reducible rfl))); (try simp only [Act.put, List.setIfInBounds_toArray, List.set_cons_zero, List.set_cons_succ])
      refine wpAnyH_take (i := 32) (oi := ⟨some 56, _, _, _, _, _⟩) (v := ?_) rfl (by as_aux_lemma => kernel_rfl) (by as_aux_lemma => kernel_rfl) (by as_aux_lemma => kernel_rfl) (fun _ _ _ h => h) (Or.inl ⟨by rfl, ?hyt32⟩) (by assumption) ?_; (case hyt32 => ((intro W hSW; (try dsimp only at hSW); obtain ⟨s1, s2, s3, s4, s5, s6, s7⟩ := hSW; go_simp); (all_goals with_reducible rfl))); (try simp only [Act.put, List.setIfInBounds_toArray, List.set_cons_zero, List.set_cons_succ])
    case' oA0 =>
      go_simp
      go_at_call 40
      refine (of_any g n l 30 (by omega) _ (E2.out _ ((Below.refl _ _).drew.drew))).mono ?_; rintro e w8 ⟨rfl, rfl⟩
      (try go_simp); refine hK.out _ _ (E.out _ ((Below.refl _ _).drew.drew)) (fun hHx => ?_); clear hK K hHeld; have hHeld := hHx; clear hHx; (try simp only [Act.put, List.setIfInBounds_toArray, List.set_cons_zero, List.set_cons_succ])
      refine wpAnyH_take (i := 21) (oi := ⟨some 45, _, _, _, _, _⟩) (v := ?_) rfl (by as_aux_lemma => kernel_rfl) (by as_aux_lemma => kernel_rfl) (by as_aux_lemma => kernel_rfl) (fun _ _ _ h => h) (Or.inl ⟨by rfl, ?hyt21⟩) (by assumption) ?_; (case hyt21 => ((intro W hSW; (try dsimp only at hSW); obtain ⟨s1, s2, s3, s4, s5, s6, s7⟩ := hSW; go_simp); (all_goals with_reducible rfl))); (try simp only [Act.put, List.setIfInBounds_toArray, List.set_cons_zero, List.set_cons_succ])
      refine wpAnyH_ready (rs := [24, 33]) (by as_aux_lemma => kernel_rfl) (by simp) ?_
      refine AllReadyH.cons (o := ⟨some 48, _, _, _, _, _⟩) rfl (fun K hK => ?oA1) (AllReadyH.cons (o := ⟨some 10, _, _, _, _, _⟩) rfl (fun K hK => ?oB1) AllReadyH.nil)
      case' oB1 =>
        go_simp
        (try go_simp); refine hK.out _ _ (E.out _ (((Below.refl _ _).alloc (Nat.le_refl _) _).drew.drew)) (fun hHx => ?_); clear hK K hHeld; have hHeld := hHx; clear hHx; (try simp only [Act.put, List.setIfInBounds_toArray, List.set_cons_zero, List.set_cons_succ])
        refine wpAnyH_ready (rs := [24]) (by as_aux_lemma => kernel_rfl) (by simp) ?_; refine AllReadyH.cons (o := ⟨some 48, _, _, _, _, _⟩) rfl (fun K hK => ?_) AllReadyH.nil; go_simp
        go_at_call 47
        refine (most_any g n l 50 _ (E2.out _ (((Below.refl _ _).alloc (Nat.le_refl _) _).drew.drew)) hlen).mono ?_; rintro e w8 ⟨rfl, rfl⟩
        (try go_simp); refine hK.out _ _ (E.out _ (((Below.refl _ _).alloc (Nat.le_refl _) _).drew.drew)) (fun hHx => ?_); clear hK K hHeld; have hHeld := hHx; clear hHx; (try simp only [Act.put, List.setIfInBounds_toArray, List.set_cons_zero, List.set_cons_succ])
        refine wpAnyH_take (i := 25) (oi := ⟨some 49, _, _, _, _, _⟩) (v := ?_) rfl (by as_aux_lemma => kernel_rfl) (by as_aux_lemma => kernel_rfl) (by as_aux_lemma => kernel_rfl) (fun _ _ _ h => h) (Or.inl ⟨by rfl, ?hyt25⟩) (by assumption) ?_; (case hyt25 => ((intro W hSW; (try dsimp only at hSW); obtain ⟨s1, s2, s3, s4, s5, s6, s7⟩ := hSW; go_simp); (all_goals with_reducible rfl))); (try simp only [Act.put, List.setIfInBounds_toArray, List.set_cons_zero, List.set_cons_succ])
        refine wpAnyH_ready (rs := [28]) (by as_aux_lemma => kernel_rfl) (by simp) ?_; refine AllReadyH.cons (o := ⟨some 52, _, _, _, _, _⟩) rfl (fun K hK => ?_) AllReadyH.nil; go_simp
        go_at_call 47
        refine (most_any g n l 100 _ (E2.out _ (((Below.refl _ _).alloc (Nat.le_refl _) _).drew.drew)) hlen).mono ?_; rintro e w8 ⟨rfl, rfl⟩
        (try go_simp); refine hK.out _ _ (E.out _ (((Below.refl _ _).alloc (Nat.le_refl _) _).drew.drew)) (fun hHx => ?_); clear hK K hHeld; have hHeld := hHx; clear hHx; (try simp only [Act.put, List.setIfInBounds_toArray, List.set_cons_zero, List.set_cons_succ])
        refine wpAnyH_take (i := 29) (oi := ⟨some 53, _, _, _, _, _⟩) (v := ?_) rfl (by as_aux_lemma => kernel_rfl) (by as_aux_lemma => kernel_rfl) (by as_aux_lemma => kernel_rfl) (fun _ _ _ h => h) (Or.inl ⟨by rfl, ?hyt29⟩) (by assumption) ?_; (case hyt29 => ((intro W hSW; (try dsimp only at hSW); obtain ⟨s1, s2, s3, s4, s5, s6, s7⟩ := hSW; go_simp); (all_goals with_reducible rfl))); (try simp only [Act.put, List.setIfInBounds_toArray, List.set_cons_zero, List.set_cons_succ])
        refine wpAnyH_take (i := 32) (oi := ⟨some 56, _, _, _, _, _⟩) (v := ?_) rfl (by as_aux_lemma => kernel_rfl) (by as_aux_lemma => kernel_rfl) (by as_aux_lemma => kernel_rfl) (fun _ _ _ h => h) (Or.inl ⟨by rfl, ?hyt32⟩) (by assumption) ?_; (case hyt32 => ((intro W hSW; (try dsimp only at hSW); obtain ⟨s1, s2, s3, s4, s5, s6, s7⟩ := hSW; go_simp); (all_goals with_reducible rfl))); (try simp only [Act.put, List.setIfInBounds_toArray, List.set_cons_zero, List.set_cons_succ])
      case' oA1 =>
        go_simp
        go_at_call 47
        refine (most_any g n l 50 _ (E2.out _ ((Below.refl _ _).drew.drew)) hlen).mono ?_; rintro e w8 ⟨rfl, rfl⟩
        (try go_simp); refine hK.out _ _ (E.out _ ((Below.refl _ _).drew.drew)) (fun hHx => ?_); clear hK K hHeld; have hHeld := hHx; clear hHx; (try simp only [Act.put, List.setIfInBounds_toArray, List.set_cons_zero, List.set_cons_succ])
        refine wpAnyH_take (i := 25) (oi := ⟨some 49, _, _, _, _, _⟩) (v := ?_) rfl (by as_aux_lemma => kernel_rfl) (by as_aux_lemma => kernel_rfl) (by as_aux_lemma => kernel_rfl) (fun _ _ _ h => h) (Or.inl ⟨by rfl, ?hyt25⟩) (by assumption) ?_; (case hyt25 => ((intro W hSW; (try dsimp only at hSW); obtain ⟨s1, s2, s3, s4, s5, s6, s7⟩ := hSW; go_simp); (all_goals with_reducible rfl))); (try simp only [Act.put, List.setIfInBounds_toArray, List.set_cons_zero, List.set_cons_succ])
        refine wpAnyH_ready (rs := [28, 33]) (by as_aux_lemma => kernel_rfl) (by simp) ?_
        refine AllReadyH.cons (o := ⟨some 52, _, _, _, _, _⟩) rfl (fun K hK => ?oA2) (AllReadyH.cons (o := ⟨some 10, _, _, _, _, _⟩) rfl (fun K hK => ?oB2) AllReadyH.nil)
        case' oB2 =>
          go_simp
          (try go_simp); refine hK.out _ _ (E.out _ (((Below.refl _ _).alloc (Nat.le_refl _) _).drew.drew)) (fun hHx => ?_); clear hK K hHeld; have hHeld := hHx; clear hHx; (try simp only [Act.put, List.setIfInBounds_toArray, List.set_cons_zero, List.set_cons_succ])
          refine wpAnyH_ready (rs := [28]) (by as_aux_lemma => kernel_rfl) (by simp) ?_; refine AllReadyH.cons (o := ⟨some 52, _, _, _, _, _⟩) rfl (fun K hK => ?_) AllReadyH.nil; go_simp
          go_at_call 47
          refine (most_any g n l 100 _ (E2.out _ (((Below.refl _ _).alloc (Nat.le_refl _) _).drew.drew)) hlen).mono ?_; rintro e w8 ⟨rfl, rfl⟩
          (try go_simp); refine hK.out _ _ (E.out _ (((Below.refl _ _).alloc (Nat.le_refl _) _).drew.drew)) (fun hHx => ?_); clear hK K hHeld; have hHeld := hHx; clear hHx; (try simp only [Act.put, List.setIfInBounds_toArray, List.set_cons_zero, List.set_cons_succ])
          refine wpAnyH_take (i := 29) (oi := ⟨some 53, _, _, _, _, _⟩) (v := ?_) rfl (by as_aux_lemma => kernel_rfl) (by as_aux_lemma => kernel_rfl) (by as_aux_lemma => kernel_rfl) (fun _ _ _ h => h) (Or.inl ⟨by rfl, ?hyt29⟩) (by assumption) ?_; (case hyt29 => ((intro W hSW; (try dsimp only at hSW); obtain ⟨s1, s2, s3, s4, s5, s6, s7⟩ := hSW; go_simp); (all_goals with_reducible rfl))); (try simp only [Act.put, List.setIfInBounds_toArray, List.set_cons_zero, List.set_cons_succ])
          refine wpAnyH_take (i := 32) (oi := ⟨some 56, _, _, _, _, _⟩) (v := ?_) rfl (by as_aux_lemma => kernel_rfl) (by as_aux_lemma => kernel_rfl) (by as_aux_lemma => kernel_rfl) (fun _ _ _ h => h) (Or.inl ⟨by rfl, ?hyt32⟩) (by assumption) ?_; (case hyt32 => ((intro W hSW; (try dsimp only at hSW); obtain ⟨s1, s2, s3, s4, s5, s6, s7⟩ := hSW; go_simp); (all_goals with_reducible rfl))); (try simp only [Act.put, List.setIfInBounds_toArray, List.set_cons_zero, List.set_cons_succ])
        case' oA2 =>
          go_simp
          go_at_call 47
          refine (most_any g n l 100 _ (E2.out _ ((Below.refl _ _).drew.drew)) hlen).mono ?_; rintro e w8 ⟨rfl, rfl⟩
          (try go_simp); refine hK.out _ _ (E.out _ ((Below.refl _ _).drew.drew)) (fun hHx => ?_); clear hK K hHeld; have hHeld := hHx; clear hHx; (try simp only [Act.put, List.setIfInBounds_toArray, List.set_cons_zero, List.set_cons_succ])
          refine wpAnyH_take (i := 29) (oi := ⟨some 53, _, _, _, _, _⟩) (v := ?_) rfl (by as_aux_lemma => kernel_rfl) (by as_aux_lemma => kernel_rfl) (by as_aux_lemma => kernel_rfl) (fun _ _ _ h => h) (Or.inl ⟨by rfl, ?hyt29⟩) (by assumption) ?_; (case hyt29 => ((intro W hSW; (try dsimp only at hSW); obtain ⟨s1, s2, s3, s4, s5, s6, s7⟩ := hSW; go_simp); (all_goals with_reducible rfl))); (try simp only [Act.put, List.setIfInBounds_toArray, List.set_cons_zero, List.set_cons_succ])
          refine wpAnyH_take (i := 32) (oi := ⟨some 56, _, _, _, _, _⟩) (v := ?_) rfl (by as_aux_lemma => kernel_rfl) (by as_aux_lemma => kernel_rfl) (by as_aux_lemma => kernel_rfl) (fun _ _ _ h => h) (Or.inl ⟨by rfl, ?hyt32⟩) (by assumption) ?_; (case hyt32 => ((intro W hSW; (try dsimp only at hSW); obtain ⟨s1, s2, s3, s4, s5, s6, s7⟩ := hSW; go_simp); (all_goals with_reducible rfl))); (try simp only [Act.put, List.setIfInBounds_toArray, List.set_cons_zero, List.set_cons_succ])
          refine wpAnyH_ready (rs := [33]) (by as_aux_lemma => kernel_rfl) (by simp) ?_; refine AllReadyH.cons (o := ⟨some 10, _, _, _, _, _⟩) rfl (fun K hK => ?_) AllReadyH.nil; go_simp
          (try go_simp); refine hK.out _ _ (E.out _ (((Below.refl _ _).alloc (Nat.le_refl _) _).drew.drew)) (fun hHx => ?_); clear hK K hHeld; have hHeld := hHx; clear hHx; (try simp only [Act.put, List.setIfInBounds_toArray, List.set_cons_zero, List.set_cons_succ])
    all_goals (
      refine wpAnyH_ready (rs := [34]) (by as_aux_lemma => kernel_rfl) (by simp) ?_
      refine AllReadyH.cons (o := ⟨none, _, _, _, _, _⟩) rfl (fun K hK => ?_) AllReadyH.nil
      refine if_wanted rfl ?_
      refine wp_store_row 129 (.tmp 10) (.tmp 56) rfl w3.heap.size _ rfl rfl 129 _ (heap_alloc_last w3 _) ?hi rfl ?h1 ?_
      case hi => exact (show (Tryd.prog.info? 129).map (·.size) = some 20 by kernel_rfl)
      case h1 => simp [Value.oneCell']
      rw [show ∀ (W : World) (b : Nat) (c : Array Value), W.drew.drew.setRow b c = (W.setRow b c).drew.drew from fun _ _ _ => rfl, World.setRow_alloc_new]
      refine hK.out _ _ (E.out _ (((Below.refl _ _).alloc (Nat.le_refl _) _).drew.drew)) (fun hHx => ?_)
      clear hK K hHeld hHx
      simp only [Act.put]
      refine wpAnyH_done (by as_aux_lemma => kernel_rfl) ?_ _
      exact htail)
  case tail =>
    have hok := rowsP_ok n q l hlen hn hq
    have hcs : (#[.string ⟨#[100, 101, 99, 111, 100, 101, 100, 32]⟩, .int .i64 n, .string ⟨#[32, 97, 99, 99, 101, 112, 116, 101, 100, 32]⟩, .int .i64 (kcount l 23 : Int), .string ⟨#[32, 115, 104, 101, 100, 32]⟩, .int .i64 (kcount l 21 : Int), .string ⟨#[32, 108, 97, 116, 101, 32]⟩, .int .i64 (kcount l 22 : Int), .string ⟨#[32, 114, 101, 106, 101, 99, 116, 101, 100, 32]⟩, .int .i64 (kcount l 20 : Int), .string ⟨#[32, 113, 117, 101, 117, 101, 100, 32]⟩, .int .i64 q, .string ⟨#[32, 102, 105, 110, 97, 108, 115, 32]⟩, .int .i64 (kcount l 30 : Int), .string ⟨#[32, 104, 97, 108, 102, 32]⟩, .int .i64 (mostP l 50), .string ⟨#[32, 109, 111, 115, 116, 32]⟩, .int .i64 (mostP l 100), .string ⟨#[32, 115, 117, 109, 32]⟩, .int .i64 (sumP l).1] : Array Value) = (rowsV (rowsP n q l)).toArray := rfl
    have hlR : (rowsP n q l).length = 10 := rfl
    have BT0 : ∀ cs, Below w3.heap.size w3 (w3.alloc (.cells cs 129)).drew.drew := fun cs => ((Below.refl _ _).alloc (Nat.le_refl _) _).drew.drew
    have XR0 := fun cs (h : cs = (rowsV (rowsP n q l)).toArray) => (Box.new w3 (rowsV (rowsP n q l)) cs 129 h w3.heap.size rfl).below ((Below.refl _ _).drew.drew)
    rw [hcs]
    have BT := BT0 (rowsV (rowsP n q l)).toArray
    have XR := XR0 _ rfl
    clear BT0 XR0
    generalize (w3.alloc (.cells (rowsV (rowsP n q l)).toArray 129)).drew.drew = wR at *
    have hrg : wR.rangeAt w3.heap.size 0 (rowsV (rowsP n q l)) := fun j v hj => by rw [Nat.zero_add]; exact XR.cell j v hj
    have hi20 : (Tryd.prog.info? 129).map (·.size) = some (rowsV (rowsP n q l)).length := (show (Tryd.prog.info? 129).map (·.size) = some 20 by kernel_rfl)
    have xlt := XR.lt
    replace XR := Lib.hid XR
    have B1 := B3.trans (BT.mono B3.size)
    have hTB := Lib.hid ((Lib.tabBelow_of_tabIs hT).on B1)
    replace hok := Lib.hid hok
    have zB := B1.size
    clear hcs
    generalize rowsP n q l = R at *
    replace hlR := Lib.hid hlR
    replace hrg := Lib.hid hrg
    replace hi20 := Lib.hid hi20
    have tok0 : True := trivial
    go_wp2_with (have _t := tok0; refine wpList_load_mid rfl 129 (.tmp 10) rfl w3.heap.size 0 rfl (rowsV R) _ hrg.out Tryd.underlying129 rfl hi20.out ?_; clear tok0)
    go_loopw [11, 58] (fun v i wr => ∃ k : Nat, k ≤ 10 ∧ i = .int .i64 (k : Int) ∧ OwnB 5 wR.heap.size wr v (textP (R.take k)) ∧ Below wR.heap.size wR wr) (fun v i wr => 10 - (intOf i).toNat)
    case atStart => exact ⟨0, by omega, rfl, OwnB.nil _ _ _, Below.refl _ _⟩
    case round =>
      obtain ⟨k, hk, rfl, hO, hbr⟩ := hrel
      have zr := hbr.size
      by_cases hlt : k < 10
      · obtain ⟨x, hx⟩ : ∃ x, R[k]? = some x := ⟨R[k]'(by rw [hlR.out]; exact hlt), List.getElem?_eq_getElem _⟩
        have hxo := hok.out x (List.mem_of_getElem? hx)
        have hix := fun W => index_rows W R k x hx hlt
        have hts : textP (R.take (k + 1)) = textP (R.take k) ++ x.1 ++ Lib.itoa x.2 := by
          rw [List.take_add_one, hx, Option.toList_some, textP_snoc]
        have htl := textP_le (R.take k) (fun y hy => hok.out y (List.mem_of_mem_take hy))
        have htk : (R.take k).length ≤ 10 := by rw [List.length_take]; omega
        generalize textP (R.take k) = t0 at *
        replace hts := Lib.hid hts
        obtain ⟨xw, xn⟩ := x
        unfold rowOk at hxo
        simp only at hix hxo
        obtain ⟨ho1, ho2, ho3⟩ := hxo
        have hsz : (⟨xw.toArray⟩ : ByteArray).size = xw.length := by simp [ByteArray.size]
        have hit := itoa_le xn ho2 ho3
        have hTr : Hid (∀ W : World, Below wR.heap.size wR W → Lib.TabBelow Tryd.prog wR.heap.size W "internal/strconv.uint64pow10" .u64 Lib.pow10Tab) := Lib.hid (fun W hb W2 h2 => hTB.out _ ((hb.trans h2).mono zB))
        replace hO := Lib.hid hO
        replace hx := Lib.hid hx
        have hlt2 : (k : Int) < 10 := by omega
        have tok1 : True := trivial
        go_wp2_with (at_builtin; have _t2 := tok1; refine Oct.append_text 22 5 9 info8 Tryd.underlying22 Tryd.underlying9 rfl _ _ rfl wR.heap.size _ t0 rfl (hO.out.below ((Below.refl _ _).alloc (Nat.le_refl _) _)) ⟨xw.toArray⟩ rfl (by omega) (by simp; omega) ?_; intro v3 w4 hO3 hG3; clear tok1; have c1 := hG3.cell (a := ⟨wr.heap.size, 1, none⟩) (v := .int .i64 xn) (by simp [go_sem]) (fun e => by have := (hO.out.owns.lt _ e.symm).2; simp at this); have HB4 : Below wR.heap.size wR w4 := (hbr.alloc zr _).grown hG3 (by simp; omega) (fun j hj => (hO.out.owns.lt j hj).1); have z4 := hG3.size; replace hO3 := Lib.hid hO3; clear hG3)
        refine (appi_any wR.heap.size xn ho2 ho3 v3 _ w4 hO3.out HB4.size (by simp only [List.length_append, ByteArray.size] at *; omega) (hTr.out _ HB4)).mono ?_; rintro e w6 ⟨v6, rfl, hO6, hb6⟩
        have HB6 := HB4.trans hb6
        replace hO6 := Lib.hid hO6
        go_wp2_with fail
        go_roundw
        case rel => first | exact ⟨k + 1, by omega, by go_num, by rw [hts.out]; exact hO6.out, HB6⟩ | exact ⟨k + 1, by omega, by go_num, by rw [hts.out]; exact hO6.out⟩
        case measure => simp [intOf] <;> omega
      · obtain rfl : k = 10 := by omega
        rw [List.take_of_length_le (by rw [hlR.out]; exact Nat.le_refl _)] at hO
        have hr := hrp.out
        subst hr
        obtain ⟨q3, c3, rfl, hR3, _⟩ := hO.row
        have hcv := hR3.conv 22 9 5 Tryd.underlying22 Tryd.underlying5 Tryd.underlying9 (P := Tryd.prog)
        replace hO := Lib.hid hO
        replace hR3 := Lib.hid hR3
        go_wp2_with fail
        go_ret
        exact ⟨rfl, B1.trans (hbr.mono zB)⟩
end Go.Proofs.YtdmpopdacbdnlaaDoor
