/- frame.look's contract. -/
import Derived.Test.YtegbjlimiephlaaDoorFrDec
import Derived.IntWalk
namespace Go.Proofs.YtegbjlimiephlaaDoor
open Go.RowKit
set_option linter.unusedVariables false
set_option linter.unusedSimpArgs false
set_option maxHeartbeats 2000000
set_option maxRecDepth 20000
theorem Fr.fits_eq (l : List UInt8) : Crc.fits l = Fr.fits l := rfl
theorem RowB.slice {w : World} {b off len cap i j : Nat} {bs : List UInt8} (h : RowB w (some ⟨b, off, none⟩) len cap bs) (hij : i ≤ j) (hj : j ≤ len) : RowB w (some ⟨b, off + i, none⟩) (j - i) (cap - i) ((bs.take j).drop i) := by
  have hl := h.length
  have hle := h.le
  refine ⟨by simp; omega, by have := h.small; omega, by omega, ?_, fun e => by cases e⟩
  rcases h.at_ with h0 | ⟨b', off', e, hlb, hc⟩
  · exact .inl (by omega)
  · cases e
    refine .inr ⟨b, off + i, rfl, hlb, fun k hk => ?_⟩
    rw [Nat.add_assoc, hc (i + k) (by omega)]
    have : i + k < j := by omega
    simp [List.getD, List.getElem?_drop, List.getElem?_take, this]
theorem i64_or_nat (a b : Nat) (ha : a < 9223372036854775808) (hb : b < 9223372036854775808) : bits .or .i64 (a : Int) (b : Int) = ((a ||| b : Nat) : Int) := by
  have hx : a ||| b < 2 ^ 63 := Nat.or_lt_two_pow (by omega) (by omega)
  show IntKind.i64.wrap ((BitVec.ofInt 64 (a : Int) ||| BitVec.ofInt 64 (b : Int)).toNat : Int) = _
  rw [BitVec.toNat_or, ofInt_u64 a (by omega), ofInt_u64 b (by omega)]
  exact IntWalk.i64_in _ (by omega)
theorem or_8 (x y : Nat) (hx : x < 256) (hy : y < 256) : bits .or .i64 ((x : Int) * 256) (y : Int) = ((x * 256 + y : Nat) : Int) := by
  have h1 := i64_or_nat (x * 256) y (by omega) (by omega)
  have h2 := Nat.two_pow_add_eq_or_of_lt (i := 8) (show y < 2 ^ 8 by omega) x
  have e : ((x * 256 : Nat) : Int) = (x : Int) * 256 := by omega
  rw [e] at h1
  rw [h1, show x * 256 = 2 ^ 8 * x from by omega, ← h2]
theorem look_any (a : Option Addr) (len cap : Nat) (bs : List UInt8) (w : World) (h : RowB w a len cap bs) (hpos : 0 < len) (hT : Tab w) :
    Calls Tryd.prog 38 #[.slice a len cap] w fun e w' => e = .returned (.int .i64 (Fr.look bs)) ∧ Below w.heap.size w w' := by
  have hl := h.length
  have hm : len ≤ 9223372036854775807 := by have := h.small; unfold maxLen at this; omega
  rcases h.at_ with h0 | ⟨b, off, rfl, hlb, hc⟩
  · omega
  have c0 := hc 0 hpos
  rw [Nat.add_zero] at c0
  have hx := (bs.getD 0 0).toNat_lt
  unfold Fr.look
  rw [hl]
  have hfit : ∀ n : Nat, 7 ≤ n → n ≤ len → RowB w (some ⟨b, off + 1, none⟩) (n - 1) (cap - 1) ((bs.take n).drop 1) := fun n h1 h2 => h.slice (by omega) h2
  generalize hx0 : (bs.getD 0 0).toNat = x0 at *
  clear hx0
  have hlc := h.le
  replace hl := Lib.hid hl
  by_cases hz : x0 = 165
  · rw [if_neg (by omega)]
    rw [hz] at c0
    by_cases h4 : len < 4
    · rw [if_pos h4]
      clear hc
      go_enter Tryd.func38, Tryd.ntmps38
      go_wp2_with fail
      go_ret
      exact ⟨rfl, Below.refl _ _⟩
    · rw [if_neg h4]
      have c2 := hc 2 (by omega)
      have c3 := hc 3 (by omega)
      have hx2 := (bs.getD 2 0).toNat_lt
      have hx3 := (bs.getD 3 0).toNat_lt
      clear hc hz
      generalize (bs.getD 2 0).toNat = x at *
      generalize (bs.getD 3 0).toNat = y at *
      have hor : bits .or .i64 ((x : Int) * 256) (y : Int) = ((x * 256 + y : Nat) : Int) := by
        exact or_8 x y (by omega) (by omega)
      have hwx : IntKind.i64.wrap (x : Int) = (x : Int) := IntWalk.i64_in _ (by omega)
      have hwy : IntKind.i64.wrap (y : Int) = (y : Int) := IntWalk.i64_in _ (by omega)
      have hwz : IntKind.i64.wrap ((x : Int) * 256) = (x : Int) * 256 := IntWalk.i64_in _ (by omega)
      have i0 : (2 : Int) < (len : Int) := by omega
      have i1 : (3 : Int) < (len : Int) := by omega
      generalize hn : x * 256 + y = n at *
      have hn2 : n ≤ 65535 := by omega
      clear hn
      obtain ⟨R, hRes⟩ : ∃ R : Int, (if 256 < n then (0 : Int) else if len < n + 7 then -1 else if Fr.fits ((bs.take (n + 7)).drop 1) = true then ((n + 7 : Nat) : Int) else 0) = R := ⟨_, rfl⟩
      rw [hRes]
      replace hRes := Lib.hid hRes
      go_enter Tryd.func38, Tryd.ntmps38
      go_wp2_with fail
      refine wp_region_held_drew (S := fun W => W.cell? ⟨b, off + 2, none⟩ = some (.int .u8 (x : Int)) ∧ W.cell? ⟨b, off + 3, none⟩ = some (.int .u8 (y : Int))) (by kernel_rfl) ⟨c2, c3⟩ (fun hHeld => ?_)
      refine wpAnyH_take (i := 0) (oi := ⟨some 12, _, _, _, _, _⟩) (v := ?_) rfl (by kernel_rfl) (by kernel_rfl) (by kernel_rfl) (fun _ _ _ h => h) (Or.inl ⟨by rfl, ?hyt0⟩) (by assumption) ?_; (case hyt0 => ((intro W hSW; (try dsimp only at hSW); obtain ⟨hSW, hSW2⟩ := hSW; go_simp); (all_goals with_reducible rfl))); (try simp only [Act.put, List.setIfInBounds_toArray, List.set_cons_zero, List.set_cons_succ])
      refine wpAnyH_take (i := 1) (oi := ⟨some 13, _, _, _, _, _⟩) (v := ?_) rfl (by kernel_rfl) (by kernel_rfl) (by kernel_rfl) (fun _ _ _ h => h) (Or.inl ⟨by rfl, ?hyt1⟩) (by assumption) ?_; (case hyt1 => ((intro W hSW; (try dsimp only at hSW); obtain ⟨hSW, hSW2⟩ := hSW; go_simp); (all_goals with_reducible rfl))); (try simp only [Act.put, List.setIfInBounds_toArray, List.set_cons_zero, List.set_cons_succ])
      refine wpAnyH_take (i := 2) (oi := ⟨some 14, _, _, _, _, _⟩) (v := ?_) rfl (by kernel_rfl) (by kernel_rfl) (by kernel_rfl) (fun _ _ _ h => h) (Or.inl ⟨by rfl, ?hyt2⟩) (by assumption) ?_; (case hyt2 => ((intro W hSW; (try dsimp only at hSW); obtain ⟨hSW, hSW2⟩ := hSW; go_simp); (all_goals with_reducible rfl))); (try simp only [Act.put, List.setIfInBounds_toArray, List.set_cons_zero, List.set_cons_succ])
      refine wpAnyH_take (i := 3) (oi := ⟨some 15, _, _, _, _, _⟩) (v := ?_) rfl (by kernel_rfl) (by kernel_rfl) (by kernel_rfl) (fun _ _ _ h => h) (Or.inl ⟨by rfl, ?hyt3⟩) (by assumption) ?_; (case hyt3 => ((intro W hSW; (try dsimp only at hSW); obtain ⟨hSW, hSW2⟩ := hSW; go_simp); (all_goals with_reducible rfl))); (try simp only [Act.put, List.setIfInBounds_toArray, List.set_cons_zero, List.set_cons_succ])
      refine wpAnyH_take (i := 4) (oi := ⟨some 16, _, _, _, _, _⟩) (v := ?_) rfl (by kernel_rfl) (by kernel_rfl) (by kernel_rfl) (fun _ _ _ h => h) (Or.inl ⟨by rfl, ?hyt4⟩) (by assumption) ?_; (case hyt4 => ((intro W hSW; (try dsimp only at hSW); obtain ⟨hSW, hSW2⟩ := hSW; go_simp); (all_goals with_reducible rfl))); (try simp only [Act.put, List.setIfInBounds_toArray, List.set_cons_zero, List.set_cons_succ])
      refine wpAnyH_take (i := 5) (oi := ⟨some 17, _, _, _, _, _⟩) (v := ?_) rfl (by kernel_rfl) (by kernel_rfl) (by kernel_rfl) (fun _ _ _ h => h) (Or.inl ⟨by rfl, ?hyt5⟩) (by assumption) ?_; (case hyt5 => ((intro W hSW; (try dsimp only at hSW); obtain ⟨hSW, hSW2⟩ := hSW; go_simp); (all_goals with_reducible rfl))); (try simp only [Act.put, List.setIfInBounds_toArray, List.set_cons_zero, List.set_cons_succ])
      refine wpAnyH_take (i := 6) (oi := ⟨some 18, _, _, _, _, _⟩) (v := ?_) rfl (by kernel_rfl) (by kernel_rfl) (by kernel_rfl) (fun _ _ _ h => h) (Or.inl ⟨by rfl, ?hyt6⟩) (by assumption) ?_; (case hyt6 => ((intro W hSW; (try dsimp only at hSW); obtain ⟨hSW, hSW2⟩ := hSW; go_simp); (all_goals with_reducible rfl))); (try simp only [Act.put, List.setIfInBounds_toArray, List.set_cons_zero, List.set_cons_succ])
      refine wpAnyH_take (i := 7) (oi := ⟨some 19, _, _, _, _, _⟩) (v := ?_) rfl (by kernel_rfl) (by kernel_rfl) (by kernel_rfl) (fun _ _ _ h => h) (Or.inl ⟨by rfl, ?hyt7⟩) (by assumption) ?_; (case hyt7 => ((intro W hSW; (try dsimp only at hSW); obtain ⟨hSW, hSW2⟩ := hSW; go_simp); (all_goals with_reducible rfl))); (try simp only [Act.put, List.setIfInBounds_toArray, List.set_cons_zero, List.set_cons_succ])
      refine wpAnyH_take (i := 8) (oi := ⟨some 20, _, _, _, _, _⟩) (v := ?_) rfl (by kernel_rfl) (by kernel_rfl) (by kernel_rfl) (fun _ _ _ h => h) (Or.inl ⟨by rfl, ?hyt8⟩) (by assumption) ?_; (case hyt8 => ((intro W hSW; (try dsimp only at hSW); obtain ⟨hSW, hSW2⟩ := hSW; go_simp); (all_goals with_reducible rfl))); (try simp only [Act.put, List.setIfInBounds_toArray, List.set_cons_zero, List.set_cons_succ])
      refine wpAnyH_take (i := 9) (oi := ⟨some 21, _, _, _, _, _⟩) (v := ?_) rfl (by kernel_rfl) (by kernel_rfl) (by kernel_rfl) (fun _ _ _ h => h) (Or.inl ⟨by rfl, ?hyt9⟩) (by assumption) ?_; (case hyt9 => ((intro W hSW; (try dsimp only at hSW); obtain ⟨hSW, hSW2⟩ := hSW; go_simp); (all_goals with_reducible rfl))); (try simp only [Act.put, List.setIfInBounds_toArray, List.set_cons_zero, List.set_cons_succ])
      refine wpAnyH_take (i := 10) (oi := ⟨some 3, _, _, _, _, _⟩) (v := ?_) rfl (by kernel_rfl) (by kernel_rfl) (by kernel_rfl) (fun _ _ _ h => h) (Or.inl ⟨by rfl, ?hyt10⟩) (by assumption) ?_; (case hyt10 => ((intro W hSW; (try dsimp only at hSW); obtain ⟨hSW, hSW2⟩ := hSW; go_simp); (all_goals with_reducible rfl))); (try simp only [Act.put, List.setIfInBounds_toArray, List.set_cons_zero, List.set_cons_succ])
      refine wpAnyH_done (by kernel_rfl) ?_ _
      clear hHeld hwx hwy hwz hor
      by_cases hn1 : 256 < n
      · go_wp2_with fail
        go_ret
        exact ⟨ret_int (by rw [← hRes.out, if_pos hn1]), (Below.refl _ _).drew⟩
      by_cases hn2' : len < n + 7
      · go_wp2_with fail
        go_ret
        exact ⟨ret_int (by rw [← hRes.out, if_neg hn1, if_pos hn2']), (Below.refl _ _).drew⟩
      have hRR := hRes.out
      rw [if_neg hn1, if_neg hn2'] at hRR
      clear hRes
      have hR := (hfit (n + 7) (by omega) (by omega)).below ((Below.refl w.heap.size w).drew)
      have hfe := Fr.fits_eq ((bs.take (n + 7)).drop 1)
      clear hfit
      generalize (bs.take (n + 7)).drop 1 = fb at *
      rw [← hfe] at hRR
      clear hfe
      have s0 : (0 : Int) ≤ (n : Int) + 7 := by omega
      have s1 : (n : Int) + 7 ≤ (cap : Int) := by omega
      have s2 : (1 : Int) ≤ (n : Int) + 7 := by omega
      replace hRR := Lib.hid hRR
      have hTd := hT.below ((Below.refl w.heap.size w).drew)
      rw [show n + 7 - 1 = 4 + n + 2 from by omega] at hR
      go_wp2_with fail
      refine (crc_fits _ _ _ fb w.drew hTd hR).mono ?_; rintro e w' ⟨rfl, hb⟩
      have hB : Below w.heap.size w w' := ((Below.refl _ _).drew).trans hb
      clear hR hTd hb
      by_cases hf : Crc.fits fb = true
      · rw [hf]
        have hRf := hRR.out
        rw [if_pos hf] at hRf
        replace hRf := Lib.hid hRf
        clear hf hRR
        go_wp2_with fail
        go_ret
        exact ⟨ret_int (by rw [← hRf.out]; omega), hB⟩
      · have hf' : Crc.fits fb = false := by simpa using hf
        rw [hf']
        have hRf := hRR.out
        rw [if_neg hf] at hRf
        replace hRf := Lib.hid hRf
        clear hf hf' hRR
        go_wp2_with fail
        go_ret
        exact ⟨ret_int hRf.out, hB⟩
  · rw [if_pos hz]
    have hz' : ((x0 : Int) == 165) = false := by rw [beq_eq_false_iff_ne]; omega
    clear hc
    go_enter Tryd.func38, Tryd.ntmps38
    go_wp2_with fail
    go_ret
    exact ⟨rfl, Below.refl _ _⟩
end Go.Proofs.YtegbjlimiephlaaDoor
