/- lookoutref04.size's contract. -/
import Derived.Test.YtdmpopdacbdnlaaDoorFrRef
import Derived.Test.YtdmpopdacbdnlaaDoorFrPieceLaw
namespace Go.Proofs.YtdmpopdacbdnlaaDoor
open Go.RowKit
set_option linter.unusedVariables false
set_option linter.unusedSimpArgs false
set_option maxHeartbeats 4000000
set_option maxRecDepth 20000
theorem ba_get (bs : List UInt8) (i : Nat) (h : i < (⟨bs.toArray⟩ : ByteArray).size) : (⟨bs.toArray⟩ : ByteArray)[i]'h = bs.getD i 0 := by
  have h2 : i < bs.toArray.size := h
  have h' : i < bs.length := by simpa using h2
  show bs.toArray[i]'_ = _
  simp [List.getD, h']
theorem ba_size (bs : List UInt8) : (⟨bs.toArray⟩ : ByteArray).size = bs.length := by show bs.toArray.size = _; simp
theorem ba_slice (bs : List UInt8) (i j : Nat) : (⟨bs.toArray⟩ : ByteArray).extract i j = ⟨((bs.take j).drop i).toArray⟩ := by
  apply ByteArray.ext
  simp [ByteArray.data_extract, List.drop_take]
theorem rsize_any (bs : List UInt8) (h0 : bs ≠ []) (hs : bs.length ≤ 1000000) (w : World) :
    Calls Tryd.prog 107 #[.string ⟨bs.toArray⟩] w fun e w' => e = .returned (.int .i64 (Fr.look bs)) ∧ Below w.heap.size w w' := by
  have hpos : 0 < bs.length := List.length_pos_iff.2 h0
  have hz := ba_size bs
  have z0 : 0 < (⟨bs.toArray⟩ : ByteArray).size := by omega
  have i0 := ba_get bs 0 z0
  have hx := (bs.getD 0 0).toNat_lt
  obtain ⟨L, hL⟩ : ∃ L, Fr.look bs = L := ⟨_, rfl⟩
  rw [hL]
  unfold Fr.look at hL
  generalize hc0 : bs.getD 0 0 = c0 at *
  generalize hx0 : c0.toNat = x0 at *
  by_cases hm : x0 = 165
  · rw [if_neg (by omega)] at hL
    by_cases h4 : bs.length < 4
    · rw [if_pos h4] at hL
      have h4i : (bs.length : Int) < 4 := by omega
      replace hL := Lib.hid hL
      go_enter Tryd.func107, Tryd.ntmps107
      go_wp2_with fail
      go_ret
      exact ⟨ret_int hL.out, Below.refl _ _⟩
    · rw [if_neg h4] at hL
      have z2 : 2 < (⟨bs.toArray⟩ : ByteArray).size := by omega
      have z3 : 3 < (⟨bs.toArray⟩ : ByteArray).size := by omega
      have i2 := ba_get bs 2 z2
      have i3 := ba_get bs 3 z3
      have hx2 := (bs.getD 2 0).toNat_lt
      have hx3 := (bs.getD 3 0).toNat_lt
      generalize hc2 : bs.getD 2 0 = c2 at *
      generalize hc3 : bs.getD 3 0 = c3 at *
      generalize hy2 : c2.toNat = x at *
      generalize hy3 : c3.toNat = y at *
      have h4i : ¬ (bs.length : Int) < 4 := by omega
      have hwx : IntKind.i64.wrap (x : Int) = (x : Int) := IntWalk.i64_in _ (by omega)
      have hwy : IntKind.i64.wrap (y : Int) = (y : Int) := IntWalk.i64_in _ (by omega)
      have hwz : IntKind.i64.wrap ((x : Int) * 256) = (x : Int) * 256 := IntWalk.i64_in _ (by omega)
      have hwn : IntKind.i64.wrap ((x : Int) * 256 + (y : Int)) = ((x * 256 + y : Nat) : Int) := by rw [IntWalk.i64_in _ (by omega)]; omega
      generalize hn : x * 256 + y = n at *
      have hn2 : n ≤ 65535 := by omega
      have k2 : (2 : Int) < (bs.length : Int) := by omega
      have k3 : (3 : Int) < (bs.length : Int) := by omega
      replace hL := Lib.hid hL
      replace hn := Lib.hid hn
      go_enter Tryd.func107, Tryd.ntmps107
      go_wp2_with fail
      refine wp_region_held_drew (S := fun _ => True) (by kernel_rfl) trivial (fun hHeld => ?_)
      refine wpAnyH_take (i := 0) (oi := ⟨some 10, _, _, _, _, _⟩) (v := ?_) rfl (by kernel_rfl) (by kernel_rfl) (by kernel_rfl) (fun _ _ _ h => h) (Or.inl ⟨by rfl, ?hyt0⟩) (by assumption) ?_; (case hyt0 => ((intro W hSW; (try dsimp only at hSW); go_simp); (all_goals with_reducible rfl))); (try simp only [Act.put, List.setIfInBounds_toArray, List.set_cons_zero, List.set_cons_succ])
      refine wpAnyH_take (i := 1) (oi := ⟨some 11, _, _, _, _, _⟩) (v := ?_) rfl (by kernel_rfl) (by kernel_rfl) (by kernel_rfl) (fun _ _ _ h => h) (Or.inl ⟨by rfl, ?hyt1⟩) (by assumption) ?_; (case hyt1 => ((intro W hSW; (try dsimp only at hSW); go_simp); (all_goals with_reducible rfl))); (try simp only [Act.put, List.setIfInBounds_toArray, List.set_cons_zero, List.set_cons_succ])
      refine wpAnyH_take (i := 2) (oi := ⟨some 12, _, _, _, _, _⟩) (v := ?_) rfl (by kernel_rfl) (by kernel_rfl) (by kernel_rfl) (fun _ _ _ h => h) (Or.inl ⟨by rfl, ?hyt2⟩) (by assumption) ?_; (case hyt2 => ((intro W hSW; (try dsimp only at hSW); go_simp); (all_goals with_reducible rfl))); (try simp only [Act.put, List.setIfInBounds_toArray, List.set_cons_zero, List.set_cons_succ])
      refine wpAnyH_take (i := 3) (oi := ⟨some 13, _, _, _, _, _⟩) (v := ?_) rfl (by kernel_rfl) (by kernel_rfl) (by kernel_rfl) (fun _ _ _ h => h) (Or.inl ⟨by rfl, ?hyt3⟩) (by assumption) ?_; (case hyt3 => ((intro W hSW; (try dsimp only at hSW); go_simp); (all_goals with_reducible rfl))); (try simp only [Act.put, List.setIfInBounds_toArray, List.set_cons_zero, List.set_cons_succ])
      refine wpAnyH_take (i := 4) (oi := ⟨some 14, _, _, _, _, _⟩) (v := ?_) rfl (by kernel_rfl) (by kernel_rfl) (by kernel_rfl) (fun _ _ _ h => h) (Or.inl ⟨by rfl, ?hyt4⟩) (by assumption) ?_; (case hyt4 => ((intro W hSW; (try dsimp only at hSW); go_simp); (all_goals with_reducible rfl))); (try simp only [Act.put, List.setIfInBounds_toArray, List.set_cons_zero, List.set_cons_succ])
      refine wpAnyH_take (i := 5) (oi := ⟨some 15, _, _, _, _, _⟩) (v := ?_) rfl (by kernel_rfl) (by kernel_rfl) (by kernel_rfl) (fun _ _ _ h => h) (Or.inl ⟨by rfl, ?hyt5⟩) (by assumption) ?_; (case hyt5 => ((intro W hSW; (try dsimp only at hSW); go_simp); (all_goals with_reducible rfl))); (try simp only [Act.put, List.setIfInBounds_toArray, List.set_cons_zero, List.set_cons_succ])
      refine wpAnyH_take (i := 6) (oi := ⟨some 16, _, _, _, _, _⟩) (v := ?_) rfl (by kernel_rfl) (by kernel_rfl) (by kernel_rfl) (fun _ _ _ h => h) (Or.inl ⟨by rfl, ?hyt6⟩) (by assumption) ?_; (case hyt6 => ((intro W hSW; (try dsimp only at hSW); go_simp); (all_goals with_reducible rfl))); (try simp only [Act.put, List.setIfInBounds_toArray, List.set_cons_zero, List.set_cons_succ])
      refine wpAnyH_take (i := 7) (oi := ⟨some 17, _, _, _, _, _⟩) (v := ?_) rfl (by kernel_rfl) (by kernel_rfl) (by kernel_rfl) (fun _ _ _ h => h) (Or.inl ⟨by rfl, ?hyt7⟩) (by assumption) ?_; (case hyt7 => ((intro W hSW; (try dsimp only at hSW); go_simp); (all_goals with_reducible rfl))); (try simp only [Act.put, List.setIfInBounds_toArray, List.set_cons_zero, List.set_cons_succ])
      refine wpAnyH_take (i := 8) (oi := ⟨some 3, _, _, _, _, _⟩) (v := ?_) rfl (by kernel_rfl) (by kernel_rfl) (by kernel_rfl) (fun _ _ _ h => h) (Or.inl ⟨by rfl, ?hyt8⟩) (by assumption) ?_; (case hyt8 => ((intro W hSW; (try dsimp only at hSW); go_simp); (all_goals with_reducible rfl))); (try simp only [Act.put, List.setIfInBounds_toArray, List.set_cons_zero, List.set_cons_succ])
      refine wpAnyH_done (by kernel_rfl) ?_ _
      clear hHeld hwx hwy hwz hwn k2 k3 i2 i3
      have D0 := (Below.refl w.heap.size w).drew
      have hLo := hL.out
      by_cases hn1 : 256 < n
      · rw [if_pos hn1] at hLo
        replace hLo := Lib.hid hLo
        go_wp2_with fail
        go_ret
        exact ⟨ret_int hLo.out, D0⟩
      rw [if_neg hn1] at hLo
      by_cases hn3 : bs.length < n + 7
      · rw [if_pos hn3] at hLo
        replace hLo := Lib.hid hLo
        have hn3i : (bs.length : Int) < (n : Int) + 7 := by omega
        go_wp2_with fail
        go_ret
        exact ⟨ret_int hLo.out, D0⟩
      rw [if_neg hn3] at hLo
      have hn3i : ¬ (bs.length : Int) < (n : Int) + 7 := by omega
      have hn3j : (n : Int) + 7 ≤ (bs.length : Int) := by omega
      have hs1 : ∀ W, (Instr.slice 9 (.string ⟨bs.toArray⟩) (some (.int .i64 1)) (some (.int .i64 ((n : Int) + 7))) none).run Tryd.prog W = .ok (.string ⟨((bs.take (n + 7)).drop 1).toArray⟩) W := fun W => by
        have := run_slice_string (P := Tryd.prog) W 9 ⟨bs.toArray⟩ .i64 .i64 (1 : Int) ((n : Int) + 7) Tryd.underlying9 (by omega) (by omega) (by rw [hz]; omega)
        rw [this, show ((n : Int) + 7).toNat = n + 7 from by omega, ba_slice]
        rfl
      have hfl : (⟨((bs.take (n + 7)).drop 1).toArray⟩ : ByteArray).size ≤ maxLen := by rw [ba_size, List.length_drop, List.length_take]; unfold maxLen; omega
      have hfits := ref_fits ⟨((bs.take (n + 7)).drop 1).toArray⟩ w.drew hfl
      rw [show (⟨((bs.take (n + 7)).drop 1).toArray⟩ : ByteArray).data.toList = (bs.take (n + 7)).drop 1 from rfl, Fr.fits_eq] at hfits
      generalize (bs.take (n + 7)).drop 1 = fb at *
      have FT := Lib.hid hfits
      clear hfits
      by_cases hf : Fr.fits fb = true
      · rw [if_pos hf] at hLo
        rw [hf] at FT
        replace hLo := Lib.hid hLo
        clear hf
        go_wp2_with fail
        refine FT.out.mono ?_; rintro e w2 ⟨rfl, hb2⟩
        go_wp2_with fail
        go_ret
        exact ⟨ret_int (by rw [← hLo.out]; omega), D0.trans hb2⟩
      · have hf' : Fr.fits fb = false := by simpa using hf
        rw [if_neg hf] at hLo
        rw [hf'] at FT
        replace hLo := Lib.hid hLo
        clear hf hf'
        go_wp2_with fail
        refine FT.out.mono ?_; rintro e w2 ⟨rfl, hb2⟩
        go_wp2_with fail
        go_ret
        exact ⟨ret_int hLo.out, D0.trans hb2⟩
  · rw [if_pos hm] at hL
    have hmz : ((x0 : Int) == 165) = false := by rw [beq_eq_false_iff_ne]; omega
    replace hL := Lib.hid hL
    go_enter Tryd.func107, Tryd.ntmps107
    go_wp2_with fail
    go_ret
    exact ⟨ret_int hL.out, Below.refl _ _⟩
end Go.Proofs.YtdmpopdacbdnlaaDoor
