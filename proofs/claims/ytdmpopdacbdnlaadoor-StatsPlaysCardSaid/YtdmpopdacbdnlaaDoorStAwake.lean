/- lookoutlaw25: awake: contract. -/
import Derived.Test.YtdmpopdacbdnlaaDoorStShow
import Derived.Test.YtdmpopdacbdnlaaDoorStG
namespace Go.Proofs.YtdmpopdacbdnlaaDoor
open Go.RowKit
set_option linter.unusedVariables false
set_option linter.unusedSimpArgs false
set_option maxHeartbeats 4000000
set_option maxRecDepth 20000
/-- the tables -/
structure KeptS (w : World) : Prop where
  forms : Forms 0 w
  pow : PowT w
theorem KeptS.below {w w' : World} (h : KeptS w) (hb : Below w.heap.size w w') : KeptS w' := ⟨h.forms.below hb, h.pow.below hb⟩
theorem eqlCnt (W : World) (a0 a1 a2 a3 a4 a5 b0 b1 b2 b3 b4 b5 : Int) (h0 : a0 = b0) (h1 : a1 = b1) (h2 : a2 = b2) (h3 : a3 = b3) (h4 : a4 = b4) (h5 : a5 = b5) : (binOp .eql 81 (.agg #[.int .i64 a0, .int .i64 a1, .int .i64 a2, .int .i64 a3, .int .i64 a4, .int .i64 a5]) (.agg #[.int .i64 b0, .int .i64 b1, .int .i64 b2, .int .i64 b3, .int .i64 b4, .int .i64 b5])).run Tryd.prog W = .ok (.bool true) W := by
  subst h0; subst h1; subst h2; subst h3; subst h4; subst h5
  rw [run_eql_struct]
  simp [go_sem, Op.eqFields]
def L3 : List Rec := [lateR 0, lateR 3, lateR 4]
theorem lateR_ok (z : Int) (h : -9223372036854775808 ≤ z ∧ z ≤ 9223372036854775807) : (lateR z).ok := by
  refine ⟨?_, ?_, ?_, h, ?_, ?_⟩ <;> simp [lateR, Rec.zero, i64B, maxLen]
theorem sawake_any (w : World) (hK0 : KeptS w) : Calls Tryd.prog 33 #[] w fun e w' => e = .returned (.bool true) ∧ Below w.heap.size w w' := by
  have m0 : mayB (lateR 0) = true := by decide
  have m1 : mayB (lateR 3) = true := by decide
  have m2 : mayB (lateR 4) = true := by decide
  replace hK0 := Lib.hid hK0
  go_enter Tryd.func33, Tryd.ntmps33
  go_wp2_with fail
  refine (snew_any w).mono ?_; rintro e w1 ⟨rfl, hS1, B1⟩
  have tb : ∀ {W W' : World}, Below w.heap.size w W → Turn (fun k => k = w.heap.size) W W' → Below w.heap.size w W' := fun {W W'} hb t => hb.trans (t.below hb.size (fun k hk => by omega))
  replace hS1 := Lib.hid hS1
  go_wp2_with fail
  refine (late_any 0 w1).mono ?_; rintro e w2 ⟨rfl, hb2⟩
  have B2 := B1.trans (hb2.mono B1.size)
  have hS2 := Lib.hid (hS1.out.below hb2)
  clear hb2
  go_wp2_with fail
  refine (see_any _ 0 [] (lateR 0) w2 hS2.out (lateR_ok 0 (by omega)) (hK0.out.below B2).forms (by simp)).mono ?_; rintro e w3 ⟨rfl, hS3, t3⟩
  rw [if_pos m0] at hS3
  have B3 := tb B2 t3
  replace hS3 := Lib.hid hS3
  clear t3 hS2 hS1
  go_wp2_with fail
  refine (late_any 3 w3).mono ?_; rintro e w4 ⟨rfl, hb4⟩
  have B4 := B3.trans (hb4.mono B3.size)
  have hS4 := Lib.hid (hS3.out.below hb4)
  clear hb4
  go_wp2_with fail
  refine (see_any _ 0 _ (lateR 3) w4 hS4.out (lateR_ok 3 (by omega)) (hK0.out.below B4).forms (by simp)).mono ?_; rintro e w5 ⟨rfl, hS5, t5⟩
  rw [if_pos m1] at hS5
  have B5 := tb B4 t5
  replace hS5 := Lib.hid hS5
  clear t5 hS4 hS3
  go_wp2_with fail
  refine (late_any 4 w5).mono ?_; rintro e w6 ⟨rfl, hb6⟩
  have B6 := B5.trans (hb6.mono B5.size)
  have hS6 := Lib.hid (hS5.out.below hb6)
  clear hb6
  go_wp2_with fail
  refine (see_any _ 0 _ (lateR 4) w6 hS6.out (lateR_ok 4 (by omega)) (hK0.out.below B6).forms (by simp)).mono ?_; rintro e w7 ⟨rfl, hS7, t7⟩
  rw [if_pos m2] at hS7
  have B7 := tb B6 t7
  have hS8 : StAt w7 w.heap.size 0 L3 := hS7
  replace hS8 := Lib.hid hS8
  clear t7 hS6 hS5 hS7
  go_wp2_with fail
  refine (decoded_any _ 0 L3 w7 hS8.out (by omega)).mono ?_; rintro e w8' ⟨rfl, hw8⟩
  have hS9 : StAt w8' w.heap.size 1 L3 := by rw [hw8]; exact StRaw.setDec hS8.out 1
  have B8 : Below w.heap.size w w8' := by rw [hw8]; exact B7.setCell (by simp) _
  clear hw8 hS8
  have HS := Lib.hid (fun W (h : StAt W w.heap.size 1 L3) => ssum_any _ 1 L3 W h)
  have HB := Lib.hid (fun W k (h : StAt W w.heap.size 1 L3) => bucket_any _ 1 L3 k W h)
  have HM := Lib.hid (fun W p (h : StAt W w.heap.size 1 L3) => most_any _ 1 L3 p W h (by decide))
  have HO := Lib.hid (fun W (h : StAt W w.heap.size 1 L3) => of_any _ 1 L3 31 (by omega) W h)
  have HC := Lib.hid (fun W (h : StAt W w.heap.size 1 L3) => counts_any _ 1 L3 2 W h)
  have HW := Lib.hid (fun W (h : StAt W w.heap.size 1 L3) (hp : PowT W) => sshow_any _ 1 2 L3 W h (by decide) hp (by omega) (by omega))
  rw [show (sumP L3).1 = 7 from rfl, show (sumP L3).2 = false from rfl] at HS
  have v1 : bkI L3 0 = 1 := by decide
  have v2 : bkI L3 2 = 1 := by decide
  have v3 : bkI L3 3 = 1 := by decide
  have v4 : mostP L3 50 = 3 := by decide
  have v5 : mostP L3 100 = 7 := by decide
  have v6 : kcount L3 31 = 3 := by decide
  have v7 : kcount L3 23 = 0 := by decide
  have v8 : kcount L3 21 = 0 := by decide
  have v9 : kcount L3 22 = 0 := by decide
  have v10 : kcount L3 20 = 0 := by decide
  have ht : (⟨(textP (rowsP 1 2 L3)).toArray⟩ : ByteArray).toList.isEmpty = false := by
    rw [ByteArray.toList_eq]
    have : ∃ x l, textP (rowsP 1 2 L3) = x :: l := ⟨_, _, rfl⟩
    obtain ⟨x, l, e⟩ := this
    rw [e]; rfl
  generalize (⟨(textP (rowsP 1 2 L3)).toArray⟩ : ByteArray) = tx at *
  replace ht := Lib.hid ht
  rw [v7, v8, v9, v10] at HC
  rw [v6] at HO
  replace v4 := Lib.hid v4
  replace v5 := Lib.hid v5
  generalize L3 = l3 at *
  have ec := fun W => eqlCnt W 1 0 0 0 0 2 1 0 0 0 0 2 rfl rfl rfl rfl rfl rfl
  replace ec := Lib.hid ec
  go_wp2_with fail
  refine (HS.out _ hS9).mono ?_; rintro e w10 ⟨rfl, rfl⟩
  have hS10 := Lib.hid (hS9.below ((Below.refl _ w8').drew))
  have B10 := B8.drew
  clear hS9 B8 HS
  generalize w8'.drew = w10 at *
  go_wp2_with fail
  refine (HB.out _ 0 hS10.out).mono ?_; rintro e w11 ⟨rfl, rfl⟩
  rw [v1]
  go_wp2_with fail
  refine (HB.out _ 2 hS10.out).mono ?_; rintro e w11 ⟨rfl, rfl⟩
  rw [v2]
  go_wp2_with fail
  refine (HB.out _ 3 hS10.out).mono ?_; rintro e w11 ⟨rfl, rfl⟩
  rw [v3]
  go_wp2_with fail
  refine (HM.out _ 50 hS10.out).mono ?_; rintro e w11 ⟨rfl, rfl⟩
  rw [v4.out]
  go_wp2_with fail
  refine (HM.out _ 100 hS10.out).mono ?_; rintro e w11 ⟨rfl, rfl⟩
  rw [v5.out]
  go_wp2_with fail
  refine (HO.out _ hS10.out).mono ?_; rintro e w11 ⟨rfl, rfl⟩
  go_wp2_with fail
  refine (HC.out _ hS10.out).mono ?_; rintro e w12 ⟨rfl, hb12⟩
  have B12 := B10.trans (hb12.mono B10.size)
  have hS12 := Lib.hid (hS10.out.below hb12)
  have ec2 := ec.out
  go_wp2_with fail
  refine (HW.out _ hS12.out (hK0.out.below B12).pow).mono ?_; rintro e w13 ⟨rfl, hb13⟩
  have B13 := B12.trans (hb13.mono B12.size)
  go_wp2_with fail
  go_ret
  exact ⟨ret_bool (by rw [ht.out]; rfl), B13⟩
end Go.Proofs.YtdmpopdacbdnlaaDoor
