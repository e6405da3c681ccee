/- lookoutref25: Show: contract (printed by show25.py). -/
import Derived.Test.YtdmpopdacbdnlaaDoorStRMost
import Derived.Test.YtdmpopdacbdnlaaDoorStG
namespace Go.Proofs.YtdmpopdacbdnlaaDoor
open Go.RowKit
set_option linter.unusedVariables false
set_option linter.unusedSimpArgs false
set_option maxHeartbeats 8000000
set_option maxRecDepth 20000
theorem add_run (a b c : ByteArray) (h : a ++ b = c) (hs : a.size + b.size ≤ 100000) : Op.stringOp .add a b = pure (.string c) := by
  subst h
  unfold Op.stringOp
  simp only
  rw [if_neg]
  have : IntKind.i64.max = 9223372036854775807 := by decide
  rw [this]
  omega
theorem dig_size (z : Int) (h0 : -9223372036854775808 ≤ z) (h1 : z ≤ 9223372036854775807) : (⟨(Lib.itoa z).toArray⟩ : ByteArray).size ≤ 21 := by
  have := itoa_le z h0 h1
  simpa [ByteArray.size] using this
theorem app_size {a b c : ByteArray} (h : a ++ b = c) : c.size = a.size + b.size := by subst h; simp [ByteArray.size_append]
theorem rsshow_any (n q0 : Int) (q : Option Addr) (m c : Nat) (l : List Rec) (w : World) (h : RowG 8 w q m (l.map recVs)) (hm : m ≤ 100000) (hn : ∀ r ∈ l, -9223372036854775808 ≤ r.num ∧ r.num ≤ 9223372036854775807) (hn0 : -9223372036854775808 ≤ n ∧ n ≤ 9223372036854775807) (hq0 : -9223372036854775808 ≤ q0 ∧ q0 ≤ 9223372036854775807) :
    Calls Tryd.prog 50 #[.agg #[.int .i64 n, .slice q m c], .int .i64 q0] w fun e w' => e = .returned (.string ⟨(textP (rowsP n q0 l)).toArray⟩) ∧ Below w.heap.size w w' := by
  have hll : l.length = m := by have := h.length; rw [List.length_map] at this; exact this
  have b0 : -9223372036854775808 ≤ n ∧ n ≤ 9223372036854775807 := hn0
  have b1 : -9223372036854775808 ≤ (kcount l 23 : Int) ∧ (kcount l 23 : Int) ≤ 9223372036854775807 := by have := kcount_le l 23; omega
  have b2 : -9223372036854775808 ≤ (kcount l 21 : Int) ∧ (kcount l 21 : Int) ≤ 9223372036854775807 := by have := kcount_le l 21; omega
  have b3 : -9223372036854775808 ≤ (kcount l 22 : Int) ∧ (kcount l 22 : Int) ≤ 9223372036854775807 := by have := kcount_le l 22; omega
  have b4 : -9223372036854775808 ≤ (kcount l 20 : Int) ∧ (kcount l 20 : Int) ≤ 9223372036854775807 := by have := kcount_le l 20; omega
  have b5 : -9223372036854775808 ≤ q0 ∧ q0 ≤ 9223372036854775807 := hq0
  have b6 : -9223372036854775808 ≤ (kcount l 30 : Int) ∧ (kcount l 30 : Int) ≤ 9223372036854775807 := by have := kcount_le l 30; omega
  have b7 : -9223372036854775808 ≤ (mostP l 50) ∧ (mostP l 50) ≤ 9223372036854775807 := by have := mostP_in l 50; omega
  have b8 : -9223372036854775808 ≤ (mostP l 100) ∧ (mostP l 100) ≤ 9223372036854775807 := by have := mostP_in l 100; omega
  have b9 : -9223372036854775808 ≤ (sumP l).1 ∧ (sumP l).1 ≤ 9223372036854775807 := sumP_in l
  have D0 := Lib.hid (fun W => dig02_loop n b0.1 b0.2 W)
  have z0 := dig_size n b0.1 b0.2
  have D1 := Lib.hid (fun W => dig02_loop (kcount l 23 : Int) b1.1 b1.2 W)
  have z1 := dig_size (kcount l 23 : Int) b1.1 b1.2
  have D2 := Lib.hid (fun W => dig02_loop (kcount l 21 : Int) b2.1 b2.2 W)
  have z2 := dig_size (kcount l 21 : Int) b2.1 b2.2
  have D3 := Lib.hid (fun W => dig02_loop (kcount l 22 : Int) b3.1 b3.2 W)
  have z3 := dig_size (kcount l 22 : Int) b3.1 b3.2
  have D4 := Lib.hid (fun W => dig02_loop (kcount l 20 : Int) b4.1 b4.2 W)
  have z4 := dig_size (kcount l 20 : Int) b4.1 b4.2
  have D5 := Lib.hid (fun W => dig02_loop q0 b5.1 b5.2 W)
  have z5 := dig_size q0 b5.1 b5.2
  have D6 := Lib.hid (fun W => dig02_loop (kcount l 30 : Int) b6.1 b6.2 W)
  have z6 := dig_size (kcount l 30 : Int) b6.1 b6.2
  have D7 := Lib.hid (fun W => dig02_loop (mostP l 50) b7.1 b7.2 W)
  have z7 := dig_size (mostP l 50) b7.1 b7.2
  have D8 := Lib.hid (fun W => dig02_loop (mostP l 100) b8.1 b8.2 W)
  have z8 := dig_size (mostP l 100) b8.1 b8.2
  have D9 := Lib.hid (fun W => dig02_loop (sumP l).1 b9.1 b9.2 W)
  have z9 := dig_size (sumP l).1 b9.1 b9.2
  have O1 := Lib.hid (fun W (hW : RowG 8 W q m (l.map recVs)) => rof_any n q m c l 23 (by omega) W hW hm)
  have O2 := Lib.hid (fun W (hW : RowG 8 W q m (l.map recVs)) => rof_any n q m c l 21 (by omega) W hW hm)
  have O3 := Lib.hid (fun W (hW : RowG 8 W q m (l.map recVs)) => rof_any n q m c l 22 (by omega) W hW hm)
  have O4 := Lib.hid (fun W (hW : RowG 8 W q m (l.map recVs)) => rof_any n q m c l 20 (by omega) W hW hm)
  have O6 := Lib.hid (fun W (hW : RowG 8 W q m (l.map recVs)) => rof_any n q m c l 30 (by omega) W hW hm)
  have O7 := Lib.hid (fun W (hW : RowG 8 W q m (l.map recVs)) => rsmost_any n q m c l 50 W hW hm hn)
  have O8 := Lib.hid (fun W (hW : RowG 8 W q m (l.map recVs)) => rsmost_any n q m c l 100 W hW hm hn)
  have OS := Lib.hid (fun W (hW : RowG 8 W q m (l.map recVs)) => rsum_any n q m c l W hW hm hn)
  have hfin : ∀ X : ByteArray, X = ⟨(textP (rowsP n q0 l)).toArray⟩ → X = ⟨(textP (rowsP n q0 l)).toArray⟩ := fun X h => h
  have htp : textP (rowsP n q0 l) = [100, 101, 99, 111, 100, 101, 100, 32] ++ (Lib.itoa (n) ++ ([32, 97, 99, 99, 101, 112, 116, 101, 100, 32] ++ (Lib.itoa ((kcount l 23 : Int)) ++ ([32, 115, 104, 101, 100, 32] ++ (Lib.itoa ((kcount l 21 : Int)) ++ ([32, 108, 97, 116, 101, 32] ++ (Lib.itoa ((kcount l 22 : Int)) ++ ([32, 114, 101, 106, 101, 99, 116, 101, 100, 32] ++ (Lib.itoa ((kcount l 20 : Int)) ++ ([32, 113, 117, 101, 117, 101, 100, 32] ++ (Lib.itoa (q0) ++ ([32, 102, 105, 110, 97, 108, 115, 32] ++ (Lib.itoa ((kcount l 30 : Int)) ++ ([32, 104, 97, 108, 102, 32] ++ (Lib.itoa ((mostP l 50)) ++ ([32, 109, 111, 115, 116, 32] ++ (Lib.itoa ((mostP l 100)) ++ ([32, 115, 117, 109, 32] ++ (Lib.itoa ((sumP l).1) ++ []))))))))))))))))))) := by simp [textP, rowsP]
  rw [htp]
  clear htp hfin
  generalize (sumP l).2 = scut at OS
  generalize (sumP l).1 = x9 at *
  generalize (mostP l 100) = x8 at *
  generalize (mostP l 50) = x7 at *
  generalize (kcount l 30 : Int) = x6 at *
  generalize (kcount l 20 : Int) = x4 at *
  generalize (kcount l 22 : Int) = x3 at *
  generalize (kcount l 21 : Int) = x2 at *
  generalize (kcount l 23 : Int) = x1 at *
  generalize hi0 : Lib.itoa n = t0 at *
  generalize hd0 : (⟨t0.toArray⟩ : ByteArray) = d0 at *
  replace hi0 := Lib.hid hi0; replace hd0 := Lib.hid hd0
  generalize hi1 : Lib.itoa x1 = t1 at *
  generalize hd1 : (⟨t1.toArray⟩ : ByteArray) = d1 at *
  replace hi1 := Lib.hid hi1; replace hd1 := Lib.hid hd1
  generalize hi2 : Lib.itoa x2 = t2 at *
  generalize hd2 : (⟨t2.toArray⟩ : ByteArray) = d2 at *
  replace hi2 := Lib.hid hi2; replace hd2 := Lib.hid hd2
  generalize hi3 : Lib.itoa x3 = t3 at *
  generalize hd3 : (⟨t3.toArray⟩ : ByteArray) = d3 at *
  replace hi3 := Lib.hid hi3; replace hd3 := Lib.hid hd3
  generalize hi4 : Lib.itoa x4 = t4 at *
  generalize hd4 : (⟨t4.toArray⟩ : ByteArray) = d4 at *
  replace hi4 := Lib.hid hi4; replace hd4 := Lib.hid hd4
  generalize hi5 : Lib.itoa q0 = t5 at *
  generalize hd5 : (⟨t5.toArray⟩ : ByteArray) = d5 at *
  replace hi5 := Lib.hid hi5; replace hd5 := Lib.hid hd5
  generalize hi6 : Lib.itoa x6 = t6 at *
  generalize hd6 : (⟨t6.toArray⟩ : ByteArray) = d6 at *
  replace hi6 := Lib.hid hi6; replace hd6 := Lib.hid hd6
  generalize hi7 : Lib.itoa x7 = t7 at *
  generalize hd7 : (⟨t7.toArray⟩ : ByteArray) = d7 at *
  replace hi7 := Lib.hid hi7; replace hd7 := Lib.hid hd7
  generalize hi8 : Lib.itoa x8 = t8 at *
  generalize hd8 : (⟨t8.toArray⟩ : ByteArray) = d8 at *
  replace hi8 := Lib.hid hi8; replace hd8 := Lib.hid hd8
  generalize hi9 : Lib.itoa x9 = t9 at *
  generalize hd9 : (⟨t9.toArray⟩ : ByteArray) = d9 at *
  replace hi9 := Lib.hid hi9; replace hd9 := Lib.hid hd9
  obtain ⟨a1, h1⟩ : ∃ c : ByteArray, (⟨#[100, 101, 99, 111, 100, 101, 100, 32]⟩ : ByteArray) ++ (d0 : ByteArray) = c := ⟨_, rfl⟩
  have s1 := app_size h1
  have e1 : (⟨#[100, 101, 99, 111, 100, 101, 100, 32]⟩ : ByteArray).size = 8 := rfl
  rw [e1] at s1
  have k1 := add_run _ _ _ h1 (by rw [e1]; omega)
  replace h1 := Lib.hid h1
  obtain ⟨a2, h2⟩ : ∃ c : ByteArray, (a1 : ByteArray) ++ (⟨#[32, 97, 99, 99, 101, 112, 116, 101, 100, 32]⟩ : ByteArray) = c := ⟨_, rfl⟩
  have s2 := app_size h2
  have e2 : (⟨#[32, 97, 99, 99, 101, 112, 116, 101, 100, 32]⟩ : ByteArray).size = 10 := rfl
  rw [e2] at s2
  have k2 := add_run _ _ _ h2 (by rw [e2]; omega)
  replace h2 := Lib.hid h2
  obtain ⟨a3, h3⟩ : ∃ c : ByteArray, (a2 : ByteArray) ++ (d1 : ByteArray) = c := ⟨_, rfl⟩
  have s3 := app_size h3
  have k3 := add_run _ _ _ h3 (by omega)
  replace h3 := Lib.hid h3
  obtain ⟨a4, h4⟩ : ∃ c : ByteArray, (a3 : ByteArray) ++ (⟨#[32, 115, 104, 101, 100, 32]⟩ : ByteArray) = c := ⟨_, rfl⟩
  have s4 := app_size h4
  have e4 : (⟨#[32, 115, 104, 101, 100, 32]⟩ : ByteArray).size = 6 := rfl
  rw [e4] at s4
  have k4 := add_run _ _ _ h4 (by rw [e4]; omega)
  replace h4 := Lib.hid h4
  obtain ⟨a5, h5⟩ : ∃ c : ByteArray, (a4 : ByteArray) ++ (d2 : ByteArray) = c := ⟨_, rfl⟩
  have s5 := app_size h5
  have k5 := add_run _ _ _ h5 (by omega)
  replace h5 := Lib.hid h5
  obtain ⟨a6, h6⟩ : ∃ c : ByteArray, (a5 : ByteArray) ++ (⟨#[32, 108, 97, 116, 101, 32]⟩ : ByteArray) = c := ⟨_, rfl⟩
  have s6 := app_size h6
  have e6 : (⟨#[32, 108, 97, 116, 101, 32]⟩ : ByteArray).size = 6 := rfl
  rw [e6] at s6
  have k6 := add_run _ _ _ h6 (by rw [e6]; omega)
  replace h6 := Lib.hid h6
  obtain ⟨a7, h7⟩ : ∃ c : ByteArray, (a6 : ByteArray) ++ (d3 : ByteArray) = c := ⟨_, rfl⟩
  have s7 := app_size h7
  have k7 := add_run _ _ _ h7 (by omega)
  replace h7 := Lib.hid h7
  obtain ⟨a8, h8⟩ : ∃ c : ByteArray, (a7 : ByteArray) ++ (⟨#[32, 114, 101, 106, 101, 99, 116, 101, 100, 32]⟩ : ByteArray) = c := ⟨_, rfl⟩
  have s8 := app_size h8
  have e8 : (⟨#[32, 114, 101, 106, 101, 99, 116, 101, 100, 32]⟩ : ByteArray).size = 10 := rfl
  rw [e8] at s8
  have k8 := add_run _ _ _ h8 (by rw [e8]; omega)
  replace h8 := Lib.hid h8
  obtain ⟨a9, h9⟩ : ∃ c : ByteArray, (a8 : ByteArray) ++ (d4 : ByteArray) = c := ⟨_, rfl⟩
  have s9 := app_size h9
  have k9 := add_run _ _ _ h9 (by omega)
  replace h9 := Lib.hid h9
  obtain ⟨a10, h10⟩ : ∃ c : ByteArray, (a9 : ByteArray) ++ (⟨#[32, 113, 117, 101, 117, 101, 100, 32]⟩ : ByteArray) = c := ⟨_, rfl⟩
  have s10 := app_size h10
  have e10 : (⟨#[32, 113, 117, 101, 117, 101, 100, 32]⟩ : ByteArray).size = 8 := rfl
  rw [e10] at s10
  have k10 := add_run _ _ _ h10 (by rw [e10]; omega)
  replace h10 := Lib.hid h10
  obtain ⟨a11, h11⟩ : ∃ c : ByteArray, (a10 : ByteArray) ++ (d5 : ByteArray) = c := ⟨_, rfl⟩
  have s11 := app_size h11
  have k11 := add_run _ _ _ h11 (by omega)
  replace h11 := Lib.hid h11
  obtain ⟨a12, h12⟩ : ∃ c : ByteArray, (a11 : ByteArray) ++ (⟨#[32, 102, 105, 110, 97, 108, 115, 32]⟩ : ByteArray) = c := ⟨_, rfl⟩
  have s12 := app_size h12
  have e12 : (⟨#[32, 102, 105, 110, 97, 108, 115, 32]⟩ : ByteArray).size = 8 := rfl
  rw [e12] at s12
  have k12 := add_run _ _ _ h12 (by rw [e12]; omega)
  replace h12 := Lib.hid h12
  obtain ⟨a13, h13⟩ : ∃ c : ByteArray, (a12 : ByteArray) ++ (d6 : ByteArray) = c := ⟨_, rfl⟩
  have s13 := app_size h13
  have k13 := add_run _ _ _ h13 (by omega)
  replace h13 := Lib.hid h13
  obtain ⟨a14, h14⟩ : ∃ c : ByteArray, (a13 : ByteArray) ++ (⟨#[32, 104, 97, 108, 102, 32]⟩ : ByteArray) = c := ⟨_, rfl⟩
  have s14 := app_size h14
  have e14 : (⟨#[32, 104, 97, 108, 102, 32]⟩ : ByteArray).size = 6 := rfl
  rw [e14] at s14
  have k14 := add_run _ _ _ h14 (by rw [e14]; omega)
  replace h14 := Lib.hid h14
  obtain ⟨a15, h15⟩ : ∃ c : ByteArray, (a14 : ByteArray) ++ (d7 : ByteArray) = c := ⟨_, rfl⟩
  have s15 := app_size h15
  have k15 := add_run _ _ _ h15 (by omega)
  replace h15 := Lib.hid h15
  obtain ⟨a16, h16⟩ : ∃ c : ByteArray, (a15 : ByteArray) ++ (⟨#[32, 109, 111, 115, 116, 32]⟩ : ByteArray) = c := ⟨_, rfl⟩
  have s16 := app_size h16
  have e16 : (⟨#[32, 109, 111, 115, 116, 32]⟩ : ByteArray).size = 6 := rfl
  rw [e16] at s16
  have k16 := add_run _ _ _ h16 (by rw [e16]; omega)
  replace h16 := Lib.hid h16
  obtain ⟨a17, h17⟩ : ∃ c : ByteArray, (a16 : ByteArray) ++ (d8 : ByteArray) = c := ⟨_, rfl⟩
  have s17 := app_size h17
  have k17 := add_run _ _ _ h17 (by omega)
  replace h17 := Lib.hid h17
  obtain ⟨a18, h18⟩ : ∃ c : ByteArray, (a17 : ByteArray) ++ (⟨#[32, 115, 117, 109, 32]⟩ : ByteArray) = c := ⟨_, rfl⟩
  have s18 := app_size h18
  have e18 : (⟨#[32, 115, 117, 109, 32]⟩ : ByteArray).size = 5 := rfl
  rw [e18] at s18
  have k18 := add_run _ _ _ h18 (by rw [e18]; omega)
  replace h18 := Lib.hid h18
  obtain ⟨a19, h19⟩ : ∃ c : ByteArray, (a18 : ByteArray) ++ (d9 : ByteArray) = c := ⟨_, rfl⟩
  have s19 := app_size h19
  have k19 := add_run _ _ _ h19 (by omega)
  replace h19 := Lib.hid h19
  replace h := Lib.hid h
  replace hn := Lib.hid hn
  clear z0
  clear z1
  clear z2
  clear z3
  clear z4
  clear z5
  clear z6
  clear z7
  clear z8
  clear z9
  clear s1 e1
  clear s2 e2
  clear s3
  clear s4 e4
  clear s5
  clear s6 e6
  clear s7
  clear s8 e8
  clear s9
  clear s10 e10
  clear s11
  clear s12 e12
  clear s13
  clear s14 e14
  clear s15
  clear s16 e16
  clear s17
  clear s18 e18
  clear s19
  go_enter Tryd.func50, Tryd.ntmps50
  go_wp2_with fail
  have A1 : Below w.heap.size w (w.alloc (.cells #[.int .i64 n, .slice q m c] 65)) := (Below.refl _ _).alloc (Nat.le_refl _) _
  have X1 := Lib.hid (Box.new w [.int .i64 n, .slice q m c] _ 65 rfl _ rfl)
  replace h := Lib.hid (h.out.below A1)
  replace X1 := Lib.hid X1.out
  generalize hw1 : w.alloc (.cells #[.int .i64 n, .slice q m c] 65) = w1 at *
  clear hw1
  refine (OS.out w1 h.out).mono ?_; rintro e w2 ⟨rfl, hb2⟩
  have B2 := A1.trans (hb2.mono A1.size)
  replace X1 := Lib.hid (X1.out.below hb2)
  replace h := Lib.hid (h.out.below hb2)
  clear hb2 A1
  go_wp2_with fail
  have E : ∀ W, Below w2.heap.size w2 W → W.cell? ⟨w.heap.size, 0, none⟩ = some (.int .i64 n) ∧ W.cell? ⟨w.heap.size, 1, none⟩ = some (.slice q m c) := fun W hb => ⟨(X1.out.below hb).cell 0 _ rfl, (X1.out.below hb).cell 1 _ rfl⟩
  replace E := Lib.hid E
  have E2 : ∀ W, Below w2.heap.size w2 W → RowG 8 W q m (l.map recVs) := fun W hb => h.out.below hb
  replace E2 := Lib.hid E2
  have C0 : Below w2.heap.size w2 w2.drew := (Below.refl _ _).drew
  refine wp_region_held_drew (S := fun W => W.cell? ⟨w.heap.size, 0, none⟩ = some (.int .i64 n) ∧ W.cell? ⟨w.heap.size, 1, none⟩ = some (.slice q m c)) (by kernel_rfl) (E.out _ C0) (fun hHeld => ?_)
  refine wpAnyH_take (i := 0) (oi := ⟨some 12, _, _, _, _, _⟩) (v := ?_) rfl (by kernel_rfl) (by kernel_rfl) (by kernel_rfl) (fun _ _ _ h => h) (Or.inl ⟨by rfl, ?hyt0⟩) (by assumption) ?_; (case hyt0 => ((intro W hSW; (try dsimp only at hSW); obtain ⟨hSW, hSW2⟩ := hSW; go_simp); (all_goals with_reducible rfl))); (try simp only [Act.put, List.setIfInBounds_toArray, List.set_cons_zero, List.set_cons_succ])
  refine wpAnyH_take (i := 1) (oi := ⟨some 13, _, _, _, _, _⟩) (v := ?_) rfl (by kernel_rfl) (by kernel_rfl) (by kernel_rfl) (fun _ _ _ h => h) (Or.inl ⟨by rfl, ?hyt1⟩) (by assumption) ?_; (case hyt1 => ((intro W hSW; (try dsimp only at hSW); obtain ⟨hSW, hSW2⟩ := hSW; go_simp); (all_goals with_reducible rfl))); (try simp only [Act.put, List.setIfInBounds_toArray, List.set_cons_zero, List.set_cons_succ])
  refine wpAnyH_take (i := 5) (oi := ⟨some 17, _, _, _, _, _⟩) (v := ?_) rfl (by kernel_rfl) (by kernel_rfl) (by kernel_rfl) (fun _ _ _ h => h) (Or.inl ⟨by rfl, ?hyt5⟩) (by assumption) ?_; (case hyt5 => ((intro W hSW; (try dsimp only at hSW); obtain ⟨hSW, hSW2⟩ := hSW; go_simp); (all_goals with_reducible rfl))); (try simp only [Act.put, List.setIfInBounds_toArray, List.set_cons_zero, List.set_cons_succ])
  refine wpAnyH_take (i := 10) (oi := ⟨some 22, _, _, _, _, _⟩) (v := ?_) rfl (by kernel_rfl) (by kernel_rfl) (by kernel_rfl) (fun _ _ _ h => h) (Or.inl ⟨by rfl, ?hyt10⟩) (by assumption) ?_; (case hyt10 => ((intro W hSW; (try dsimp only at hSW); obtain ⟨hSW, hSW2⟩ := hSW; go_simp); (all_goals with_reducible rfl))); (try simp only [Act.put, List.setIfInBounds_toArray, List.set_cons_zero, List.set_cons_succ])
  refine wpAnyH_take (i := 15) (oi := ⟨some 27, _, _, _, _, _⟩) (v := ?_) rfl (by kernel_rfl) (by kernel_rfl) (by kernel_rfl) (fun _ _ _ h => h) (Or.inl ⟨by rfl, ?hyt15⟩) (by assumption) ?_; (case hyt15 => ((intro W hSW; (try dsimp only at hSW); obtain ⟨hSW, hSW2⟩ := hSW; go_simp); (all_goals with_reducible rfl))); (try simp only [Act.put, List.setIfInBounds_toArray, List.set_cons_zero, List.set_cons_succ])
  refine wpAnyH_take (i := 20) (oi := ⟨some 32, _, _, _, _, _⟩) (v := ?_) rfl (by kernel_rfl) (by kernel_rfl) (by kernel_rfl) (fun _ _ _ h => h) (Or.inl ⟨by rfl, ?hyt20⟩) (by assumption) ?_; (case hyt20 => ((intro W hSW; (try dsimp only at hSW); obtain ⟨hSW, hSW2⟩ := hSW; go_simp); (all_goals with_reducible rfl))); (try simp only [Act.put, List.setIfInBounds_toArray, List.set_cons_zero, List.set_cons_succ])
  refine wpAnyH_take (i := 25) (oi := ⟨some 37, _, _, _, _, _⟩) (v := ?_) rfl (by kernel_rfl) (by kernel_rfl) (by kernel_rfl) (fun _ _ _ h => h) (Or.inl ⟨by rfl, ?hyt25⟩) (by assumption) ?_; (case hyt25 => ((intro W hSW; (try dsimp only at hSW); obtain ⟨hSW, hSW2⟩ := hSW; go_simp); (all_goals with_reducible rfl))); (try simp only [Act.put, List.setIfInBounds_toArray, List.set_cons_zero, List.set_cons_succ])
  refine wpAnyH_take (i := 29) (oi := ⟨some 41, _, _, _, _, _⟩) (v := ?_) rfl (by kernel_rfl) (by kernel_rfl) (by kernel_rfl) (fun _ _ _ h => h) (Or.inl ⟨by rfl, ?hyt29⟩) (by assumption) ?_; (case hyt29 => ((intro W hSW; (try dsimp only at hSW); obtain ⟨hSW, hSW2⟩ := hSW; go_simp); (all_goals with_reducible rfl))); (try simp only [Act.put, List.setIfInBounds_toArray, List.set_cons_zero, List.set_cons_succ])
  refine wpAnyH_take (i := 34) (oi := ⟨some 46, _, _, _, _, _⟩) (v := ?_) rfl (by kernel_rfl) (by kernel_rfl) (by kernel_rfl) (fun _ _ _ h => h) (Or.inl ⟨by rfl, ?hyt34⟩) (by assumption) ?_; (case hyt34 => ((intro W hSW; (try dsimp only at hSW); obtain ⟨hSW, hSW2⟩ := hSW; go_simp); (all_goals with_reducible rfl))); (try simp only [Act.put, List.setIfInBounds_toArray, List.set_cons_zero, List.set_cons_succ])
  refine wpAnyH_take (i := 39) (oi := ⟨some 51, _, _, _, _, _⟩) (v := ?_) rfl (by kernel_rfl) (by kernel_rfl) (by kernel_rfl) (fun _ _ _ h => h) (Or.inl ⟨by rfl, ?hyt39⟩) (by assumption) ?_; (case hyt39 => ((intro W hSW; (try dsimp only at hSW); obtain ⟨hSW, hSW2⟩ := hSW; go_simp); (all_goals with_reducible rfl))); (try simp only [Act.put, List.setIfInBounds_toArray, List.set_cons_zero, List.set_cons_succ])
  refine wpAnyH_take (i := 44) (oi := ⟨some 56, _, _, _, _, _⟩) (v := ?_) rfl (by kernel_rfl) (by kernel_rfl) (by kernel_rfl) (fun _ _ _ h => h) (Or.inl ⟨by rfl, ?hyt44⟩) (by assumption) ?_; (case hyt44 => ((intro W hSW; (try dsimp only at hSW); obtain ⟨hSW, hSW2⟩ := hSW; go_simp); (all_goals with_reducible rfl))); (try simp only [Act.put, List.setIfInBounds_toArray, List.set_cons_zero, List.set_cons_succ])
  refine wpAnyH_ready (rs := [2]) (by kernel_rfl) (by simp) ?_; refine AllReadyH.cons (o := ⟨some 14, _, _, _, _, _⟩) rfl (fun K hK => ?_) AllReadyH.nil; go_simp
  go_at_call 77
  refine (D0.out _).mono ?_; rintro e v1 ⟨rfl, hb1⟩
  have C1 := C0.trans (hb1.mono C0.size)
  clear hb1
  (try go_simp); refine hK.out _ _ (E.out _ C1) (fun hHx => ?_); clear hK K hHeld; have hHeld := hHx; clear hHx; (try simp only [Act.put, List.setIfInBounds_toArray, List.set_cons_zero, List.set_cons_succ])
  refine wpAnyH_take (i := 3) (oi := ⟨some 15, _, _, _, _, _⟩) (v := ?_) rfl (by kernel_rfl) (by kernel_rfl) (by kernel_rfl) (fun _ _ _ h => h) (Or.inl ⟨by rfl, ?hyt3⟩) (by assumption) ?_; (case hyt3 => ((intro W hSW; (try dsimp only at hSW); obtain ⟨hSW, hSW2⟩ := hSW; go_simp); (all_goals with_reducible rfl))); (try simp only [Act.put, List.setIfInBounds_toArray, List.set_cons_zero, List.set_cons_succ])
  refine wpAnyH_take (i := 4) (oi := ⟨some 16, _, _, _, _, _⟩) (v := ?_) rfl (by kernel_rfl) (by kernel_rfl) (by kernel_rfl) (fun _ _ _ h => h) (Or.inl ⟨by rfl, ?hyt4⟩) (by assumption) ?_; (case hyt4 => ((intro W hSW; (try dsimp only at hSW); obtain ⟨hSW, hSW2⟩ := hSW; go_simp); (all_goals with_reducible rfl))); (try simp only [Act.put, List.setIfInBounds_toArray, List.set_cons_zero, List.set_cons_succ])
  refine wpAnyH_ready (rs := [6]) (by kernel_rfl) (by simp) ?_; refine AllReadyH.cons (o := ⟨some 18, _, _, _, _, _⟩) rfl (fun K hK => ?_) AllReadyH.nil; go_simp
  go_at_call 41
  refine (O1.out _ (E2.out _ C1)).mono ?_; rintro e v2 ⟨rfl, hb2⟩
  have C2 := C1.trans (hb2.mono C1.size)
  clear hb2
  (try go_simp); refine hK.out _ _ (E.out _ C2) (fun hHx => ?_); clear hK K hHeld; have hHeld := hHx; clear hHx; (try simp only [Act.put, List.setIfInBounds_toArray, List.set_cons_zero, List.set_cons_succ])
  refine wpAnyH_ready (rs := [7]) (by kernel_rfl) (by simp) ?_; refine AllReadyH.cons (o := ⟨some 19, _, _, _, _, _⟩) rfl (fun K hK => ?_) AllReadyH.nil; go_simp
  go_at_call 77
  refine (D1.out _).mono ?_; rintro e v3 ⟨rfl, hb3⟩
  have C3 := C2.trans (hb3.mono C2.size)
  clear hb3
  (try go_simp); refine hK.out _ _ (E.out _ C3) (fun hHx => ?_); clear hK K hHeld; have hHeld := hHx; clear hHx; (try simp only [Act.put, List.setIfInBounds_toArray, List.set_cons_zero, List.set_cons_succ])
  refine wpAnyH_take (i := 8) (oi := ⟨some 20, _, _, _, _, _⟩) (v := ?_) rfl (by kernel_rfl) (by kernel_rfl) (by kernel_rfl) (fun _ _ _ h => h) (Or.inl ⟨by rfl, ?hyt8⟩) (by assumption) ?_; (case hyt8 => ((intro W hSW; (try dsimp only at hSW); obtain ⟨hSW, hSW2⟩ := hSW; go_simp); (all_goals with_reducible rfl))); (try simp only [Act.put, List.setIfInBounds_toArray, List.set_cons_zero, List.set_cons_succ])
  refine wpAnyH_take (i := 9) (oi := ⟨some 21, _, _, _, _, _⟩) (v := ?_) rfl (by kernel_rfl) (by kernel_rfl) (by kernel_rfl) (fun _ _ _ h => h) (Or.inl ⟨by rfl, ?hyt9⟩) (by assumption) ?_; (case hyt9 => ((intro W hSW; (try dsimp only at hSW); obtain ⟨hSW, hSW2⟩ := hSW; go_simp); (all_goals with_reducible rfl))); (try simp only [Act.put, List.setIfInBounds_toArray, List.set_cons_zero, List.set_cons_succ])
  refine wpAnyH_ready (rs := [11]) (by kernel_rfl) (by simp) ?_; refine AllReadyH.cons (o := ⟨some 23, _, _, _, _, _⟩) rfl (fun K hK => ?_) AllReadyH.nil; go_simp
  go_at_call 41
  refine (O2.out _ (E2.out _ C3)).mono ?_; rintro e v4 ⟨rfl, hb4⟩
  have C4 := C3.trans (hb4.mono C3.size)
  clear hb4
  (try go_simp); refine hK.out _ _ (E.out _ C4) (fun hHx => ?_); clear hK K hHeld; have hHeld := hHx; clear hHx; (try simp only [Act.put, List.setIfInBounds_toArray, List.set_cons_zero, List.set_cons_succ])
  refine wpAnyH_ready (rs := [12]) (by kernel_rfl) (by simp) ?_; refine AllReadyH.cons (o := ⟨some 24, _, _, _, _, _⟩) rfl (fun K hK => ?_) AllReadyH.nil; go_simp
  go_at_call 77
  refine (D2.out _).mono ?_; rintro e v5 ⟨rfl, hb5⟩
  have C5 := C4.trans (hb5.mono C4.size)
  clear hb5
  (try go_simp); refine hK.out _ _ (E.out _ C5) (fun hHx => ?_); clear hK K hHeld; have hHeld := hHx; clear hHx; (try simp only [Act.put, List.setIfInBounds_toArray, List.set_cons_zero, List.set_cons_succ])
  refine wpAnyH_take (i := 13) (oi := ⟨some 25, _, _, _, _, _⟩) (v := ?_) rfl (by kernel_rfl) (by kernel_rfl) (by kernel_rfl) (fun _ _ _ h => h) (Or.inl ⟨by rfl, ?hyt13⟩) (by assumption) ?_; (case hyt13 => ((intro W hSW; (try dsimp only at hSW); obtain ⟨hSW, hSW2⟩ := hSW; go_simp); (all_goals with_reducible rfl))); (try simp only [Act.put, List.setIfInBounds_toArray, List.set_cons_zero, List.set_cons_succ])
  refine wpAnyH_take (i := 14) (oi := ⟨some 26, _, _, _, _, _⟩) (v := ?_) rfl (by kernel_rfl) (by kernel_rfl) (by kernel_rfl) (fun _ _ _ h => h) (Or.inl ⟨by rfl, ?hyt14⟩) (by assumption) ?_; (case hyt14 => ((intro W hSW; (try dsimp only at hSW); obtain ⟨hSW, hSW2⟩ := hSW; go_simp); (all_goals with_reducible rfl))); (try simp only [Act.put, List.setIfInBounds_toArray, List.set_cons_zero, List.set_cons_succ])
  refine wpAnyH_ready (rs := [16]) (by kernel_rfl) (by simp) ?_; refine AllReadyH.cons (o := ⟨some 28, _, _, _, _, _⟩) rfl (fun K hK => ?_) AllReadyH.nil; go_simp
  go_at_call 41
  refine (O3.out _ (E2.out _ C5)).mono ?_; rintro e v6 ⟨rfl, hb6⟩
  have C6 := C5.trans (hb6.mono C5.size)
  clear hb6
  (try go_simp); refine hK.out _ _ (E.out _ C6) (fun hHx => ?_); clear hK K hHeld; have hHeld := hHx; clear hHx; (try simp only [Act.put, List.setIfInBounds_toArray, List.set_cons_zero, List.set_cons_succ])
  refine wpAnyH_ready (rs := [17]) (by kernel_rfl) (by simp) ?_; refine AllReadyH.cons (o := ⟨some 29, _, _, _, _, _⟩) rfl (fun K hK => ?_) AllReadyH.nil; go_simp
  go_at_call 77
  refine (D3.out _).mono ?_; rintro e v7 ⟨rfl, hb7⟩
  have C7 := C6.trans (hb7.mono C6.size)
  clear hb7
  (try go_simp); refine hK.out _ _ (E.out _ C7) (fun hHx => ?_); clear hK K hHeld; have hHeld := hHx; clear hHx; (try simp only [Act.put, List.setIfInBounds_toArray, List.set_cons_zero, List.set_cons_succ])
  refine wpAnyH_take (i := 18) (oi := ⟨some 30, _, _, _, _, _⟩) (v := ?_) rfl (by kernel_rfl) (by kernel_rfl) (by kernel_rfl) (fun _ _ _ h => h) (Or.inl ⟨by rfl, ?hyt18⟩) (by assumption) ?_; (case hyt18 => ((intro W hSW; (try dsimp only at hSW); obtain ⟨hSW, hSW2⟩ := hSW; go_simp); (all_goals with_reducible rfl))); (try simp only [Act.put, List.setIfInBounds_toArray, List.set_cons_zero, List.set_cons_succ])
  refine wpAnyH_take (i := 19) (oi := ⟨some 31, _, _, _, _, _⟩) (v := ?_) rfl (by kernel_rfl) (by kernel_rfl) (by kernel_rfl) (fun _ _ _ h => h) (Or.inl ⟨by rfl, ?hyt19⟩) (by assumption) ?_; (case hyt19 => ((intro W hSW; (try dsimp only at hSW); obtain ⟨hSW, hSW2⟩ := hSW; go_simp); (all_goals with_reducible rfl))); (try simp only [Act.put, List.setIfInBounds_toArray, List.set_cons_zero, List.set_cons_succ])
  refine wpAnyH_ready (rs := [21]) (by kernel_rfl) (by simp) ?_; refine AllReadyH.cons (o := ⟨some 33, _, _, _, _, _⟩) rfl (fun K hK => ?_) AllReadyH.nil; go_simp
  go_at_call 41
  refine (O4.out _ (E2.out _ C7)).mono ?_; rintro e v8 ⟨rfl, hb8⟩
  have C8 := C7.trans (hb8.mono C7.size)
  clear hb8
  (try go_simp); refine hK.out _ _ (E.out _ C8) (fun hHx => ?_); clear hK K hHeld; have hHeld := hHx; clear hHx; (try simp only [Act.put, List.setIfInBounds_toArray, List.set_cons_zero, List.set_cons_succ])
  refine wpAnyH_ready (rs := [22]) (by kernel_rfl) (by simp) ?_; refine AllReadyH.cons (o := ⟨some 34, _, _, _, _, _⟩) rfl (fun K hK => ?_) AllReadyH.nil; go_simp
  go_at_call 77
  refine (D4.out _).mono ?_; rintro e v9 ⟨rfl, hb9⟩
  have C9 := C8.trans (hb9.mono C8.size)
  clear hb9
  (try go_simp); refine hK.out _ _ (E.out _ C9) (fun hHx => ?_); clear hK K hHeld; have hHeld := hHx; clear hHx; (try simp only [Act.put, List.setIfInBounds_toArray, List.set_cons_zero, List.set_cons_succ])
  refine wpAnyH_take (i := 23) (oi := ⟨some 35, _, _, _, _, _⟩) (v := ?_) rfl (by kernel_rfl) (by kernel_rfl) (by kernel_rfl) (fun _ _ _ h => h) (Or.inl ⟨by rfl, ?hyt23⟩) (by assumption) ?_; (case hyt23 => ((intro W hSW; (try dsimp only at hSW); obtain ⟨hSW, hSW2⟩ := hSW; go_simp); (all_goals with_reducible rfl))); (try simp only [Act.put, List.setIfInBounds_toArray, List.set_cons_zero, List.set_cons_succ])
  refine wpAnyH_take (i := 24) (oi := ⟨some 36, _, _, _, _, _⟩) (v := ?_) rfl (by kernel_rfl) (by kernel_rfl) (by kernel_rfl) (fun _ _ _ h => h) (Or.inl ⟨by rfl, ?hyt24⟩) (by assumption) ?_; (case hyt24 => ((intro W hSW; (try dsimp only at hSW); obtain ⟨hSW, hSW2⟩ := hSW; go_simp); (all_goals with_reducible rfl))); (try simp only [Act.put, List.setIfInBounds_toArray, List.set_cons_zero, List.set_cons_succ])
  refine wpAnyH_ready (rs := [26]) (by kernel_rfl) (by simp) ?_; refine AllReadyH.cons (o := ⟨some 38, _, _, _, _, _⟩) rfl (fun K hK => ?_) AllReadyH.nil; go_simp
  go_at_call 77
  refine (D5.out _).mono ?_; rintro e v10 ⟨rfl, hb10⟩
  have C10 := C9.trans (hb10.mono C9.size)
  clear hb10
  (try go_simp); refine hK.out _ _ (E.out _ C10) (fun hHx => ?_); clear hK K hHeld; have hHeld := hHx; clear hHx; (try simp only [Act.put, List.setIfInBounds_toArray, List.set_cons_zero, List.set_cons_succ])
  refine wpAnyH_take (i := 27) (oi := ⟨some 39, _, _, _, _, _⟩) (v := ?_) rfl (by kernel_rfl) (by kernel_rfl) (by kernel_rfl) (fun _ _ _ h => h) (Or.inl ⟨by rfl, ?hyt27⟩) (by assumption) ?_; (case hyt27 => ((intro W hSW; (try dsimp only at hSW); obtain ⟨hSW, hSW2⟩ := hSW; go_simp); (all_goals with_reducible rfl))); (try simp only [Act.put, List.setIfInBounds_toArray, List.set_cons_zero, List.set_cons_succ])
  refine wpAnyH_take (i := 28) (oi := ⟨some 40, _, _, _, _, _⟩) (v := ?_) rfl (by kernel_rfl) (by kernel_rfl) (by kernel_rfl) (fun _ _ _ h => h) (Or.inl ⟨by rfl, ?hyt28⟩) (by assumption) ?_; (case hyt28 => ((intro W hSW; (try dsimp only at hSW); obtain ⟨hSW, hSW2⟩ := hSW; go_simp); (all_goals with_reducible rfl))); (try simp only [Act.put, List.setIfInBounds_toArray, List.set_cons_zero, List.set_cons_succ])
  refine wpAnyH_ready (rs := [30]) (by kernel_rfl) (by simp) ?_; refine AllReadyH.cons (o := ⟨some 42, _, _, _, _, _⟩) rfl (fun K hK => ?_) AllReadyH.nil; go_simp
  go_at_call 41
  refine (O6.out _ (E2.out _ C10)).mono ?_; rintro e v11 ⟨rfl, hb11⟩
  have C11 := C10.trans (hb11.mono C10.size)
  clear hb11
  (try go_simp); refine hK.out _ _ (E.out _ C11) (fun hHx => ?_); clear hK K hHeld; have hHeld := hHx; clear hHx; (try simp only [Act.put, List.setIfInBounds_toArray, List.set_cons_zero, List.set_cons_succ])
  refine wpAnyH_ready (rs := [31]) (by kernel_rfl) (by simp) ?_; refine AllReadyH.cons (o := ⟨some 43, _, _, _, _, _⟩) rfl (fun K hK => ?_) AllReadyH.nil; go_simp
  go_at_call 77
  refine (D6.out _).mono ?_; rintro e v12 ⟨rfl, hb12⟩
  have C12 := C11.trans (hb12.mono C11.size)
  clear hb12
  (try go_simp); refine hK.out _ _ (E.out _ C12) (fun hHx => ?_); clear hK K hHeld; have hHeld := hHx; clear hHx; (try simp only [Act.put, List.setIfInBounds_toArray, List.set_cons_zero, List.set_cons_succ])
  refine wpAnyH_take (i := 32) (oi := ⟨some 44, _, _, _, _, _⟩) (v := ?_) rfl (by kernel_rfl) (by kernel_rfl) (by kernel_rfl) (fun _ _ _ h => h) (Or.inl ⟨by rfl, ?hyt32⟩) (by assumption) ?_; (case hyt32 => ((intro W hSW; (try dsimp only at hSW); obtain ⟨hSW, hSW2⟩ := hSW; go_simp); (all_goals with_reducible rfl))); (try simp only [Act.put, List.setIfInBounds_toArray, List.set_cons_zero, List.set_cons_succ])
  refine wpAnyH_take (i := 33) (oi := ⟨some 45, _, _, _, _, _⟩) (v := ?_) rfl (by kernel_rfl) (by kernel_rfl) (by kernel_rfl) (fun _ _ _ h => h) (Or.inl ⟨by rfl, ?hyt33⟩) (by assumption) ?_; (case hyt33 => ((intro W hSW; (try dsimp only at hSW); obtain ⟨hSW, hSW2⟩ := hSW; go_simp); (all_goals with_reducible rfl))); (try simp only [Act.put, List.setIfInBounds_toArray, List.set_cons_zero, List.set_cons_succ])
  refine wpAnyH_ready (rs := [35]) (by kernel_rfl) (by simp) ?_; refine AllReadyH.cons (o := ⟨some 47, _, _, _, _, _⟩) rfl (fun K hK => ?_) AllReadyH.nil; go_simp
  go_at_call 48
  refine (O7.out _ (E2.out _ C12)).mono ?_; rintro e v13 ⟨rfl, hb13⟩
  have C13 := C12.trans (hb13.mono C12.size)
  clear hb13
  (try go_simp); refine hK.out _ _ (E.out _ C13) (fun hHx => ?_); clear hK K hHeld; have hHeld := hHx; clear hHx; (try simp only [Act.put, List.setIfInBounds_toArray, List.set_cons_zero, List.set_cons_succ])
  refine wpAnyH_ready (rs := [36]) (by kernel_rfl) (by simp) ?_; refine AllReadyH.cons (o := ⟨some 48, _, _, _, _, _⟩) rfl (fun K hK => ?_) AllReadyH.nil; go_simp
  go_at_call 77
  refine (D7.out _).mono ?_; rintro e v14 ⟨rfl, hb14⟩
  have C14 := C13.trans (hb14.mono C13.size)
  clear hb14
  (try go_simp); refine hK.out _ _ (E.out _ C14) (fun hHx => ?_); clear hK K hHeld; have hHeld := hHx; clear hHx; (try simp only [Act.put, List.setIfInBounds_toArray, List.set_cons_zero, List.set_cons_succ])
  refine wpAnyH_take (i := 37) (oi := ⟨some 49, _, _, _, _, _⟩) (v := ?_) rfl (by kernel_rfl) (by kernel_rfl) (by kernel_rfl) (fun _ _ _ h => h) (Or.inl ⟨by rfl, ?hyt37⟩) (by assumption) ?_; (case hyt37 => ((intro W hSW; (try dsimp only at hSW); obtain ⟨hSW, hSW2⟩ := hSW; go_simp); (all_goals with_reducible rfl))); (try simp only [Act.put, List.setIfInBounds_toArray, List.set_cons_zero, List.set_cons_succ])
  refine wpAnyH_take (i := 38) (oi := ⟨some 50, _, _, _, _, _⟩) (v := ?_) rfl (by kernel_rfl) (by kernel_rfl) (by kernel_rfl) (fun _ _ _ h => h) (Or.inl ⟨by rfl, ?hyt38⟩) (by assumption) ?_; (case hyt38 => ((intro W hSW; (try dsimp only at hSW); obtain ⟨hSW, hSW2⟩ := hSW; go_simp); (all_goals with_reducible rfl))); (try simp only [Act.put, List.setIfInBounds_toArray, List.set_cons_zero, List.set_cons_succ])
  refine wpAnyH_ready (rs := [40]) (by kernel_rfl) (by simp) ?_; refine AllReadyH.cons (o := ⟨some 52, _, _, _, _, _⟩) rfl (fun K hK => ?_) AllReadyH.nil; go_simp
  go_at_call 48
  refine (O8.out _ (E2.out _ C14)).mono ?_; rintro e v15 ⟨rfl, hb15⟩
  have C15 := C14.trans (hb15.mono C14.size)
  clear hb15
  (try go_simp); refine hK.out _ _ (E.out _ C15) (fun hHx => ?_); clear hK K hHeld; have hHeld := hHx; clear hHx; (try simp only [Act.put, List.setIfInBounds_toArray, List.set_cons_zero, List.set_cons_succ])
  refine wpAnyH_ready (rs := [41]) (by kernel_rfl) (by simp) ?_; refine AllReadyH.cons (o := ⟨some 53, _, _, _, _, _⟩) rfl (fun K hK => ?_) AllReadyH.nil; go_simp
  go_at_call 77
  refine (D8.out _).mono ?_; rintro e v16 ⟨rfl, hb16⟩
  have C16 := C15.trans (hb16.mono C15.size)
  clear hb16
  (try go_simp); refine hK.out _ _ (E.out _ C16) (fun hHx => ?_); clear hK K hHeld; have hHeld := hHx; clear hHx; (try simp only [Act.put, List.setIfInBounds_toArray, List.set_cons_zero, List.set_cons_succ])
  refine wpAnyH_take (i := 42) (oi := ⟨some 54, _, _, _, _, _⟩) (v := ?_) rfl (by kernel_rfl) (by kernel_rfl) (by kernel_rfl) (fun _ _ _ h => h) (Or.inl ⟨by rfl, ?hyt42⟩) (by assumption) ?_; (case hyt42 => ((intro W hSW; (try dsimp only at hSW); obtain ⟨hSW, hSW2⟩ := hSW; go_simp); (all_goals with_reducible rfl))); (try simp only [Act.put, List.setIfInBounds_toArray, List.set_cons_zero, List.set_cons_succ])
  refine wpAnyH_take (i := 43) (oi := ⟨some 55, _, _, _, _, _⟩) (v := ?_) rfl (by kernel_rfl) (by kernel_rfl) (by kernel_rfl) (fun _ _ _ h => h) (Or.inl ⟨by rfl, ?hyt43⟩) (by assumption) ?_; (case hyt43 => ((intro W hSW; (try dsimp only at hSW); obtain ⟨hSW, hSW2⟩ := hSW; go_simp); (all_goals with_reducible rfl))); (try simp only [Act.put, List.setIfInBounds_toArray, List.set_cons_zero, List.set_cons_succ])
  refine wpAnyH_ready (rs := [45]) (by kernel_rfl) (by simp) ?_; refine AllReadyH.cons (o := ⟨some 57, _, _, _, _, _⟩) rfl (fun K hK => ?_) AllReadyH.nil; go_simp
  go_at_call 77
  refine (D9.out _).mono ?_; rintro e v17 ⟨rfl, hb17⟩
  have C17 := C16.trans (hb17.mono C16.size)
  clear hb17
  (try go_simp); refine hK.out _ _ (E.out _ C17) (fun hHx => ?_); clear hK K hHeld; have hHeld := hHx; clear hHx; (try simp only [Act.put, List.setIfInBounds_toArray, List.set_cons_zero, List.set_cons_succ])
  refine wpAnyH_take (i := 46) (oi := ⟨some 58, _, _, _, _, _⟩) (v := ?_) rfl (by kernel_rfl) (by kernel_rfl) (by kernel_rfl) (fun _ _ _ h => h) (Or.inl ⟨by rfl, ?hyt46⟩) (by assumption) ?_; (case hyt46 => ((intro W hSW; (try dsimp only at hSW); obtain ⟨hSW, hSW2⟩ := hSW; go_simp); (all_goals with_reducible rfl))); (try simp only [Act.put, List.setIfInBounds_toArray, List.set_cons_zero, List.set_cons_succ])
  refine wpAnyH_take (i := 47) (oi := ⟨some 4, _, _, _, _, _⟩) (v := ?_) rfl (by kernel_rfl) (by kernel_rfl) (by kernel_rfl) (fun _ _ _ h => h) (Or.inl ⟨by rfl, ?hyt47⟩) (by assumption) ?_; (case hyt47 => ((intro W hSW; (try dsimp only at hSW); obtain ⟨hSW, hSW2⟩ := hSW; go_simp); (all_goals with_reducible rfl))); (try simp only [Act.put, List.setIfInBounds_toArray, List.set_cons_zero, List.set_cons_succ])
  refine wpAnyH_done (by kernel_rfl) ?_ _
  go_wp2_with fail
  go_ret
  refine ⟨?_, B2.trans (C17.mono B2.size)⟩
  have g19 := h19.out; clear h19 k19; subst g19
  have g18 := h18.out; clear h18 k18; subst g18
  have g17 := h17.out; clear h17 k17; subst g17
  have g16 := h16.out; clear h16 k16; subst g16
  have g15 := h15.out; clear h15 k15; subst g15
  have g14 := h14.out; clear h14 k14; subst g14
  have g13 := h13.out; clear h13 k13; subst g13
  have g12 := h12.out; clear h12 k12; subst g12
  have g11 := h11.out; clear h11 k11; subst g11
  have g10 := h10.out; clear h10 k10; subst g10
  have g9 := h9.out; clear h9 k9; subst g9
  have g8 := h8.out; clear h8 k8; subst g8
  have g7 := h7.out; clear h7 k7; subst g7
  have g6 := h6.out; clear h6 k6; subst g6
  have g5 := h5.out; clear h5 k5; subst g5
  have g4 := h4.out; clear h4 k4; subst g4
  have g3 := h3.out; clear h3 k3; subst g3
  have g2 := h2.out; clear h2 k2; subst g2
  have g1 := h1.out; clear h1 k1; subst g1
  have g0 := hd0.out; clear hd0 D0; subst g0
  have g1 := hd1.out; clear hd1 D1; subst g1
  have g2 := hd2.out; clear hd2 D2; subst g2
  have g3 := hd3.out; clear hd3 D3; subst g3
  have g4 := hd4.out; clear hd4 D4; subst g4
  have g5 := hd5.out; clear hd5 D5; subst g5
  have g6 := hd6.out; clear hd6 D6; subst g6
  have g7 := hd7.out; clear hd7 D7; subst g7
  have g8 := hd8.out; clear hd8 D8; subst g8
  have g9 := hd9.out; clear hd9 D9; subst g9
  show Ending.returned (.string _) = Ending.returned (.string _)
  congr 2
  apply ByteArray.ext
  simp [ByteArray.data_append]
end Go.Proofs.YtdmpopdacbdnlaaDoor
