/- The walk of StatsBuckets. -/
import Derived.Test.YtdmpopdacbdnlaaDoorStAwake
import Derived.Test.YtdmpopdacbdnlaaDoorStG
import Derived.Test.YtdmpopdacbdnlaaDoorOpenG
import Derived.Test.YtdmpopdacbdnlaaDoorChecked
import Derived.Test.YtdmpopdacbdnlaaDoorRows
namespace Go.Proofs.YtdmpopdacbdnlaaDoor
open Go.RowKit
set_option linter.unusedVariables false
set_option linter.unusedSimpArgs false
set_option maxHeartbeats 4000000
set_option maxRecDepth 20000
theorem mayB_late (z : Int) : mayB (lateR z) = decide (0 ≤ z) := by
  have e : eqRec (onlyOf (lateR z)) (lateR z) = true := (eqRec_iff _ _).2 rfl
  have k : kindB (lateR z).kind = true := by show kindB 31 = true; decide
  unfold mayB
  rw [e, k, Bool.true_and, Bool.true_and]
  exact decide_eq_decide.2 ⟨fun h => h.2.2.2.1, fun h => ⟨by show (0 : Int) ≤ 0; omega, by show (0 : Int) < 8; omega, by show (0 : Int) ≤ 0; omega, h, by show (0 : Int) ≤ 0; omega, by show (0 : Int) ≤ 255; omega, by show ([] : List UInt8).length ≤ 240; simp⟩⟩
/-- what is seen of so many numbers -/
def seenB (zs : List Int) : List Rec := (zs.filter fun z => decide (0 ≤ z)).map lateR
def mxB (zs : List Int) : Int := zs.foldl (fun m z => if 0 ≤ z then max m z else m) 0
theorem seenB_snoc (zs : List Int) (z : Int) : seenB (zs ++ [z]) = if 0 ≤ z then seenB zs ++ [lateR z] else seenB zs := by
  unfold seenB
  rw [List.filter_append]
  by_cases h : 0 ≤ z <;> simp [h]
theorem mxB_snoc (zs : List Int) (z : Int) : mxB (zs ++ [z]) = if 0 ≤ z then max (mxB zs) z else mxB zs := by simp [mxB]
theorem seenB_len (zs : List Int) : (seenB zs).length ≤ zs.length := by unfold seenB; rw [List.length_map]; exact List.length_filter_le _ _
theorem mxB_in (zs : List Int) (h : ∀ z ∈ zs, z ≤ 9223372036854775807) : 0 ≤ mxB zs ∧ mxB zs ≤ 9223372036854775807 ∧ ∀ r ∈ seenB zs, r.num ≤ mxB zs := by
  have key : ∀ (zs : List Int) (m : Int), (∀ z ∈ zs, z ≤ 9223372036854775807) → 0 ≤ m → m ≤ 9223372036854775807 → let M := zs.foldl (fun m z => if 0 ≤ z then max m z else m) m; m ≤ M ∧ M ≤ 9223372036854775807 ∧ ∀ z ∈ zs, 0 ≤ z → z ≤ M := by
    intro zs
    induction zs with
    | nil => intro m _ h0 h1; simp; omega
    | cons z zs ih =>
      intro m hz h0 h1
      have hz0 := hz z (by simp)
      simp only [List.foldl_cons]
      have := ih (if 0 ≤ z then max m z else m) (fun y hy => hz y (by simp [hy])) (by split <;> omega) (by split <;> omega)
      simp only at this
      refine ⟨by have := this.1; split at this <;> omega, this.2.1, fun y hy hy0 => ?_⟩
      rcases List.mem_cons.1 hy with rfl | hy
      · have := this.1; rw [if_pos hy0] at this; omega
      · exact this.2.2 y hy hy0
  have := key zs 0 h (by omega) (by omega)
  refine ⟨this.1, this.2.1, fun r hr => ?_⟩
  obtain ⟨z, hz, rfl⟩ := List.mem_map.1 hr
  rw [List.mem_filter] at hz
  exact this.2.2 z hz.1 (by simpa using hz.2)
theorem kcount_seenB (zs : List Int) : kcount (seenB zs) 31 = (seenB zs).length := by
  unfold kcount
  rw [List.filter_eq_self.2]
  intro r hr
  obtain ⟨z, hz, rfl⟩ := List.mem_map.1 hr
  rfl
theorem seenB_num (zs : List Int) (h : ∀ z ∈ zs, z ≤ 9223372036854775807) : ∀ r ∈ seenB zs, r.num ≤ 9223372036854775807 := by
  intro r hr
  obtain ⟨z, hz, rfl⟩ := List.mem_map.1 hr
  exact h z (List.mem_filter.1 hz).1
theorem most_seenB (zs : List Int) (h : ∀ z ∈ zs, z ≤ 9223372036854775807) : mxB zs ≤ mostP (seenB zs) 100 := by
  have hm : mxB zs = 0 ∨ ∃ r ∈ seenB zs, r.num = mxB zs := by
    have key : ∀ (zs : List Int) (m : Int), let M := zs.foldl (fun m z => if 0 ≤ z then max m z else m) m; M = m ∨ ∃ z ∈ zs, 0 ≤ z ∧ z = M := by
      intro zs
      induction zs with
      | nil => intro m; simp
      | cons z zs ih =>
        intro m
        simp only [List.foldl_cons]
        rcases ih (if 0 ≤ z then max m z else m) with e | ⟨y, hy, hy0, e⟩
        · by_cases hz : 0 ≤ z
          · rw [if_pos hz] at e
            by_cases hmz : m ≤ z
            · right; exact ⟨z, by simp, hz, by rw [if_pos hz, e]; omega⟩
            · left; rw [if_pos hz, e]; omega
          · left; rw [if_neg hz] at e; rw [if_neg hz]; exact e
        · right; exact ⟨y, by simp [hy], hy0, e⟩
    rcases key zs 0 with e | ⟨z, hz, hz0, e⟩
    · exact .inl e
    · exact .inr ⟨lateR z, List.mem_map.2 ⟨z, List.mem_filter.2 ⟨hz, by simpa using hz0⟩, rfl⟩, e⟩
  rcases hm with e | ⟨r, hr, e⟩
  · rw [e]; exact (mostP_in _ _).1
  · rw [← e]
    refine most_all _ (seenB_num zs h) r hr ?_
    obtain ⟨z, hz, rfl⟩ := List.mem_map.1 hr
    rfl
theorem statsBuckets_walk (a : Option Addr) (len cap : Nat) (zs0 : List Int) (x : Int) (hx : 0 ≤ x ∧ x ≤ 255) (y : Int) (hy : 0 ≤ y ∧ y ≤ 255) (w : World) (h0 : IsRow .i64 w a len cap zs0) (hK0 : KeptS w) :
    Calls Tryd.prog 7 #[.slice a len cap, .int .u8 x, .int .u8 y] w fun e w' => e = .returned (.bool true) ∧ Below w.heap.size w w' := by
  have hR := h0.row
  generalize zs0.take len = zs at hR
  clear h0
  have hll := hR.length
  have hsm := hR.small
  unfold maxLen at hsm
  have hrg : ∀ z ∈ zs, -9223372036854775808 ≤ z ∧ z ≤ 9223372036854775807 := fun z hz => bounds_i64 (hR.wf z hz)
  replace hR := Lib.hid hR
  replace hK0 := Lib.hid hK0
  replace hrg := Lib.hid hrg
  go_enter Tryd.func7, Tryd.ntmps7
  go_wp2_with fail
  refine (sawake_any w hK0.out).mono ?_; rintro e w1 ⟨rfl, B1⟩
  by_cases h80 : 80 < len
  · go_wp2_with fail
    go_ret
    exact ⟨rfl, B1⟩
  go_wp2_with fail
  refine (snew_any w1).mono ?_; rintro e w2 ⟨rfl, hS2, hb2⟩
  have B2 := B1.trans (hb2.mono B1.size)
  have zg := B1.size
  have zg2 := hb2.size
  have tb : ∀ W W' : World, Below w.heap.size w W → Turn (fun k => k = w1.heap.size) W W' → Below w.heap.size w W' := fun W W' hb t => hb.trans (t.below hb.size (fun k hk => by omega))
  replace tb := Lib.hid tb
  clear hb2 B1
  generalize hg : w1.heap.size = g at *
  go_wp2_with fail
  go_loopw [9, 10, 11] (fun n m i wr => ∃ j : Nat, j ≤ len ∧ i = .int .i64 (j : Int) ∧ n = .int .i64 ((seenB (zs.take j)).length : Int) ∧ m = .int .i64 (mxB (zs.take j)) ∧ Hid (StAt wr g 0 (seenB (zs.take j))) ∧ Below w.heap.size w wr) (fun n m i wr => len - (intOf i).toNat)
  case atStart => exact ⟨0, Nat.zero_le _, rfl, rfl, rfl, Lib.hid hS2, B2⟩
  case round =>
    obtain ⟨j, hj, rfl, rfl, rfl, hS, hB⟩ := hrel
    have zr := hB.size
    by_cases hlt : j < len
    · rcases hR.out.at_ with h0 | ⟨b, off, rfl, hbl, hc⟩
      · omega
      have r0 := (hB.cell (p := ⟨b, off + j, none⟩) hbl).trans (hc j hlt)
      have hbr := Nat.lt_of_lt_of_le hbl zr
      have hmem : zs.getD j 0 ∈ zs := by simp [List.getD, show j < zs.length from by omega]
      have hz := hrg.out _ hmem
      have htk : zs.take (j + 1) = zs.take j ++ [zs.getD j 0] := by rw [List.take_succ_eq_append_getElem (by omega)]; simp [List.getD, show j < zs.length from by omega]
      have hs1 := seenB_snoc (zs.take j) (zs.getD j 0)
      have hm1 := mxB_snoc (zs.take j) (zs.getD j 0)
      rw [← htk] at hs1 hm1
      have hle := seenB_len (zs.take j)
      have htl : (zs.take j).length ≤ j := by rw [List.length_take]; omega
      have hmi := mxB_in (zs.take j) (fun z hz => (hrg.out z (List.mem_of_mem_take hz)).2)
      replace hmi := And.intro hmi.1 hmi.2.1
      have hml := mayB_late (zs.getD j 0)
      generalize zs.getD j 0 = z at *
      have hlen : (seenB (zs.take j)).length ≤ 100000 := by omega
      generalize hsq : seenB (zs.take (j + 1)) = sn at *
      generalize hmq : mxB (zs.take (j + 1)) = mn at *
      generalize seenB (zs.take j) = so at *
      generalize mxB (zs.take j) = mo at *
      have HL := Lib.hid (late_any z wr)
      have HS := Lib.hid (fun W (h : StAt W g 0 so) (hK : KeptS W) => see_any g 0 so (lateR z) W h (lateR_ok z hz) hK.forms hlen)
      rw [hml] at HS
      replace hsq := Lib.hid hsq
      replace hmq := Lib.hid hmq
      replace hs1 := Lib.hid hs1
      replace hm1 := Lib.hid hm1
      clear hml htk hc hmem
      have hlt' : (j : Int) < (len : Int) := by omega
      go_wp2_with fail
      refine HL.out.mono ?_; rintro e w4 ⟨rfl, hb4⟩
      have B4 := hB.trans (hb4.mono zr)
      have hS4 := Lib.hid (hS.out.below hb4)
      have r4 := (hb4.cell (p := ⟨b, off + j, none⟩) hbr).trans r0
      have hb4' := Nat.lt_of_lt_of_le hbr hb4.size
      clear hb4 r0
      go_wp2_with fail
      refine (HS.out _ hS4.out (hK0.out.below B4)).mono ?_; rintro e w5 ⟨rfl, hS5, t5⟩
      have B5 := tb.out _ _ B4 t5
      have r5 := (t5.cell (p := ⟨b, off + j, none⟩) hb4' (fun e => by simp at e; omega)).trans r4
      have hb5' := Nat.lt_of_lt_of_le hb4' t5.size
      replace hS5 := Lib.hid hS5
      clear t5 HS HL hS4 hS r4
      by_cases hz0 : 0 ≤ z
      · have hs2 := hs1.out
        have hm2 := hm1.out
        have hS6 := hS5.out
        rw [if_pos hz0] at hs2 hm2
        rw [if_pos (by simpa using hz0)] at hS6
        rw [← hs2] at hS6
        have hl2 : sn.length = so.length + 1 := by rw [hs2]; simp
        replace hS6 := Lib.hid hS6
        replace hs2 := Lib.hid hs2
        clear hS5
        by_cases hmz : mo ≤ z
        · have hm3 : mn = z := by rw [hm2]; omega
          clear hm2
          subst hm3
          go_wp2_with fail
          go_roundw
          case rel => exact ⟨j + 1, by omega, by go_num, by rw [hsq.out, hl2]; go_num, by rw [hmq.out] <;> go_num, by rw [hsq.out]; exact hS6, B5⟩
          case measure => simp [intOf]; omega
        · have hm3 : mn = mo := by rw [hm2]; omega
          clear hm2
          subst hm3
          go_wp2_with fail
          go_roundw
          case rel => exact ⟨j + 1, by omega, by go_num, by rw [hsq.out, hl2]; go_num, by rw [hmq.out] <;> go_num, by rw [hsq.out]; exact hS6, B5⟩
          case measure => simp [intOf]; omega
      · have hs2 := hs1.out
        have hm2 := hm1.out
        have hS6 := hS5.out
        rw [if_neg hz0] at hs2 hm2
        rw [if_neg (by simpa using hz0)] at hS6
        subst hs2
        subst hm2
        replace hS6 := Lib.hid hS6
        clear hS5
        go_wp2_with fail
        go_roundw
        case rel => exact ⟨j + 1, by omega, by go_num, by rw [hsq.out], by rw [hmq.out], by rw [hsq.out]; exact hS6, B5⟩
        case measure => simp [intOf]; omega
    · have : j = len := by omega
      subst this
      have e : zs.take j = zs := List.take_of_length_le (by omega)
      rw [e] at hS ⊢
      have hlt2 : ¬ ((j : Int) < (j : Int)) := by omega
      have hnum : ∀ r ∈ seenB zs, r.num ≤ 9223372036854775807 := seenB_num zs (fun z hz => (hrg.out z hz).2)
      have hL1 : belowB (seenB zs) 64 = ((seenB zs).length : Int) := by rw [belowB_all _ hnum, kcount_seenB]
      have hL2 := kcount_seenB zs
      have hM0 := mxB_in zs (fun z hz => (hrg.out z hz).2)
      have hM1 := most_seenB zs (fun z hz => (hrg.out z hz).2)
      have hM2 : 0 < mxB zs → mostP (seenB zs) 100 / 2 < mxB zs := fun h => most_tight _ hnum _ h (fun r hr _ => hM0.2.2 r hr)
      have hMg := Lib.hid (fun x y (h0 : (0 : Int) ≤ x) (h1 : x ≤ y) (h2 : y ≤ 100) => mostP_grows (seenB zs) hnum x y h0 h1 h2)
      have hLl := seenB_len zs
      generalize seenB zs = L at *
      generalize mxB zs = M at *
      replace hM0 := And.intro hM0.1 hM0.2.1
      have hLL : L.length ≤ 100000 := by omega
      have HBk := Lib.hid (fun k => bucket_any g 0 L k wr hS.out)
      have HMo := Lib.hid (fun p => most_any g 0 L p wr hS.out hLL)
      have HOf := Lib.hid (of_any g 0 L 31 (by omega) wr hS.out)
      rw [hL2] at HOf
      replace hL1 := Lib.hid hL1
      replace hM2 := Lib.hid hM2
      replace hM1 := Lib.hid hM1
      go_wp2_with fail
      go_loopw [12, 13] (fun s k wi => ∃ k' : Nat, k' ≤ 64 ∧ k = .int .i64 (k' : Int) ∧ s = .int .i64 (belowB L k') ∧ wi = wr) (fun s k wi => 64 - (intOf k).toNat)
      case atStart => exact ⟨0, Nat.zero_le _, rfl, rfl, rfl⟩
      case round =>
        obtain ⟨k, hk, rfl, rfl, rfl⟩ := hrel
        have hbb := belowB_le L k
        have hkl : (k : Int) * (L.length : Int) ≤ 64 * 100000 := by
          have : k * L.length ≤ 64 * 100000 := Nat.mul_le_mul hk hLL
          have e : (k : Int) * (L.length : Int) = ((k * L.length : Nat) : Int) := (Int.natCast_mul _ _).symm
          rw [e]; omega
        by_cases hlt : k < 64
        · have hbc := bcount_le L k
          have hst : belowB L k + (bcount L k : Int) = belowB L (k + 1) := rfl
          have hbk : bkI L (k : Int) = (bcount L k : Int) := by unfold bkI; rw [if_pos (by omega), Int.toNat_natCast]
          have hw1 : IntKind.i64.wrap (belowB L k + (bcount L k : Int)) = belowB L (k + 1) := by rw [← hst]; exact IntWalk.i64_in _ (by omega)
          have HB1 := Lib.hid (HBk.out (k : Int))
          rw [hbk] at HB1
          clear hbk hst
          generalize hb1 : belowB L (k + 1) = b1 at *
          replace hb1 := Lib.hid hb1
          generalize belowB L k = b0 at *
          generalize bcount L k = bn at *
          have hlt' : (k : Int) < 64 := by omega
          go_wp2_with fail
          refine HB1.out.mono ?_; rintro e w7 ⟨rfl, rfl⟩
          go_wp2_with fail
          go_roundw
          case rel => exact ⟨k + 1, by omega, by go_num, by rw [hb1.out], trivial⟩
          case measure => simp [intOf]; omega
        · have : k = 64 := by omega
          subst this
          rw [hL1.out]
          clear hbb hkl
          have hlt3 : ¬ ((64 : Int) < 64) := by omega
          by_cases hXY : max x y % 101 < min x y % 101
          · 
            have hP : mostP L (max x y % 101) ≤ mostP L (min x y % 101) := hMg.out _ _ (by omega) (by omega) (by omega)
            have H1 := Lib.hid (HMo.out 100)
            have H2 := Lib.hid (HMo.out (max x y % 101))
            have H3 := Lib.hid (HMo.out (min x y % 101))
            have hT0 := mostP_in L 100
            have hM1' := hM1.out
            have hM2' := hM2.out
            generalize mostP L (max x y % 101) = P1 at *
            generalize mostP L (min x y % 101) = P2 at *
            generalize mostP L 100 = T at *
            have htd : T.tdiv 2 = T / 2 := Int.tdiv_eq_ediv_of_nonneg hT0.1
            have hwt : IntKind.i64.wrap (T / 2) = T / 2 := IntWalk.i64_in _ (by omega)
            rcases (show M = 0 ∨ 0 < M by omega) with hMz | hMz
            · subst hMz
              go_wp2_with fail
              refine HOf.out.mono ?_; rintro e w7 ⟨rfl, rfl⟩
              go_wp2_with fail
              refine H1.out.mono ?_; rintro e w7 ⟨rfl, rfl⟩
              go_wp2_with fail
              refine H2.out.mono ?_; rintro e w7 ⟨rfl, rfl⟩
              go_wp2_with fail
              refine H3.out.mono ?_; rintro e w7 ⟨rfl, rfl⟩
              go_wp2_with fail
              all_goals (go_ret; exact ⟨by first | rfl | (simp; done) | (simp; omega), hB⟩)
            · have hM3 := hM2' hMz
              have hMb : (M == 0) = false := by rw [beq_eq_false_iff_ne]; omega
              clear hM2'
              go_wp2_with fail
              refine HOf.out.mono ?_; rintro e w7 ⟨rfl, rfl⟩
              go_wp2_with fail
              refine H1.out.mono ?_; rintro e w7 ⟨rfl, rfl⟩
              go_wp2_with fail
              refine H2.out.mono ?_; rintro e w7 ⟨rfl, rfl⟩
              go_wp2_with fail
              refine H3.out.mono ?_; rintro e w7 ⟨rfl, rfl⟩
              go_wp2_with fail
              refine H1.out.mono ?_; rintro e w7 ⟨rfl, rfl⟩
              go_wp2_with fail
              all_goals (go_ret; exact ⟨by first | rfl | (simp; done) | (simp; omega), hB⟩)
          · 
            have hP : mostP L (min x y % 101) ≤ mostP L (max x y % 101) := hMg.out _ _ (by omega) (by omega) (by omega)
            have H1 := Lib.hid (HMo.out 100)
            have H2 := Lib.hid (HMo.out (min x y % 101))
            have H3 := Lib.hid (HMo.out (max x y % 101))
            have hT0 := mostP_in L 100
            have hM1' := hM1.out
            have hM2' := hM2.out
            generalize mostP L (min x y % 101) = P1 at *
            generalize mostP L (max x y % 101) = P2 at *
            generalize mostP L 100 = T at *
            have htd : T.tdiv 2 = T / 2 := Int.tdiv_eq_ediv_of_nonneg hT0.1
            have hwt : IntKind.i64.wrap (T / 2) = T / 2 := IntWalk.i64_in _ (by omega)
            rcases (show M = 0 ∨ 0 < M by omega) with hMz | hMz
            · subst hMz
              go_wp2_with fail
              refine HOf.out.mono ?_; rintro e w7 ⟨rfl, rfl⟩
              go_wp2_with fail
              refine H1.out.mono ?_; rintro e w7 ⟨rfl, rfl⟩
              go_wp2_with fail
              refine H2.out.mono ?_; rintro e w7 ⟨rfl, rfl⟩
              go_wp2_with fail
              refine H3.out.mono ?_; rintro e w7 ⟨rfl, rfl⟩
              go_wp2_with fail
              all_goals (go_ret; exact ⟨by first | rfl | (simp; done) | (simp; omega), hB⟩)
            · have hM3 := hM2' hMz
              have hMb : (M == 0) = false := by rw [beq_eq_false_iff_ne]; omega
              clear hM2'
              go_wp2_with fail
              refine HOf.out.mono ?_; rintro e w7 ⟨rfl, rfl⟩
              go_wp2_with fail
              refine H1.out.mono ?_; rintro e w7 ⟨rfl, rfl⟩
              go_wp2_with fail
              refine H2.out.mono ?_; rintro e w7 ⟨rfl, rfl⟩
              go_wp2_with fail
              refine H3.out.mono ?_; rintro e w7 ⟨rfl, rfl⟩
              go_wp2_with fail
              refine H1.out.mono ?_; rintro e w7 ⟨rfl, rfl⟩
              go_wp2_with fail
              all_goals (go_ret; exact ⟨by first | rfl | (simp; done) | (simp; omega), hB⟩)
end Go.Proofs.YtdmpopdacbdnlaaDoor
