/- The walk of StatsOrder. -/
import Derived.Test.YtdmpopdacbdnlaaDoorStAwake
import Derived.Test.YtdmpopdacbdnlaaDoorStG
import Derived.Test.YtdmpopdacbdnlaaDoorRecOpen
import Derived.Test.YtdmpopdacbdnlaaDoorChecked
import Derived.Test.YtdmpopdacbdnlaaDoorRows
namespace Go.Proofs.YtdmpopdacbdnlaaDoor
open Go.RowKit
set_option linter.unusedVariables false
set_option linter.unusedSimpArgs false
set_option maxHeartbeats 4000000
set_option maxRecDepth 20000
theorem take_seen {l : List Rec} {j : Nat} (h : j < l.length) : seenL (l.take (j + 1)) = if mayB (l.getD j (Rec.zero 0)) = true then seenL (l.take j) ++ [l.getD j (Rec.zero 0)] else seenL (l.take j) := by
  rw [take_succ25 h, seenL_snoc]
theorem statsOrder_walk (q : Option Addr) (n c : Nat) (cs : List (List Value)) (tn : Int) (ht : 0 ≤ tn ∧ tn ≤ 255) (pa : Int) (hp : 0 ≤ pa ∧ pa ≤ 255) (w : World) (z : RowG 8 w q n cs) (y : ∀ c ∈ cs, OkAll [.int .u8, .int .i64, .int .u64, .int .i64, .int .i64, .int .i64, .bool, .str] c) (hK0 : KeptS w) :
    Calls Tryd.prog 8 #[.slice q n c, .int .u8 tn, .int .u8 pa] w fun e w' => e = .returned (.bool true) ∧ Below w.heap.size w w' := by
  obtain ⟨l, hR, hok⟩ := recs_of z y
  clear z y
  have hll : l.length = n := by have := hR.length; rw [List.length_map] at this; exact this
  obtain ⟨tm, rfl⟩ := Int.eq_ofNat_of_zero_le ht.1
  have HF := Lib.hid (fun W (h : RowG 8 W q n (l.map recVs)) => few25_any q n c l W h (fun r hr => (hok r hr).text))
  generalize hfv : few25 l = fv at *
  replace hfv := Lib.hid hfv
  replace hR := Lib.hid hR
  replace hok := Lib.hid hok
  replace hK0 := Lib.hid hK0
  go_enter Tryd.func8, Tryd.ntmps8
  go_wp2_with fail
  refine (sawake_any w hK0.out).mono ?_; rintro e w1 ⟨rfl, B1⟩
  go_wp2_with fail
  refine (HF.out _ (hR.out.below B1)).mono ?_; rintro e w1' ⟨rfl, rfl⟩
  cases fv with
  | false =>
    go_wp2_with fail
    go_ret
    exact ⟨rfl, B1⟩
  | true =>
    have h60 : n ≤ 60 := by
      have := hfv.out
      unfold few25 at this
      rw [Bool.and_eq_true, decide_eq_true_iff] at this
      omega
    go_wp2_with fail
    refine (snew_any _).mono ?_; rintro e w2 ⟨rfl, hS2, hb2⟩
    have B2 := B1.trans (hb2.mono B1.size)
    have zg := B1.size
    have zg2 := hS2.lt
    generalize hg : w1'.heap.size = g at *
    clear hb2 B1
    replace hS2 := Lib.hid hS2
    go_wp2_with fail
    refine (snew_any _).mono ?_; rintro e w3 ⟨rfl, hT3, hb3⟩
    have B3 := B2.trans (hb3.mono B2.size)
    have hS3 := Lib.hid (hS2.out.below hb3)
    have zg3 : g < w2.heap.size := zg2
    generalize hg2 : w2.heap.size = g2 at *
    have tb : ∀ W W' : World, Below w.heap.size w W → Turn (fun k => k = g) W W' → Below w.heap.size w W' := fun W W' hb t => hb.trans (t.below hb.size (fun k hk => by omega))
    have tb2 : ∀ W W' : World, Below w.heap.size w W → Turn (fun k => k = g2) W W' → Below w.heap.size w W' := fun W W' hb t => hb.trans (t.below hb.size (fun k hk => by omega))
    replace tb := Lib.hid tb
    replace tb2 := Lib.hid tb2
    replace hT3 := Lib.hid hT3
    clear hb3 B2
    have hgg : g ≠ g2 := by omega
    go_wp2_with fail
    go_loopw [11, 12] (fun m i wr => ∃ j : Nat, j ≤ n ∧ i = .int .i64 (j : Int) ∧ m = .int .i64 ((seenL (l.take j)).length : Int) ∧ Hid (StAt wr g 0 (seenL (l.take j))) ∧ Hid (StAt wr g2 0 (seenL ((rotL l tm).take j))) ∧ Below w.heap.size w wr) (fun m i wr => n - (intOf i).toNat)
    case atStart => exact ⟨0, Nat.zero_le _, rfl, rfl, hS3, hT3, B3⟩
    case round =>
      obtain ⟨j, hj, rfl, rfl, hS, hT, hB⟩ := hrel
      have zr := hB.size
      by_cases hlt : j < n
      · obtain ⟨b, off, rfl, hbl, hc⟩ := RowG.rec_ hR.out (by omega)
        have hmod : (j + tm) % n < n := Nat.mod_lt _ (by omega)
        have E : ∀ W, Below w.heap.size w W → RecAt W b (off + j * 8) (l.getD j (Rec.zero 0)) ∧ RecAt W b (off + (j + tm) % n * 8) (l.getD ((j + tm) % n) (Rec.zero 0)) := fun W hb => ⟨(hc j hlt).below hb hbl, (hc _ hmod).below hb hbl⟩
        replace E := Lib.hid E
        have hrg := rotL_get l tm j (by omega)
        rw [hll] at hrg
        have hk1 := hok.out (l.getD j (Rec.zero 0)) (by simp [List.getD, show j < l.length from by omega])
        have hk2 := hok.out (l.getD ((j + tm) % n) (Rec.zero 0)) (by simp [List.getD, show (j + tm) % n < l.length from by omega])
        have s1 := take_seen (l := l) (j := j) (by omega)
        have s2 := take_seen (l := rotL l tm) (j := j) (by rw [rotL_len]; omega)
        rw [hrg] at s2
        have hm1 : (seenL (l.take j)).length ≤ 100 := by
          have := seenL_le (l.take j)
          have : (l.take j).length ≤ j := by rw [List.length_take]; omega
          omega
        have hm2 : (seenL ((rotL l tm).take j)).length ≤ 100 := by
          have := seenL_le ((rotL l tm).take j)
          have : ((rotL l tm).take j).length ≤ j := by rw [List.length_take]; omega
          omega
        clear hc hrg
        have HMy := Lib.hid (fun W (hk : KeptS W) => may_any (l.getD j (Rec.zero 0)) W hk.forms hk1.text)
        generalize l.getD j (Rec.zero 0) = r1 at *
        generalize l.getD ((j + tm) % n) (Rec.zero 0) = r2 at *
        generalize hq1 : seenL (l.take (j + 1)) = n1 at *
        generalize hq2 : seenL ((rotL l tm).take (j + 1)) = n2 at *
        generalize seenL (l.take j) = o1 at *
        generalize seenL ((rotL l tm).take j) = o2 at *
        have HS1 := Lib.hid (fun W (h : StAt W g 0 o1) (hK : KeptS W) => see_any g 0 o1 r1 W h hk1 hK.forms (by omega))
        have HS2 := Lib.hid (fun W (h : StAt W g2 0 o2) (hK : KeptS W) => see_any g2 0 o2 r2 W h hk2 hK.forms (by omega))
        replace hq1 := Lib.hid hq1
        replace hq2 := Lib.hid hq2
        have hlt' : (j : Int) < (n : Int) := by omega
        have hnz : ((n : Int) == 0) = false := by rw [beq_eq_false_iff_ne]; omega
        have e4 : ((j : Int) + (tm : Int)) % (n : Int) = (((j + tm) % n : Nat) : Int) := by simp
        generalize hjm : (j + tm) % n = jm at *
        have hjm' : (jm : Int) < (n : Int) := by omega
        unfold recA at HS1 HS2 HMy
        obtain ⟨⟨a0, a1, a2, a3, a4, a5, a6, a7⟩, _⟩ := E.out _ hB
        go_wp2_with fail
        refine (HS1.out _ hS.out (hK0.out.below hB)).mono ?_; rintro e w4 ⟨rfl, hS4, t4⟩
        have B4 := tb.out _ _ hB t4
        have hT4 := Lib.hid (hT.out.turn t4 (fun e => hgg e.symm))
        rw [← s1] at hS4
        replace hS4 := Lib.hid hS4
        clear t4 a0 a1 a2 a3 a4 a5 a6 a7 hS hT
        obtain ⟨_, ⟨a0, a1, a2, a3, a4, a5, a6, a7⟩⟩ := E.out _ B4
        go_wp2_with fail
        refine (HS2.out _ hT4.out (hK0.out.below B4)).mono ?_; rintro e w5 ⟨rfl, hT5, t5⟩
        have B5 := tb2.out _ _ B4 t5
        have hS5 := Lib.hid (hS4.out.turn t5 hgg)
        rw [← s2] at hT5
        replace hT5 := Lib.hid hT5
        clear t5 a0 a1 a2 a3 a4 a5 a6 a7 hS4 hT4
        obtain ⟨⟨a0, a1, a2, a3, a4, a5, a6, a7⟩, _⟩ := E.out _ B5
        go_wp2_with fail
        refine (HMy.out _ (hK0.out.below B5)).mono ?_; rintro e w6 ⟨rfl, hb6⟩
        have B6 := B5.trans (hb6.mono B5.size)
        have hS6 := Lib.hid (hS5.out.below hb6)
        have hT6 := Lib.hid (hT5.out.below hb6)
        clear a0 a1 a2 a3 a4 a5 a6 a7 hS5 hT5 hb6 HS1 HS2 HMy
        cases hm : mayB r1 with
        | true =>
          rw [if_pos hm] at s1
          replace hm := Lib.hid hm
          have hl2 : n1.length = o1.length + 1 := by rw [s1]; simp
          replace s1 := Lib.hid s1
          replace s2 := Lib.hid s2
          go_wp2_with fail
          go_roundw
          case rel => exact ⟨j + 1, by omega, by go_num, by rw [hq1.out, hl2]; go_num, by rw [hq1.out]; exact hS6, by rw [hq2.out]; exact hT6, B6⟩
          case measure => simp [intOf]; omega
        | false =>
          rw [if_neg (by rw [hm]; simp)] at s1
          replace hm := Lib.hid hm
          replace s2 := Lib.hid s2
          subst s1
          go_wp2_with fail
          go_roundw
          case rel => exact ⟨j + 1, by omega, by go_num, by rw [hq1.out], by rw [hq1.out]; exact hS6, by rw [hq2.out]; exact hT6, B6⟩
          case measure => simp [intOf]; omega
      · have : j = n := by omega
        subst this
        rw [List.take_of_length_le (by omega)] at hS ⊢
        rw [List.take_of_length_le (by rw [rotL_len]; omega)] at hT
        have hperm : (seenL (rotL l tm)).Perm (seenL l) := seenL_perm (rotL_perm l tm)
        have hk := fun k => kcount_perm hperm k
        have hbc := fun k => bcount_perm hperm k
        have hmp := fun p => mostP_perm hperm p
        have hl1 := seenL_le l
        have hl2 := hperm.length_eq
        have hsk := sumK_all (seenL l)
        generalize seenL l = L1 at *
        generalize seenL (rotL l tm) = L2 at *
        have HO1 := Lib.hid (fun k hk => of_any g 0 L1 k hk wr hS.out)
        have HO2 : Hid (∀ k : Nat, k < 256 → Calls Tryd.prog 40 #[.pointer (some ⟨g2, 0, none⟩), .int .u8 (k : Int)] wr fun e w' => e = .returned (.int .i64 (kcount L1 k : Int)) ∧ w' = wr) := Lib.hid (fun k hkk => by rw [← hk k]; exact of_any g2 0 L2 k hkk wr hT.out)
        have hbk : ∀ k, bkI L2 k = bkI L1 k := fun k => by unfold bkI; rw [hbc]
        have HB1 := Lib.hid (fun k => bucket_any g 0 L1 k wr hS.out)
        have HB2 := Lib.hid (fun k => bucket_any g2 0 L2 k wr hT.out)
        have HM1 := Lib.hid (most_any g 0 L1 pa wr hS.out (by omega))
        have HM2 := Lib.hid (most_any g2 0 L2 pa wr hT.out (by omega))
        rw [hmp] at HM2
        have HC1 := Lib.hid (fun W (h : StAt W g 0 L1) => counts_any g 0 L1 1 W h)
        have HC2 := Lib.hid (fun W (h : StAt W g2 0 L2) => counts_any g2 0 L2 1 W h)
        rw [hk, hk, hk, hk] at HC2
        replace hk := Lib.hid hk
        replace hbc := Lib.hid hbc
        replace hmp := Lib.hid hmp
        replace hbk := Lib.hid hbk
        replace hsk := Lib.hid hsk
        replace hperm := Lib.hid hperm
        have hlt2 : ¬ ((j : Int) < (j : Int)) := by omega
        go_wp2_with fail
        go_loopw [13, 14] (fun s k wi => ∃ k' : Nat, k' ≤ 256 ∧ k = .int .i64 (k' : Int) ∧ s = .int .i64 (sumK L1 k' : Int) ∧ wi = wr) (fun s k wi => 256 - (intOf k).toNat)
        case atStart => exact ⟨0, Nat.zero_le _, rfl, rfl, rfl⟩
        case round =>
          obtain ⟨k, hk2, rfl, rfl, rfl⟩ := hrel
          by_cases hlt : k < 256
          · have hsl := sumK_le L1 k
            have hkl : k * L1.length ≤ 256 * 60 := Nat.mul_le_mul hk2 (by omega)
            have hkc := kcount_le L1 k
            have hst : sumK L1 (k + 1) = sumK L1 k + kcount L1 k := rfl
            have hw0 : IntKind.u8.wrap (k : Int) = (k : Int) := by rw [IntKind.wrap_u8]; omega
            have hw1 : IntKind.i64.wrap ((sumK L1 k : Int) + (kcount L1 k : Int)) = (sumK L1 k : Int) + (kcount L1 k : Int) := IntWalk.i64_in _ (by omega)
            have H1 := Lib.hid (HO1.out k hlt)
            have H2 := Lib.hid (HO2.out k hlt)
            generalize kcount L1 k = kc at *
            generalize hsn : sumK L1 (k + 1) = sn at *
            generalize sumK L1 k = so at *
            replace hsn := Lib.hid hsn
            replace hst := Lib.hid hst
            have hlt' : (k : Int) < 256 := by omega
            go_wp2_with fail
            refine H1.out.mono ?_; rintro e w7 ⟨rfl, rfl⟩
            go_wp2_with fail
            refine H2.out.mono ?_; rintro e w7 ⟨rfl, rfl⟩
            go_wp2_with fail
            refine H1.out.mono ?_; rintro e w7 ⟨rfl, rfl⟩
            go_wp2_with fail
            go_roundw
            case rel => exact ⟨k + 1, by omega, by go_num, by rw [hsn.out, hst.out]; go_num, trivial⟩
            case measure => simp [intOf]; omega
          · have : k = 256 := by omega
            subst this
            rw [hsk.out]
            have hlt3 : ¬ ((256 : Int) < 256) := by omega
            go_wp2_with fail
            go_loopw [15] (fun k wi => ∃ k' : Nat, k' ≤ 64 ∧ k = .int .i64 (k' : Int) ∧ wi = wr) (fun k wi => 64 - (intOf k).toNat)
            case atStart => exact ⟨0, Nat.zero_le _, rfl, rfl⟩
            case round =>
              obtain ⟨k, hk3, rfl, rfl⟩ := hrel
              by_cases hlt : k < 64
              · have H1 := HB1.out (k : Int)
                have H2 := HB2.out (k : Int)
                rw [hbk.out] at H2
                generalize bkI L1 (k : Int) = bv at *
                replace H1 := Lib.hid H1
                replace H2 := Lib.hid H2
                have hlt' : (k : Int) < 64 := by omega
                go_wp2_with fail
                refine H1.out.mono ?_; rintro e w7 ⟨rfl, rfl⟩
                go_wp2_with fail
                refine H2.out.mono ?_; rintro e w7 ⟨rfl, rfl⟩
                go_wp2_with fail
                go_roundw
                case rel => exact ⟨k + 1, by omega, by go_num, trivial⟩
                case measure => simp [intOf]; omega
              · have : k = 64 := by omega
                subst this
                have hlt4 : ¬ ((64 : Int) < 64) := by omega
                go_wp2_with fail
                refine HM1.out.mono ?_; rintro e w7 ⟨rfl, rfl⟩
                go_wp2_with fail
                refine HM2.out.mono ?_; rintro e w7 ⟨rfl, rfl⟩
                go_wp2_with fail
                refine (HC1.out _ hS.out).mono ?_; rintro e w8 ⟨rfl, hb8⟩
                have B8 := hB.trans (hb8.mono hB.size)
                have hT8 := hT.out.below hb8
                go_wp2_with fail
                refine (HC2.out _ hT8).mono ?_; rintro e w9 ⟨rfl, hb9⟩
                have B9 := B8.trans (hb9.mono B8.size)
                have ec := fun W => eqlCnt W 0 (kcount L1 23) (kcount L1 21) (kcount L1 22) (kcount L1 20) 1 0 (kcount L1 23) (kcount L1 21) (kcount L1 22) (kcount L1 20) 1 rfl rfl rfl rfl rfl rfl
                go_wp2_with fail
                go_ret
                exact ⟨rfl, B9⟩
end Go.Proofs.YtdmpopdacbdnlaaDoor
