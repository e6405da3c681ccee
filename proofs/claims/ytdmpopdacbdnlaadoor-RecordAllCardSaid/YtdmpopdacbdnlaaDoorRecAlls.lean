/- The walk of RecordAll. -/
import Derived.Test.YtdmpopdacbdnlaaDoorRecOpen
import Derived.Test.YtdmpopdacbdnlaaDoorRecRAll
import Derived.Test.YtdmpopdacbdnlaaDoorChecked
import Derived.Test.YtdmpopdacbdnlaaDoorRows
namespace Go.Proofs.YtdmpopdacbdnlaaDoor
open Go.RowKit
set_option linter.unusedVariables false
set_option linter.unusedSimpArgs false
set_option maxHeartbeats 4000000
set_option maxRecDepth 20000
theorem recAll_len (b : List UInt8) : (recAll b).1.length ≤ 2 * b.length := by
  have h : ∀ (its : List It) (acc : List Rec), (recGo acc its).1.length ≤ acc.length + its.length := by
    intro its
    induction its with
    | nil => intro acc; simp [recGo]
    | cons x its ih =>
      intro acc
      unfold recGo
      split
      · simp
      · split
        · simp
        · have := ih (acc ++ [(takeR x.kind x.body).1])
          simp at this ⊢
          omega
  have h1 := h (recItems b) []
  have h2 := recItems_len b
  unfold recAll
  simp at h1
  omega
theorem recordAll_walk (a : Option Addr) (len cap : Nat) (zs : List Int) (w : World) (h0 : IsRow .u8 w a len cap zs) (hK0 : Kept w) :
    Calls Tryd.prog 11 #[.slice a len cap] w fun e w' => e = .returned (.bool true) ∧ Below w.heap.size w w' := by
  have hB := h0.row.bytes
  generalize bytesOf (zs.take len) = b at *
  clear h0
  have hm : len ≤ 9223372036854775807 := by have := hB.small; unfold maxLen at this; omega
  have LL := Lib.hid hB.length
  have hal := recAll_len b
  have HA := fun W (h : RowB W a len cap b) (hl : len ≤ 100000) (hk : Kept W) => recall_any a len cap b W h hl hk.forms hk.tab
  have HR := fun W (hl : b.length ≤ 100000) => rrecall_any b hl W
  generalize recAll b = Z at *
  obtain ⟨l, x⟩ := Z
  simp only at HA HR hal
  replace HA := Lib.hid HA
  replace HR := Lib.hid HR
  replace hK0 := Lib.hid hK0
  go_enter Tryd.func11, Tryd.ntmps11
  go_wp2_with fail
  refine (rawake_any _ hK0.out).mono ?_; rintro e w1 ⟨rfl, hb1⟩
  have hB1 := Lib.hid (hB.below hb1)
  clear hB
  by_cases hl : 1500 < len
  · go_wp2_with fail
    go_ret
    exact ⟨rfl, hb1⟩
  go_wp2_with fail
  refine (HA.out w1 hB1.out (by omega) (hK0.out.below hb1)).mono ?_; rintro e w2 ⟨v2, rfl, hO2, hb2⟩
  have B2 := hb1.trans (hb2.mono hb1.size)
  obtain ⟨q2, c2, rfl, hR2, _, _⟩ := hO2.row
  have hB3 := hB1.out.below hb2
  have cv := hB3.conv 22 9 5 Tryd.underlying22 Tryd.underlying5 Tryd.underlying9 (P := Tryd.prog)
  rw [List.length_map] at hR2 ⊢
  replace hR2 := Lib.hid hR2
  clear hB3 hB1 hO2
  go_wp2_with fail
  refine (HR.out _ (by have := LL.out; omega)).mono ?_; rintro e w4 ⟨v4, rfl, hO4, hb4⟩
  have B4 := B2.trans (hb4.mono B2.size)
  obtain ⟨q4, c4, rfl, hR4, _, _⟩ := hO4.row
  rw [List.length_map] at hR4 ⊢
  replace hR2 := Lib.hid (RowG.below hR2.out hb4)
  replace hR4 := Lib.hid hR4
  clear hO4 cv hb4 hb2 B2 HA HR
  have hll : l.length ≤ 3000 := by have := LL.out; omega
  go_wp2_with fail
  go_loopw [8] (fun i wr => ∃ k : Nat, k ≤ l.length ∧ i = .int .i64 k ∧ Below w4.heap.size w4 wr) (fun i wr => l.length - (intOf i).toNat)
  case atStart => exact ⟨0, Nat.zero_le _, rfl, Below.refl _ _⟩
  case round =>
    obtain ⟨k, hk, rfl, hbr⟩ := hrel
    have Bw := B4.trans (hbr.mono B4.size)
    by_cases hlt : k < l.length
    · have hi0 : (0 : Int) ≤ (k : Int) := by omega
      have hi1 : (k : Int) < (l.length : Int) := by omega
      obtain ⟨b2, o2, rfl, hl2, hc2⟩ := RowG.rec_ (RowG.below hR2.out hbr) (by omega)
      obtain ⟨b4, o4, rfl, hl4, hc4⟩ := RowG.rec_ (RowG.below hR4.out hbr) (by omega)
      have Y2 := hc2 k hlt
      have Y4 := hc4 k hlt
      generalize l.getD k (Rec.zero 0) = r at *
      clear hc2 hc4
      have HPL := Lib.hid (fun W => rplain_any r W)
      have HEQ := fun W => neqX W r r
      rw [(eqRec_iff r r).2 rfl] at HEQ
      unfold recA at HPL HEQ
      replace HEQ := Lib.hid HEQ
      have E : ∀ W, Below wr.heap.size wr W → RecAt W b2 (o2 + k * 8) r ∧ RecAt W b4 (o4 + k * 8) r := fun W h => ⟨Y2.below h hl2, Y4.below h hl4⟩
      replace E := Lib.hid E
      have D0 : Below wr.heap.size wr wr.drew := (Below.refl _ _).drew
      clear Y2 Y4
      go_wp2_with fail
      refine wp_region_noPanic ?_
      refine wp_region_held_drew (S := fun W => RecAt W b2 (o2 + k * 8) r ∧ RecAt W b4 (o4 + k * 8) r) (by kernel_rfl) (E.out _ D0) (fun hHeld => ?_)
      refine wpAnyH_take (i := 0) (oi := ⟨some 42, _, _, _, _, _⟩) (v := ?_) rfl (by kernel_rfl) (by kernel_rfl) (by kernel_rfl) (fun _ _ _ h => h) (Or.inl ⟨by rfl, ?hyt0⟩) (by assumption) ?_; (case hyt0 => ((intro W hSW; (try dsimp only at hSW); obtain ⟨⟨s0, s1, s2, s3, s4, s5, s6, s7⟩, ⟨t0, t1, t2, t3, t4, t5, t6, t7⟩⟩ := hSW; (try simp only [Nat.zero_add] at s0 s1 s2 s3 s4 s5 s6 s7 t0 t1 t2 t3 t4 t5 t6 t7); go_simp); (all_goals with_reducible rfl))); (try simp only [Act.put, List.setIfInBounds_toArray, List.set_cons_zero, List.set_cons_succ])
      refine wpAnyH_take (i := 1) (oi := ⟨some 43, _, _, _, _, _⟩) (v := ?_) rfl (by kernel_rfl) (by kernel_rfl) (by kernel_rfl) (fun _ _ _ h => h) (Or.inl ⟨by rfl, ?hyt1⟩) (by assumption) ?_; (case hyt1 => ((intro W hSW; (try dsimp only at hSW); obtain ⟨⟨s0, s1, s2, s3, s4, s5, s6, s7⟩, ⟨t0, t1, t2, t3, t4, t5, t6, t7⟩⟩ := hSW; (try simp only [Nat.zero_add] at s0 s1 s2 s3 s4 s5 s6 s7 t0 t1 t2 t3 t4 t5 t6 t7); go_simp); (all_goals with_reducible rfl))); (try simp only [Act.put, List.setIfInBounds_toArray, List.set_cons_zero, List.set_cons_succ])
      refine wpAnyH_take (i := 2) (oi := ⟨some 44, _, _, _, _, _⟩) (v := ?_) rfl (by kernel_rfl) (by kernel_rfl) (by kernel_rfl) (fun _ _ _ h => h) (Or.inl ⟨by rfl, ?hyt2⟩) (by assumption) ?_; (case hyt2 => ((intro W hSW; (try dsimp only at hSW); obtain ⟨⟨s0, s1, s2, s3, s4, s5, s6, s7⟩, ⟨t0, t1, t2, t3, t4, t5, t6, t7⟩⟩ := hSW; (try simp only [Nat.zero_add] at s0 s1 s2 s3 s4 s5 s6 s7 t0 t1 t2 t3 t4 t5 t6 t7); go_simp); (all_goals with_reducible rfl))); (try simp only [Act.put, List.setIfInBounds_toArray, List.set_cons_zero, List.set_cons_succ])
      refine wpAnyH_take (i := 3) (oi := ⟨some 45, _, _, _, _, _⟩) (v := ?_) rfl (by kernel_rfl) (by kernel_rfl) (by kernel_rfl) (fun _ _ _ h => h) (Or.inl ⟨by rfl, ?hyt3⟩) (by assumption) ?_; (case hyt3 => ((intro W hSW; (try dsimp only at hSW); obtain ⟨⟨s0, s1, s2, s3, s4, s5, s6, s7⟩, ⟨t0, t1, t2, t3, t4, t5, t6, t7⟩⟩ := hSW; (try simp only [Nat.zero_add] at s0 s1 s2 s3 s4 s5 s6 s7 t0 t1 t2 t3 t4 t5 t6 t7); go_simp); (all_goals with_reducible rfl))); (try simp only [Act.put, List.setIfInBounds_toArray, List.set_cons_zero, List.set_cons_succ])
      refine wpAnyH_take (i := 5) (oi := ⟨some 47, _, _, _, _, _⟩) (v := ?_) rfl (by kernel_rfl) (by kernel_rfl) (by kernel_rfl) (fun _ _ _ h => h) (Or.inl ⟨by rfl, ?hyt5⟩) (by assumption) ?_; (case hyt5 => ((intro W hSW; (try dsimp only at hSW); obtain ⟨⟨s0, s1, s2, s3, s4, s5, s6, s7⟩, ⟨t0, t1, t2, t3, t4, t5, t6, t7⟩⟩ := hSW; (try simp only [Nat.zero_add] at s0 s1 s2 s3 s4 s5 s6 s7 t0 t1 t2 t3 t4 t5 t6 t7); go_simp); (all_goals with_reducible rfl))); (try simp only [Act.put, List.setIfInBounds_toArray, List.set_cons_zero, List.set_cons_succ])
      refine wpAnyH_take (i := 6) (oi := ⟨some 48, _, _, _, _, _⟩) (v := ?_) rfl (by kernel_rfl) (by kernel_rfl) (by kernel_rfl) (fun _ _ _ h => h) (Or.inl ⟨by rfl, ?hyt6⟩) (by assumption) ?_; (case hyt6 => ((intro W hSW; (try dsimp only at hSW); obtain ⟨⟨s0, s1, s2, s3, s4, s5, s6, s7⟩, ⟨t0, t1, t2, t3, t4, t5, t6, t7⟩⟩ := hSW; (try simp only [Nat.zero_add] at s0 s1 s2 s3 s4 s5 s6 s7 t0 t1 t2 t3 t4 t5 t6 t7); go_simp); (all_goals with_reducible rfl))); (try simp only [Act.put, List.setIfInBounds_toArray, List.set_cons_zero, List.set_cons_succ])
      refine wpAnyH_take (i := 7) (oi := ⟨some 49, _, _, _, _, _⟩) (v := ?_) rfl (by kernel_rfl) (by kernel_rfl) (by kernel_rfl) (fun _ _ _ h => h) (Or.inl ⟨by rfl, ?hyt7⟩) (by assumption) ?_; (case hyt7 => ((intro W hSW; (try dsimp only at hSW); obtain ⟨⟨s0, s1, s2, s3, s4, s5, s6, s7⟩, ⟨t0, t1, t2, t3, t4, t5, t6, t7⟩⟩ := hSW; (try simp only [Nat.zero_add] at s0 s1 s2 s3 s4 s5 s6 s7 t0 t1 t2 t3 t4 t5 t6 t7); go_simp); (all_goals with_reducible rfl))); (try simp only [Act.put, List.setIfInBounds_toArray, List.set_cons_zero, List.set_cons_succ])
      refine wpAnyH_take (i := 8) (oi := ⟨some 50, _, _, _, _, _⟩) (v := ?_) rfl (by kernel_rfl) (by kernel_rfl) (by kernel_rfl) (fun _ _ _ h => h) (Or.inl ⟨by rfl, ?hyt8⟩) (by assumption) ?_; (case hyt8 => ((intro W hSW; (try dsimp only at hSW); obtain ⟨⟨s0, s1, s2, s3, s4, s5, s6, s7⟩, ⟨t0, t1, t2, t3, t4, t5, t6, t7⟩⟩ := hSW; (try simp only [Nat.zero_add] at s0 s1 s2 s3 s4 s5 s6 s7 t0 t1 t2 t3 t4 t5 t6 t7); go_simp); (all_goals with_reducible rfl))); (try simp only [Act.put, List.setIfInBounds_toArray, List.set_cons_zero, List.set_cons_succ])
      refine wpAnyH_ready (rs := [4]) (by kernel_rfl) (by simp) ?_; refine AllReadyH.cons (o := ⟨some 46, _, _, _, _, _⟩) rfl (fun K hK => ?_) AllReadyH.nil; go_simp
      go_at_call 54
      refine (HPL.out _).mono ?_; rintro e w6 ⟨rfl, hb6⟩
      have D6 := D0.trans (hb6.mono D0.size)
      (try go_simp); refine hK.out _ _ (E.out _ D6) (fun hHeld2 => ?_); clear hK K hHeld; (try simp only [Act.put, List.setIfInBounds_toArray, List.set_cons_zero, List.set_cons_succ])
      have heq := HEQ.out
      refine wpAnyH_take (i := 9) (oi := ⟨some 51, _, _, _, _, _⟩) (v := ?_) rfl (by kernel_rfl) (by kernel_rfl) (by kernel_rfl) (fun _ _ _ h => h) (Or.inl ⟨by rfl, ?hyt9⟩) (by assumption) ?_; (case hyt9 => ((intro W hSW; (try dsimp only at hSW); obtain ⟨⟨s0, s1, s2, s3, s4, s5, s6, s7⟩, ⟨t0, t1, t2, t3, t4, t5, t6, t7⟩⟩ := hSW; (try simp only [Nat.zero_add] at s0 s1 s2 s3 s4 s5 s6 s7 t0 t1 t2 t3 t4 t5 t6 t7); go_simp); (all_goals with_reducible rfl))); (try simp only [Act.put, List.setIfInBounds_toArray, List.set_cons_zero, List.set_cons_succ])
      clear heq
      refine wpAnyH_done (by kernel_rfl) ?_ _
      refine NoPanic.normal ?_
      have B6 := hbr.trans (D6.mono hbr.size)
      clear hHeld2 D6 hb6 D0 E HPL HEQ
      go_wp2_with fail
      go_roundw
      case rel => first | exact ⟨k + 1, by omega, by go_num, B6⟩ | exact ⟨k + 1, by omega, by omega, B6⟩
      case measure => simp [intOf] <;> omega
    · obtain rfl : k = l.length := by omega
      go_wp2_with fail
      go_ret
      exact ⟨rfl, Bw⟩
end Go.Proofs.YtdmpopdacbdnlaaDoor
