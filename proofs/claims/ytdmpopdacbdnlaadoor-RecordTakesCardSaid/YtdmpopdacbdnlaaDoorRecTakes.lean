/- The walk of RecordTakes. -/
import Derived.Test.YtdmpopdacbdnlaaDoorRecOpen
import Derived.Test.YtdmpopdacbdnlaaDoorRecRTake
import Derived.Test.YtdmpopdacbdnlaaDoorChecked
import Derived.Test.YtdmpopdacbdnlaaDoorRows
namespace Go.Proofs.YtdmpopdacbdnlaaDoor
open Go.RowKit
set_option linter.unusedVariables false
set_option linter.unusedSimpArgs false
set_option maxHeartbeats 4000000
set_option maxRecDepth 20000
theorem recordTakes_walk (k : Int) (bk : 0 ≤ k ∧ k ≤ 255) (a : Option Addr) (len cap : Nat) (zs : List Int) (w : World) (h0 : IsRow .u8 w a len cap zs) (hK0 : Kept w) :
    Calls Tryd.prog 10 #[.int .u8 k, .slice a len cap] w fun e w' => e = .returned (.bool true) ∧ Below w.heap.size w w' := by
  have hB := h0.row.bytes
  generalize bytesOf (zs.take len) = b at *
  obtain ⟨kn, rfl⟩ := Int.eq_ofNat_of_zero_le bk.1
  obtain ⟨kb, rfl⟩ : ∃ kb : UInt8, kn = kb.toNat := ⟨UInt8.ofNat kn, by rw [UInt8.toNat_ofNat']; omega⟩
  clear h0 bk
  have hm : len ≤ 9223372036854775807 := by have := hB.small; unfold maxLen at this; omega
  have LL := Lib.hid hB.length
  have HT := fun W (h : RowB W a len cap b) (hl : len ≤ 1000000000) (hk : Kept W) => rectake_any kb a len cap b W h hl hk.forms
  have HR := fun W (hl : b.length ≤ 1000000) => rrectake_any kb b W hl
  generalize takeR kb b = Z at *
  obtain ⟨r, x⟩ := Z
  have HPL := Lib.hid (fun W => rplain_any r W)
  have HEQ := fun W => eqlX W r r
  rw [(eqRec_iff r r).2 rfl] at HEQ
  unfold TookR at HT HR
  unfold recA at HT HR HPL HEQ
  simp only at HT HR
  replace HT := Lib.hid HT
  replace HR := Lib.hid HR
  replace HEQ := Lib.hid HEQ
  replace hK0 := Lib.hid hK0
  go_enter Tryd.func10, Tryd.ntmps10
  go_wp2_with fail
  refine (rawake_any _ hK0.out).mono ?_; rintro e w1 ⟨rfl, hb1⟩
  have hB1 := Lib.hid (hB.below hb1)
  clear hB
  by_cases hl : 600 < len
  · go_wp2_with fail
    go_ret
    exact ⟨rfl, hb1⟩
  go_wp2_with fail
  refine (HT.out w1 hB1.out (by omega) (hK0.out.below hb1)).mono ?_; rintro e w2 ⟨rfl, hb2⟩
  have B2 := hb1.trans (hb2.mono hb1.size)
  have XA : Hid (Box (w2.alloc (.cells #[.int .u8 (r.kind.toNat : Int), .int .i64 r.source, .int .u64 (r.seq : Int), .int .i64 r.at_, .int .i64 r.num, .int .i64 r.code, .bool r.yes, .string ⟨r.text.toArray⟩] 69)) w2.heap.size (recVs r)) := Lib.hid (Box.new w2 (recVs r) _ _ rfl _ rfl)
  have A2 : Below w2.heap.size w2 (w2.alloc (.cells #[.int .u8 (r.kind.toNat : Int), .int .i64 r.source, .int .u64 (r.seq : Int), .int .i64 r.at_, .int .i64 r.num, .int .i64 r.code, .bool r.yes, .string ⟨r.text.toArray⟩] 69)) := (Below.refl _ _).alloc (Nat.le_refl _) _
  have B3 := B2.trans (A2.mono B2.size)
  have hB3 := (hB1.out.below hb2).below A2
  have cv := hB3.conv 22 9 5 Tryd.underlying22 Tryd.underlying5 Tryd.underlying9 (P := Tryd.prog)
  clear hB3 hB1
  go_wp2_with fail
  refine (HR.out _ (by have := LL.out; omega)).mono ?_; rintro e w4 ⟨rfl, hb4⟩
  have B4 := B3.trans (hb4.mono B3.size)
  replace XA := Lib.hid (XA.out.below hb4)
  go_wp2_with fail
  have A4 : Below w4.heap.size w4 (w4.alloc (.cells #[.int .u8 (r.kind.toNat : Int), .int .i64 r.source, .int .u64 (r.seq : Int), .int .i64 r.at_, .int .i64 r.num, .int .i64 r.code, .bool r.yes, .string ⟨r.text.toArray⟩] 71)) := (Below.refl _ _).alloc (Nat.le_refl _) _
  have XB : Hid (Box (w4.alloc (.cells #[.int .u8 (r.kind.toNat : Int), .int .i64 r.source, .int .u64 (r.seq : Int), .int .i64 r.at_, .int .i64 r.num, .int .i64 r.code, .bool r.yes, .string ⟨r.text.toArray⟩] 71)) w4.heap.size (recVs r)) := Lib.hid (Box.new w4 (recVs r) _ _ rfl _ rfl)
  replace XA := Lib.hid (XA.out.below A4)
  have B5 := B4.trans (A4.mono B4.size)
  clear cv A2 A4 hb4 hb2 B2 B3 B4
  generalize w4.alloc (.cells #[.int .u8 (r.kind.toNat : Int), .int .i64 r.source, .int .u64 (r.seq : Int), .int .i64 r.at_, .int .i64 r.num, .int .i64 r.code, .bool r.yes, .string ⟨r.text.toArray⟩] 71) = w5 at *
  have E : ∀ W, Below w5.heap.size w5 W → RecAt W w2.heap.size 0 r ∧ RecAt W w4.heap.size 0 r := fun W h => ⟨(XA.out.below h).rec_, (XB.out.below h).rec_⟩
  replace E := Lib.hid E
  have D := (Below.refl w5.heap.size w5).drew
  refine wp_region_held_drew (S := fun W => RecAt W w2.heap.size 0 r ∧ RecAt W w4.heap.size 0 r) (by kernel_rfl) (E.out _ D) (fun hHeld => ?_)
  refine wpAnyH_take (i := 0) (oi := ⟨some 29, _, _, _, _, _⟩) (v := ?_) rfl (by kernel_rfl) (by kernel_rfl) (by kernel_rfl) (fun _ _ _ h => h) (Or.inl ⟨by rfl, ?hyt0⟩) (by assumption) ?_; (case hyt0 => ((intro W hSW; (try dsimp only at hSW); obtain ⟨⟨s0, s1, s2, s3, s4, s5, s6, s7⟩, ⟨t0, t1, t2, t3, t4, t5, t6, t7⟩⟩ := hSW; (try simp only [Nat.zero_add] at s0 s1 s2 s3 s4 s5 s6 s7 t0 t1 t2 t3 t4 t5 t6 t7); go_simp); (all_goals with_reducible rfl))); (try simp only [Act.put, List.setIfInBounds_toArray, List.set_cons_zero, List.set_cons_succ])
  refine wpAnyH_take (i := 1) (oi := ⟨some 30, _, _, _, _, _⟩) (v := ?_) rfl (by kernel_rfl) (by kernel_rfl) (by kernel_rfl) (fun _ _ _ h => h) (Or.inl ⟨by rfl, ?hyt1⟩) (by assumption) ?_; (case hyt1 => ((intro W hSW; (try dsimp only at hSW); obtain ⟨⟨s0, s1, s2, s3, s4, s5, s6, s7⟩, ⟨t0, t1, t2, t3, t4, t5, t6, t7⟩⟩ := hSW; (try simp only [Nat.zero_add] at s0 s1 s2 s3 s4 s5 s6 s7 t0 t1 t2 t3 t4 t5 t6 t7); go_simp); (all_goals with_reducible rfl))); (try simp only [Act.put, List.setIfInBounds_toArray, List.set_cons_zero, List.set_cons_succ])
  refine wpAnyH_take (i := 2) (oi := ⟨some 31, _, _, _, _, _⟩) (v := ?_) rfl (by kernel_rfl) (by kernel_rfl) (by kernel_rfl) (fun _ _ _ h => h) (Or.inl ⟨by rfl, ?hyt2⟩) (by assumption) ?_; (case hyt2 => ((intro W hSW; (try dsimp only at hSW); obtain ⟨⟨s0, s1, s2, s3, s4, s5, s6, s7⟩, ⟨t0, t1, t2, t3, t4, t5, t6, t7⟩⟩ := hSW; (try simp only [Nat.zero_add] at s0 s1 s2 s3 s4 s5 s6 s7 t0 t1 t2 t3 t4 t5 t6 t7); go_simp); (all_goals with_reducible rfl))); (try simp only [Act.put, List.setIfInBounds_toArray, List.set_cons_zero, List.set_cons_succ])
  refine wpAnyH_take (i := 3) (oi := ⟨some 32, _, _, _, _, _⟩) (v := ?_) rfl (by kernel_rfl) (by kernel_rfl) (by kernel_rfl) (fun _ _ _ h => h) (Or.inl ⟨by rfl, ?hyt3⟩) (by assumption) ?_; (case hyt3 => ((intro W hSW; (try dsimp only at hSW); obtain ⟨⟨s0, s1, s2, s3, s4, s5, s6, s7⟩, ⟨t0, t1, t2, t3, t4, t5, t6, t7⟩⟩ := hSW; (try simp only [Nat.zero_add] at s0 s1 s2 s3 s4 s5 s6 s7 t0 t1 t2 t3 t4 t5 t6 t7); go_simp); (all_goals with_reducible rfl))); (try simp only [Act.put, List.setIfInBounds_toArray, List.set_cons_zero, List.set_cons_succ])
  refine wpAnyH_take (i := 4) (oi := ⟨some 33, _, _, _, _, _⟩) (v := ?_) rfl (by kernel_rfl) (by kernel_rfl) (by kernel_rfl) (fun _ _ _ h => h) (Or.inl ⟨by rfl, ?hyt4⟩) (by assumption) ?_; (case hyt4 => ((intro W hSW; (try dsimp only at hSW); obtain ⟨⟨s0, s1, s2, s3, s4, s5, s6, s7⟩, ⟨t0, t1, t2, t3, t4, t5, t6, t7⟩⟩ := hSW; (try simp only [Nat.zero_add] at s0 s1 s2 s3 s4 s5 s6 s7 t0 t1 t2 t3 t4 t5 t6 t7); go_simp); (all_goals with_reducible rfl))); (try simp only [Act.put, List.setIfInBounds_toArray, List.set_cons_zero, List.set_cons_succ])
  refine wpAnyH_take (i := 6) (oi := ⟨some 35, _, _, _, _, _⟩) (v := ?_) rfl (by kernel_rfl) (by kernel_rfl) (by kernel_rfl) (fun _ _ _ h => h) (Or.inl ⟨by rfl, ?hyt6⟩) (by assumption) ?_; (case hyt6 => ((intro W hSW; (try dsimp only at hSW); obtain ⟨⟨s0, s1, s2, s3, s4, s5, s6, s7⟩, ⟨t0, t1, t2, t3, t4, t5, t6, t7⟩⟩ := hSW; (try simp only [Nat.zero_add] at s0 s1 s2 s3 s4 s5 s6 s7 t0 t1 t2 t3 t4 t5 t6 t7); go_simp); (all_goals with_reducible rfl))); (try simp only [Act.put, List.setIfInBounds_toArray, List.set_cons_zero, List.set_cons_succ])
  refine wpAnyH_ready (rs := [5]) (by kernel_rfl) (by simp) ?_; refine AllReadyH.cons (o := ⟨some 34, _, _, _, _, _⟩) rfl (fun K hK => ?_) AllReadyH.nil; go_simp
  go_at_call 54
  refine (HPL.out _).mono ?_; rintro e w6 ⟨rfl, hb6⟩
  have D6 := D.trans (hb6.mono D.size)
  (try go_simp); refine hK.out _ _ (E.out _ D6) (fun hHeld2 => ?_); clear hK K hHeld; (try simp only [Act.put, List.setIfInBounds_toArray, List.set_cons_zero, List.set_cons_succ])
  have heq := HEQ.out
  refine wpAnyH_take (i := 7) (oi := ⟨some 36, _, _, _, _, _⟩) (v := ?_) rfl (by kernel_rfl) (by kernel_rfl) (by kernel_rfl) (fun _ _ _ h => h) (Or.inl ⟨by rfl, ?hyt7⟩) (by assumption) ?_; (case hyt7 => ((intro W hSW; (try dsimp only at hSW); obtain ⟨⟨s0, s1, s2, s3, s4, s5, s6, s7⟩, ⟨t0, t1, t2, t3, t4, t5, t6, t7⟩⟩ := hSW; (try simp only [Nat.zero_add] at s0 s1 s2 s3 s4 s5 s6 s7 t0 t1 t2 t3 t4 t5 t6 t7); go_simp); (all_goals with_reducible rfl))); (try simp only [Act.put, List.setIfInBounds_toArray, List.set_cons_zero, List.set_cons_succ])
  clear heq
  refine wpAnyH_take (i := 8) (oi := ⟨some 37, _, _, _, _, _⟩) (v := ?_) rfl (by kernel_rfl) (by kernel_rfl) (by kernel_rfl) (fun _ _ _ h => h) (Or.inl ⟨by rfl, ?hyt8⟩) (by assumption) ?_; (case hyt8 => ((intro W hSW; (try dsimp only at hSW); obtain ⟨⟨s0, s1, s2, s3, s4, s5, s6, s7⟩, ⟨t0, t1, t2, t3, t4, t5, t6, t7⟩⟩ := hSW; (try simp only [Nat.zero_add] at s0 s1 s2 s3 s4 s5 s6 s7 t0 t1 t2 t3 t4 t5 t6 t7); go_simp); (all_goals with_reducible rfl))); (try simp only [Act.put, List.setIfInBounds_toArray, List.set_cons_zero, List.set_cons_succ])
  refine wpAnyH_take (i := 9) (oi := ⟨some 4, _, _, _, _, _⟩) (v := ?_) rfl (by kernel_rfl) (by kernel_rfl) (by kernel_rfl) (fun _ _ _ h => h) (Or.inl ⟨by rfl, ?hyt9⟩) (by assumption) ?_; (case hyt9 => ((intro W hSW; (try dsimp only at hSW); obtain ⟨⟨s0, s1, s2, s3, s4, s5, s6, s7⟩, ⟨t0, t1, t2, t3, t4, t5, t6, t7⟩⟩ := hSW; (try simp only [Nat.zero_add] at s0 s1 s2 s3 s4 s5 s6 s7 t0 t1 t2 t3 t4 t5 t6 t7); go_simp); (all_goals with_reducible rfl))); (try simp only [Act.put, List.setIfInBounds_toArray, List.set_cons_zero, List.set_cons_succ])
  refine wpAnyH_done (by kernel_rfl) ?_ _
  go_wp2_with fail
  go_ret
  exact ⟨rfl, B5.trans (D6.mono B5.size)⟩
end Go.Proofs.YtdmpopdacbdnlaaDoor
