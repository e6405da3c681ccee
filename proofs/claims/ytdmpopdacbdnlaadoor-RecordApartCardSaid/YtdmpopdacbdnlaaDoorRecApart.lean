/- The walk of RecordApart. -/
import Derived.Test.YtdmpopdacbdnlaaDoorRecOpen
import Derived.Test.YtdmpopdacbdnlaaDoorChecked
import Derived.Test.YtdmpopdacbdnlaaDoorRows
namespace Go.Proofs.YtdmpopdacbdnlaaDoor
open Go.RowKit
set_option linter.unusedVariables false
set_option linter.unusedSimpArgs false
set_option maxHeartbeats 4000000
set_option maxRecDepth 20000
theorem recordApart_walk (vs us : List Value) (w : World) (y : OkAll [.int .u8, .int .i64, .int .u64, .int .i64, .int .i64, .int .i64, .bool, .str] vs) (z : OkAll [.int .u8, .int .i64, .int .u64, .int .i64, .int .i64, .int .i64, .bool, .str] us) (hK0 : Kept w) :
    Calls Tryd.prog 14 #[.agg vs.toArray, .agg us.toArray] w fun e w' => e = .returned (.bool true) ∧ Below w.heap.size w w' := by
  obtain ⟨r, rfl, hok⟩ := rec_of y
  obtain ⟨s, rfl, hos⟩ := rec_of z
  show Calls _ _ #[recA r, recA s] w _
  have HM := Lib.hid (fun W (hk : Kept W) => may_any r W hk.forms hok.text)
  have HN := Lib.hid (fun W (hk : Kept W) => may_any s W hk.forms hos.text)
  have HS := Lib.hid (fun W (hk : Kept W) => show_any r W hok hk.forms hk.pow)
  have HZ := Lib.hid (fun W (hk : Kept W) => show_any s W hos hk.forms hk.pow)
  have HEQ := Lib.hid (fun W => eqlRec W r s)
  have hinj := Lib.hid (fun (ma : mayB r = true) (mb : mayB s = true) (ha : r.text = []) (hb : s.text = []) (h : showR r = showR s) => show_inj ma mb hok hos ha hb h)
  have hii := Lib.hid (fun (h : r = s) => congrArg showR h)
  have heqi := Lib.hid (eqRec_iff r s)
  have htx := hok.text
  have htz := hos.text
  unfold maxLen at htx htz
  have hz1 := ba_sizeP r.text
  have hz2 := ba_sizeP s.text
  generalize hma : mayB r = ma at *
  generalize hmb : mayB s = mb at *
  generalize showR r = sr at *
  generalize showR s = ss at *
  generalize eqRec r s = er at *
  replace hma := Lib.hid hma
  replace hmb := Lib.hid hmb
  unfold recA at *
  clear y z
  have X1 : Hid (Box ((w.alloc (.cells #[.int .u8 (r.kind.toNat : Int), .int .i64 r.source, .int .u64 (r.seq : Int), .int .i64 r.at_, .int .i64 r.num, .int .i64 r.code, .bool r.yes, .string ⟨r.text.toArray⟩] 69)).alloc (.cells #[.int .u8 (s.kind.toNat : Int), .int .i64 s.source, .int .u64 (s.seq : Int), .int .i64 s.at_, .int .i64 s.num, .int .i64 s.code, .bool s.yes, .string ⟨s.text.toArray⟩] 69)) w.heap.size (recVs r)) := Lib.hid ((Box.new w (recVs r) _ _ rfl _ rfl).below ((Below.refl _ _).alloc (Nat.le_refl _) _))
  have X2 : Hid (Box ((w.alloc (.cells #[.int .u8 (r.kind.toNat : Int), .int .i64 r.source, .int .u64 (r.seq : Int), .int .i64 r.at_, .int .i64 r.num, .int .i64 r.code, .bool r.yes, .string ⟨r.text.toArray⟩] 69)).alloc (.cells #[.int .u8 (s.kind.toNat : Int), .int .i64 s.source, .int .u64 (s.seq : Int), .int .i64 s.at_, .int .i64 s.num, .int .i64 s.code, .bool s.yes, .string ⟨s.text.toArray⟩] 69)) (w.heap.size + 1) (recVs s)) := Lib.hid (Box.new _ (recVs s) _ _ rfl _ (by simp))
  have A1 : Below w.heap.size w ((w.alloc (.cells #[.int .u8 (r.kind.toNat : Int), .int .i64 r.source, .int .u64 (r.seq : Int), .int .i64 r.at_, .int .i64 r.num, .int .i64 r.code, .bool r.yes, .string ⟨r.text.toArray⟩] 69)).alloc (.cells #[.int .u8 (s.kind.toNat : Int), .int .i64 s.source, .int .u64 (s.seq : Int), .int .i64 s.at_, .int .i64 s.num, .int .i64 s.code, .bool s.yes, .string ⟨s.text.toArray⟩] 69)) := ((Below.refl _ _).alloc (Nat.le_refl _) _).alloc (by simp) _
  replace hK0 := Lib.hid hK0
  replace hok := Lib.hid hok
  replace hos := Lib.hid hos
  go_enter Tryd.func14, Tryd.ntmps14
  go_wp2_with fail
  refine (rawake_any _ (hK0.out.below A1)).mono ?_; rintro e w2 ⟨rfl, hb2⟩
  have B2 := A1.trans (hb2.mono A1.size)
  replace X1 := Lib.hid (X1.out.below hb2)
  replace X2 := Lib.hid (X2.out.below hb2)
  have lt1 := X1.out.lt
  have lt2 := X2.out.lt
  obtain ⟨x0, x1, x2, x3, x4, x5, x6, x7⟩ := X1.out.rec_
  obtain ⟨y0, y1, y2, y3, y4, y5, y6, y7⟩ := X2.out.rec_
  simp only [Nat.zero_add] at x0 x1 x2 x3 x4 x5 x6 x7 y0 y1 y2 y3 y4 y5 y6 y7
  by_cases hl1 : 0 < r.text.length
  · go_wp2_with fail
    go_ret
    exact ⟨rfl, B2⟩
  by_cases hl2 : 0 < s.text.length
  · go_wp2_with fail
    go_ret
    exact ⟨rfl, B2⟩
  go_wp2_with fail
  refine (HM.out _ (hK0.out.below B2)).mono ?_; rintro e w3 ⟨rfl, hb3⟩
  have B3 := B2.trans (hb3.mono B2.size)
  replace X1 := Lib.hid (X1.out.below hb3)
  replace X2 := Lib.hid (X2.out.below hb3)
  clear x0 x1 x2 x3 x4 x5 x6 x7 y0 y1 y2 y3 y4 y5 y6 y7 lt1 lt2
  have lt2 := X2.out.lt
  obtain ⟨y0, y1, y2, y3, y4, y5, y6, y7⟩ := X2.out.rec_
  simp only [Nat.zero_add] at y0 y1 y2 y3 y4 y5 y6 y7
  cases ma with
  | false =>
    go_wp2_with fail
    go_ret
    exact ⟨rfl, B3⟩
  | true =>
  go_wp2_with fail
  refine (HN.out _ (hK0.out.below B3)).mono ?_; rintro e w4 ⟨rfl, hb4⟩
  have B4 := B3.trans (hb4.mono B3.size)
  replace X1 := Lib.hid (X1.out.below hb4)
  replace X2 := Lib.hid (X2.out.below hb4)
  clear y0 y1 y2 y3 y4 y5 y6 y7 lt2 hb4 hb3 hb2
  cases mb with
  | false =>
    go_wp2_with fail
    go_ret
    exact ⟨rfl, B4⟩
  | true =>
  go_wp2_with fail
  have E : ∀ W, Below w4.heap.size w4 W → RecAt W w.heap.size 0 r ∧ RecAt W (w.heap.size + 1) 0 s := fun W h => ⟨(X1.out.below h).rec_, (X2.out.below h).rec_⟩
  replace E := Lib.hid E
  have D0 : Below w4.heap.size w4 w4.drew := (Below.refl _ _).drew
  have KK : ∀ W, Below w4.heap.size w4 W → Kept W := fun W h => hK0.out.below (B4.trans (h.mono B4.size))
  replace KK := Lib.hid KK
  refine wp_region_held_drew (S := fun W => RecAt W w.heap.size 0 r ∧ RecAt W (w.heap.size + 1) 0 s) (by kernel_rfl) (E.out _ D0) (fun hHeld => ?_)
  refine wpAnyH_take (i := 0) (oi := ⟨some 29, _, _, _, _, _⟩) (v := ?_) rfl (by kernel_rfl) (by kernel_rfl) (by kernel_rfl) (fun _ _ _ h => h) (Or.inl ⟨by rfl, ?hyt0⟩) (by assumption) ?_; (case hyt0 => ((intro W hSW; (try dsimp only at hSW); obtain ⟨⟨s0, s1, s2, s3, s4, s5, s6, s7⟩, ⟨t0, t1, t2, t3, t4, t5, t6, t7⟩⟩ := hSW; (try simp only [Nat.zero_add] at s0 s1 s2 s3 s4 s5 s6 s7 t0 t1 t2 t3 t4 t5 t6 t7); go_simp); (all_goals with_reducible rfl))); (try simp only [Act.put, List.setIfInBounds_toArray, List.set_cons_zero, List.set_cons_succ])
  refine wpAnyH_take (i := 2) (oi := ⟨some 31, _, _, _, _, _⟩) (v := ?_) rfl (by kernel_rfl) (by kernel_rfl) (by kernel_rfl) (fun _ _ _ h => h) (Or.inl ⟨by rfl, ?hyt2⟩) (by assumption) ?_; (case hyt2 => ((intro W hSW; (try dsimp only at hSW); obtain ⟨⟨s0, s1, s2, s3, s4, s5, s6, s7⟩, ⟨t0, t1, t2, t3, t4, t5, t6, t7⟩⟩ := hSW; (try simp only [Nat.zero_add] at s0 s1 s2 s3 s4 s5 s6 s7 t0 t1 t2 t3 t4 t5 t6 t7); go_simp); (all_goals with_reducible rfl))); (try simp only [Act.put, List.setIfInBounds_toArray, List.set_cons_zero, List.set_cons_succ])
  refine wpAnyH_take (i := 5) (oi := ⟨some 34, _, _, _, _, _⟩) (v := ?_) rfl (by kernel_rfl) (by kernel_rfl) (by kernel_rfl) (fun _ _ _ h => h) (Or.inl ⟨by rfl, ?hyt5⟩) (by assumption) ?_; (case hyt5 => ((intro W hSW; (try dsimp only at hSW); obtain ⟨⟨s0, s1, s2, s3, s4, s5, s6, s7⟩, ⟨t0, t1, t2, t3, t4, t5, t6, t7⟩⟩ := hSW; (try simp only [Nat.zero_add] at s0 s1 s2 s3 s4 s5 s6 s7 t0 t1 t2 t3 t4 t5 t6 t7); go_simp); (all_goals with_reducible rfl))); (try simp only [Act.put, List.setIfInBounds_toArray, List.set_cons_zero, List.set_cons_succ])
  refine wpAnyH_take (i := 6) (oi := ⟨some 35, _, _, _, _, _⟩) (v := ?_) rfl (by kernel_rfl) (by kernel_rfl) (by kernel_rfl) (fun _ _ _ h => h) (Or.inl ⟨by rfl, ?hyt6⟩) (by assumption) ?_; (case hyt6 => ((intro W hSW; (try dsimp only at hSW); obtain ⟨⟨s0, s1, s2, s3, s4, s5, s6, s7⟩, ⟨t0, t1, t2, t3, t4, t5, t6, t7⟩⟩ := hSW; (try simp only [Nat.zero_add] at s0 s1 s2 s3 s4 s5 s6 s7 t0 t1 t2 t3 t4 t5 t6 t7); go_simp); (all_goals with_reducible rfl))); (try simp only [Act.put, List.setIfInBounds_toArray, List.set_cons_zero, List.set_cons_succ])
  have heq := HEQ.out
  refine wpAnyH_take (i := 7) (oi := ⟨some 36, _, _, _, _, _⟩) (v := ?_) rfl (by kernel_rfl) (by kernel_rfl) (by kernel_rfl) (fun _ _ _ h => h) (Or.inl ⟨by rfl, ?hyt7⟩) (by assumption) ?_; (case hyt7 => ((intro W hSW; (try dsimp only at hSW); obtain ⟨⟨s0, s1, s2, s3, s4, s5, s6, s7⟩, ⟨t0, t1, t2, t3, t4, t5, t6, t7⟩⟩ := hSW; (try simp only [Nat.zero_add] at s0 s1 s2 s3 s4 s5 s6 s7 t0 t1 t2 t3 t4 t5 t6 t7); go_simp); (all_goals with_reducible rfl))); (try simp only [Act.put, List.setIfInBounds_toArray, List.set_cons_zero, List.set_cons_succ])
  clear heq
  refine wpAnyH_ready (rs := [1]) (by kernel_rfl) (by simp) ?_; refine AllReadyH.cons (o := ⟨some 30, _, _, _, _, _⟩) rfl (fun K hK => ?_) AllReadyH.nil; go_simp
  go_at_call 58
  refine (HS.out _ (KK.out _ D0)).mono ?_; rintro e w6 ⟨rfl, hb6⟩
  have D6 := D0.trans (hb6.mono D0.size)
  (try go_simp); refine hK.out _ _ (E.out _ D6) (fun hHeld2 => ?_); clear hK K hHeld; (try simp only [Act.put, List.setIfInBounds_toArray, List.set_cons_zero, List.set_cons_succ])
  refine wpAnyH_ready (rs := [3]) (by kernel_rfl) (by simp) ?_; refine AllReadyH.cons (o := ⟨some 32, _, _, _, _, _⟩) rfl (fun K hK => ?_) AllReadyH.nil; go_simp
  go_at_call 58
  refine (HZ.out _ (KK.out _ D6)).mono ?_; rintro e w7 ⟨rfl, hb7⟩
  have D7 := D6.trans (hb7.mono D6.size)
  (try go_simp); refine hK.out _ _ (E.out _ D7) (fun hHeld3 => ?_); clear hK K hHeld2; (try simp only [Act.put, List.setIfInBounds_toArray, List.set_cons_zero, List.set_cons_succ])
  refine wpAnyH_take (i := 4) (oi := ⟨some 33, _, _, _, _, _⟩) (v := ?_) rfl (by kernel_rfl) (by kernel_rfl) (by kernel_rfl) (fun _ _ _ h => h) (Or.inl ⟨by rfl, ?hyt4⟩) (by assumption) ?_; (case hyt4 => ((intro W hSW; (try dsimp only at hSW); obtain ⟨⟨s0, s1, s2, s3, s4, s5, s6, s7⟩, ⟨t0, t1, t2, t3, t4, t5, t6, t7⟩⟩ := hSW; (try simp only [Nat.zero_add] at s0 s1 s2 s3 s4 s5 s6 s7 t0 t1 t2 t3 t4 t5 t6 t7); go_simp); (all_goals with_reducible rfl))); (try simp only [Act.put, List.setIfInBounds_toArray, List.set_cons_zero, List.set_cons_succ])
  refine wpAnyH_take (i := 8) (oi := ⟨some 37, _, _, _, _, _⟩) (v := ?_) rfl (by kernel_rfl) (by kernel_rfl) (by kernel_rfl) (fun _ _ _ h => h) (Or.inl ⟨by rfl, ?hyt8⟩) (by assumption) ?_; (case hyt8 => ((intro W hSW; (try dsimp only at hSW); obtain ⟨⟨s0, s1, s2, s3, s4, s5, s6, s7⟩, ⟨t0, t1, t2, t3, t4, t5, t6, t7⟩⟩ := hSW; (try simp only [Nat.zero_add] at s0 s1 s2 s3 s4 s5 s6 s7 t0 t1 t2 t3 t4 t5 t6 t7); go_simp); (all_goals with_reducible rfl))); (try simp only [Act.put, List.setIfInBounds_toArray, List.set_cons_zero, List.set_cons_succ])
  refine wpAnyH_take (i := 9) (oi := ⟨some 4, _, _, _, _, _⟩) (v := ?_) rfl (by kernel_rfl) (by kernel_rfl) (by kernel_rfl) (fun _ _ _ h => h) (Or.inl ⟨by rfl, ?hyt9⟩) (by assumption) ?_; (case hyt9 => ((intro W hSW; (try dsimp only at hSW); obtain ⟨⟨s0, s1, s2, s3, s4, s5, s6, s7⟩, ⟨t0, t1, t2, t3, t4, t5, t6, t7⟩⟩ := hSW; (try simp only [Nat.zero_add] at s0 s1 s2 s3 s4 s5 s6 s7 t0 t1 t2 t3 t4 t5 t6 t7); go_simp); (all_goals with_reducible rfl))); (try simp only [Act.put, List.setIfInBounds_toArray, List.set_cons_zero, List.set_cons_succ])
  refine wpAnyH_done (by kernel_rfl) ?_ _
  go_wp2_with fail
  go_ret
  have t1 : r.text = [] := List.eq_nil_of_length_eq_zero (by omega)
  have t2 : s.text = [] := List.eq_nil_of_length_eq_zero (by omega)
  have hA := hinj.out trivial trivial t1 t2
  have hB := hii.out
  have hC := heqi.out
  refine ⟨ret_bool ?_, B4.trans (D7.mono B4.size)⟩
  cases er with
  | true =>
    have e := hB (hC.1 rfl)
    simp [e]
  | false =>
    have hne : sr ≠ ss := fun e => by have := hC.2 (hA e); simp at this
    rw [beq_eq_false_iff_ne.2 hne]
    rfl
end Go.Proofs.YtdmpopdacbdnlaaDoor
