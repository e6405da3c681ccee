/- The walk of OctetOne. -/
import Derived.Test.YtdondjodonmebaaOctAwake
import Derived.Test.YtdondjodonmebaaOctOrder
import Derived.Deep.RegionHeld3
import Derived.Deep.QuietTactic
import Derived.Test.YtdondjodonmebaaChecked
import Derived.Test.YtdondjodonmebaaRows
namespace Go.Proofs.Ytdondjodonmebaa
open Go.RowKit
set_option linter.unusedVariables false
set_option linter.unusedSimpArgs false
set_option maxHeartbeats 4000000
set_option maxRecDepth 20000
theorem wf_one {x : Nat} (h : (x : Int) ≤ 18446744073709551615) : ∀ n ∈ [(x : Int)], (Lit.int .u64 n).wf = true := by
  intro n hn
  rw [List.mem_singleton.1 hn]
  have e1 : IntKind.u64.min = 0 := by rfl
  have e2 : IntKind.u64.max = 18446744073709551615 := by rfl
  simp [Lit.wf, e1, e2, h]
theorem encAll_one (x : Nat) : encAll [(x : Int)] = enc x := by simp [encAll]
theorem wpAnyH_switch {P : Program} {ops : Array Oper} {Q : Exit → Act → World → Prop} {md : Region.Mode} {S S' : World → Prop} (hS : ∀ w, S' w → S w) : ∀ (fuel : Nat) (listed : Array Bool) (a : Act) (w : World), wpAnyH P md ops Q S' fuel listed a w → wpAnyH P md ops Q S fuel listed a w
  | 0, _, _, _, h => h
  | fuel + 1, _, _, _, h => ⟨h.1, fun i hi => wpOp_mono (fun a' w' h' => ⟨hS _ h'.1, wpAnyH_switch hS fuel _ a' w' h'.2⟩) (h.2 i hi)⟩
theorem octetOne_walk (a : Option Addr) (len cap : Nat) (zs0 : List Int) (a' : Option Addr) (len' cap' : Nat) (zs1 : List Int) (x : Int) (bx : 0 ≤ x ∧ x ≤ 18446744073709551615) (y : Int) (by_ : 0 ≤ y ∧ y ≤ 18446744073709551615) (w : World) (h0 : IsRow .u8 w a len cap zs0) (h1 : IsRow .u8 w a' len' cap' zs1) :
    Calls Try.prog 4 #[.slice a len cap, .slice a' len' cap', .int .u64 x, .int .u64 y] w fun e w' => e = .returned (.bool true) ∧ Below w.heap.size w w' := by
  obtain ⟨xn, rfl⟩ := Int.eq_ofNat_of_zero_le bx.1
  obtain ⟨yn, rfl⟩ := Int.eq_ofNat_of_zero_le by_.1
  have hB := h0.row.bytes
  have hM := h1.row.bytes
  generalize bytesOf (zs0.take len) = bs at *
  generalize bytesOf (zs1.take len') = more at *
  clear h0 h1
  have hm : len ≤ 9223372036854775807 := by have := hB.small; unfold maxLen at this; omega
  have hm' : len' ≤ 9223372036854775807 := by have := hM.small; unfold maxLen at this; omega
  have HL := Lib.hid (less_enc (x := xn) (y := yn) (by omega) (by omega))
  have HE := Lib.hid (beq_enc (x := xn) (y := yn) (by omega) (by omega))
  have LL := Lib.hid hB.length
  have LM := Lib.hid hM.length
  go_enter Try.func4, Try.ntmps4
  go_wp2_with fail
  refine (awake_any _).mono ?_; rintro e w1 ⟨rfl, hb1⟩
  have hB1 := hB.below hb1
  have hM1 := hM.below hb1
  by_cases hl : 200 < len
  · go_wp2_with fail
    go_ret
    exact ⟨rfl, hb1⟩
  by_cases hl2 : 200 < len'
  · go_wp2_with fail
    all_goals (first | (go_ret; exact ⟨rfl, hb1⟩) | (exfalso; omega))
  have hle := take_le bs
  have hlen := hB.length
  have hcap := hB.le
  go_wp2_with fail
  refine (take_any a len cap bs w1 hB1).mono ?_; rintro e w' ⟨rfl, rfl⟩
  unfold takeV
  by_cases ht : (takeOf bs).2.2 = 0
  · have hlt := takeOf_lt bs
    have hpos := take_pos bs ht
    have EN := enc_take bs ht
    have TM := take_more bs ht more
    rw [ht]
    generalize (takeOf bs).1 = n at *
    generalize (takeOf bs).2.1 = k at *
    have hk : k ≤ len := by omega
    rcases hB1.at_ with e0 | ⟨b, off, rfl, hlb, _⟩
    · omega
    have hkc : k ≤ cap := by omega
    have hj0 : (0 : Int) ≤ (k : Int) := by omega
    have hj1 : (k : Int) ≤ (cap : Int) := by omega
    have tok1 : True := trivial
    have tok2 : True := trivial
    have hP1 := Lib.hid (hB1.take hk)
    have hkl : (bs.take k).length = k := (hB1.take hk).length
    go_wp2_with (first
      | (at_builtin; have _t := tok1; refine append_bytes 27 5 info8 Try.underlying27 rfl _ _ rfl w1.heap.size (.slice none 0 0) [] 0 rfl rfl (OwnB.nil _ _ _) (some ⟨b, off, none⟩) k cap (bs.take k) rfl hP1.out (by omega) (Nat.le_refl _) ?_; intro q2 c2 w2 hO2 hR2 hG2; clear tok1; simp only [Nat.zero_add, List.nil_append] at hO2 hR2 ⊢; have D2 := (Below.refl w1.heap.size w1).grown hG2 (Nat.le_refl _) (fun k e => by cases e); have hM2 := Lib.hid (hM1.below D2); clear hR2)
      | (at_builtin; have _t := tok2; refine append_bytes 27 5 info8 Try.underlying27 rfl _ _ rfl w1.heap.size (.slice q2 k c2) (bs.take k) k hkl rfl hO2 a' len' cap' more rfl hM2.out (by omega) D2.size ?_; intro q3 c3 w3 hO3 hR3 hG3; clear tok2; have D3 := D2.grown hG3 D2.size (fun k hk => (hO2.owns.lt k hk).1)))
    have B3 : Below w.heap.size w w3 := hb1.trans (D3.mono hb1.size)
    have TV : takeV (bs.take k ++ more) = .tuple #[.int .u64 (n : Int), .int .i64 (k : Int), .int .i64 0] := by unfold takeV; rw [TM]
    refine (take_any q3 (k + len') c3 (bs.take k ++ more) w3 hR3).mono ?_; rintro e w' ⟨rfl, rfl⟩
    rw [TV]
    clear TV TM hR3 hO3 hG3 hO2 hG2 hM2
    have hP3 := Lib.hid (hP1.out.below D3)
    have z3 := B3.size
    have CV : ∀ W, Below w3.heap.size w3 W → (convert 27 9 (.slice (some ⟨b, off, none⟩) k cap)).run Try.prog W = .ok (.string ⟨(bs.take k).toArray⟩) W := fun W hW => (hP3.out.below hW).conv 27 9 5 Try.underlying27 Try.underlying5 Try.underlying9
    generalize bs.take k = p at *
    replace CV := Lib.hid CV
    have D0 : Below w3.heap.size w3 w3.drew := (Below.refl _ _).drew
    have D1 : Below w3.heap.size w3 ((w3.alloc (.cells #[.int .u64 (n : Int)] 22)).drew) := ((Below.refl _ _).alloc (Nat.le_refl _) _).drew
    replace EN := Lib.hid EN
    clear hP1 hP3
    go_wp2_with fail
    have cvb0 := CV.out _ D0
    have cvb1 := CV.out _ D1
    refine wp_region_held_drew (S := fun W => (convert 27 9 (.slice (some ⟨b, off, none⟩) k cap)).run Try.prog W = .ok (.string ⟨p.toArray⟩) W) (by kernel_rfl) cvb0 (fun hHeld => ?_)
    refine wpAnyH_take (i := 0) (oi := ⟨some 52, _, _, _, _, _⟩) (v := ?_) rfl (by kernel_rfl) (by kernel_rfl) (by kernel_rfl) (fun _ _ _ h => h) (Or.inl ⟨by rfl, ?hyt0⟩) (by assumption) ?_; (case hyt0 => ((intro W hSW; (try dsimp only at hSW); go_simp); (all_goals with_reducible rfl))); (try simp only [Act.put, List.setIfInBounds_toArray, List.set_cons_zero, List.set_cons_succ])
    refine wpAnyH_take (i := 4) (oi := ⟨some 56, _, _, _, _, _⟩) (v := ?_) rfl (by kernel_rfl) (by kernel_rfl) (by kernel_rfl) (fun _ _ _ h => h) (Or.inl ⟨by rfl, ?hyt4⟩) (by assumption) ?_; (case hyt4 => ((intro W hSW; (try dsimp only at hSW); go_simp); (all_goals with_reducible rfl))); (try simp only [Act.put, List.setIfInBounds_toArray, List.set_cons_zero, List.set_cons_succ])
    refine wpAnyH_take (i := 5) (oi := ⟨some 57, _, _, _, _, _⟩) (v := ?_) rfl (by kernel_rfl) (by kernel_rfl) (by kernel_rfl) (fun _ _ _ h => h) (Or.inl ⟨by rfl, ?hyt5⟩) (by assumption) ?_; (case hyt5 => ((intro W hSW; (try dsimp only at hSW); go_simp); (all_goals with_reducible rfl))); (try simp only [Act.put, List.setIfInBounds_toArray, List.set_cons_zero, List.set_cons_succ])
    refine wpAnyH_take (i := 6) (oi := ⟨some 58, _, _, _, _, _⟩) (v := ?_) rfl (by kernel_rfl) (by kernel_rfl) (by kernel_rfl) (fun _ _ _ h => h) (Or.inl ⟨by rfl, ?hyt6⟩) (by assumption) ?_; (case hyt6 => ((intro W hSW; (try dsimp only at hSW); go_simp); (all_goals with_reducible rfl))); (try simp only [Act.put, List.setIfInBounds_toArray, List.set_cons_zero, List.set_cons_succ])
    refine wpAnyH_take (i := 7) (oi := ⟨some 59, _, _, _, _, _⟩) (v := ?_) rfl (by kernel_rfl) (by kernel_rfl) (by kernel_rfl) (fun _ _ _ h => h) (Or.inl ⟨by rfl, ?hyt7⟩) (by assumption) ?_; (case hyt7 => ((intro W hSW; (try dsimp only at hSW); go_simp); (all_goals with_reducible rfl))); (try simp only [Act.put, List.setIfInBounds_toArray, List.set_cons_zero, List.set_cons_succ])
    refine wpAnyH_ready (rs := [1]) (by kernel_rfl) (by simp) ?_; refine AllReadyH.cons (o := ⟨some 53, _, _, _, _, _⟩) rfl (fun K hK => ?_) AllReadyH.nil; go_simp
    refine hK.out _ _ cvb1 (fun hHeld1 => ?_)
    clear hK K hHeld
    (try simp only [Act.put, List.setIfInBounds_toArray, List.set_cons_zero, List.set_cons_succ])
    refine wpAnyH_ready (rs := [2]) (by kernel_rfl) (by simp) ?_; refine AllReadyH.cons (o := ⟨some 54, _, _, _, _, _⟩) rfl (fun K hK => ?_) AllReadyH.nil; go_simp
    go_at_call 15
    refine (puts_any (some ⟨w3.heap.size, 0, none⟩) 1 1 [(n : Int)] ((w3.alloc (.cells #[.int .u64 (n : Int)] 22)).drew) (rowI_mk (by simp) rfl (by omega) (wf_one (by omega)) (fun i hi => by (obtain rfl : i = 0 := (by omega)); simp [go_sem])) (by omega)).mono ?_; rintro e w4 ⟨v4, rfl, hO4, hb4⟩
    rw [encAll_one, EN.out] at hO4
    have D4 : Below w3.heap.size w3 w4 := D1.trans (hb4.mono D1.size)
    obtain ⟨q4, c4, rfl, hR4, _⟩ := hO4.row
    have cv4 := hR4.conv 27 9 5 Try.underlying27 Try.underlying5 Try.underlying9 (P := Try.prog)
    rw [hkl] at cv4 ⊢
    have cvb4 := CV.out _ D4
    have B4 : Below w.heap.size w w4 := B3.trans (D4.mono z3)
    clear hO4 hR4 hb4
    (try go_simp)
    refine hK.out _ _ cvb4 (fun hHeld2 => ?_)
    clear hK K hHeld1
    (try simp only [Act.put, List.setIfInBounds_toArray, List.set_cons_zero, List.set_cons_succ])
    refine wpAnyH_switch (S' := fun W => (convert 27 9 (.slice q4 k c4)).run Try.prog W = .ok (.string ⟨p.toArray⟩) W ∧ (convert 27 9 (.slice (some ⟨b, off, none⟩) k cap)).run Try.prog W = .ok (.string ⟨p.toArray⟩) W) (fun _ h => h.2) _ _ _ _ ?_
    have hHeld3 : (fun W => (convert 27 9 (.slice q4 k c4)).run Try.prog W = .ok (.string ⟨p.toArray⟩) W ∧ (convert 27 9 (.slice (some ⟨b, off, none⟩) k cap)).run Try.prog W = .ok (.string ⟨p.toArray⟩) W) w4 := ⟨cv4, cvb4⟩
    clear hHeld2 cv4 cvb4 cvb0 cvb1
    refine wpAnyH_take (i := 3) (oi := ⟨some 55, _, _, _, _, _⟩) (v := ?_) rfl (by kernel_rfl) (by kernel_rfl) (by kernel_rfl) (fun _ _ _ h => h) (Or.inl ⟨by rfl, ?hyt3⟩) (by assumption) ?_; (case hyt3 => ((intro W hSW; (try dsimp only at hSW); obtain ⟨hSW, hSW2⟩ := hSW; go_simp); (all_goals with_reducible rfl))); (try simp only [Act.put, List.setIfInBounds_toArray, List.set_cons_zero, List.set_cons_succ])
    refine wpAnyH_take (i := 8) (oi := ⟨some 60, _, _, _, _, _⟩) (v := ?_) rfl (by kernel_rfl) (by kernel_rfl) (by kernel_rfl) (fun _ _ _ h => h) (Or.inl ⟨by rfl, ?hyt8⟩) (by assumption) ?_; (case hyt8 => ((intro W hSW; (try dsimp only at hSW); go_simp); (all_goals with_reducible rfl))); (try simp only [Act.put, List.setIfInBounds_toArray, List.set_cons_zero, List.set_cons_succ])
    refine wpAnyH_take (i := 9) (oi := ⟨some 61, _, _, _, _, _⟩) (v := ?_) rfl (by kernel_rfl) (by kernel_rfl) (by kernel_rfl) (fun _ _ _ h => h) (Or.inl ⟨by rfl, ?hyt9⟩) (by assumption) ?_; (case hyt9 => ((intro W hSW; (try dsimp only at hSW); go_simp); (all_goals with_reducible rfl))); (try simp only [Act.put, List.setIfInBounds_toArray, List.set_cons_zero, List.set_cons_succ])
    refine wpAnyH_take (i := 10) (oi := ⟨some 62, _, _, _, _, _⟩) (v := ?_) rfl (by kernel_rfl) (by kernel_rfl) (by kernel_rfl) (fun _ _ _ h => h) (Or.inl ⟨by rfl, ?hyt10⟩) (by assumption) ?_; (case hyt10 => ((intro W hSW; (try dsimp only at hSW); go_simp); (all_goals with_reducible rfl))); (try simp only [Act.put, List.setIfInBounds_toArray, List.set_cons_zero, List.set_cons_succ])
    refine wpAnyH_take (i := 11) (oi := ⟨some 63, _, _, _, _, _⟩) (v := ?_) rfl (by kernel_rfl) (by kernel_rfl) (by kernel_rfl) (fun _ _ _ h => h) (Or.inl ⟨by rfl, ?hyt11⟩) (by assumption) ?_; (case hyt11 => ((intro W hSW; (try dsimp only at hSW); go_simp); (all_goals with_reducible rfl))); (try simp only [Act.put, List.setIfInBounds_toArray, List.set_cons_zero, List.set_cons_succ])
    refine wpAnyH_take (i := 12) (oi := ⟨some 64, _, _, _, _, _⟩) (v := ?_) rfl (by kernel_rfl) (by kernel_rfl) (by kernel_rfl) (fun _ _ _ h => h) (Or.inl ⟨by rfl, ?hyt12⟩) (by assumption) ?_; (case hyt12 => ((intro W hSW; (try dsimp only at hSW); go_simp); (all_goals with_reducible rfl))); (try simp only [Act.put, List.setIfInBounds_toArray, List.set_cons_zero, List.set_cons_succ])
    refine wpAnyH_take (i := 13) (oi := ⟨some 65, _, _, _, _, _⟩) (v := ?_) rfl (by kernel_rfl) (by kernel_rfl) (by kernel_rfl) (fun _ _ _ h => h) (Or.inl ⟨by rfl, ?hyt13⟩) (by assumption) ?_; (case hyt13 => ((intro W hSW; (try dsimp only at hSW); go_simp); (all_goals with_reducible rfl))); (try simp only [Act.put, List.setIfInBounds_toArray, List.set_cons_zero, List.set_cons_succ])
    refine wpAnyH_take (i := 14) (oi := ⟨some 66, _, _, _, _, _⟩) (v := ?_) rfl (by kernel_rfl) (by kernel_rfl) (by kernel_rfl) (fun _ _ _ h => h) (Or.inl ⟨by rfl, ?hyt14⟩) (by assumption) ?_; (case hyt14 => ((intro W hSW; (try dsimp only at hSW); go_simp); (all_goals with_reducible rfl))); (try simp only [Act.put, List.setIfInBounds_toArray, List.set_cons_zero, List.set_cons_succ])
    refine wpAnyH_take (i := 15) (oi := ⟨some 67, _, _, _, _, _⟩) (v := ?_) rfl (by kernel_rfl) (by kernel_rfl) (by kernel_rfl) (fun _ _ _ h => h) (Or.inl ⟨by rfl, ?hyt15⟩) (by assumption) ?_; (case hyt15 => ((intro W hSW; (try dsimp only at hSW); go_simp); (all_goals with_reducible rfl))); (try simp only [Act.put, List.setIfInBounds_toArray, List.set_cons_zero, List.set_cons_succ])
    refine wpAnyH_take (i := 16) (oi := ⟨some 68, _, _, _, _, _⟩) (v := ?_) rfl (by kernel_rfl) (by kernel_rfl) (by kernel_rfl) (fun _ _ _ h => h) (Or.inl ⟨by rfl, ?hyt16⟩) (by assumption) ?_; (case hyt16 => ((intro W hSW; (try dsimp only at hSW); go_simp); (all_goals with_reducible rfl))); (try simp only [Act.put, List.setIfInBounds_toArray, List.set_cons_zero, List.set_cons_succ])
    refine wpAnyH_take (i := 17) (oi := ⟨some 69, _, _, _, _, _⟩) (v := ?_) rfl (by kernel_rfl) (by kernel_rfl) (by kernel_rfl) (fun _ _ _ h => h) (Or.inl ⟨by rfl, ?hyt17⟩) (by assumption) ?_; (case hyt17 => ((intro W hSW; (try dsimp only at hSW); go_simp); (all_goals with_reducible rfl))); (try simp only [Act.put, List.setIfInBounds_toArray, List.set_cons_zero, List.set_cons_succ])
    refine wpAnyH_take (i := 18) (oi := ⟨some 70, _, _, _, _, _⟩) (v := ?_) rfl (by kernel_rfl) (by kernel_rfl) (by kernel_rfl) (fun _ _ _ h => h) (Or.inl ⟨by rfl, ?hyt18⟩) (by assumption) ?_; (case hyt18 => ((intro W hSW; (try dsimp only at hSW); go_simp); (all_goals with_reducible rfl))); (try simp only [Act.put, List.setIfInBounds_toArray, List.set_cons_zero, List.set_cons_succ])
    refine wpAnyH_take (i := 19) (oi := ⟨some 71, _, _, _, _, _⟩) (v := ?_) rfl (by kernel_rfl) (by kernel_rfl) (by kernel_rfl) (fun _ _ _ h => h) (Or.inl ⟨by rfl, ?hyt19⟩) (by assumption) ?_; (case hyt19 => ((intro W hSW; (try dsimp only at hSW); go_simp); (all_goals with_reducible rfl))); (try simp only [Act.put, List.setIfInBounds_toArray, List.set_cons_zero, List.set_cons_succ])
    refine wpAnyH_take (i := 20) (oi := ⟨some 72, _, _, _, _, _⟩) (v := ?_) rfl (by kernel_rfl) (by kernel_rfl) (by kernel_rfl) (fun _ _ _ h => h) (Or.inl ⟨by rfl, ?hyt20⟩) (by assumption) ?_; (case hyt20 => ((intro W hSW; (try dsimp only at hSW); go_simp); (all_goals with_reducible rfl))); (try simp only [Act.put, List.setIfInBounds_toArray, List.set_cons_zero, List.set_cons_succ])
    refine wpAnyH_take (i := 21) (oi := ⟨some 73, _, _, _, _, _⟩) (v := ?_) rfl (by kernel_rfl) (by kernel_rfl) (by kernel_rfl) (fun _ _ _ h => h) (Or.inl ⟨by rfl, ?hyt21⟩) (by assumption) ?_; (case hyt21 => ((intro W hSW; (try dsimp only at hSW); go_simp); (all_goals with_reducible rfl))); (try simp only [Act.put, List.setIfInBounds_toArray, List.set_cons_zero, List.set_cons_succ])
    refine wpAnyH_take (i := 22) (oi := ⟨some 74, _, _, _, _, _⟩) (v := ?_) rfl (by kernel_rfl) (by kernel_rfl) (by kernel_rfl) (fun _ _ _ h => h) (Or.inl ⟨by rfl, ?hyt22⟩) (by assumption) ?_; (case hyt22 => ((intro W hSW; (try dsimp only at hSW); go_simp); (all_goals with_reducible rfl))); (try simp only [Act.put, List.setIfInBounds_toArray, List.set_cons_zero, List.set_cons_succ])
    refine wpAnyH_done (by kernel_rfl) ?_ _
    clear hHeld3
    go_wp2_with fail; refine (puts_any _ 1 1 [(xn : Int)] _ (rowI_mk (by simp) rfl (by omega) (wf_one bx.2) (fun i hi => by (obtain rfl : i = 0 := (by omega)); simp [go_sem])) (by omega)).mono ?_; rintro e wA ⟨vA, rfl, hOA, hbA⟩; rw [encAll_one] at hOA; have zA : w4.heap.size + 1 ≤ wA.heap.size := (by have := hbA.size; simpa using this); have HA : Below w.heap.size w wA := Below.trans (Below.alloc B4 B4.size _) (hbA.mono (by have := (B4).size; simp; omega)); obtain ⟨qA, cA, rfl, hRA, _⟩ := hOA.row; have cvA := Lib.hid (hRA.conv 27 9 5 Try.underlying27 Try.underlying5 Try.underlying9 (P := Try.prog)); clear hRA hOA hbA; have cv1 := cvA.out; go_wp2_with fail; refine (puts_any _ 1 1 [(yn : Int)] _ (rowI_mk (by simp) rfl (by omega) (wf_one by_.2) (fun i hi => by (obtain rfl : i = 0 := (by omega)); simp [go_sem])) (by omega)).mono ?_; rintro e wC ⟨vC, rfl, hOC, hbC⟩; rw [encAll_one] at hOC; have HC : Below w.heap.size w wC := Below.trans (Below.alloc HA HA.size _) (hbC.mono (by have := HA.size; simp; omega)); obtain ⟨qC, cC, rfl, hRC, _⟩ := hOC.row; have cv2 := hRC.conv 27 9 5 Try.underlying27 Try.underlying5 Try.underlying9 (P := Try.prog); clear hRC hOC hbC cv1 cvA; have hless := HL.out; have hbeq := HE.out; go_wp2_with fail; all_goals (go_ret; exact ⟨by simp, HC⟩)
  · have he' : ((takeOf bs).2.2 == 0) = false := by rw [beq_eq_false_iff_ne]; exact ht
    have hz := take_zero bs ht
    rw [hz.1, hz.2]
    generalize (takeOf bs).2.2 = e1 at *
    clear hle hlen hcap hB1 hM1
    go_wp2_with fail; refine (puts_any _ 1 1 [(xn : Int)] _ (rowI_mk (by simp) rfl (by omega) (wf_one bx.2) (fun i hi => by (obtain rfl : i = 0 := (by omega)); simp [go_sem])) (by omega)).mono ?_; rintro e wA ⟨vA, rfl, hOA, hbA⟩; rw [encAll_one] at hOA; have zA : w1.heap.size + 1 ≤ wA.heap.size := (by have := hbA.size; simpa using this); have HA : Below w.heap.size w wA := Below.trans (Below.alloc hb1 hb1.size _) (hbA.mono (by have := (hb1).size; simp; omega)); obtain ⟨qA, cA, rfl, hRA, _⟩ := hOA.row; have cvA := Lib.hid (hRA.conv 27 9 5 Try.underlying27 Try.underlying5 Try.underlying9 (P := Try.prog)); clear hRA hOA hbA; have cv1 := cvA.out; go_wp2_with fail; refine (puts_any _ 1 1 [(yn : Int)] _ (rowI_mk (by simp) rfl (by omega) (wf_one by_.2) (fun i hi => by (obtain rfl : i = 0 := (by omega)); simp [go_sem])) (by omega)).mono ?_; rintro e wC ⟨vC, rfl, hOC, hbC⟩; rw [encAll_one] at hOC; have HC : Below w.heap.size w wC := Below.trans (Below.alloc HA HA.size _) (hbC.mono (by have := HA.size; simp; omega)); obtain ⟨qC, cC, rfl, hRC, _⟩ := hOC.row; have cv2 := hRC.conv 27 9 5 Try.underlying27 Try.underlying5 Try.underlying9 (P := Try.prog); clear hRC hOC hbC cv1 cvA; have hless := HL.out; have hbeq := HE.out; go_wp2_with fail; all_goals (go_ret; exact ⟨by simp, HC⟩)
end Go.Proofs.Ytdondjodonmebaa
