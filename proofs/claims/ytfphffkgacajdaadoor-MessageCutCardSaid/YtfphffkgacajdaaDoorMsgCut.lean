/- The walk of MessageCut. -/
import Derived.Test.YtfphffkgacajdaaDoorMsgAG
import Derived.Test.YtfphffkgacajdaaDoorMsgTG
import Derived.Test.YtfphffkgacajdaaDoorMsgOpen
import Derived.Test.YtfphffkgacajdaaDoorFrPG
import Derived.Test.YtfphffkgacajdaaDoorChecked
import Derived.Test.YtfphffkgacajdaaDoorRows
namespace Go.Proofs.YtfphffkgacajdaaDoor
open Go.RowKit
set_option linter.unusedVariables false
set_option linter.unusedSimpArgs false
set_option maxHeartbeats 1600000
set_option maxRecDepth 20000
theorem messageCut_walk (m : Msg) (q : Option Addr) (n c : Nat) (k : Int) (bk : 0 ≤ k ∧ k ≤ 65535) (y : Int) (by_ : 0 ≤ y ∧ y ≤ 255) (w : World) (hQ : RowQ w q n m.props) (hokW : m.okW) (hT : Tab w) :
    Calls Tryd.prog 6 #[msgV m q n c, .int .u16 k, .int .u8 y] w fun e w' => e = .returned (.bool true) ∧ Below w.heap.size w w' := by
  obtain ⟨kn, rfl⟩ := Int.eq_ofNat_of_zero_le bk.1
  obtain ⟨yn, rfl⟩ := Int.eq_ofNat_of_zero_le by_.1
  obtain ⟨yb, rfl⟩ : ∃ kb : UInt8, yn = kb.toNat := ⟨UInt8.ofNat yn, by rw [UInt8.toNat_ofNat']; omega⟩
  have HW := Lib.hid (fun W h => few_any m q n c W h hokW.names)
  have HPPo : fewB m.props = true → m.ok := fun h => hokW.ok h
  have HPP := fun W h (hok : m.ok) => mput_any m q n c W hok h
  have HTK : m.ok → mayM m = true → ∀ W q n c (h : RowB W q n c (putM m ++ [yb])), n ≤ 1000 → Calls Tryd.prog 23 #[.int .u8 (m.kind.toNat : Int), .slice q n c] W (TookM W (msg0, 12)) := fun hok hm W q n c h hn => by
    have := mtake_any m.kind q n c _ W h (by omega)
    have e2 := take_putM m hok hm [yb]
    rw [if_neg (by simp)] at e2
    rwa [e2] at this
  have HTC : m.ok → mayM m = true → ∀ j, j < (putM m).length → ∀ W q n c (h : RowB W q n c ((putM m).take j)), n ≤ 1000 → Calls Tryd.prog 23 #[.int .u8 (m.kind.toNat : Int), .slice q n c] W (TookM W (msg0, 10)) := fun hok hm j hj W q n c h hn => by
    have := mtake_any m.kind q n c _ W h (by omega)
    rwa [take_cutM m hok hm j hj] at this
  have hle : mayM m = true → (putM m).length ≤ 256 := putM_le
  have hputC : putC m = if mayM m = true then putM m else [] := rfl
  have herrC : errC m = if mayM m = true then 0 else 1 := rfl
  generalize putC m = pc at *
  generalize errC m = ec at *
  generalize putM m = pm at *
  generalize mayM m = bm at *
  generalize fewB m.props = fw at *
  replace HTK := Lib.hid HTK
  replace HTC := Lib.hid HTC
  replace HPPo := Lib.hid HPPo
  replace hputC := Lib.hid hputC
  replace herrC := Lib.hid herrC
  replace hle := Lib.hid hle
  replace hQ := Lib.hid hQ
  replace hT := Lib.hid hT
  unfold msgV at HW HPP ⊢
  replace HPP := Lib.hid HPP
  clear hokW
  obtain ⟨W1, eW1⟩ : ∃ W, w.alloc (.cells #[.int .u8 (m.kind.toNat : Int), .int .u64 (m.seq : Int), .int .i64 m.at_, .slice q n c] 25) = W := ⟨_, rfl⟩
  have B1 : Below w.heap.size w W1 := by rw [← eW1]; exact (Below.refl _ _).alloc (Nat.le_refl _) _
  have XA : Hid (Box W1 w.heap.size [.int .u8 (m.kind.toNat : Int), .int .u64 (m.seq : Int), .int .i64 m.at_, .slice q n c]) := Lib.hid (by rw [← eW1]; exact Box.new w _ _ _ rfl _ rfl)
  go_enter Tryd.func6, Tryd.ntmps6
  go_wp2_with fail
  refine (mawake_any _ (hT.out.below B1)).mono ?_; rintro e w2 ⟨rfl, hb2⟩
  have B2 := B1.trans (hb2.mono B1.size)
  replace XA := Lib.hid (XA.out.below hb2)
  clear eW1 hb2 B1
  have m0 := XA.out.cell 0 _ rfl
  have m1 := XA.out.cell 1 _ rfl
  have m2 := XA.out.cell 2 _ rfl
  have m3 := XA.out.cell 3 _ rfl
  go_wp2_with fail
  refine (HW.out _ (RowG.below hQ.out B2)).mono ?_; rintro e w3 ⟨rfl, hb3⟩
  have B3 := B2.trans (hb3.mono B2.size)
  replace XA := Lib.hid (XA.out.below hb3)
  clear m0 m1 m2 m3 hb3 B2
  cases fw with
  | false =>
    go_wp2_with fail
    go_ret
    exact ⟨rfl, B3⟩
  | true =>
    have hok := HPPo.out rfl
    have m0 := XA.out.cell 0 _ rfl
    have m1 := XA.out.cell 1 _ rfl
    have m2 := XA.out.cell 2 _ rfl
    have m3 := XA.out.cell 3 _ rfl
    go_wp2_with fail
    refine (HPP.out _ (RowG.below hQ.out B3) hok).mono ?_; rintro e w4 ⟨v4, rfl, hO4, hb4⟩
    have B4 := B3.trans (hb4.mono B3.size)
    replace XA := Lib.hid (XA.out.below hb4)
    clear m0 m1 m2 m3 hb4 B3
    obtain ⟨q4, c4, rfl, hR4, _⟩ := hO4.row
    clear hO4
    cases bm with
    | false =>
      have he := herrC.out
      rw [if_neg (by simp)] at he
      subst he
      go_wp2_with fail
      go_ret
      exact ⟨rfl, B4⟩
    | true =>
      have hp := hputC.out
      have he := herrC.out
      rw [if_pos rfl] at hp he
      subst he
      subst hp
      have hle' := hle.out rfl
      have HTK2 := Lib.hid (HTK.out hok rfl)
      have HTC2 := Lib.hid (HTC.out hok rfl)
      clear HTK HTC hok
      obtain ⟨L, hL⟩ : ∃ L, pc.length = L := ⟨_, rfl⟩
      rw [hL] at hR4 hle' ⊢
      replace hL := Lib.hid hL
      replace hR4 := Lib.hid hR4
      have tok1 : True := trivial
      have tok2 : True := trivial
      go_wp2_with (first | (at_builtin; have _t := tok1; refine append_bytes 31 5 Oct.info8 Tryd.underlying31 rfl _ _ rfl w4.heap.size (.slice none 0 0) [] 0 rfl rfl (OwnB.nil _ _ _) q4 L c4 pc rfl hR4.out (by omega) (Nat.le_refl _) ?_; intro q5 c5 w5 hO5 hR5 hG5; clear tok1 hR5; have b45 : Below w4.heap.size w4 w5 := (Below.refl _ _).grown hG5 (Nat.le_refl _) (fun k hk => by cases hk); have hz5 := b45.size; replace hO5 := Lib.hid (show OwnB 5 w4.heap.size w5 (.slice q5 L c5) pc from (by simpa using hO5)); clear hG5) | (at_builtin; have _t := tok2; refine append_bytes 31 5 Oct.info8 Tryd.underlying31 rfl _ _ rfl w4.heap.size (.slice q5 L c5) pc L hL.out rfl (hO5.out.below ((Below.refl _ _).alloc (Nat.le_refl _) _)) (some ⟨w5.heap.size, 0, none⟩) 1 1 [yb] rfl (RowB.newM w5 [yb] _ _ _ rfl (by unfold maxLen; simp) 1 rfl) (by omega) (by simp; omega) ?_; intro q6 c6 w6 hO6 hR6 hG6; clear tok2 hO6; have b46 : Below w4.heap.size w4 w6 := (b45.alloc hz5 _).grown hG6 (by simp; omega) (fun k hk => (hO5.out.owns.lt k hk).1); have B6 := B4.trans (b46.mono B4.size); have hRb : Hid (RowB w6 q6 (L + 1) c6 (pc ++ [yb])) := Lib.hid hR6; clear hR6 hG6; replace XA := Lib.hid (XA.out.below b46); replace hR4 := Lib.hid (hR4.out.below b46); have m0 := XA.out.cell 0 _ rfl))
      have m0 := XA.out.cell 0 _ rfl
      refine (HTK2.out _ _ _ _ hRb.out (by omega)).mono ?_; rintro e w7 ⟨q7, n7, c7, rfl, hR7, hb7⟩
      unfold msgV
      simp only [msg0]
      have B7 := B6.trans (hb7.mono B6.size)
      replace XA := Lib.hid (XA.out.below hb7)
      replace hR4 := Lib.hid (hR4.out.below hb7)
      clear m0 hR7 hb7 b46 b45
      have zA := XA.out.lt
      have A7 : Below w7.heap.size w7 (w7.alloc (.cells #[.int .u8 0, .int .u64 0, .int .i64 0, .slice q7 n7 c7] 25)) := (Below.refl _ _).alloc (Nat.le_refl _) _
      by_cases h0 : L = 0
      · subst h0
        go_wp2_with fail
        go_ret
        exact ⟨rfl, B7.trans (A7.mono B7.size)⟩
      have h0' : ((L : Int) == 0) = false := by rw [beq_eq_false_iff_ne]; omega
      have hmod := Nat.mod_lt kn (show 0 < L by omega)
      have hrem : (kn : Int) % (L : Int) = ((kn % L : Nat) : Int) := by simp
      obtain ⟨j, hj⟩ : ∃ j, kn % L = j := ⟨_, rfl⟩
      rw [hj] at hrem hmod
      go_wp2_with fail
      have XA7 := Lib.hid (XA.out.below A7)
      replace hR4 := Lib.hid (hR4.out.below A7)
      have B8 := B7.trans (A7.mono B7.size)
      have hz8 : w.heap.size < (w7.alloc (.cells #[.int .u8 0, .int .u64 0, .int .i64 0, .slice q7 n7 c7] 25)).heap.size := XA7.out.lt
      generalize w7.alloc (.cells #[.int .u8 0, .int .u64 0, .int .i64 0, .slice q7 n7 c7] 25) = w8 at *
      have E : ∀ W, Below w8.heap.size w8 W → W.cell? ⟨w.heap.size, 0, none⟩ = some (.int .u8 (m.kind.toNat : Int)) := fun W hW => (XA7.out.below hW).cell 0 _ rfl
      replace E := Lib.hid E
      have D := (Below.refl w8.heap.size w8).drew
      have hrem2 : Int.tmod (kn : Int) (L : Int) = (j : Int) := by rw [Int.tmod_eq_emod_of_nonneg (by omega)]; exact hrem
      have hw1 : IntKind.i64.wrap (kn : Int) = (kn : Int) := IntWalk.i64_in _ (by omega)
      have hw2 : IntKind.i64.wrap (j : Int) = (j : Int) := IntWalk.i64_in _ (by omega)
      have hc4 : L ≤ c4 := hR4.out.le
      have hj1 : (j : Int) ≤ (c4 : Int) := by omega
      have hj2 : j ≤ c4 := by omega
      have hj0 : (0 : Int) ≤ (j : Int) := by omega
      have hL0 : (L : Int) ≠ 0 := by omega
      have hT5 := Lib.hid (HTC2.out j (by have := hL.out; omega))
      have hR5 := Lib.hid (hR4.out.take (n := j) (by omega))
      refine wp_region_held_drew (S := fun W => W.cell? ⟨w.heap.size, 0, none⟩ = some (.int .u8 (m.kind.toNat : Int))) (by kernel_rfl) (E.out _ D) (fun hHeld => ?_)
      refine wpAnyH_take (i := 0) (oi := ⟨some 50, _, _, _, _, _⟩) (v := ?_) rfl (by kernel_rfl) (by kernel_rfl) (by kernel_rfl) (fun _ _ _ h => h) (Or.inl ⟨by rfl, ?hyt0⟩) (by assumption) ?_; (case hyt0 => ((intro W hSW; (try dsimp only at hSW); go_simp); (all_goals with_reducible rfl))); (try simp only [Act.put, List.setIfInBounds_toArray, List.set_cons_zero, List.set_cons_succ])
      refine wpAnyH_take (i := 1) (oi := ⟨some 51, _, _, _, _, _⟩) (v := ?_) rfl (by kernel_rfl) (by kernel_rfl) (by kernel_rfl) (fun _ _ _ h => h) (Or.inl ⟨by rfl, ?hyt1⟩) (by assumption) ?_; (case hyt1 => ((intro W hSW; (try dsimp only at hSW); go_simp); (all_goals with_reducible rfl))); (try simp only [Act.put, List.setIfInBounds_toArray, List.set_cons_zero, List.set_cons_succ])
      refine wpAnyH_take (i := 2) (oi := ⟨some 52, _, _, _, _, _⟩) (v := ?_) rfl (by kernel_rfl) (by kernel_rfl) (by kernel_rfl) (fun _ _ _ h => h) (Or.inl ⟨by rfl, ?hyt2⟩) (by assumption) ?_; (case hyt2 => ((intro W hSW; (try dsimp only at hSW); go_simp); (all_goals with_reducible rfl))); (try simp only [Act.put, List.setIfInBounds_toArray, List.set_cons_zero, List.set_cons_succ])
      refine wpAnyH_take (i := 3) (oi := ⟨some 53, _, _, _, _, _⟩) (v := ?_) rfl (by kernel_rfl) (by kernel_rfl) (by kernel_rfl) (fun _ _ _ h => h) (Or.inl ⟨by rfl, ?hyt3⟩) (by assumption) ?_; (case hyt3 => ((intro W hSW; (try dsimp only at hSW); go_simp); (all_goals with_reducible rfl))); (try simp only [Act.put, List.setIfInBounds_toArray, List.set_cons_zero, List.set_cons_succ])
      refine wpAnyH_take (i := 4) (oi := ⟨some 54, _, _, _, _, _⟩) (v := ?_) rfl (by kernel_rfl) (by kernel_rfl) (by kernel_rfl) (fun _ _ _ h => h) (Or.inl ⟨by rfl, ?hyt4⟩) (by assumption) ?_; (case hyt4 => ((intro W hSW; (try dsimp only at hSW); go_simp); (all_goals with_reducible rfl))); (try simp only [Act.put, List.setIfInBounds_toArray, List.set_cons_zero, List.set_cons_succ])
      refine wpAnyH_take (i := 5) (oi := ⟨some 55, _, _, _, _, _⟩) (v := ?_) rfl (by kernel_rfl) (by kernel_rfl) (by kernel_rfl) (fun _ _ _ h => h) (Or.inl ⟨by rfl, ?hyt5⟩) (by assumption) ?_; (case hyt5 => ((intro W hSW; (try dsimp only at hSW); go_simp); (all_goals with_reducible rfl))); (try simp only [Act.put, List.setIfInBounds_toArray, List.set_cons_zero, List.set_cons_succ])
      refine wpAnyH_take (i := 6) (oi := ⟨some 56, _, _, _, _, _⟩) (v := ?_) rfl (by kernel_rfl) (by kernel_rfl) (by kernel_rfl) (fun _ _ _ h => h) (Or.inl ⟨by rfl, ?hyt6⟩) (by assumption) ?_; (case hyt6 => ((intro W hSW; (try dsimp only at hSW); go_simp); (all_goals with_reducible rfl))); (try simp only [Act.put, List.setIfInBounds_toArray, List.set_cons_zero, List.set_cons_succ])
      refine wpAnyH_take (i := 7) (oi := ⟨some 57, _, _, _, _, _⟩) (v := ?_) rfl (by kernel_rfl) (by kernel_rfl) (by kernel_rfl) (fun _ _ _ h => h) (Or.inl ⟨by rfl, ?hyt7⟩) (by assumption) ?_; (case hyt7 => ((intro W hSW; (try dsimp only at hSW); go_simp); (all_goals with_reducible rfl))); (try simp only [Act.put, List.setIfInBounds_toArray, List.set_cons_zero, List.set_cons_succ])
      refine wpAnyH_take (i := 8) (oi := ⟨some 58, _, _, _, _, _⟩) (v := ?_) rfl (by kernel_rfl) (by kernel_rfl) (by kernel_rfl) (fun _ _ _ h => h) (Or.inl ⟨by rfl, ?hyt8⟩) (by assumption) ?_; (case hyt8 => ((intro W hSW; (try dsimp only at hSW); go_simp); (all_goals with_reducible rfl))); (try simp only [Act.put, List.setIfInBounds_toArray, List.set_cons_zero, List.set_cons_succ])
      refine wpAnyH_ready (rs := [9, 13]) (by kernel_rfl) (by simp) ?_
      refine AllReadyH.cons (o := ⟨some 59, _, _, _, _, _⟩) rfl (fun K hK => ?_) ?_
      · go_simp
        go_at_call 23
        refine (hT5.out _ q4 j c4 (hR5.out.below D) (by omega)).mono ?_; rintro e w9 ⟨q9, n9, c9, rfl, hR9, hb9⟩
        unfold msgV
        simp only [msg0]
        have D9 : Below w8.heap.size w8 w9 := D.trans (hb9.mono D.size)
        (try go_simp); refine hK.out _ _ (E.out _ D9) (fun hHeld2 => ?_); clear hK K hHeld; (try simp only [Act.put, List.setIfInBounds_toArray, List.set_cons_zero, List.set_cons_succ])
        refine wpAnyH_take (i := 10) (oi := ⟨some 49, _, _, _, _, _⟩) (v := ?_) rfl (by kernel_rfl) (by kernel_rfl) (by kernel_rfl) (fun _ _ _ h => h) (Or.inl ⟨by rfl, ?hyt10⟩) (by assumption) ?_; (case hyt10 => ((intro W hSW; (try dsimp only at hSW); go_simp); (all_goals with_reducible rfl))); (try simp only [Act.put, List.setIfInBounds_toArray, List.set_cons_zero, List.set_cons_succ])
        refine wpAnyH_take (i := 11) (oi := ⟨some 60, _, _, _, _, _⟩) (v := ?_) rfl (by kernel_rfl) (by kernel_rfl) (by kernel_rfl) (fun _ _ _ h => h) (Or.inl ⟨by rfl, ?hyt11⟩) (by assumption) ?_; (case hyt11 => ((intro W hSW; (try dsimp only at hSW); go_simp); (all_goals with_reducible rfl))); (try simp only [Act.put, List.setIfInBounds_toArray, List.set_cons_zero, List.set_cons_succ])
        refine wpAnyH_take (i := 12) (oi := ⟨some 61, _, _, _, _, _⟩) (v := ?_) rfl (by kernel_rfl) (by kernel_rfl) (by kernel_rfl) (fun _ _ _ h => h) (Or.inl ⟨by rfl, ?hyt12⟩) (by assumption) ?_; (case hyt12 => ((intro W hSW; (try dsimp only at hSW); go_simp); (all_goals with_reducible rfl))); (try simp only [Act.put, List.setIfInBounds_toArray, List.set_cons_zero, List.set_cons_succ])
        refine wpAnyH_ready (rs := [13]) (by kernel_rfl) (by simp) ?_; refine AllReadyH.cons (o := ⟨some 14, _, _, _, _, _⟩) rfl (fun K hK => ?_) AllReadyH.nil; go_simp
        have D10 : Below w8.heap.size w8 (w9.alloc (.cells #[.int .u8 0, .int .u64 0, .int .i64 0, .slice none 0 0] 25)) := D9.alloc D9.size _
        refine hK.out _ _ (E.out _ D10) (fun hHeld3 => ?_)
        clear hK K hHeld2
        (try simp only [Act.put, List.setIfInBounds_toArray, List.set_cons_zero, List.set_cons_succ])
        refine wpAnyH_ready (rs := [14]) (by kernel_rfl) (by simp) ?_; refine AllReadyH.cons (o := ⟨none, _, _, _, _, _⟩) rfl (fun K hK => ?_) AllReadyH.nil; go_simp
        have D11 : Below w8.heap.size w8 (w9.alloc (.cells #[.int .u8 0, .int .u64 0, .int .i64 0, .slice q9 n9 c9] 25)) := D9.alloc D9.size _
        refine hK.out _ _ (E.out _ D11) (fun hHeld4 => ?_)
        clear hK K hHeld3
        (try simp only [Act.put, List.setIfInBounds_toArray, List.set_cons_zero, List.set_cons_succ])
        refine wpAnyH_take (i := 15) (oi := ⟨some 15, _, _, _, _, _⟩) (v := ?_) rfl (by kernel_rfl) (by kernel_rfl) (by kernel_rfl) (fun _ _ _ h => h) (Or.inl ⟨by rfl, ?hyt15⟩) (by assumption) ?_; (case hyt15 => ((intro W hSW; (try dsimp only at hSW); go_simp); (all_goals with_reducible rfl))); (try simp only [Act.put, List.setIfInBounds_toArray, List.set_cons_zero, List.set_cons_succ])
        refine wpAnyH_done (by kernel_rfl) ?_ _
        clear hHeld4
        go_wp2_with fail
        go_ret
        exact ⟨rfl, B8.trans (D11.mono B8.size)⟩
      · refine AllReadyH.cons (o := ⟨some 14, _, _, _, _, _⟩) rfl (fun K hK => ?_) AllReadyH.nil
        go_simp
        have D10 : Below w8.heap.size w8 ((w8.alloc (.cells #[.int .u8 0, .int .u64 0, .int .i64 0, .slice none 0 0] 25)).drew) := ((Below.refl _ _).alloc (Nat.le_refl _) _).drew
        refine hK.out _ _ (E.out _ D10) (fun hHeld2 => ?_)
        clear hK K hHeld
        (try simp only [Act.put, List.setIfInBounds_toArray, List.set_cons_zero, List.set_cons_succ])
        refine wpAnyH_ready (rs := [9]) (by kernel_rfl) (by simp) ?_; refine AllReadyH.cons (o := ⟨some 59, _, _, _, _, _⟩) rfl (fun K hK => ?_) AllReadyH.nil; go_simp
        go_at_call 23
        refine (hT5.out _ q4 j c4 (hR5.out.below D10) (by omega)).mono ?_; rintro e w9 ⟨q9, n9, c9, rfl, hR9, hb9⟩
        unfold msgV
        simp only [msg0]
        have D9 : Below w8.heap.size w8 w9 := D10.trans (hb9.mono D10.size)
        have XZ : Hid (Box w9 w8.heap.size [.int .u8 0, .int .u64 0, .int .i64 0, .slice none 0 0]) := Lib.hid (Box.below (Box.turn (Box.new w8 _ _ 25 rfl _ rfl) ((Turn.refl (fun _ => False) _).drew) (fun h => h)) hb9)
        (try go_simp); refine hK.out _ _ (E.out _ D9) (fun hHeld3 => ?_); clear hK K hHeld2; (try simp only [Act.put, List.setIfInBounds_toArray, List.set_cons_zero, List.set_cons_succ])
        refine wpAnyH_take (i := 10) (oi := ⟨some 49, _, _, _, _, _⟩) (v := ?_) rfl (by kernel_rfl) (by kernel_rfl) (by kernel_rfl) (fun _ _ _ h => h) (Or.inl ⟨by rfl, ?hyt10⟩) (by assumption) ?_; (case hyt10 => ((intro W hSW; (try dsimp only at hSW); go_simp); (all_goals with_reducible rfl))); (try simp only [Act.put, List.setIfInBounds_toArray, List.set_cons_zero, List.set_cons_succ])
        refine wpAnyH_take (i := 11) (oi := ⟨some 60, _, _, _, _, _⟩) (v := ?_) rfl (by kernel_rfl) (by kernel_rfl) (by kernel_rfl) (fun _ _ _ h => h) (Or.inl ⟨by rfl, ?hyt11⟩) (by assumption) ?_; (case hyt11 => ((intro W hSW; (try dsimp only at hSW); go_simp); (all_goals with_reducible rfl))); (try simp only [Act.put, List.setIfInBounds_toArray, List.set_cons_zero, List.set_cons_succ])
        refine wpAnyH_take (i := 12) (oi := ⟨some 61, _, _, _, _, _⟩) (v := ?_) rfl (by kernel_rfl) (by kernel_rfl) (by kernel_rfl) (fun _ _ _ h => h) (Or.inl ⟨by rfl, ?hyt12⟩) (by assumption) ?_; (case hyt12 => ((intro W hSW; (try dsimp only at hSW); go_simp); (all_goals with_reducible rfl))); (try simp only [Act.put, List.setIfInBounds_toArray, List.set_cons_zero, List.set_cons_succ])
        have r0 := XZ.out.cell 0 _ rfl
        have r1 := XZ.out.cell 1 _ rfl
        have r2 := XZ.out.cell 2 _ rfl
        have r3 := XZ.out.cell 3 _ rfl
        have k0 := XZ.out.free 0 (by simp)
        have k1 := XZ.out.free 1 (by simp)
        have k2 := XZ.out.free 2 (by simp)
        have k3 := XZ.out.free 3 (by simp)
        refine wpAnyH_ready (rs := [14]) (by kernel_rfl) (by simp) ?_; refine AllReadyH.cons (o := ⟨none, _, _, _, _, _⟩) rfl (fun K hK => ?_) AllReadyH.nil; go_simp
        have D11 : Below w8.heap.size w8 ((((w9.setCell ⟨w8.heap.size, 0, none⟩ (.int .u8 0)).setCell ⟨w8.heap.size, 1, none⟩ (.int .u64 0)).setCell ⟨w8.heap.size, 2, none⟩ (.int .i64 0)).setCell ⟨w8.heap.size, 3, none⟩ (.slice q9 n9 c9)) := (Turn.set4 w9 w8.heap.size _ _ _ _).below (B := w8.heap.size) D9.size (fun k hk e => by omega) |> D9.trans
        refine hK.out _ _ (E.out _ D11) (fun hHeld4 => ?_)
        clear hK K hHeld3 r0 r1 r2 r3 k0 k1 k2 k3
        (try simp only [Act.put, List.setIfInBounds_toArray, List.set_cons_zero, List.set_cons_succ])
        refine wpAnyH_take (i := 15) (oi := ⟨some 15, _, _, _, _, _⟩) (v := ?_) rfl (by kernel_rfl) (by kernel_rfl) (by kernel_rfl) (fun _ _ _ h => h) (Or.inl ⟨by rfl, ?hyt15⟩) (by assumption) ?_; (case hyt15 => ((intro W hSW; (try dsimp only at hSW); go_simp); (all_goals with_reducible rfl))); (try simp only [Act.put, List.setIfInBounds_toArray, List.set_cons_zero, List.set_cons_succ])
        refine wpAnyH_done (by kernel_rfl) ?_ _
        clear hHeld4
        go_wp2_with fail
        go_ret
        exact ⟨rfl, B8.trans (D11.mono B8.size)⟩
end Go.Proofs.YtfphffkgacajdaaDoor
