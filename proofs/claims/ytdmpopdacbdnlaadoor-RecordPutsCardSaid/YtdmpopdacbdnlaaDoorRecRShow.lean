/- lookoutref07.Show: contract. -/
import Derived.Test.YtdmpopdacbdnlaaDoorRecRPut
import Derived.Test.YtdmpopdacbdnlaaDoorRecShow
namespace Go.Proofs.YtdmpopdacbdnlaaDoor
open Go.RowKit
set_option linter.unusedVariables false
set_option linter.unusedSimpArgs false
set_option maxHeartbeats 4000000
set_option maxRecDepth 20000
theorem numOf_6 {c : UInt8} (h : let6 c) (hn : c ≠ 121) : ((numOf c : Int) == 6) = false := by
  rcases h with rfl | rfl | rfl | rfl | rfl | rfl
  all_goals first | rfl | exact absurd rfl hn
theorem rshow_app (ee x : List UInt8) (e1 e2 : List UInt8) (h1 : 32 :: x = e1) (h2 : ee ++ e1 = e2) : ((⟨#[32]⟩ : ByteArray) ++ (⟨x.toArray⟩ : ByteArray)) = ⟨e1.toArray⟩ ∧ ((⟨ee.toArray⟩ : ByteArray) ++ (⟨e1.toArray⟩ : ByteArray)) = ⟨e2.toArray⟩ := by
  subst h1; subst h2
  constructor
  · apply ByteArray.ext; simp [ByteArray.data_append]
  · apply ByteArray.ext; simp [ByteArray.data_append]
theorem rrshow_no (r : Rec) (w : World) (hm : mayB r = false) (hok : r.ok) :
    Calls Tryd.prog 59 #[recA r] w fun e w' => e = .returned (.string ⟨#[]⟩) ∧ Below w.heap.size w w' := by
  have HM := fun W => rrmay_any r hok W
  rw [hm] at HM
  unfold recA at HM ⊢
  replace HM := Lib.hid HM
  go_enter Tryd.func59, Tryd.ntmps59
  go_wp2_with fail
  refine (HM.out _).mono ?_; rintro e w1 ⟨rfl, hb1⟩
  go_wp2_with fail
  go_ret
  exact ⟨rfl, Below.trans (by repeat (first | with_reducible exact Below.refl _ _ | with_reducible refine Below.drew ?_ | with_reducible refine Below.alloc ?_ (by (try simp) <;> omega) _ | with_reducible refine Below.setCell ?_ (by (try simp) <;> omega) _)) (hb1.mono (by simp))⟩
theorem rrshow_yes (r : Rec) (w : World) (hm : mayB r = true) (hok : r.ok) :
    Calls Tryd.prog 59 #[recA r] w fun e w' => e = .returned (.string ⟨(wordOf r.kind ++ (fieldsOf r.kind).flatMap (spF r)).toArray⟩) ∧ Below w.heap.size w w' := by
  obtain ⟨hk, hpos, htx⟩ := may_facts hm hok
  have hk2 := hk
  unfold kindB at hk2
  rw [Bool.and_eq_true, decide_eq_true_iff, decide_eq_true_iff] at hk2
  have HM := fun W => rrmay_any r hok W
  rw [hm] at HM
  have HO := Lib.hid (fun W => rorder_any r.kind hk2.1 hk2.2 W)
  have HWO := fun W => rword_any r.kind hk2.1 hk2.2 W
  have hoe := order_eq r.kind hk2.1 hk2.2
  have hfl := fields_len r.kind
  have hwl := word_len r.kind
  have hlet := fields_letter r.kind hk2.1 hk2.2
  rw [hoe] at HO
  unfold recA at HM ⊢
  unfold strV at HWO
  generalize wordOf r.kind = wo at *
  generalize fieldsOf r.kind = fs at *
  clear hoe hk hk2 hm hok
  replace HM := Lib.hid HM
  replace HWO := Lib.hid HWO
  replace hlet := Lib.hid hlet
  replace hpos := Lib.hid hpos
  have XA : Hid (Box (w.alloc (.cells #[.int .u8 (r.kind.toNat : Int), .int .i64 r.source, .int .u64 (r.seq : Int), .int .i64 r.at_, .int .i64 r.num, .int .i64 r.code, .bool r.yes, .string ⟨r.text.toArray⟩] 71)) w.heap.size (recVs r)) := Lib.hid (Box.new _ _ _ _ rfl _ rfl)
  have A1 : Below w.heap.size w (w.alloc (.cells #[.int .u8 (r.kind.toNat : Int), .int .i64 r.source, .int .u64 (r.seq : Int), .int .i64 r.at_, .int .i64 r.num, .int .i64 r.code, .bool r.yes, .string ⟨r.text.toArray⟩] 71)) := (Below.refl _ _).alloc (Nat.le_refl _) _
  go_enter Tryd.func59, Tryd.ntmps59
  go_wp2_with fail
  refine (HM.out _).mono ?_; rintro e w1 ⟨rfl, hb1⟩
  have B1 := A1.trans (hb1.mono A1.size)
  replace XA := Lib.hid (XA.out.below hb1)
  have zA := XA.out.lt
  have r0 := XA.out.cell 0 _ rfl
  clear A1 hb1
  go_wp2_with fail
  refine (HWO.out _).mono ?_; rintro e w' ⟨rfl, rfl⟩
  go_wp2_with fail
  refine (HO.out _).mono ?_; rintro e w2 ⟨q2, n2, c2, rfl, hR2, hb2, _⟩
  have B2 := B1.trans (hb2.mono B1.size)
  replace XA := Lib.hid (XA.out.below hb2)
  have hl2 : n2 = fs.length := by have := hR2.length; simpa using this.symm
  have zA2 := XA.out.lt
  subst hl2
  replace hR2 := Lib.hid hR2
  clear hb2 r0 B1 zA
  go_wp2_with fail
  go_loopw [3, 5] (fun v i wr => ∃ k : Nat, k ≤ fs.length ∧ i = .int .i64 k ∧ v = .string ⟨(wo ++ (fs.take k).flatMap (spF r)).toArray⟩ ∧ (wo ++ (fs.take k).flatMap (spF r)).length ≤ 30 + 241 * k ∧ Below w2.heap.size w2 wr) (fun v i wr => fs.length - (intOf i).toNat)
  case atStart => exact ⟨0, Nat.zero_le _, rfl, by simp, by simp; omega, Below.refl _ _⟩
  case round =>
    obtain ⟨k, hk, rfl, rfl, hsz, hB⟩ := hrel
    by_cases hlt : k < fs.length
    · rcases hR2.out.at_ with h0 | ⟨b, off, rfl, hbl, hcc⟩
      · omega
      have hbr := Nat.lt_of_lt_of_le hbl hB.size
      have y0 := (hB.cell (p := ⟨b, off + k, none⟩) hbl).trans (hcc k hlt)
      have hgd : (((fs.map numOf).map fun x : Nat => (x : Int)).getD k 0) = ((numOf (fs[k]'hlt) : Nat) : Int) := by simp [List.getD, hlt]
      rw [hgd] at y0
      have hft := flat_succ (f := spF r) fs k hlt
      have hrf : spF r (fs[k]'hlt) = 32 :: textF r (fs[k]'hlt) := rfl
      have htl := textF_le r (fs[k]'hlt) hpos.out htx
      have hrt : textF r (fs[k]'hlt) = if fs[k]'hlt = 116 then r.text else if fs[k]'hlt = 121 then yesT r.yes else Lib.decDigits (numU r (fs[k]'hlt)) := rfl
      have hle := hlet.out (fs[k]'hlt) (List.getElem_mem hlt)
      have hnl := numU_le r (fs[k]'hlt) hpos.out
      generalize fs[k] = ch at *
      generalize textF r ch = tx at *
      generalize hee : wo ++ (fs.take k).flatMap (spF r) = ee at *
      obtain ⟨e1, he1⟩ : ∃ e1, 32 :: tx = e1 := ⟨_, rfl⟩
      obtain ⟨e2, he2⟩ : ∃ e2, ee ++ e1 = e2 := ⟨_, rfl⟩
      have hft2 : wo ++ (fs.take (k + 1)).flatMap (spF r) = e2 := by
        rw [hft, hrf, ← he2, ← he1, ← hee]; simp
      have hl1 : e1.length = tx.length + 1 := by rw [← he1]; simp
      have hl2 : e2.length = ee.length + e1.length := by rw [← he2]; simp
      obtain ⟨hc1, hc2⟩ := rshow_app ee tx e1 e2 he1 he2
      have hs0 := ba_sizeP ee
      have hs1 := ba_sizeP e1
      have hs3 : (⟨#[32]⟩ : ByteArray).size = 1 := rfl
      have hA1 : ¬ 9223372036854775807 < 1 + tx.length := by omega
      have hA2 : ¬ 9223372036854775807 < ee.length + e1.length := by omega
      have hA3 : ¬ 9223372036854775807 < ee.length + (tx.length + 1) := by omega
      replace hft2 := Lib.hid hft2
      clear hft hrf hee he2 hgd hcc
      have hk0 : (0 : Int) ≤ (k : Int) := by omega
      have hk1 : (k : Int) < (fs.length : Int) := by omega
      have hkk : IntKind.i64.wrap (k : Int) = (k : Int) := IntWalk.i64_in _ (by omega)
      by_cases hch : ch = 116
      · subst hch
        rw [if_pos rfl] at hrt
        subst hrt
        have x7 := (XA.out.below hB).cell 7 _ rfl
        have y0' : wr.cell? ⟨b, off + k, none⟩ = some (.int .i64 7) := y0
        have hs2 := ba_sizeP r.text
        clear hnl y0 he1
        go_wp2_with fail
        go_roundw
        case rel => exact ⟨k + 1, by omega, by first | rfl | (go_num; done) | (congr 1; omega), by rw [hft2.out], by rw [hft2.out]; omega, hB⟩
        case measure => simp [intOf] <;> omega
      · rw [if_neg hch] at hrt
        have hl6 := letter6 hle hch
        have hn7 := numOf_7 hl6
        by_cases hcy : ch = 121
        · subst hcy
          rw [if_pos rfl] at hrt
          have x6 := (XA.out.below hB).cell 6 _ rfl
          have y0' : wr.cell? ⟨b, off + k, none⟩ = some (.int .i64 6) := y0
          clear hnl y0 hn7
          cases hy : r.yes with
          | true =>
            rw [hy] at hrt x6
            have hrt2 : tx = [121, 101, 115] := hrt
            subst hrt2
            subst he1
            have hs2 : (⟨#[32, 121, 101, 115]⟩ : ByteArray).size = 4 := rfl
            clear hrt hc1
            go_wp2_with fail
            go_roundw
            case rel => exact ⟨k + 1, by omega, by first | rfl | (go_num; done) | (congr 1; omega), by rw [hft2.out], by rw [hft2.out]; omega, hB⟩
            case measure => simp [intOf] <;> omega
          | false =>
            rw [hy] at hrt x6
            have hrt2 : tx = [110, 111] := hrt
            subst hrt2
            subst he1
            have hs2 : (⟨#[32, 110, 111]⟩ : ByteArray).size = 3 := rfl
            clear hrt hc1
            go_wp2_with fail
            go_roundw
            case rel => exact ⟨k + 1, by omega, by first | rfl | (go_num; done) | (congr 1; omega), by rw [hft2.out], by rw [hft2.out]; omega, hB⟩
            case measure => simp [intOf] <;> omega
        · rw [if_neg hcy] at hrt
          have hn6 := numOf_6 hl6 hcy
          have HNM := fun W => rnumber_any r ch hl6 hpos.out W
          unfold recA at HNM
          replace HNM := Lib.hid HNM
          have HF := Lib.hid (fun W => rdigits_any (numU r ch) (by omega) W)
          generalize numU r ch = nu at *
          rw [← hrt] at HF
          have hs2 := ba_sizeP tx
          clear hrt hle hl6 he1
          go_wp2_with fail
          have E : ∀ W, Below wr.heap.size wr W → W.cell? ⟨w.heap.size, 0, none⟩ = some (.int .u8 (r.kind.toNat : Int)) ∧ W.cell? ⟨w.heap.size, 1, none⟩ = some (.int .i64 r.source) ∧ W.cell? ⟨w.heap.size, 2, none⟩ = some (.int .u64 (r.seq : Int)) ∧ W.cell? ⟨w.heap.size, 3, none⟩ = some (.int .i64 r.at_) ∧ W.cell? ⟨w.heap.size, 4, none⟩ = some (.int .i64 r.num) ∧ W.cell? ⟨w.heap.size, 5, none⟩ = some (.int .i64 r.code) ∧ W.cell? ⟨w.heap.size, 6, none⟩ = some (.bool r.yes) ∧ W.cell? ⟨w.heap.size, 7, none⟩ = some (.string ⟨r.text.toArray⟩) ∧ W.cell? ⟨b, off + k, none⟩ = some (.int .i64 (numOf ch : Int)) := fun W hW => ⟨(XA.out.below (hB.trans (hW.mono hB.size))).cell 0 _ rfl, (XA.out.below (hB.trans (hW.mono hB.size))).cell 1 _ rfl, (XA.out.below (hB.trans (hW.mono hB.size))).cell 2 _ rfl, (XA.out.below (hB.trans (hW.mono hB.size))).cell 3 _ rfl, (XA.out.below (hB.trans (hW.mono hB.size))).cell 4 _ rfl, (XA.out.below (hB.trans (hW.mono hB.size))).cell 5 _ rfl, (XA.out.below (hB.trans (hW.mono hB.size))).cell 6 _ rfl, (XA.out.below (hB.trans (hW.mono hB.size))).cell 7 _ rfl, (hW.cell (p := ⟨b, off + k, none⟩) hbr).trans y0⟩
          replace E := Lib.hid E
          have D := (Below.refl wr.heap.size wr).drew
          refine wp_region_noPanic ?_
          refine wp_region_held_drew (S := fun W => W.cell? ⟨w.heap.size, 0, none⟩ = some (.int .u8 (r.kind.toNat : Int)) ∧ W.cell? ⟨w.heap.size, 1, none⟩ = some (.int .i64 r.source) ∧ W.cell? ⟨w.heap.size, 2, none⟩ = some (.int .u64 (r.seq : Int)) ∧ W.cell? ⟨w.heap.size, 3, none⟩ = some (.int .i64 r.at_) ∧ W.cell? ⟨w.heap.size, 4, none⟩ = some (.int .i64 r.num) ∧ W.cell? ⟨w.heap.size, 5, none⟩ = some (.int .i64 r.code) ∧ W.cell? ⟨w.heap.size, 6, none⟩ = some (.bool r.yes) ∧ W.cell? ⟨w.heap.size, 7, none⟩ = some (.string ⟨r.text.toArray⟩) ∧ W.cell? ⟨b, off + k, none⟩ = some (.int .i64 (numOf ch : Int))) (by kernel_rfl) (E.out _ D) (fun hHeld => ?_)
          refine wpAnyH_take (i := 0) (oi := ⟨some 42, _, _, _, _, _⟩) (v := ?_) rfl (by kernel_rfl) (by kernel_rfl) (by kernel_rfl) (fun _ _ _ h => h) (Or.inl ⟨by rfl, ?hyt0⟩) (by assumption) ?_; (case hyt0 => ((intro W hSW; (try dsimp only at hSW); obtain ⟨s1, s2, s3, s4, s5, s6, s7, s8, s9⟩ := hSW; go_simp); (all_goals with_reducible rfl))); (try simp only [Act.put, List.setIfInBounds_toArray, List.set_cons_zero, List.set_cons_succ])
          refine wpAnyH_take (i := 1) (oi := ⟨some 43, _, _, _, _, _⟩) (v := ?_) rfl (by kernel_rfl) (by kernel_rfl) (by kernel_rfl) (fun _ _ _ h => h) (Or.inl ⟨by rfl, ?hyt1⟩) (by assumption) ?_; (case hyt1 => ((intro W hSW; (try dsimp only at hSW); obtain ⟨s1, s2, s3, s4, s5, s6, s7, s8, s9⟩ := hSW; go_simp); (all_goals with_reducible rfl))); (try simp only [Act.put, List.setIfInBounds_toArray, List.set_cons_zero, List.set_cons_succ])
          refine wpAnyH_take (i := 2) (oi := ⟨some 44, _, _, _, _, _⟩) (v := ?_) rfl (by kernel_rfl) (by kernel_rfl) (by kernel_rfl) (fun _ _ _ h => h) (Or.inl ⟨by rfl, ?hyt2⟩) (by assumption) ?_; (case hyt2 => ((intro W hSW; (try dsimp only at hSW); obtain ⟨s1, s2, s3, s4, s5, s6, s7, s8, s9⟩ := hSW; go_simp); (all_goals with_reducible rfl))); (try simp only [Act.put, List.setIfInBounds_toArray, List.set_cons_zero, List.set_cons_succ])
          refine wpAnyH_take (i := 3) (oi := ⟨some 45, _, _, _, _, _⟩) (v := ?_) rfl (by kernel_rfl) (by kernel_rfl) (by kernel_rfl) (fun _ _ _ h => h) (Or.inl ⟨by rfl, ?hyt3⟩) (by assumption) ?_; (case hyt3 => ((intro W hSW; (try dsimp only at hSW); obtain ⟨s1, s2, s3, s4, s5, s6, s7, s8, s9⟩ := hSW; go_simp); (all_goals with_reducible rfl))); (try simp only [Act.put, List.setIfInBounds_toArray, List.set_cons_zero, List.set_cons_succ])
          refine wpAnyH_take (i := 4) (oi := ⟨some 46, _, _, _, _, _⟩) (v := ?_) rfl (by kernel_rfl) (by kernel_rfl) (by kernel_rfl) (fun _ _ _ h => h) (Or.inl ⟨by rfl, ?hyt4⟩) (by assumption) ?_; (case hyt4 => ((intro W hSW; (try dsimp only at hSW); obtain ⟨s1, s2, s3, s4, s5, s6, s7, s8, s9⟩ := hSW; go_simp); (all_goals with_reducible rfl))); (try simp only [Act.put, List.setIfInBounds_toArray, List.set_cons_zero, List.set_cons_succ])
          refine wpAnyH_take (i := 5) (oi := ⟨some 47, _, _, _, _, _⟩) (v := ?_) rfl (by kernel_rfl) (by kernel_rfl) (by kernel_rfl) (fun _ _ _ h => h) (Or.inl ⟨by rfl, ?hyt5⟩) (by assumption) ?_; (case hyt5 => ((intro W hSW; (try dsimp only at hSW); obtain ⟨s1, s2, s3, s4, s5, s6, s7, s8, s9⟩ := hSW; go_simp); (all_goals with_reducible rfl))); (try simp only [Act.put, List.setIfInBounds_toArray, List.set_cons_zero, List.set_cons_succ])
          refine wpAnyH_ready (rs := [6]) (by kernel_rfl) (by simp) ?_; refine AllReadyH.cons (o := ⟨some 48, _, _, _, _, _⟩) rfl (fun K hK => ?_) AllReadyH.nil; go_simp
          go_at_call 93
          refine (HNM.out _).mono ?_; rintro e w8 ⟨rfl, hb8⟩
          have D8 : Below wr.heap.size wr w8 := D.trans (hb8.mono D.size)
          (try go_simp); refine hK.out _ _ (E.out _ D8) (fun hHeld2 => ?_); clear hK K hHeld; (try simp only [Act.put, List.setIfInBounds_toArray, List.set_cons_zero, List.set_cons_succ])
          refine wpAnyH_ready (rs := [7]) (by kernel_rfl) (by simp) ?_; refine AllReadyH.cons (o := ⟨some 49, _, _, _, _, _⟩) rfl (fun K hK => ?_) AllReadyH.nil; go_simp
          go_at_call 92
          refine (HF.out _).mono ?_; rintro e w9 ⟨rfl, hb9⟩
          have D9 : Below wr.heap.size wr w9 := D8.trans (hb9.mono D8.size)
          (try go_simp); refine hK.out _ _ (E.out _ D9) (fun hHeld3 => ?_); clear hK K hHeld2; (try simp only [Act.put, List.setIfInBounds_toArray, List.set_cons_zero, List.set_cons_succ])
          refine wpAnyH_take (i := 8) (oi := ⟨some 50, _, _, _, _, _⟩) (v := ?_) rfl (by kernel_rfl) (by kernel_rfl) (by kernel_rfl) (fun _ _ _ h => h) (Or.inl ⟨by rfl, ?hyt8⟩) (by assumption) ?_; (case hyt8 => ((intro W hSW; (try dsimp only at hSW); obtain ⟨s1, s2, s3, s4, s5, s6, s7, s8, s9⟩ := hSW; go_simp); (all_goals with_reducible rfl))); (try simp only [Act.put, List.setIfInBounds_toArray, List.set_cons_zero, List.set_cons_succ])
          refine wpAnyH_take (i := 9) (oi := ⟨some 51, _, _, _, _, _⟩) (v := ?_) rfl (by kernel_rfl) (by kernel_rfl) (by kernel_rfl) (fun _ _ _ h => h) (Or.inl ⟨by rfl, ?hyt9⟩) (by assumption) ?_; (case hyt9 => ((intro W hSW; (try dsimp only at hSW); obtain ⟨s1, s2, s3, s4, s5, s6, s7, s8, s9⟩ := hSW; go_simp); (all_goals with_reducible rfl))); (try simp only [Act.put, List.setIfInBounds_toArray, List.set_cons_zero, List.set_cons_succ])
          refine wpAnyH_take (i := 10) (oi := ⟨some 3, _, _, _, _, _⟩) (v := ?_) rfl (by kernel_rfl) (by kernel_rfl) (by kernel_rfl) (fun _ _ _ h => h) (Or.inl ⟨by rfl, ?hyt10⟩) (by assumption) ?_; (case hyt10 => ((intro W hSW; (try dsimp only at hSW); obtain ⟨s1, s2, s3, s4, s5, s6, s7, s8, s9⟩ := hSW; go_simp); (all_goals with_reducible rfl))); (try simp only [Act.put, List.setIfInBounds_toArray, List.set_cons_zero, List.set_cons_succ])
          refine wpAnyH_done (by kernel_rfl) ?_ _
          refine NoPanic.normal ?_
          clear hHeld3
          have B9 := hB.trans (D9.mono hB.size)
          go_wp2_with fail
          go_roundw
          case rel => exact ⟨k + 1, by omega, by first | rfl | (go_num; done) | (congr 1; omega), by rw [hft2.out], by rw [hft2.out]; omega, B9⟩
          case measure => simp [intOf] <;> omega
    · have e : fs.take k = fs := List.take_of_length_le (by omega)
      rw [e]
      have B5 := B2.trans (hB.mono B2.size)
      generalize hres : wo ++ fs.flatMap (spF r) = res at *
      replace hres := Lib.hid hres
      have hke : k = fs.length := by omega
      subst hke
      clear e hsz
      go_wp2_with fail
      exact bodyPost_ret (v := .string ⟨res.toArray⟩) (by simp [results, Tryd.results59, go_sem]) rfl ⟨by rw [hres.out], B5⟩
theorem rshow_any (r : Rec) (w : World) (hok : r.ok) :
    Calls Tryd.prog 59 #[recA r] w fun e w' => e = .returned (.string ⟨(showR r).toArray⟩) ∧ Below w.heap.size w w' := by
  unfold showR
  cases hm : mayB r with
  | true =>
    rw [if_pos rfl]
    exact rrshow_yes r w hm hok
  | false =>
    rw [if_neg (by simp)]
    exact rrshow_no r w hm hok
end Go.Proofs.YtdmpopdacbdnlaaDoor
