/- lookoutref07.Body and Put: contracts. -/
import Derived.Test.YtdmpopdacbdnlaaDoorRecROrd
import Derived.Test.YtdmpopdacbdnlaaDoorRecRMay
import Derived.Test.YtdmpopdacbdnlaaDoorRecPut
import Derived.Test.YtdmpopdacbdnlaaDoorOctG
import Derived.Test.YtdmpopdacbdnlaaDoorFrPG
namespace Go.Proofs.YtdmpopdacbdnlaaDoor
open Go.RowKit
set_option linter.unusedVariables false
set_option linter.unusedSimpArgs false
set_option maxHeartbeats 2000000
set_option maxRecDepth 20000
def recVs (r : Rec) : List Value := [.int .u8 (r.kind.toNat : Int), .int .i64 r.source, .int .u64 (r.seq : Int), .int .i64 r.at_, .int .i64 r.num, .int .i64 r.code, .bool r.yes, .string ⟨r.text.toArray⟩]
theorem letter6 {c : UInt8} (h : letter c) (hn : c ≠ 116) : let6 c := by
  unfold letter at h
  rcases h with h | h | h | h | h | h | h
  · exact .inl h
  · exact .inr (.inl h)
  · exact .inr (.inr (.inl h))
  · exact .inr (.inr (.inr (.inl h)))
  · exact .inr (.inr (.inr (.inr (.inl h))))
  · exact .inr (.inr (.inr (.inr (.inr h))))
  · exact absurd h hn
theorem numOf_7 {c : UInt8} (h : let6 c) : ((numOf c : Int) == 7) = false := by
  rcases h with rfl | rfl | rfl | rfl | rfl | rfl <;> rfl
theorem ba_appR (a b : List UInt8) : ((⟨a.toArray⟩ : ByteArray) ++ (⟨b.toArray⟩ : ByteArray)) = ⟨(a ++ b).toArray⟩ := by
  apply ByteArray.ext
  simp [ByteArray.data_append]
theorem rbody_any (r : Rec) (hm : mayB r = true) (hok : r.ok) (w : World) :
    Calls Tryd.prog 88 #[recA r] w fun e w' => e = .returned (.string ⟨(recBody r).toArray⟩) ∧ Below w.heap.size w w' := by
  obtain ⟨hk, hpos, htx⟩ := may_facts hm hok
  have hk2 := hk
  unfold kindB at hk2
  rw [Bool.and_eq_true, decide_eq_true_iff, decide_eq_true_iff] at hk2
  have HO := Lib.hid (fun W => rorder_any r.kind hk2.1 hk2.2 W)
  have hoe := order_eq r.kind hk2.1 hk2.2
  have hfl := fields_len r.kind
  have hlet := fields_letter r.kind hk2.1 hk2.2
  have hbd : recBody r = (fieldsOf r.kind).flatMap (recF r) := rfl
  rw [hoe] at HO
  generalize recBody r = bd at *
  generalize fieldsOf r.kind = fs at *
  clear hoe hk hk2 hm hok
  unfold recA
  replace hlet := Lib.hid hlet
  replace hbd := Lib.hid hbd
  replace hpos := Lib.hid hpos
  have XA : Hid (Box (w.alloc (.cells #[.int .u8 (r.kind.toNat : Int), .int .i64 r.source, .int .u64 (r.seq : Int), .int .i64 r.at_, .int .i64 r.num, .int .i64 r.code, .bool r.yes, .string ⟨r.text.toArray⟩] 71)) w.heap.size (recVs r)) := Lib.hid (Box.new _ _ _ _ rfl _ rfl)
  have A1 : Below w.heap.size w (w.alloc (.cells #[.int .u8 (r.kind.toNat : Int), .int .i64 r.source, .int .u64 (r.seq : Int), .int .i64 r.at_, .int .i64 r.num, .int .i64 r.code, .bool r.yes, .string ⟨r.text.toArray⟩] 71)) := (Below.refl _ _).alloc (Nat.le_refl _) _
  go_enter Tryd.func88, Tryd.ntmps88
  go_wp2_with fail
  refine (HO.out _).mono ?_; rintro e w2 ⟨q2, n2, c2, rfl, hR2, hb2, _⟩
  have B2 := A1.trans (hb2.mono A1.size)
  replace XA := Lib.hid (XA.out.below hb2)
  have hl2 : n2 = fs.length := by have := hR2.length; simpa using this.symm
  have zA := XA.out.lt
  subst hl2
  replace hR2 := Lib.hid hR2
  clear A1 hb2
  go_wp2_with fail
  go_loopw [3, 5] (fun v i wr => ∃ k : Nat, k ≤ fs.length ∧ i = .int .i64 k ∧ v = .string ⟨((fs.take k).flatMap (recF r)).toArray⟩ ∧ ((fs.take k).flatMap (recF r)).length ≤ 1009 * k ∧ Below w2.heap.size w2 wr) (fun v i wr => fs.length - (intOf i).toNat)
  case atStart => exact ⟨0, Nat.zero_le _, rfl, by simp, by simp, Below.refl _ _⟩
  case round =>
    obtain ⟨k, hk, rfl, rfl, hsz, hB⟩ := hrel
    by_cases hlt : k < fs.length
    · rcases hR2.out.at_ with h0 | ⟨b, off, rfl, hbl, hcc⟩
      · omega
      have hbr := Nat.lt_of_lt_of_le hbl hB.size
      have y0 := (hB.cell (p := ⟨b, off + k, none⟩) hbl).trans (hcc k hlt)
      have hgd : (((fs.map numOf).map fun x : Nat => (x : Int)).getD k 0) = ((numOf (fs[k]'hlt) : Nat) : Int) := by simp [List.getD, hlt]
      rw [hgd] at y0
      have hft := flat_succ (f := recF r) fs k hlt
      have hrf : recF r (fs[k]'hlt) = if fs[k]'hlt = 116 then Oct.encText ⟨r.text.toArray⟩ else Oct.enc (numU r (fs[k]'hlt)) := rfl
      have hle := hlet.out (fs[k]'hlt) (List.getElem_mem hlt)
      have hnl := numU_le r (fs[k]'hlt) hpos.out
      generalize fs[k] = ch at *
      generalize (fs.take k).flatMap (recF r) = ee at *
      clear hgd hcc
      have hk0 : (0 : Int) ≤ (k : Int) := by omega
      have hk1 : (k : Int) < (fs.length : Int) := by omega
      have hkk : IntKind.i64.wrap (k : Int) = (k : Int) := IntWalk.i64_in _ (by omega)
      by_cases hch : ch = 116
      · subst hch
        rw [if_pos rfl] at hrf
        have hz := ba_sizeP r.text
        have HTX := Lib.hid (fun W => Oct.rtxt_any ⟨r.text.toArray⟩ (by omega) W)
        have htl : (Oct.encText ⟨r.text.toArray⟩).length ≤ 1009 := by
          have h1 := Oct.enc_le (⟨r.text.toArray⟩ : ByteArray).size
          unfold Oct.encText
          rw [List.length_append]
          simp only [List.toList_toArray]
          omega
        generalize Oct.encText ⟨r.text.toArray⟩ = e5 at *
        rw [hrf] at hft
        have hc := ba_appR ee e5
        have hs1 := ba_sizeP ee
        have hs2 := ba_sizeP e5
        have hA : ¬ 9223372036854775807 < ee.length + e5.length := by omega
        replace hft := Lib.hid hft
        have x7 := (XA.out.below hB).cell 7 _ rfl
        have y0' : wr.cell? ⟨b, off + k, none⟩ = some (.int .i64 7) := y0
        clear hrf hnl y0 hz
        go_wp2_with fail
        refine (HTX.out _).mono ?_; rintro e w8 ⟨rfl, hb8⟩
        have B8 := hB.trans (hb8.mono hB.size)
        go_wp2_with fail
        go_roundw
        case rel => first | exact ⟨k + 1, by omega, by go_num, by rw [hft.out], by rw [hft.out, List.length_append]; omega, B8⟩ | exact ⟨k + 1, by omega, by omega, by rw [hft.out], by rw [hft.out, List.length_append]; omega, B8⟩
        case measure => simp [intOf] <;> omega
      · rw [if_neg hch] at hrf
        have hl6 := letter6 hle hch
        have hn7 := numOf_7 hl6
        have HNM := fun W => rnumber_any r ch hl6 hpos.out W
        unfold recA at HNM
        replace HNM := Lib.hid HNM
        have HN := Lib.hid (fun W => Oct.rnum_any (numU r ch) (by omega) W)
        have hel := Oct.enc_le (numU r ch)
        generalize numU r ch = nu at *
        generalize Oct.enc nu = e5 at *
        rw [hrf] at hft
        have hc := ba_appR ee e5
        have hs1 := ba_sizeP ee
        have hs2 := ba_sizeP e5
        have hA : ¬ 9223372036854775807 < ee.length + e5.length := by omega
        replace hft := Lib.hid hft
        clear hrf hle hl6
        go_wp2_with fail
        have E : ∀ W, Below wr.heap.size wr W → W.cell? ⟨w.heap.size, 0, none⟩ = some (.int .u8 (r.kind.toNat : Int)) ∧ W.cell? ⟨w.heap.size, 1, none⟩ = some (.int .i64 r.source) ∧ W.cell? ⟨w.heap.size, 2, none⟩ = some (.int .u64 (r.seq : Int)) ∧ W.cell? ⟨w.heap.size, 3, none⟩ = some (.int .i64 r.at_) ∧ W.cell? ⟨w.heap.size, 4, none⟩ = some (.int .i64 r.num) ∧ W.cell? ⟨w.heap.size, 5, none⟩ = some (.int .i64 r.code) ∧ W.cell? ⟨w.heap.size, 6, none⟩ = some (.bool r.yes) ∧ W.cell? ⟨w.heap.size, 7, none⟩ = some (.string ⟨r.text.toArray⟩) ∧ W.cell? ⟨b, off + k, none⟩ = some (.int .i64 (numOf ch : Int)) := fun W hW => ⟨(XA.out.below (hB.trans (hW.mono hB.size))).cell 0 _ rfl, (XA.out.below (hB.trans (hW.mono hB.size))).cell 1 _ rfl, (XA.out.below (hB.trans (hW.mono hB.size))).cell 2 _ rfl, (XA.out.below (hB.trans (hW.mono hB.size))).cell 3 _ rfl, (XA.out.below (hB.trans (hW.mono hB.size))).cell 4 _ rfl, (XA.out.below (hB.trans (hW.mono hB.size))).cell 5 _ rfl, (XA.out.below (hB.trans (hW.mono hB.size))).cell 6 _ rfl, (XA.out.below (hB.trans (hW.mono hB.size))).cell 7 _ rfl, (hW.cell (p := ⟨b, off + k, none⟩) hbr).trans y0⟩
        replace E := Lib.hid E
        have D := (Below.refl wr.heap.size wr).drew
        refine wp_region_noPanic ?_
        refine wp_region_held_drew (S := fun W => W.cell? ⟨w.heap.size, 0, none⟩ = some (.int .u8 (r.kind.toNat : Int)) ∧ W.cell? ⟨w.heap.size, 1, none⟩ = some (.int .i64 r.source) ∧ W.cell? ⟨w.heap.size, 2, none⟩ = some (.int .u64 (r.seq : Int)) ∧ W.cell? ⟨w.heap.size, 3, none⟩ = some (.int .i64 r.at_) ∧ W.cell? ⟨w.heap.size, 4, none⟩ = some (.int .i64 r.num) ∧ W.cell? ⟨w.heap.size, 5, none⟩ = some (.int .i64 r.code) ∧ W.cell? ⟨w.heap.size, 6, none⟩ = some (.bool r.yes) ∧ W.cell? ⟨w.heap.size, 7, none⟩ = some (.string ⟨r.text.toArray⟩) ∧ W.cell? ⟨b, off + k, none⟩ = some (.int .i64 (numOf ch : Int))) (by kernel_rfl) (E.out _ D) (fun hHeld => ?_)
        refine wpAnyH_take (i := 0) (oi := ⟨some 25, _, _, _, _, _⟩) (v := ?_) rfl (by kernel_rfl) (by kernel_rfl) (by kernel_rfl) (fun _ _ _ h => h) (Or.inl ⟨by rfl, ?hyt0⟩) (by assumption) ?_; (case hyt0 => ((intro W hSW; (try dsimp only at hSW); obtain ⟨s1, s2, s3, s4, s5, s6, s7, s8, s9⟩ := hSW; go_simp); (all_goals with_reducible rfl))); (try simp only [Act.put, List.setIfInBounds_toArray, List.set_cons_zero, List.set_cons_succ])
        refine wpAnyH_take (i := 1) (oi := ⟨some 26, _, _, _, _, _⟩) (v := ?_) rfl (by kernel_rfl) (by kernel_rfl) (by kernel_rfl) (fun _ _ _ h => h) (Or.inl ⟨by rfl, ?hyt1⟩) (by assumption) ?_; (case hyt1 => ((intro W hSW; (try dsimp only at hSW); obtain ⟨s1, s2, s3, s4, s5, s6, s7, s8, s9⟩ := hSW; go_simp); (all_goals with_reducible rfl))); (try simp only [Act.put, List.setIfInBounds_toArray, List.set_cons_zero, List.set_cons_succ])
        refine wpAnyH_take (i := 2) (oi := ⟨some 27, _, _, _, _, _⟩) (v := ?_) rfl (by kernel_rfl) (by kernel_rfl) (by kernel_rfl) (fun _ _ _ h => h) (Or.inl ⟨by rfl, ?hyt2⟩) (by assumption) ?_; (case hyt2 => ((intro W hSW; (try dsimp only at hSW); obtain ⟨s1, s2, s3, s4, s5, s6, s7, s8, s9⟩ := hSW; go_simp); (all_goals with_reducible rfl))); (try simp only [Act.put, List.setIfInBounds_toArray, List.set_cons_zero, List.set_cons_succ])
        refine wpAnyH_take (i := 3) (oi := ⟨some 28, _, _, _, _, _⟩) (v := ?_) rfl (by kernel_rfl) (by kernel_rfl) (by kernel_rfl) (fun _ _ _ h => h) (Or.inl ⟨by rfl, ?hyt3⟩) (by assumption) ?_; (case hyt3 => ((intro W hSW; (try dsimp only at hSW); obtain ⟨s1, s2, s3, s4, s5, s6, s7, s8, s9⟩ := hSW; go_simp); (all_goals with_reducible rfl))); (try simp only [Act.put, List.setIfInBounds_toArray, List.set_cons_zero, List.set_cons_succ])
        refine wpAnyH_take (i := 4) (oi := ⟨some 29, _, _, _, _, _⟩) (v := ?_) rfl (by kernel_rfl) (by kernel_rfl) (by kernel_rfl) (fun _ _ _ h => h) (Or.inl ⟨by rfl, ?hyt4⟩) (by assumption) ?_; (case hyt4 => ((intro W hSW; (try dsimp only at hSW); obtain ⟨s1, s2, s3, s4, s5, s6, s7, s8, s9⟩ := hSW; go_simp); (all_goals with_reducible rfl))); (try simp only [Act.put, List.setIfInBounds_toArray, List.set_cons_zero, List.set_cons_succ])
        refine wpAnyH_take (i := 5) (oi := ⟨some 30, _, _, _, _, _⟩) (v := ?_) rfl (by kernel_rfl) (by kernel_rfl) (by kernel_rfl) (fun _ _ _ h => h) (Or.inl ⟨by rfl, ?hyt5⟩) (by assumption) ?_; (case hyt5 => ((intro W hSW; (try dsimp only at hSW); obtain ⟨s1, s2, s3, s4, s5, s6, s7, s8, s9⟩ := hSW; go_simp); (all_goals with_reducible rfl))); (try simp only [Act.put, List.setIfInBounds_toArray, List.set_cons_zero, List.set_cons_succ])
        refine wpAnyH_ready (rs := [6]) (by kernel_rfl) (by simp) ?_; refine AllReadyH.cons (o := ⟨some 31, _, _, _, _, _⟩) rfl (fun K hK => ?_) AllReadyH.nil; go_simp
        go_at_call 93
        refine (HNM.out _).mono ?_; rintro e w8 ⟨rfl, hb8⟩
        have D8 : Below wr.heap.size wr w8 := D.trans (hb8.mono D.size)
        (try go_simp); refine hK.out _ _ (E.out _ D8) (fun hHeld2 => ?_); clear hK K hHeld; (try simp only [Act.put, List.setIfInBounds_toArray, List.set_cons_zero, List.set_cons_succ])
        refine wpAnyH_ready (rs := [7]) (by kernel_rfl) (by simp) ?_; refine AllReadyH.cons (o := ⟨some 32, _, _, _, _, _⟩) rfl (fun K hK => ?_) AllReadyH.nil; go_simp
        go_at_call 117
        refine (HN.out _).mono ?_; rintro e w9 ⟨rfl, hb9⟩
        have D9 : Below wr.heap.size wr w9 := D8.trans (hb9.mono D8.size)
        (try go_simp); refine hK.out _ _ (E.out _ D9) (fun hHeld3 => ?_); clear hK K hHeld2; (try simp only [Act.put, List.setIfInBounds_toArray, List.set_cons_zero, List.set_cons_succ])
        refine wpAnyH_take (i := 8) (oi := ⟨some 33, _, _, _, _, _⟩) (v := ?_) rfl (by kernel_rfl) (by kernel_rfl) (by kernel_rfl) (fun _ _ _ h => h) (Or.inl ⟨by rfl, ?hyt8⟩) (by assumption) ?_; (case hyt8 => ((intro W hSW; (try dsimp only at hSW); obtain ⟨s1, s2, s3, s4, s5, s6, s7, s8, s9⟩ := hSW; go_simp); (all_goals with_reducible rfl))); (try simp only [Act.put, List.setIfInBounds_toArray, List.set_cons_zero, List.set_cons_succ])
        refine wpAnyH_take (i := 9) (oi := ⟨some 3, _, _, _, _, _⟩) (v := ?_) rfl (by kernel_rfl) (by kernel_rfl) (by kernel_rfl) (fun _ _ _ h => h) (Or.inl ⟨by rfl, ?hyt9⟩) (by assumption) ?_; (case hyt9 => ((intro W hSW; (try dsimp only at hSW); obtain ⟨s1, s2, s3, s4, s5, s6, s7, s8, s9⟩ := hSW; go_simp); (all_goals with_reducible rfl))); (try simp only [Act.put, List.setIfInBounds_toArray, List.set_cons_zero, List.set_cons_succ])
        refine wpAnyH_done (by kernel_rfl) ?_ _
        refine NoPanic.normal ?_
        clear hHeld3
        have B9 := hB.trans (D9.mono hB.size)
        go_wp2_with fail
        go_roundw
        case rel => first | exact ⟨k + 1, by omega, by go_num, by rw [hft.out], by rw [hft.out, List.length_append]; omega, B9⟩ | exact ⟨k + 1, by omega, by omega, by rw [hft.out], by rw [hft.out, List.length_append]; omega, B9⟩
        case measure => simp [intOf] <;> omega
    · have e : fs.take k = fs := List.take_of_length_le (by omega)
      rw [e, ← hbd.out]
      have hke : k = fs.length := by omega
      subst hke
      go_wp2_with fail
      go_ret
      exact ⟨rfl, B2.trans (hB.mono B2.size)⟩
theorem rrput_any (r : Rec) (hok : r.ok) (w : World) :
    Calls Tryd.prog 57 #[recA r] w fun e w' => e = .returned (.string ⟨(recC r).toArray⟩) ∧ Below w.heap.size w w' := by
  have HM := Lib.hid (fun W => rrmay_any r hok W)
  have HP : mayB r = true → ∀ W, Calls Tryd.prog 88 #[recA r] W fun e w' => e = .returned (.string ⟨(recBody r).toArray⟩) ∧ Below W.heap.size W w' := fun hm W => rbody_any r hm hok W
  have hkm : mayB r = true → ∀ W, Calls Tryd.prog 87 #[.int .u8 (r.kind.toNat : Int), .string ⟨(recBody r).toArray⟩] W fun e w' => e = .returned (.string ⟨(Fr.put r.kind (recBody r)).toArray⟩) ∧ Below W.heap.size W w' := fun h W => rput_any r.kind (recBody r) W (by obtain ⟨h1, _, h3⟩ := may_facts h hok; exact recBody_le h1 h3)
  unfold recC
  unfold recA at HM HP ⊢
  generalize Fr.put r.kind (recBody r) = fb at *
  generalize recBody r = pb at *
  generalize mayB r = bm at *
  clear hok
  have XA : Hid (Box (w.alloc (.cells #[.int .u8 (r.kind.toNat : Int), .int .i64 r.source, .int .u64 (r.seq : Int), .int .i64 r.at_, .int .i64 r.num, .int .i64 r.code, .bool r.yes, .string ⟨r.text.toArray⟩] 71)) w.heap.size (recVs r)) := Lib.hid (Box.new _ _ _ _ rfl _ rfl)
  have A1 : Below w.heap.size w (w.alloc (.cells #[.int .u8 (r.kind.toNat : Int), .int .i64 r.source, .int .u64 (r.seq : Int), .int .i64 r.at_, .int .i64 r.num, .int .i64 r.code, .bool r.yes, .string ⟨r.text.toArray⟩] 71)) := (Below.refl _ _).alloc (Nat.le_refl _) _
  cases bm with
  | false =>
    rw [if_neg (by simp)]
    clear HP hkm
    go_enter Tryd.func57, Tryd.ntmps57
    go_wp2_with fail
    refine (HM.out _).mono ?_; rintro e w2 ⟨rfl, hb2⟩
    go_wp2_with fail
    go_ret
    exact ⟨rfl, A1.trans (hb2.mono A1.size)⟩
  | true =>
    rw [if_pos rfl]
    have HP2 := Lib.hid (HP rfl)
    have HF := Lib.hid (hkm rfl)
    clear HP hkm
    go_enter Tryd.func57, Tryd.ntmps57
    go_wp2_with fail
    refine (HM.out _).mono ?_; rintro e w2 ⟨rfl, hb2⟩
    have B2 := A1.trans (hb2.mono A1.size)
    replace XA := Lib.hid (XA.out.below hb2)
    clear A1 hb2
    go_wp2_with fail
    have E : ∀ W, Below w2.heap.size w2 W → W.cell? ⟨w.heap.size, 0, none⟩ = some (.int .u8 (r.kind.toNat : Int)) ∧ W.cell? ⟨w.heap.size, 1, none⟩ = some (.int .i64 r.source) ∧ W.cell? ⟨w.heap.size, 2, none⟩ = some (.int .u64 (r.seq : Int)) ∧ W.cell? ⟨w.heap.size, 3, none⟩ = some (.int .i64 r.at_) ∧ W.cell? ⟨w.heap.size, 4, none⟩ = some (.int .i64 r.num) ∧ W.cell? ⟨w.heap.size, 5, none⟩ = some (.int .i64 r.code) ∧ W.cell? ⟨w.heap.size, 6, none⟩ = some (.bool r.yes) ∧ W.cell? ⟨w.heap.size, 7, none⟩ = some (.string ⟨r.text.toArray⟩) := fun W hW => ⟨(XA.out.below hW).cell 0 _ rfl, (XA.out.below hW).cell 1 _ rfl, (XA.out.below hW).cell 2 _ rfl, (XA.out.below hW).cell 3 _ rfl, (XA.out.below hW).cell 4 _ rfl, (XA.out.below hW).cell 5 _ rfl, (XA.out.below hW).cell 6 _ rfl, (XA.out.below hW).cell 7 _ rfl⟩
    replace E := Lib.hid E
    have D := (Below.refl w2.heap.size w2).drew
    refine wp_region_held_drew (S := fun W => W.cell? ⟨w.heap.size, 0, none⟩ = some (.int .u8 (r.kind.toNat : Int)) ∧ W.cell? ⟨w.heap.size, 1, none⟩ = some (.int .i64 r.source) ∧ W.cell? ⟨w.heap.size, 2, none⟩ = some (.int .u64 (r.seq : Int)) ∧ W.cell? ⟨w.heap.size, 3, none⟩ = some (.int .i64 r.at_) ∧ W.cell? ⟨w.heap.size, 4, none⟩ = some (.int .i64 r.num) ∧ W.cell? ⟨w.heap.size, 5, none⟩ = some (.int .i64 r.code) ∧ W.cell? ⟨w.heap.size, 6, none⟩ = some (.bool r.yes) ∧ W.cell? ⟨w.heap.size, 7, none⟩ = some (.string ⟨r.text.toArray⟩)) (by kernel_rfl) (E.out _ D) (fun hHeld => ?_)
    refine wpAnyH_take (i := 0) (oi := ⟨some 6, _, _, _, _, _⟩) (v := ?_) rfl (by kernel_rfl) (by kernel_rfl) (by kernel_rfl) (fun _ _ _ h => h) (Or.inl ⟨by rfl, ?hyt0⟩) (by assumption) ?_; (case hyt0 => ((intro W hSW; (try dsimp only at hSW); obtain ⟨s1, s2, s3, s4, s5, s6, s7, s8⟩ := hSW; go_simp); (all_goals with_reducible rfl))); (try simp only [Act.put, List.setIfInBounds_toArray, List.set_cons_zero, List.set_cons_succ])
    refine wpAnyH_take (i := 1) (oi := ⟨some 7, _, _, _, _, _⟩) (v := ?_) rfl (by kernel_rfl) (by kernel_rfl) (by kernel_rfl) (fun _ _ _ h => h) (Or.inl ⟨by rfl, ?hyt1⟩) (by assumption) ?_; (case hyt1 => ((intro W hSW; (try dsimp only at hSW); obtain ⟨s1, s2, s3, s4, s5, s6, s7, s8⟩ := hSW; go_simp); (all_goals with_reducible rfl))); (try simp only [Act.put, List.setIfInBounds_toArray, List.set_cons_zero, List.set_cons_succ])
    refine wpAnyH_take (i := 2) (oi := ⟨some 8, _, _, _, _, _⟩) (v := ?_) rfl (by kernel_rfl) (by kernel_rfl) (by kernel_rfl) (fun _ _ _ h => h) (Or.inl ⟨by rfl, ?hyt2⟩) (by assumption) ?_; (case hyt2 => ((intro W hSW; (try dsimp only at hSW); obtain ⟨s1, s2, s3, s4, s5, s6, s7, s8⟩ := hSW; go_simp); (all_goals with_reducible rfl))); (try simp only [Act.put, List.setIfInBounds_toArray, List.set_cons_zero, List.set_cons_succ])
    refine wpAnyH_ready (rs := [3]) (by kernel_rfl) (by simp) ?_; refine AllReadyH.cons (o := ⟨some 9, _, _, _, _, _⟩) rfl (fun K hK => ?_) AllReadyH.nil; go_simp
    go_at_call 88
    refine (HP2.out _).mono ?_; rintro e w5 ⟨rfl, hb5⟩
    have B5 : Below w2.heap.size w2 w5 := D.trans (hb5.mono D.size)
    (try go_simp); refine hK.out _ _ (E.out _ B5) (fun hHeld2 => ?_); clear hK K hHeld; (try simp only [Act.put, List.setIfInBounds_toArray, List.set_cons_zero, List.set_cons_succ])
    refine wpAnyH_ready (rs := [4]) (by kernel_rfl) (by simp) ?_; refine AllReadyH.cons (o := ⟨some 10, _, _, _, _, _⟩) rfl (fun K hK => ?_) AllReadyH.nil; go_simp
    go_at_call 87
    refine (HF.out _).mono ?_; rintro e w6 ⟨rfl, hb6⟩
    have B6 : Below w2.heap.size w2 w6 := B5.trans (hb6.mono B5.size)
    (try go_simp); refine hK.out _ _ (E.out _ B6) (fun hHeld3 => ?_); clear hK K hHeld2; (try simp only [Act.put, List.setIfInBounds_toArray, List.set_cons_zero, List.set_cons_succ])
    refine wpAnyH_take (i := 5) (oi := ⟨some 2, _, _, _, _, _⟩) (v := ?_) rfl (by kernel_rfl) (by kernel_rfl) (by kernel_rfl) (fun _ _ _ h => h) (Or.inl ⟨by rfl, ?hyt5⟩) (by assumption) ?_; (case hyt5 => ((intro W hSW; (try dsimp only at hSW); obtain ⟨s1, s2, s3, s4, s5, s6, s7, s8⟩ := hSW; go_simp); (all_goals with_reducible rfl))); (try simp only [Act.put, List.setIfInBounds_toArray, List.set_cons_zero, List.set_cons_succ])
    refine wpAnyH_done (by kernel_rfl) ?_ _
    clear hHeld3
    go_wp2_with fail
    go_ret
    exact ⟨rfl, B2.trans (B6.mono B2.size)⟩
end Go.Proofs.YtdmpopdacbdnlaaDoor
