/- MsgPut3, MsgFrame, MsgAwake. -/
import Derived.Test.YtfphffkgacajdaaDoorMsgG
import Derived.Test.YtfphffkgacajdaaDoorFrPG
import Derived.Test.YtfphffkgacajdaaDoorKitG
import Derived.Test.YtfphffkgacajdaaDoorMsgTG
/- message.Put of any message, and its frame; the reference's. -/
namespace Go.Proofs.YtfphffkgacajdaaDoor
open Go.RowKit
set_option linter.unusedVariables false
set_option linter.unusedSimpArgs false
set_option maxHeartbeats 4000000
set_option maxRecDepth 20000
def putC (m : Msg) : List UInt8 := if mayM m = true then putM m else []
def errC (m : Msg) : Int := if mayM m = true then 0 else 1
theorem mput_any (m : Msg) (q : Option Addr) (n c : Nat) (w : World) (hok : m.ok) (hR : RowQ w q n m.props) :
    Calls Tryd.prog 18 #[msgV m q n c] w fun e w' => ∃ v', e = .returned (.tuple #[v', .int .i64 (errC m)]) ∧ OwnB 5 w.heap.size w' v' (putC m) ∧ Below w.heap.size w w' := by
  by_cases hm : mayM m = true
  · unfold putC errC
    rw [if_pos hm, if_pos hm]
    have hm0 := hm
    unfold mayM at hm
    by_cases k1 : m.kind = 1
    · rw [show putM m = Oct.enc m.seq by unfold putM; rw [if_pos k1]]
      exact mput1 m q n c w hok hm0 k1 hR
    rw [if_neg k1] at hm
    by_cases k2 : m.kind = 2
    · rw [if_pos k2, Bool.and_eq_true, Bool.and_eq_true, decide_eq_true_iff, decide_eq_true_iff] at hm
      have hl := hR.length
      have hs := hok.seq
      have ha := hok.at_
      have e : putM m = Oct.enc m.seq ++ Oct.enc m.at_.toNat ++ Oct.enc n ++ propsB m.props := by
        unfold putM
        rw [if_neg k1, if_neg (by rw [k2]; decide), if_neg (by rw [k2]; decide), hl]
      rw [e]
      have HM := fun W h => mmay_any m q n c W hok h
      rw [hm0] at HM
      unfold msgV at HM ⊢
      rw [k2] at HM ⊢
      obtain ⟨u, hu⟩ : ∃ u : Nat, m.at_ = (u : Int) := ⟨m.at_.toNat, by omega⟩
      rw [hu] at HM ⊢
      rw [Int.toNat_natCast]
      exact mput2 m.seq u n q c m.props w (by omega) (by omega) (by omega) hok.props hR (fun i hi => by have := name_len (right_name hm.2.1 (i := i) (by omega)); omega) HM
    rw [if_neg k2] at hm
    by_cases k3 : m.kind = 3
    · rw [if_pos k3] at hm
      have h3 := of_decide_eq_true hm
      rw [show putM m = Oct.enc m.at_.toNat by unfold putM; rw [if_neg k1, if_pos k3]]
      exact mput3 m q n c w hok hm0 h3.1 k3 hR
    rw [if_neg k3] at hm
    by_cases k4 : m.kind = 4
    · rw [show putM m = [] by unfold putM; rw [if_neg k1, if_neg k3, if_pos k4]]
      exact (mput4 m q n c w hok hm0 k4 hR).mono (by rintro e w' ⟨rfl, hb⟩; exact ⟨_, rfl, OwnB.nil _ _ _, hb⟩)
    rw [if_neg k4] at hm
    cases hm
  · unfold putC errC
    rw [if_neg hm, if_neg hm]
    exact (mput_not m q n c w hok (by simpa using hm) hR).mono (by rintro e w' ⟨rfl, hb⟩; exact ⟨_, rfl, OwnB.nil _ _ _, hb⟩)
theorem propB_le {p : Pr} (hn : p.name.length ≤ 12) : (propB p).length ≤ 22 := by
  have h1 := Oct.enc_le (Oct.signOf p.value).toNat
  have hz := ba_sizeP p.name
  have h2 : (Oct.enc (⟨p.name.toArray⟩ : ByteArray).size).length = 1 := by unfold Oct.enc; rw [if_pos (by omega)]; rfl
  unfold propB Oct.encText
  rw [List.length_append, List.length_append]
  simp only [List.toList_toArray]
  omega
theorem propsB_le : ∀ (ps : List Pr), (∀ p ∈ ps, p.name.length ≤ 12) → (propsB ps).length ≤ 22 * ps.length
  | [], _ => by simp [propsB]
  | p :: ps, h => by
    have h1 := propB_le (h p (by simp))
    have h2 := propsB_le ps (fun q hq => h q (by simp [hq]))
    have e : propsB (p :: ps) = propB p ++ propsB ps := by simp [propsB]
    rw [e, List.length_append, List.length_cons]
    omega
theorem right_mem {ps : List Pr} (h : rightB ps = true) : ∀ p ∈ ps, p.name.length ≤ 12 := fun p hp => by
  obtain ⟨i, hi, e⟩ := List.getElem_of_mem hp
  have := (name_len (right_name h hi)).2
  rw [show ps.getD i prD = p by simp [List.getD, hi, e]] at this
  exact this
theorem putM_le {m : Msg} (hm : mayM m = true) : (putM m).length ≤ 256 := by
  have h1 := Oct.enc_le m.seq
  have h2 := Oct.enc_le m.at_.toNat
  unfold mayM at hm
  unfold putM
  by_cases k1 : m.kind = 1
  · rw [if_pos k1]; omega
  rw [if_neg k1] at hm ⊢
  by_cases k2 : m.kind = 2
  · rw [if_pos k2, Bool.and_eq_true, Bool.and_eq_true, decide_eq_true_iff, decide_eq_true_iff] at hm
    have h3 := propsB_le m.props (right_mem hm.2.1)
    have h4 : (Oct.enc m.props.length).length = 1 := by unfold Oct.enc; rw [if_pos (by omega)]; rfl
    rw [if_neg (by rw [k2]; decide), if_neg (by rw [k2]; decide)]
    simp only [List.length_append]
    have hk : 22 * m.props.length ≤ 22 * 8 := Nat.mul_le_mul_left _ hm.1
    omega
  rw [if_neg k2] at hm
  by_cases k3 : m.kind = 3
  · rw [if_pos k3]; omega
  rw [if_neg k3] at hm ⊢
  by_cases k4 : m.kind = 4
  · rw [if_pos k4]; simp
  rw [if_neg k4] at hm
  cases hm
end Go.Proofs.YtfphffkgacajdaaDoor
/- message.Frame and the reference's. -/
namespace Go.Proofs.YtfphffkgacajdaaDoor
open Go.RowKit
set_option linter.unusedVariables false
set_option linter.unusedSimpArgs false
set_option maxHeartbeats 4000000
set_option maxRecDepth 20000
def frameC (m : Msg) : List UInt8 := if mayM m = true then Fr.put m.kind (putM m) else []
theorem mframe_any (m : Msg) (q : Option Addr) (n c : Nat) (w : World) (hok : m.ok) (hR : RowQ w q n m.props) (hT : Tab w) :
    Calls Tryd.prog 20 #[msgV m q n c] w fun e w' => ∃ v', e = .returned v' ∧ OwnB 5 w.heap.size w' v' (frameC m) ∧ Below w.heap.size w w' := by
  have HP := Lib.hid (fun W h => mput_any m q n c W hok h)
  have HR := Lib.hid hR
  have HT := Lib.hid hT
  clear hR hT
  have hkm : ∀ (W : World) (q' : Option Addr) (n' c' : Nat) (b : List UInt8) (h : RowB W q' n' c' b) (hn : n' ≤ 256) (hT : Tab W), Calls Tryd.prog 47 #[.int .u8 (m.kind.toNat : Int), .slice q' n' c'] W fun e w' => ∃ v, e = .returned (.tuple #[v, .int .i64 0]) ∧ OwnB 5 W.heap.size w' v (Fr.put m.kind b) ∧ Below W.heap.size W w' := fun W q' n' c' b h hn hT => put_any m.kind q' n' c' b W h hn hT
  have hle : mayM m = true → (putM m).length ≤ 256 := putM_le
  unfold frameC
  unfold msgV at HP ⊢
  unfold putC errC at HP
  generalize putM m = pb at *
  generalize m.seq = s0 at *
  generalize m.at_ = a0 at *
  generalize m.kind = kk at *
  generalize mayM m = bm at *
  replace hkm := Lib.hid hkm
  clear hok
  obtain ⟨kz, hkz⟩ : ∃ kz : Int, (kk.toNat : Int) = kz := ⟨_, rfl⟩
  rw [hkz] at HP hkm ⊢
  clear hkz
  obtain ⟨W1, eW1⟩ : ∃ W, w.alloc (.cells #[.int .u8 kz, .int .u64 (s0 : Int), .int .i64 a0, .slice q n c] 25) = W := ⟨_, rfl⟩
  have B1 : Below w.heap.size w W1 := by rw [← eW1]; exact (Below.refl _ _).alloc (Nat.le_refl _) _
  have X1 : Hid (Box W1 w.heap.size [.int .u8 kz, .int .u64 (s0 : Int), .int .i64 a0, .slice q n c]) := Lib.hid (by rw [← eW1]; exact Box.new w _ _ _ rfl _ rfl)
  have m0 := X1.out.cell 0 _ rfl
  have m1 := X1.out.cell 1 _ rfl
  have m2 := X1.out.cell 2 _ rfl
  have m3 := X1.out.cell 3 _ rfl
  cases bm with
  | false =>
    rw [if_neg (by simp), if_neg (by simp)] at HP
    rw [if_neg (by simp)]
    go_enter Tryd.func20, Tryd.ntmps20
    go_wp2_with fail
    refine (HP.out _ (HR.out.below B1)).mono ?_; rintro e w2 ⟨v2, rfl, hO2, hb2⟩
    go_wp2_with fail
    go_ret
    exact ⟨_, rfl, OwnB.nil _ _ _, B1.trans (hb2.mono B1.size)⟩
  | true =>
    rw [if_pos rfl, if_pos rfl] at HP
    rw [if_pos rfl]
    replace hle := hle rfl
    go_enter Tryd.func20, Tryd.ntmps20
    go_wp2_with fail
    refine (HP.out _ (HR.out.below B1)).mono ?_; rintro e w2 ⟨v2, rfl, hO2, hb2⟩
    have B2 := B1.trans (hb2.mono B1.size)
    obtain ⟨q2, c2, rfl, hR2, _⟩ := hO2.row
    clear m0 m1 m2 m3
    have m0 := (X1.out.below hb2).cell 0 _ rfl
    replace hR2 := Lib.hid hR2
    clear hO2
    go_wp2_with fail
    refine (hkm.out w2 q2 _ c2 pb hR2.out hle (HT.out.below B2)).mono ?_; rintro e w3 ⟨v3, rfl, hO3, hb3⟩
    go_wp2_with fail
    go_ret
    exact ⟨_, rfl, hO3.lower B2.size, B2.trans (hb3.mono B2.size)⟩
theorem rmframe_any (m : Msg) (q : Option Addr) (n c : Nat) (w : World) (hok : m.ok) (hR : RowQ w q n m.props) :
    Calls Tryd.prog 21 #[msgV m q n c] w fun e w' => e = .returned (.string ⟨(frameC m).toArray⟩) ∧ Below w.heap.size w w' := by
  have HM := Lib.hid (fun W h => rmmay_any m q n c W hok h)
  have HP : mayM m = true → ∀ W, RowQ W q n m.props → Calls Tryd.prog 22 #[msgV m q n c] W fun e w' => e = .returned (.string ⟨(putM m).toArray⟩) ∧ Below W.heap.size W w' := fun hm W h => rmput_any m q n c W hok hm h
  have HR := Lib.hid hR
  clear hR
  have hle : mayM m = true → (putM m).length ≤ 256 := putM_le
  have hkm : (putM m).length ≤ 256 → ∀ W, Calls Tryd.prog 48 #[.int .u8 (m.kind.toNat : Int), .string ⟨(putM m).toArray⟩] W fun e w' => e = .returned (.string ⟨(Fr.put m.kind (putM m)).toArray⟩) ∧ Below W.heap.size W w' := fun h W => rput_any m.kind (putM m) W h
  unfold frameC
  unfold msgV at HP HM ⊢
  generalize Fr.put m.kind (putM m) = fb at *
  generalize putM m = pb at *
  generalize m.seq = s0 at *
  generalize m.at_ = a0 at *
  generalize m.kind = kk at *
  generalize mayM m = bm at *
  clear hok
  obtain ⟨kz, hkz⟩ : ∃ kz : Int, (kk.toNat : Int) = kz := ⟨_, rfl⟩
  rw [hkz] at HP HM hkm ⊢
  clear hkz
  obtain ⟨W1, eW1⟩ : ∃ W, w.alloc (.cells #[.int .u8 kz, .int .u64 (s0 : Int), .int .i64 a0, .slice q n c] 28) = W := ⟨_, rfl⟩
  have B1 : Below w.heap.size w W1 := by rw [← eW1]; exact (Below.refl _ _).alloc (Nat.le_refl _) _
  have X1 : Hid (Box W1 w.heap.size [.int .u8 kz, .int .u64 (s0 : Int), .int .i64 a0, .slice q n c]) := Lib.hid (by rw [← eW1]; exact Box.new w _ _ _ rfl _ rfl)
  have m0 := X1.out.cell 0 _ rfl
  have m1 := X1.out.cell 1 _ rfl
  have m2 := X1.out.cell 2 _ rfl
  have m3 := X1.out.cell 3 _ rfl
  cases bm with
  | false =>
    rw [if_neg (by simp)]
    clear HP hle hkm
    go_enter Tryd.func21, Tryd.ntmps21
    go_wp2_with fail
    refine (HM.out _ (HR.out.below B1)).mono ?_; rintro e w2 ⟨rfl, hb2⟩
    go_wp2_with fail
    go_ret
    exact ⟨rfl, B1.trans (hb2.mono B1.size)⟩
  | true =>
    rw [if_pos rfl]
    have HP2 := Lib.hid (HP rfl)
    have HF := Lib.hid (hkm (hle rfl))
    clear HP hle hkm
    go_enter Tryd.func21, Tryd.ntmps21
    go_wp2_with fail
    refine (HM.out _ (HR.out.below B1)).mono ?_; rintro e w2 ⟨rfl, hb2⟩
    have B2 := B1.trans (hb2.mono B1.size)
    clear m0 m1 m2 m3
    have X2 := Lib.hid (X1.out.below hb2)
    have HR2 := Lib.hid ((HR.out.below B1).below hb2)
    go_wp2_with fail
    have E : ∀ W, Below w2.heap.size w2 W → W.cell? ⟨w.heap.size, 0, none⟩ = some (.int .u8 kz) ∧ W.cell? ⟨w.heap.size, 1, none⟩ = some (.int .u64 (s0 : Int)) ∧ W.cell? ⟨w.heap.size, 2, none⟩ = some (.int .i64 a0) ∧ W.cell? ⟨w.heap.size, 3, none⟩ = some (.slice q n c) := fun W hW => ⟨(X2.out.below hW).cell 0 _ rfl, (X2.out.below hW).cell 1 _ rfl, (X2.out.below hW).cell 2 _ rfl, (X2.out.below hW).cell 3 _ rfl⟩
    replace E := Lib.hid E
    have D := (Below.refl w2.heap.size w2).drew
    refine wp_region_held_drew (S := fun W => W.cell? ⟨w.heap.size, 0, none⟩ = some (.int .u8 kz) ∧ W.cell? ⟨w.heap.size, 1, none⟩ = some (.int .u64 (s0 : Int)) ∧ W.cell? ⟨w.heap.size, 2, none⟩ = some (.int .i64 a0) ∧ W.cell? ⟨w.heap.size, 3, none⟩ = some (.slice q n c)) (by kernel_rfl) (E.out _ D) (fun hHeld => ?_)
    refine wpAnyH_take (i := 0) (oi := ⟨some 6, _, _, _, _, _⟩) (v := ?_) rfl (by kernel_rfl) (by kernel_rfl) (by kernel_rfl) (fun _ _ _ h => h) (Or.inl ⟨by rfl, ?hyt0⟩) (by assumption) ?_; (case hyt0 => ((intro W hSW; (try dsimp only at hSW); obtain ⟨s1, s2, s3, s4⟩ := hSW; go_simp); (all_goals with_reducible rfl))); (try simp only [Act.put, List.setIfInBounds_toArray, List.set_cons_zero, List.set_cons_succ])
    refine wpAnyH_take (i := 1) (oi := ⟨some 7, _, _, _, _, _⟩) (v := ?_) rfl (by kernel_rfl) (by kernel_rfl) (by kernel_rfl) (fun _ _ _ h => h) (Or.inl ⟨by rfl, ?hyt1⟩) (by assumption) ?_; (case hyt1 => ((intro W hSW; (try dsimp only at hSW); obtain ⟨s1, s2, s3, s4⟩ := hSW; go_simp); (all_goals with_reducible rfl))); (try simp only [Act.put, List.setIfInBounds_toArray, List.set_cons_zero, List.set_cons_succ])
    refine wpAnyH_take (i := 2) (oi := ⟨some 8, _, _, _, _, _⟩) (v := ?_) rfl (by kernel_rfl) (by kernel_rfl) (by kernel_rfl) (fun _ _ _ h => h) (Or.inl ⟨by rfl, ?hyt2⟩) (by assumption) ?_; (case hyt2 => ((intro W hSW; (try dsimp only at hSW); obtain ⟨s1, s2, s3, s4⟩ := hSW; go_simp); (all_goals with_reducible rfl))); (try simp only [Act.put, List.setIfInBounds_toArray, List.set_cons_zero, List.set_cons_succ])
    refine wpAnyH_ready (rs := [3]) (by kernel_rfl) (by simp) ?_; refine AllReadyH.cons (o := ⟨some 9, _, _, _, _, _⟩) rfl (fun K hK => ?_) AllReadyH.nil; go_simp
    go_at_call 22
    refine (HP2.out _ (RowG.below HR2.out D)).mono ?_; rintro e w5 ⟨rfl, hb5⟩
    have B5 : Below w2.heap.size w2 w5 := D.trans (hb5.mono D.size)
    (try go_simp)
    refine hK.out _ _ (E.out _ B5) (fun hHeld2 => ?_)
    clear hK K hHeld
    (try simp only [Act.put, List.setIfInBounds_toArray, List.set_cons_zero, List.set_cons_succ])
    refine wpAnyH_ready (rs := [4]) (by kernel_rfl) (by simp) ?_; refine AllReadyH.cons (o := ⟨some 10, _, _, _, _, _⟩) rfl (fun K hK => ?_) AllReadyH.nil; go_simp
    go_at_call 48
    refine (HF.out _).mono ?_; rintro e w6 ⟨rfl, hb6⟩
    have B6 : Below w2.heap.size w2 w6 := B5.trans (hb6.mono B5.size)
    (try go_simp)
    refine hK.out _ _ (E.out _ B6) (fun hHeld3 => ?_)
    clear hK K hHeld2
    (try simp only [Act.put, List.setIfInBounds_toArray, List.set_cons_zero, List.set_cons_succ])
    refine wpAnyH_take (i := 5) (oi := ⟨some 2, _, _, _, _, _⟩) (v := ?_) rfl (by kernel_rfl) (by kernel_rfl) (by kernel_rfl) (fun _ _ _ h => h) (Or.inl ⟨by rfl, ?hyt5⟩) (by assumption) ?_; (case hyt5 => ((intro W hSW; (try dsimp only at hSW); obtain ⟨s1, s2, s3, s4⟩ := hSW; go_simp); (all_goals with_reducible rfl))); (try simp only [Act.put, List.setIfInBounds_toArray, List.set_cons_zero, List.set_cons_succ])
    refine wpAnyH_done (by kernel_rfl) ?_ _
    clear hHeld3
    go_wp2_with fail
    go_ret
    exact ⟨rfl, B2.trans (B6.mono B2.size)⟩
end Go.Proofs.YtfphffkgacajdaaDoor
/- The message laws' awake. -/
namespace Go.Proofs.YtfphffkgacajdaaDoor
open Go.RowKit Oct
set_option linter.unusedVariables false
set_option linter.unusedSimpArgs false
set_option maxHeartbeats 4000000
set_option maxRecDepth 20000
def msgA : Msg := ⟨2, 1, 300, [⟨[97], 2⟩]⟩
def bytA : List UInt8 := [1, 249, 1, 44, 1, 1, 97, 4]
theorem nameA : nameB [97] = true := name_yes (by decide) (by decide) (by decide) (by decide) (by decide)
theorem mayA : mayM msgA = true := by
  have hr : rightB [⟨[97], 2⟩] = true := right_yes (fun i hi => by
    have h0 : i = 0 := by simp at hi; omega
    subst h0
    unfold rightAt
    rw [show ([(⟨[97], 2⟩ : Pr)].getD 0 prD).name = [97] from rfl, nameA]
    rfl)
  unfold mayM msgA
  simp only
  rw [if_neg (by decide), if_pos trivial, hr]
  rfl
theorem putA : putM msgA = bytA := by decide
theorem okA : msgA.ok := ⟨by decide, by decide, fun i => by
  match i with
  | 0 => exact ⟨by decide, by decide⟩
  | i + 1 => exact ⟨by simp [msgA, List.getD, prD], by simp [msgA, List.getD, prD]⟩, fun i => by
  match i with
  | 0 => decide
  | i + 1 => simp [msgA, List.getD, prD]⟩
theorem frA : (frameC msgA).length = 15 := by
  unfold frameC
  rw [if_pos mayA, Fr.put_length, putA]
  rfl
theorem mawake_any (w : World) (hT : Tab w) :
    Calls Tryd.prog 14 #[] w fun e w' => e = .returned (.bool true) ∧ Below w.heap.size w w' := by
  have HP : ∀ W, RowQ W (some ⟨w.heap.size, 0, none⟩) 1 [⟨[97], 2⟩] → Calls Tryd.prog 18 #[.agg #[.int .u8 2, .int .u64 1, .int .i64 300, .slice (some ⟨w.heap.size, 0, none⟩) 1 1]] W fun e w' => ∃ v', e = .returned (.tuple #[v', .int .i64 0]) ∧ OwnB 5 W.heap.size w' v' bytA ∧ Below W.heap.size W w' := fun W h => by
    have := mput_any msgA _ 1 1 W okA h
    unfold putC errC at this
    rw [if_pos mayA, if_pos mayA, putA] at this
    exact this
  have HF : ∀ W, RowQ W (some ⟨w.heap.size, 0, none⟩) 1 [⟨[97], 2⟩] → Tab W → Calls Tryd.prog 20 #[.agg #[.int .u8 2, .int .u64 1, .int .i64 300, .slice (some ⟨w.heap.size, 0, none⟩) 1 1]] W fun e w' => ∃ q' c', e = .returned (.slice q' 15 c') ∧ Below W.heap.size W w' := fun W h hT => by
    refine (mframe_any msgA _ 1 1 W okA h hT).mono ?_
    rintro e w' ⟨v', rfl, hO, hb⟩
    obtain ⟨q', c', rfl, _, _⟩ := hO.row
    rw [frA]
    exact ⟨q', c', rfl, hb⟩
  have HT2 : ∀ W q c, RowB W q 8 c bytA → Calls Tryd.prog 23 #[.int .u8 2, .slice q 8 c] W fun e w' => ∃ q' c', e = .returned (.tuple #[.agg #[.int .u8 2, .int .u64 1, .int .i64 300, .slice q' 1 c'], .int .i64 0]) ∧ Below W.heap.size W w' := fun W q c h => by
    refine (mtake_any 2 q 8 c bytA W h (by omega)).mono ?_
    have e2 := take_putM msgA okA mayA []
    rw [List.append_nil, if_pos rfl, putA, show msgA.kind = 2 from rfl] at e2
    rw [e2]
    rintro e w' ⟨q', n', c', rfl, hR, hb⟩
    obtain rfl : 1 = n' := hR.length
    exact ⟨q', c', rfl, hb⟩
  have HT4 : ∀ W q c, RowB W q 1 c [1] → Calls Tryd.prog 23 #[.int .u8 4, .slice q 1 c] W fun e w' => ∃ q' c', e = .returned (.tuple #[.agg #[.int .u8 0, .int .u64 0, .int .i64 0, .slice q' 0 c'], .int .i64 12]) ∧ Below W.heap.size W w' := fun W q c h => by
    refine (mtake_any 4 q 1 c [1] W h (by omega)).mono ?_
    rw [show takeM 4 [1] = (msg0, 12) from rfl]
    rintro e w' ⟨q', n', c', rfl, hR, hb⟩
    obtain rfl : 0 = n' := hR.length
    exact ⟨q', c', rfl, hb⟩
  have hsz : bytA.length = 8 := rfl
  replace HP := Lib.hid HP
  replace HF := Lib.hid HF
  replace HT2 := Lib.hid HT2
  replace HT4 := Lib.hid HT4
  replace hT := Lib.hid hT
  have X1 : Hid (Box ((w.alloc (.cells #[.string ⟨#[97]⟩, .int .i64 2] 80)).alloc (.cells #[.int .u8 2, .int .u64 1, .int .i64 300, .slice (some ⟨w.heap.size, 0, none⟩) 1 1] 25)) (w.heap.size + 1) [.int .u8 2, .int .u64 1, .int .i64 300, .slice (some ⟨w.heap.size, 0, none⟩) 1 1]) := Lib.hid (Box.new _ _ _ _ rfl _ (by simp))
  have R1 : Hid (RowQ ((w.alloc (.cells #[.string ⟨#[97]⟩, .int .i64 2] 80)).alloc (.cells #[.int .u8 2, .int .u64 1, .int .i64 300, .slice (some ⟨w.heap.size, 0, none⟩) 1 1] 25)) (some ⟨w.heap.size, 0, none⟩) 1 [⟨[97], 2⟩]) := Lib.hid (RowG.below ⟨rfl, by decide, .inr ⟨w.heap.size, 0, rfl, by simp, fun i hi j v hv => by
    obtain rfl : i = 0 := by omega
    match j, hv with
    | 0, hv => cases hv; simp [go_sem]
    | 1, hv => cases hv; simp [go_sem]
    | j + 2, hv => simp [prV] at hv⟩⟩ ((Below.refl _ _).alloc (Nat.le_refl _) _))
  have B1 : Below w.heap.size w ((w.alloc (.cells #[.string ⟨#[97]⟩, .int .i64 2] 80)).alloc (.cells #[.int .u8 2, .int .u64 1, .int .i64 300, .slice (some ⟨w.heap.size, 0, none⟩) 1 1] 25)) := ((Below.refl _ _).alloc (Nat.le_refl _) _).alloc (by simp) _
  go_enter Tryd.func14, Tryd.ntmps14
  go_wp2_with fail
  refine (HP.out _ R1.out).mono ?_; rintro e w2 ⟨v2, rfl, hO2, hb2⟩
  have B2 := B1.trans (hb2.mono B1.size)
  have X2 := Lib.hid (X1.out.below hb2)
  have R2 := Lib.hid (RowG.below R1.out hb2)
  obtain ⟨q2, c2, rfl, hR2, _⟩ := hO2.row
  rw [hsz] at hR2
  replace hR2 := Lib.hid hR2
  clear hO2 X1 R1 B1 hb2
  rw [hsz]
  go_wp2_with fail
  refine (HT2.out _ _ _ hR2.out).mono ?_; rintro e w3 ⟨q3, c3, rfl, hb3⟩
  have B3 := B2.trans (hb3.mono B2.size)
  replace X2 := Lib.hid (X2.out.below hb3)
  replace R2 := Lib.hid (RowG.below R2.out hb3)
  replace hR2 := Lib.hid (hR2.out.below hb3)
  go_wp2_with fail
  have X4 : Hid (Box ((w3.alloc (.cells #[.int .u8 2, .int .u64 1, .int .i64 300, .slice q3 1 c3] 25)).alloc (.cells #[.int .u8 1] 5)) w3.heap.size [.int .u8 2, .int .u64 1, .int .i64 300, .slice q3 1 c3]) := Lib.hid ((Box.new _ _ _ _ rfl _ rfl).below ((Below.refl _ _).alloc (Nat.le_refl _) _))
  have R4 : RowB ((w3.alloc (.cells #[.int .u8 2, .int .u64 1, .int .i64 300, .slice q3 1 c3] 25)).alloc (.cells #[.int .u8 1] 5)) (some ⟨w3.heap.size + 1, 0, none⟩) 1 1 [1] := by
    have := RowB.newM (w3.alloc (.cells #[.int .u8 2, .int .u64 1, .int .i64 300, .slice q3 1 c3] 25)) [1] #[.int .u8 1] 5 (0, 0) rfl (by decide) 1 rfl
    simpa using this
  refine (HT4.out _ _ _ R4).mono ?_; rintro e w5 ⟨q5, c5, rfl, hb5⟩
  have b5 : Below w3.heap.size w3 w5 := (((Below.refl _ _).alloc (Nat.le_refl _) _).alloc (by simp) _).trans (hb5.mono (by simp; omega))
  have B5 := B3.trans (b5.mono B3.size)
  replace X4 := Lib.hid (X4.out.below hb5)
  have A5 : Below w5.heap.size w5 (w5.alloc (.cells #[.int .u8 0, .int .u64 0, .int .i64 0, .slice q5 0 c5] 25)) := (Below.refl _ _).alloc (Nat.le_refl _) _
  replace X4 := Lib.hid (X4.out.below A5)
  replace X2 := Lib.hid ((X2.out.below b5).below A5)
  replace R2 := Lib.hid (RowG.below (RowG.below R2.out b5) A5)
  replace hR2 := Lib.hid ((hR2.out.below b5).below A5)
  have B6 := B5.trans (A5.mono B5.size)
  have cv : (convert 31 9 (.slice q2 8 c2)).run Tryd.prog (w5.alloc (.cells #[.int .u8 0, .int .u64 0, .int .i64 0, .slice q5 0 c5] 25)) = .ok (.string ⟨#[1, 249, 1, 44, 1, 1, 97, 4]⟩) (w5.alloc (.cells #[.int .u8 0, .int .u64 0, .int .i64 0, .slice q5 0 c5] 25)) := hR2.out.conv 31 9 5 Tryd.underlying31 Tryd.underlying5 Tryd.underlying9
  have m0 := X2.out.cell 0 _ rfl
  have m1 := X2.out.cell 1 _ rfl
  have m2 := X2.out.cell 2 _ rfl
  have m3 := X2.out.cell 3 _ rfl
  have n2 := X4.out.cell 2 _ rfl
  have n3 := X4.out.cell 3 _ rfl
  clear R4 hb5 b5 hR2 X2 X4 hb3
  go_wp2_with fail
  refine (HF.out _ R2.out (hT.out.below B6)).mono ?_; rintro e w7 ⟨q7, c7, rfl, hb7⟩
  go_wp2_with fail
  go_ret
  exact ⟨rfl, B6.trans (hb7.mono B6.size)⟩
end Go.Proofs.YtfphffkgacajdaaDoor
