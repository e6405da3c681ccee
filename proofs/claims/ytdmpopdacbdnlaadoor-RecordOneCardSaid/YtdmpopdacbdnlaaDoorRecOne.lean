/- The walk of RecordOne. -/
import Derived.Test.YtdmpopdacbdnlaaDoorRecOpen
import Derived.Test.YtdmpopdacbdnlaaDoorChecked
import Derived.Test.YtdmpopdacbdnlaaDoorRows
namespace Go.Proofs.YtdmpopdacbdnlaaDoor
open Go.RowKit
set_option linter.unusedVariables false
set_option linter.unusedSimpArgs false
set_option maxHeartbeats 4000000
set_option maxRecDepth 20000
theorem put_mid (k : UInt8) (b : List UInt8) : ((Fr.put k b).take (4 + b.length)).drop 4 = b := by
  unfold Fr.put Fr.body
  rw [show 4 + b.length = b.length + 1 + 1 + 1 + 1 by omega]
  simp
theorem word_ne (k : UInt8) (h : kindB k = true) : wordOf k ≠ [] := by
  obtain ⟨h1, h2⟩ := kind_rng h
  rcases kind_split k h1 h2 with rfl | rfl | rfl | rfl | rfl | rfl | rfl | rfl | rfl | rfl | rfl | rfl | rfl | rfl | rfl | rfl <;> decide
theorem show_ne (r : Rec) (h : mayB r = true) (hk : kindB r.kind = true) : showR r ≠ [] := by
  unfold showR
  rw [if_pos h]
  intro e
  exact word_ne _ hk (List.append_eq_nil_iff.1 e).1
theorem in_ok {r : Rec} (h : r.in) : r.ok := by
  obtain ⟨h1, h2, h3, h4, h5, h6⟩ := h
  exact ⟨⟨by omega, by omega⟩, h2, ⟨by omega, by omega⟩, ⟨by omega, by omega⟩, ⟨by omega, by omega⟩, by unfold maxLen; omega⟩
theorem recordOne_walk (k : Int) (bk : 0 ≤ k ∧ k ≤ 255) (a : Option Addr) (len cap : Nat) (zs : List Int) (w : World) (h0 : IsRow .u8 w a len cap zs) (hK0 : Kept w) :
    Calls Tryd.prog 13 #[.int .u8 k, .slice a len cap] w fun e w' => e = .returned (.bool true) ∧ Below w.heap.size w w' := by
  have hB := h0.row.bytes
  generalize bytesOf (zs.take len) = b at *
  obtain ⟨kn, rfl⟩ := Int.eq_ofNat_of_zero_le bk.1
  obtain ⟨kb, rfl⟩ : ∃ kb : UInt8, kn = kb.toNat := ⟨UInt8.ofNat kn, by rw [UInt8.toNat_ofNat']; omega⟩
  clear h0 bk
  have hm : len ≤ 9223372036854775807 := by have := hB.small; unfold maxLen at this; omega
  have LL := Lib.hid hB.length
  have HT := fun W (h : RowB W a len cap b) (hl : len ≤ 1000000000) (hk : Kept W) => rectake_any kb a len cap b W h hl hk.forms
  have hone0 : ∀ r0 : Rec, takeR kb b = (r0, 0) → kindB kb = true ∧ mayB r0 = true ∧ r0.kind = kb ∧ recBody r0 = b ∧ r0.in := fun r0 h => take_one h
  have herr := take_err kb b
  obtain ⟨⟨r, x⟩, hZ⟩ : ∃ Z, takeR kb b = Z := ⟨_, rfl⟩
  rw [hZ] at HT herr
  have hone : x = 0 → kindB kb = true ∧ mayB r = true ∧ r.kind = kb ∧ recBody r = b ∧ r.in := fun e => hone0 r (hZ.trans (by rw [e]))
  clear hZ hone0
  unfold TookR at HT
  simp only at HT herr
  replace hone := Lib.hid hone
  replace hK0 := Lib.hid hK0
  by_cases hx : x = 0
  rotate_left
  · obtain rfl := herr hx
    have HT2 : ∀ W, RowB W a len cap b → len ≤ 1000000000 → Kept W → Calls Tryd.prog 60 #[.int .u8 (kb.toNat : Int), .slice a len cap] W fun e w' => e = .returned (.tuple #[.agg #[.int .u8 0, .int .i64 0, .int .u64 0, .int .i64 0, .int .i64 0, .int .i64 0, .bool false, .string ⟨#[]⟩], .int .i64 x]) ∧ Below W.heap.size W w' := HT
    replace HT2 := Lib.hid HT2
    clear HT hone
    have hx1 : (x == 0) = false := by rw [beq_eq_false_iff_ne]; exact hx
    go_enter Tryd.func13, Tryd.ntmps13
    go_wp2_with fail
    refine (rawake_any _ hK0.out).mono ?_; rintro e w1 ⟨rfl, hb1⟩
    have hB1 := Lib.hid (hB.below hb1)
    clear hB
    by_cases hl : 600 < len
    · go_wp2_with fail
      go_ret
      exact ⟨rfl, hb1⟩
    go_wp2_with fail
    refine (HT2.out w1 hB1.out (by omega) (hK0.out.below hb1)).mono ?_; rintro e w2 ⟨rfl, hb2⟩
    have B2 := hb1.trans (hb2.mono hb1.size)
    go_wp2_with fail
    go_ret
    exact ⟨rfl, B2.alloc B2.size _⟩
  subst hx
  obtain ⟨hk, hmay, hkk, hbd, hin⟩ := hone.out rfl
  have hok := in_ok hin
  have HP := fun W (hk : Kept W) => recput_any r W hok hk.forms hk.tab
  have hrc : recC r = Fr.put kb b := by unfold recC; rw [if_pos hmay, hkk, hbd]
  rw [hrc] at HP
  have hpl := Fr.put_length kb b
  have hpm := put_mid kb b
  have HM := Lib.hid (fun W (hk : Kept W) => may_any r W hk.forms hok.text)
  rw [hmay] at HM
  have HS := Lib.hid (fun W (hk : Kept W) => show_any r W hok hk.forms hk.pow)
  have hsn := show_ne r hmay (by rw [hkk]; exact hk)
  generalize Fr.put kb b = pb at *
  generalize showR r = sr at *
  clear hone hmay hbd hin hrc herr
  unfold recA at HT HM HS HP
  replace HT := Lib.hid HT
  replace HP := Lib.hid HP
  replace hpl := Lib.hid hpl
  replace hpm := Lib.hid hpm
  replace hsn := Lib.hid hsn
  replace hkk := Lib.hid hkk
  go_enter Tryd.func13, Tryd.ntmps13
  go_wp2_with fail
  refine (rawake_any _ hK0.out).mono ?_; rintro e w1 ⟨rfl, hb1⟩
  have hB1 := Lib.hid (hB.below hb1)
  clear hB
  by_cases hl : 600 < len
  · go_wp2_with fail
    go_ret
    exact ⟨rfl, hb1⟩
  go_wp2_with fail
  refine (HT.out w1 hB1.out (by omega) (hK0.out.below hb1)).mono ?_; rintro e w2 ⟨rfl, hb2⟩
  have B2 := hb1.trans (hb2.mono hb1.size)
  have XA : Hid (Box (w2.alloc (.cells #[.int .u8 (r.kind.toNat : Int), .int .i64 r.source, .int .u64 (r.seq : Int), .int .i64 r.at_, .int .i64 r.num, .int .i64 r.code, .bool r.yes, .string ⟨r.text.toArray⟩] 69)) w2.heap.size (recVs r)) := Lib.hid (Box.new w2 (recVs r) _ _ rfl _ rfl)
  have A2 : Below w2.heap.size w2 (w2.alloc (.cells #[.int .u8 (r.kind.toNat : Int), .int .i64 r.source, .int .u64 (r.seq : Int), .int .i64 r.at_, .int .i64 r.num, .int .i64 r.code, .bool r.yes, .string ⟨r.text.toArray⟩] 69)) := (Below.refl _ _).alloc (Nat.le_refl _) _
  have B3 := B2.trans (A2.mono B2.size)
  replace hB1 := Lib.hid ((hB1.out.below hb2).below A2)
  go_wp2_with fail
  refine (HP.out _ (hK0.out.below B3)).mono ?_; rintro e w4 ⟨v4, rfl, hO4, hb4⟩
  have B4 := B3.trans (hb4.mono B3.size)
  obtain ⟨q8, c8, rfl, hR8, hq8⟩ := hO4.row
  rw [hpl.out, LL.out] at hR8 ⊢
  obtain ⟨g8, rfl⟩ : ∃ g8, q8 = some ⟨g8, 0, none⟩ := by
    rcases hR8.at_ with h0 | ⟨g8, off, e, _⟩
    · omega
    · subst e
      have := (hq8 _ rfl).2.1
      simp only at this
      subst this
      exact ⟨g8, rfl⟩
  have hc8 := hR8.le
  have R9 := hR8.slice (i := 4) (j := 4 + len) (by omega) (by omega)
  rw [show (4 + len) = 4 + b.length by rw [LL.out], hpm.out, LL.out, Nat.zero_add, show 4 + len - 4 = len by omega] at R9
  replace XA := Lib.hid (XA.out.below hb4)
  replace hB1 := Lib.hid (hB1.out.below hb4)
  replace R9 := Lib.hid R9
  clear hO4 hR8 hq8 hb4 A2 hb2 B2
  go_wp2_with fail
  have E : ∀ W, Below w4.heap.size w4 W → (fun W => RecAt W w2.heap.size 0 r ∧ (convert 22 9 (.slice (some ⟨g8, 4, none⟩) len (c8 - 4))).run Tryd.prog W = .ok (.string ⟨b.toArray⟩) W ∧ (convert 22 9 (.slice a len cap)).run Tryd.prog W = .ok (.string ⟨b.toArray⟩) W) W := fun W h => ⟨(XA.out.below h).rec_, (R9.out.below h).conv 22 9 5 Tryd.underlying22 Tryd.underlying5 Tryd.underlying9, (hB1.out.below h).conv 22 9 5 Tryd.underlying22 Tryd.underlying5 Tryd.underlying9⟩
  replace E := Lib.hid E
  have D0 : Below w4.heap.size w4 w4.drew := (Below.refl _ _).drew
  have KK : ∀ W, Below w4.heap.size w4 W → Kept W := fun W h => hK0.out.below (B4.trans (h.mono B4.size))
  replace KK := Lib.hid KK
  have hw7 : IntKind.i64.wrap ((len : Int) + 7) = (len : Int) + 7 := IntWalk.i64_in _ (by omega)
  have hw4 : IntKind.i64.wrap (4 + (len : Int)) = 4 + (len : Int) := IntWalk.i64_in _ (by omega)
  have hi1 : (4 : Int) ≤ 4 + (len : Int) := by omega
  have hi2 : 4 + (len : Int) ≤ (c8 : Int) := by omega
  have hi3 : (0 : Int) ≤ 4 + (len : Int) := by omega
  have hi4 : (4 : Int) ≤ (c8 : Int) := by omega
  have hi5 : ¬ (c8 = 4) := by omega
  have hi6 : (4 + (len : Int)).toNat - 4 = len := by omega
  have hkz : (kb.toNat : Int) = (r.kind.toNat : Int) := by rw [hkk.out]
  rw [hkz]
  obtain ⟨sc, sl, rfl⟩ : ∃ sc sl, sr = sc :: sl := by
    cases sr with
    | nil => exact absurd rfl hsn.out
    | cons sc sl => exact ⟨sc, sl, rfl⟩
  refine wp_region_held_drew (S := (fun W => RecAt W w2.heap.size 0 r ∧ (convert 22 9 (.slice (some ⟨g8, 4, none⟩) len (c8 - 4))).run Tryd.prog W = .ok (.string ⟨b.toArray⟩) W ∧ (convert 22 9 (.slice a len cap)).run Tryd.prog W = .ok (.string ⟨b.toArray⟩) W)) (by kernel_rfl) (E.out _ D0) (fun hHeld => ?_)
  refine wpAnyH_take (i := 0) (oi := ⟨some 28, _, _, _, _, _⟩) (v := ?_) rfl (by kernel_rfl) (by kernel_rfl) (by kernel_rfl) (fun _ _ _ h => h) (Or.inl ⟨by rfl, ?hyt0⟩) (by assumption) ?_; (case hyt0 => ((intro W hSW; (try dsimp only at hSW); obtain ⟨⟨s0, s1, s2, s3, s4, s5, s6, s7⟩, scv, sdv⟩ := hSW; (try simp only [Nat.zero_add] at s0 s1 s2 s3 s4 s5 s6 s7); go_simp); (all_goals with_reducible rfl))); (try simp only [Act.put, List.setIfInBounds_toArray, List.set_cons_zero, List.set_cons_succ])
  refine wpAnyH_ready (rs := [1]) (by kernel_rfl) (by simp) ?_; refine AllReadyH.cons (o := ⟨some 29, _, _, _, _, _⟩) rfl (fun K hK => ?_) AllReadyH.nil; go_simp
  go_at_call 52
  refine (HM.out _ (KK.out _ D0)).mono ?_; rintro e w6 ⟨rfl, hb6⟩
  have D6 := D0.trans (hb6.mono D0.size)
  (try go_simp); refine hK.out _ _ (E.out _ D6) (fun hHeld2 => ?_); clear hK K hHeld; (try simp only [Act.put, List.setIfInBounds_toArray, List.set_cons_zero, List.set_cons_succ])
  refine wpAnyH_take (i := 2) (oi := ⟨some 30, _, _, _, _, _⟩) (v := ?_) rfl (by kernel_rfl) (by kernel_rfl) (by kernel_rfl) (fun _ _ _ h => h) (Or.inl ⟨by rfl, ?hyt2⟩) (by assumption) ?_; (case hyt2 => ((intro W hSW; (try dsimp only at hSW); obtain ⟨⟨s0, s1, s2, s3, s4, s5, s6, s7⟩, scv, sdv⟩ := hSW; (try simp only [Nat.zero_add] at s0 s1 s2 s3 s4 s5 s6 s7); go_simp); (all_goals with_reducible rfl))); (try simp only [Act.put, List.setIfInBounds_toArray, List.set_cons_zero, List.set_cons_succ])
  refine wpAnyH_take (i := 3) (oi := ⟨some 31, _, _, _, _, _⟩) (v := ?_) rfl (by kernel_rfl) (by kernel_rfl) (by kernel_rfl) (fun _ _ _ h => h) (Or.inl ⟨by rfl, ?hyt3⟩) (by assumption) ?_; (case hyt3 => ((intro W hSW; (try dsimp only at hSW); obtain ⟨⟨s0, s1, s2, s3, s4, s5, s6, s7⟩, scv, sdv⟩ := hSW; (try simp only [Nat.zero_add] at s0 s1 s2 s3 s4 s5 s6 s7); go_simp); (all_goals with_reducible rfl))); (try simp only [Act.put, List.setIfInBounds_toArray, List.set_cons_zero, List.set_cons_succ])
  refine wpAnyH_take (i := 4) (oi := ⟨some 32, _, _, _, _, _⟩) (v := ?_) rfl (by kernel_rfl) (by kernel_rfl) (by kernel_rfl) (fun _ _ _ h => h) (Or.inl ⟨by rfl, ?hyt4⟩) (by assumption) ?_; (case hyt4 => ((intro W hSW; (try dsimp only at hSW); obtain ⟨⟨s0, s1, s2, s3, s4, s5, s6, s7⟩, scv, sdv⟩ := hSW; (try simp only [Nat.zero_add] at s0 s1 s2 s3 s4 s5 s6 s7); go_simp); (all_goals with_reducible rfl))); (try simp only [Act.put, List.setIfInBounds_toArray, List.set_cons_zero, List.set_cons_succ])
  refine wpAnyH_take (i := 5) (oi := ⟨some 33, _, _, _, _, _⟩) (v := ?_) rfl (by kernel_rfl) (by kernel_rfl) (by kernel_rfl) (fun _ _ _ h => h) (Or.inl ⟨by rfl, ?hyt5⟩) (by assumption) ?_; (case hyt5 => ((intro W hSW; (try dsimp only at hSW); obtain ⟨⟨s0, s1, s2, s3, s4, s5, s6, s7⟩, scv, sdv⟩ := hSW; (try simp only [Nat.zero_add] at s0 s1 s2 s3 s4 s5 s6 s7); go_simp); (all_goals with_reducible rfl))); (try simp only [Act.put, List.setIfInBounds_toArray, List.set_cons_zero, List.set_cons_succ])
  refine wpAnyH_take (i := 6) (oi := ⟨some 34, _, _, _, _, _⟩) (v := ?_) rfl (by kernel_rfl) (by kernel_rfl) (by kernel_rfl) (fun _ _ _ h => h) (Or.inl ⟨by rfl, ?hyt6⟩) (by assumption) ?_; (case hyt6 => ((intro W hSW; (try dsimp only at hSW); obtain ⟨⟨s0, s1, s2, s3, s4, s5, s6, s7⟩, scv, sdv⟩ := hSW; (try simp only [Nat.zero_add] at s0 s1 s2 s3 s4 s5 s6 s7); go_simp); (all_goals with_reducible rfl))); (try simp only [Act.put, List.setIfInBounds_toArray, List.set_cons_zero, List.set_cons_succ])
  refine wpAnyH_take (i := 7) (oi := ⟨some 35, _, _, _, _, _⟩) (v := ?_) rfl (by kernel_rfl) (by kernel_rfl) (by kernel_rfl) (fun _ _ _ h => h) (Or.inl ⟨by rfl, ?hyt7⟩) (by assumption) ?_; (case hyt7 => ((intro W hSW; (try dsimp only at hSW); obtain ⟨⟨s0, s1, s2, s3, s4, s5, s6, s7⟩, scv, sdv⟩ := hSW; (try simp only [Nat.zero_add] at s0 s1 s2 s3 s4 s5 s6 s7); go_simp); (all_goals with_reducible rfl))); (try simp only [Act.put, List.setIfInBounds_toArray, List.set_cons_zero, List.set_cons_succ])
  refine wpAnyH_take (i := 8) (oi := ⟨some 36, _, _, _, _, _⟩) (v := ?_) rfl (by kernel_rfl) (by kernel_rfl) (by kernel_rfl) (fun _ _ _ h => h) (Or.inl ⟨by rfl, ?hyt8⟩) (by assumption) ?_; (case hyt8 => ((intro W hSW; (try dsimp only at hSW); obtain ⟨⟨s0, s1, s2, s3, s4, s5, s6, s7⟩, scv, sdv⟩ := hSW; (try simp only [Nat.zero_add] at s0 s1 s2 s3 s4 s5 s6 s7); go_simp); (all_goals with_reducible rfl))); (try simp only [Act.put, List.setIfInBounds_toArray, List.set_cons_zero, List.set_cons_succ])
  refine wpAnyH_take (i := 9) (oi := ⟨some 37, _, _, _, _, _⟩) (v := ?_) rfl (by kernel_rfl) (by kernel_rfl) (by kernel_rfl) (fun _ _ _ h => h) (Or.inl ⟨by rfl, ?hyt9⟩) (by assumption) ?_; (case hyt9 => ((intro W hSW; (try dsimp only at hSW); obtain ⟨⟨s0, s1, s2, s3, s4, s5, s6, s7⟩, scv, sdv⟩ := hSW; (try simp only [Nat.zero_add] at s0 s1 s2 s3 s4 s5 s6 s7); go_simp); (all_goals with_reducible rfl))); (try simp only [Act.put, List.setIfInBounds_toArray, List.set_cons_zero, List.set_cons_succ])
  refine wpAnyH_take (i := 10) (oi := ⟨some 38, _, _, _, _, _⟩) (v := ?_) rfl (by kernel_rfl) (by kernel_rfl) (by kernel_rfl) (fun _ _ _ h => h) (Or.inl ⟨by rfl, ?hyt10⟩) (by assumption) ?_; (case hyt10 => ((intro W hSW; (try dsimp only at hSW); obtain ⟨⟨s0, s1, s2, s3, s4, s5, s6, s7⟩, scv, sdv⟩ := hSW; (try simp only [Nat.zero_add] at s0 s1 s2 s3 s4 s5 s6 s7); go_simp); (all_goals with_reducible rfl))); (try simp only [Act.put, List.setIfInBounds_toArray, List.set_cons_zero, List.set_cons_succ])
  refine wpAnyH_take (i := 11) (oi := ⟨some 39, _, _, _, _, _⟩) (v := ?_) rfl (by kernel_rfl) (by kernel_rfl) (by kernel_rfl) (fun _ _ _ h => h) (Or.inl ⟨by rfl, ?hyt11⟩) (by assumption) ?_; (case hyt11 => ((intro W hSW; (try dsimp only at hSW); obtain ⟨⟨s0, s1, s2, s3, s4, s5, s6, s7⟩, scv, sdv⟩ := hSW; (try simp only [Nat.zero_add] at s0 s1 s2 s3 s4 s5 s6 s7); go_simp); (all_goals with_reducible rfl))); (try simp only [Act.put, List.setIfInBounds_toArray, List.set_cons_zero, List.set_cons_succ])
  refine wpAnyH_take (i := 12) (oi := ⟨some 40, _, _, _, _, _⟩) (v := ?_) rfl (by kernel_rfl) (by kernel_rfl) (by kernel_rfl) (fun _ _ _ h => h) (Or.inl ⟨by rfl, ?hyt12⟩) (by assumption) ?_; (case hyt12 => ((intro W hSW; (try dsimp only at hSW); obtain ⟨⟨s0, s1, s2, s3, s4, s5, s6, s7⟩, scv, sdv⟩ := hSW; (try simp only [Nat.zero_add] at s0 s1 s2 s3 s4 s5 s6 s7); go_simp); (all_goals with_reducible rfl))); (try simp only [Act.put, List.setIfInBounds_toArray, List.set_cons_zero, List.set_cons_succ])
  refine wpAnyH_take (i := 13) (oi := ⟨some 41, _, _, _, _, _⟩) (v := ?_) rfl (by kernel_rfl) (by kernel_rfl) (by kernel_rfl) (fun _ _ _ h => h) (Or.inl ⟨by rfl, ?hyt13⟩) (by assumption) ?_; (case hyt13 => ((intro W hSW; (try dsimp only at hSW); obtain ⟨⟨s0, s1, s2, s3, s4, s5, s6, s7⟩, scv, sdv⟩ := hSW; (try simp only [Nat.zero_add] at s0 s1 s2 s3 s4 s5 s6 s7); go_simp); (all_goals with_reducible rfl))); (try simp only [Act.put, List.setIfInBounds_toArray, List.set_cons_zero, List.set_cons_succ])
  refine wpAnyH_take (i := 14) (oi := ⟨some 42, _, _, _, _, _⟩) (v := ?_) rfl (by kernel_rfl) (by kernel_rfl) (by kernel_rfl) (fun _ _ _ h => h) (Or.inl ⟨by rfl, ?hyt14⟩) (by assumption) ?_; (case hyt14 => ((intro W hSW; (try dsimp only at hSW); obtain ⟨⟨s0, s1, s2, s3, s4, s5, s6, s7⟩, scv, sdv⟩ := hSW; (try simp only [Nat.zero_add] at s0 s1 s2 s3 s4 s5 s6 s7); go_simp); (all_goals with_reducible rfl))); (try simp only [Act.put, List.setIfInBounds_toArray, List.set_cons_zero, List.set_cons_succ])
  refine wpAnyH_take (i := 15) (oi := ⟨some 43, _, _, _, _, _⟩) (v := ?_) rfl (by kernel_rfl) (by kernel_rfl) (by kernel_rfl) (fun _ _ _ h => h) (Or.inl ⟨by rfl, ?hyt15⟩) (by assumption) ?_; (case hyt15 => ((intro W hSW; (try dsimp only at hSW); obtain ⟨⟨s0, s1, s2, s3, s4, s5, s6, s7⟩, scv, sdv⟩ := hSW; (try simp only [Nat.zero_add] at s0 s1 s2 s3 s4 s5 s6 s7); go_simp); (all_goals with_reducible rfl))); (try simp only [Act.put, List.setIfInBounds_toArray, List.set_cons_zero, List.set_cons_succ])
  refine wpAnyH_take (i := 16) (oi := ⟨some 44, _, _, _, _, _⟩) (v := ?_) rfl (by kernel_rfl) (by kernel_rfl) (by kernel_rfl) (fun _ _ _ h => h) (Or.inl ⟨by rfl, ?hyt16⟩) (by assumption) ?_; (case hyt16 => ((intro W hSW; (try dsimp only at hSW); obtain ⟨⟨s0, s1, s2, s3, s4, s5, s6, s7⟩, scv, sdv⟩ := hSW; (try simp only [Nat.zero_add] at s0 s1 s2 s3 s4 s5 s6 s7); go_simp); (all_goals with_reducible rfl))); (try simp only [Act.put, List.setIfInBounds_toArray, List.set_cons_zero, List.set_cons_succ])
  refine wpAnyH_take (i := 17) (oi := ⟨some 45, _, _, _, _, _⟩) (v := ?_) rfl (by kernel_rfl) (by kernel_rfl) (by kernel_rfl) (fun _ _ _ h => h) (Or.inl ⟨by rfl, ?hyt17⟩) (by assumption) ?_; (case hyt17 => ((intro W hSW; (try dsimp only at hSW); obtain ⟨⟨s0, s1, s2, s3, s4, s5, s6, s7⟩, scv, sdv⟩ := hSW; (try simp only [Nat.zero_add] at s0 s1 s2 s3 s4 s5 s6 s7); go_simp); (all_goals with_reducible rfl))); (try simp only [Act.put, List.setIfInBounds_toArray, List.set_cons_zero, List.set_cons_succ])
  refine wpAnyH_take (i := 18) (oi := ⟨some 46, _, _, _, _, _⟩) (v := ?_) rfl (by kernel_rfl) (by kernel_rfl) (by kernel_rfl) (fun _ _ _ h => h) (Or.inl ⟨by rfl, ?hyt18⟩) (by assumption) ?_; (case hyt18 => ((intro W hSW; (try dsimp only at hSW); obtain ⟨⟨s0, s1, s2, s3, s4, s5, s6, s7⟩, scv, sdv⟩ := hSW; (try simp only [Nat.zero_add] at s0 s1 s2 s3 s4 s5 s6 s7); go_simp); (all_goals with_reducible rfl))); (try simp only [Act.put, List.setIfInBounds_toArray, List.set_cons_zero, List.set_cons_succ])
  refine wpAnyH_take (i := 19) (oi := ⟨some 47, _, _, _, _, _⟩) (v := ?_) rfl (by kernel_rfl) (by kernel_rfl) (by kernel_rfl) (fun _ _ _ h => h) (Or.inl ⟨by rfl, ?hyt19⟩) (by assumption) ?_; (case hyt19 => ((intro W hSW; (try dsimp only at hSW); obtain ⟨⟨s0, s1, s2, s3, s4, s5, s6, s7⟩, scv, sdv⟩ := hSW; (try simp only [Nat.zero_add] at s0 s1 s2 s3 s4 s5 s6 s7); go_simp); (all_goals with_reducible rfl))); (try simp only [Act.put, List.setIfInBounds_toArray, List.set_cons_zero, List.set_cons_succ])
  refine wpAnyH_take (i := 20) (oi := ⟨some 48, _, _, _, _, _⟩) (v := ?_) rfl (by kernel_rfl) (by kernel_rfl) (by kernel_rfl) (fun _ _ _ h => h) (Or.inl ⟨by rfl, ?hyt20⟩) (by assumption) ?_; (case hyt20 => ((intro W hSW; (try dsimp only at hSW); obtain ⟨⟨s0, s1, s2, s3, s4, s5, s6, s7⟩, scv, sdv⟩ := hSW; (try simp only [Nat.zero_add] at s0 s1 s2 s3 s4 s5 s6 s7); go_simp); (all_goals with_reducible rfl))); (try simp only [Act.put, List.setIfInBounds_toArray, List.set_cons_zero, List.set_cons_succ])
  refine wpAnyH_take (i := 21) (oi := ⟨some 49, _, _, _, _, _⟩) (v := ?_) rfl (by kernel_rfl) (by kernel_rfl) (by kernel_rfl) (fun _ _ _ h => h) (Or.inl ⟨by rfl, ?hyt21⟩) (by assumption) ?_; (case hyt21 => ((intro W hSW; (try dsimp only at hSW); obtain ⟨⟨s0, s1, s2, s3, s4, s5, s6, s7⟩, scv, sdv⟩ := hSW; (try simp only [Nat.zero_add] at s0 s1 s2 s3 s4 s5 s6 s7); go_simp); (all_goals with_reducible rfl))); (try simp only [Act.put, List.setIfInBounds_toArray, List.set_cons_zero, List.set_cons_succ])
  refine wpAnyH_take (i := 22) (oi := ⟨some 50, _, _, _, _, _⟩) (v := ?_) rfl (by kernel_rfl) (by kernel_rfl) (by kernel_rfl) (fun _ _ _ h => h) (Or.inl ⟨by rfl, ?hyt22⟩) (by assumption) ?_; (case hyt22 => ((intro W hSW; (try dsimp only at hSW); obtain ⟨⟨s0, s1, s2, s3, s4, s5, s6, s7⟩, scv, sdv⟩ := hSW; (try simp only [Nat.zero_add] at s0 s1 s2 s3 s4 s5 s6 s7); go_simp); (all_goals with_reducible rfl))); (try simp only [Act.put, List.setIfInBounds_toArray, List.set_cons_zero, List.set_cons_succ])
  refine wpAnyH_take (i := 23) (oi := ⟨some 51, _, _, _, _, _⟩) (v := ?_) rfl (by kernel_rfl) (by kernel_rfl) (by kernel_rfl) (fun _ _ _ h => h) (Or.inl ⟨by rfl, ?hyt23⟩) (by assumption) ?_; (case hyt23 => ((intro W hSW; (try dsimp only at hSW); obtain ⟨⟨s0, s1, s2, s3, s4, s5, s6, s7⟩, scv, sdv⟩ := hSW; (try simp only [Nat.zero_add] at s0 s1 s2 s3 s4 s5 s6 s7); go_simp); (all_goals with_reducible rfl))); (try simp only [Act.put, List.setIfInBounds_toArray, List.set_cons_zero, List.set_cons_succ])
  refine wpAnyH_take (i := 24) (oi := ⟨some 52, _, _, _, _, _⟩) (v := ?_) rfl (by kernel_rfl) (by kernel_rfl) (by kernel_rfl) (fun _ _ _ h => h) (Or.inl ⟨by rfl, ?hyt24⟩) (by assumption) ?_; (case hyt24 => ((intro W hSW; (try dsimp only at hSW); obtain ⟨⟨s0, s1, s2, s3, s4, s5, s6, s7⟩, scv, sdv⟩ := hSW; (try simp only [Nat.zero_add] at s0 s1 s2 s3 s4 s5 s6 s7); go_simp); (all_goals with_reducible rfl))); (try simp only [Act.put, List.setIfInBounds_toArray, List.set_cons_zero, List.set_cons_succ])
  refine wpAnyH_take (i := 25) (oi := ⟨some 53, _, _, _, _, _⟩) (v := ?_) rfl (by kernel_rfl) (by kernel_rfl) (by kernel_rfl) (fun _ _ _ h => h) (Or.inl ⟨by rfl, ?hyt25⟩) (by assumption) ?_; (case hyt25 => ((intro W hSW; (try dsimp only at hSW); obtain ⟨⟨s0, s1, s2, s3, s4, s5, s6, s7⟩, scv, sdv⟩ := hSW; (try simp only [Nat.zero_add] at s0 s1 s2 s3 s4 s5 s6 s7); go_simp); (all_goals with_reducible rfl))); (try simp only [Act.put, List.setIfInBounds_toArray, List.set_cons_zero, List.set_cons_succ])
  refine wpAnyH_take (i := 26) (oi := ⟨some 54, _, _, _, _, _⟩) (v := ?_) rfl (by kernel_rfl) (by kernel_rfl) (by kernel_rfl) (fun _ _ _ h => h) (Or.inl ⟨by rfl, ?hyt26⟩) (by assumption) ?_; (case hyt26 => ((intro W hSW; (try dsimp only at hSW); obtain ⟨⟨s0, s1, s2, s3, s4, s5, s6, s7⟩, scv, sdv⟩ := hSW; (try simp only [Nat.zero_add] at s0 s1 s2 s3 s4 s5 s6 s7); go_simp); (all_goals with_reducible rfl))); (try simp only [Act.put, List.setIfInBounds_toArray, List.set_cons_zero, List.set_cons_succ])
  refine wpAnyH_take (i := 27) (oi := ⟨some 55, _, _, _, _, _⟩) (v := ?_) rfl (by kernel_rfl) (by kernel_rfl) (by kernel_rfl) (fun _ _ _ h => h) (Or.inl ⟨by rfl, ?hyt27⟩) (by assumption) ?_; (case hyt27 => ((intro W hSW; (try dsimp only at hSW); obtain ⟨⟨s0, s1, s2, s3, s4, s5, s6, s7⟩, scv, sdv⟩ := hSW; (try simp only [Nat.zero_add] at s0 s1 s2 s3 s4 s5 s6 s7); go_simp); (all_goals with_reducible rfl))); (try simp only [Act.put, List.setIfInBounds_toArray, List.set_cons_zero, List.set_cons_succ])
  refine wpAnyH_take (i := 28) (oi := ⟨some 56, _, _, _, _, _⟩) (v := ?_) rfl (by kernel_rfl) (by kernel_rfl) (by kernel_rfl) (fun _ _ _ h => h) (Or.inl ⟨by rfl, ?hyt28⟩) (by assumption) ?_; (case hyt28 => ((intro W hSW; (try dsimp only at hSW); obtain ⟨⟨s0, s1, s2, s3, s4, s5, s6, s7⟩, scv, sdv⟩ := hSW; (try simp only [Nat.zero_add] at s0 s1 s2 s3 s4 s5 s6 s7); go_simp); (all_goals with_reducible rfl))); (try simp only [Act.put, List.setIfInBounds_toArray, List.set_cons_zero, List.set_cons_succ])
  refine wpAnyH_ready (rs := [29]) (by kernel_rfl) (by simp) ?_; refine AllReadyH.cons (o := ⟨some 57, _, _, _, _, _⟩) rfl (fun K hK => ?_) AllReadyH.nil; go_simp
  go_at_call 58
  refine (HS.out _ (KK.out _ D6)).mono ?_; rintro e w7 ⟨rfl, hb7⟩
  have D7 := D6.trans (hb7.mono D6.size)
  (try go_simp); refine hK.out _ _ (E.out _ D7) (fun hHeld3 => ?_); clear hK K hHeld2; (try simp only [Act.put, List.setIfInBounds_toArray, List.set_cons_zero, List.set_cons_succ])
  refine wpAnyH_take (i := 30) (oi := ⟨some 58, _, _, _, _, _⟩) (v := ?_) rfl (by kernel_rfl) (by kernel_rfl) (by kernel_rfl) (fun _ _ _ h => h) (Or.inl ⟨by rfl, ?hyt30⟩) (by assumption) ?_; (case hyt30 => ((intro W hSW; (try dsimp only at hSW); obtain ⟨⟨s0, s1, s2, s3, s4, s5, s6, s7⟩, scv, sdv⟩ := hSW; (try simp only [Nat.zero_add] at s0 s1 s2 s3 s4 s5 s6 s7); go_simp); (all_goals with_reducible rfl))); (try simp only [Act.put, List.setIfInBounds_toArray, List.set_cons_zero, List.set_cons_succ])
  refine wpAnyH_take (i := 31) (oi := ⟨some 59, _, _, _, _, _⟩) (v := ?_) rfl (by kernel_rfl) (by kernel_rfl) (by kernel_rfl) (fun _ _ _ h => h) (Or.inl ⟨by rfl, ?hyt31⟩) (by assumption) ?_; (case hyt31 => ((intro W hSW; (try dsimp only at hSW); obtain ⟨⟨s0, s1, s2, s3, s4, s5, s6, s7⟩, scv, sdv⟩ := hSW; (try simp only [Nat.zero_add] at s0 s1 s2 s3 s4 s5 s6 s7); go_simp); (all_goals with_reducible rfl))); (try simp only [Act.put, List.setIfInBounds_toArray, List.set_cons_zero, List.set_cons_succ])
  refine wpAnyH_take (i := 32) (oi := ⟨some 4, _, _, _, _, _⟩) (v := ?_) rfl (by kernel_rfl) (by kernel_rfl) (by kernel_rfl) (fun _ _ _ h => h) (Or.inl ⟨by rfl, ?hyt32⟩) (by assumption) ?_; (case hyt32 => ((intro W hSW; (try dsimp only at hSW); obtain ⟨⟨s0, s1, s2, s3, s4, s5, s6, s7⟩, scv, sdv⟩ := hSW; (try simp only [Nat.zero_add] at s0 s1 s2 s3 s4 s5 s6 s7); go_simp); (all_goals with_reducible rfl))); (try simp only [Act.put, List.setIfInBounds_toArray, List.set_cons_zero, List.set_cons_succ])
  refine wpAnyH_done (by kernel_rfl) ?_ _
  go_wp2_with fail
  go_ret
  exact ⟨rfl, B4.trans (D7.mono B4.size)⟩
end Go.Proofs.YtdmpopdacbdnlaaDoor
