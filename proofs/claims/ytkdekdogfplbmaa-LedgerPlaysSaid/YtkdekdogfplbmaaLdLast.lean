/- The walk of LedgerLast. -/
import Derived.Test.YtkdekdogfplbmaaLdPlay
import Derived.BigQuiet
import Derived.Deep.QuietTactic
namespace Go.Proofs.Ytkdekdogfplbmaa
open Go.RowKit
set_option linter.unusedVariables false
set_option linter.unusedSimpArgs false
set_option maxRecDepth 20000
set_option maxHeartbeats 4000000

theorem below_dr {B : Nat} {a w : World} (h : Below B a w) (n : Nat) : Below B a (w.drewN n) := h.trans ⟨rfl, rfl, rfl, Nat.le_refl _, fun _ _ => rfl⟩
theorem Led.drewN {w : World} {g b n : Nat} {s : LS} (h : Led w g b n s) (m : Nat) : Led (w.drewN m) g b n s := h.below (below_dr (Below.refl _ _) m)
theorem tell_same (g b n : Nat) (s : LS) (a c d : Int) (y : Bool) (ha : -9223372036854775808 ≤ a ∧ a ≤ 9223372036854775807) (hc : -9223372036854775808 ≤ c ∧ c ≤ 9223372036854775807) (hd : -9223372036854775808 ≤ d ∧ d ≤ 9223372036854775807) (w : World) (h : Led w g b n s) (hs : s.still a c d y) :
    Calls Try.prog 28 #[.pointer (some ⟨g, 0, none⟩), .int .i64 a, .int .i64 c, .int .i64 d, .bool y] w fun e w' => e = .returned (.slice none 0 0) ∧ w' = w :=
  (tell_still g b n s a c d y ha hc hd w h hs).mono fun _ _ ⟨he, hw⟩ => ⟨he, hw.symm⟩
theorem done_same (g b n : Nat) (s : LS) (w : World) (h : Led w g b n s) : Calls Try.prog 27 #[.pointer (some ⟨g, 0, none⟩)] w fun e w' => e = .returned (.int .i64 s.done) ∧ w' = w :=
  (ledger_done g b n s w h).mono fun _ _ ⟨he, hw⟩ => ⟨he, hw.symm⟩
theorem tell_still_again (s : LS) (a : Ac) (hf : a.fin = false) : (s.playS a).still a.at_ a.since a.now a.yes := by
  unfold LS.playS LS.tellS
  simp only [hf, Bool.false_eq_true, if_false]
  split
  · assumption
  · exact .inr (.inr (by simp [putM]))
/-- what is told, as a list of none, one or two -/
theorem tell_lists (s : LS) (a : Ac) (hf : a.fin = false) : s.playR a = [] ∨ ((s.playS a).said a.at_ = some a.yes ∧ (s.playR a = [⟨28, a.at_, 0, a.yes⟩] ∨ ∃ r, s.playR a = [r, ⟨28, a.at_, 0, a.yes⟩])) := by
  obtain ⟨h1, h2⟩ := tell_last s a hf
  by_cases h0 : 0 < (s.playR a).length
  · obtain ⟨h3, l, hl⟩ := h2 h0
    refine .inr ⟨h3, ?_⟩
    rw [hl] at h1 ⊢
    match l with
    | [] => exact .inl rfl
    | [r] => exact .inr ⟨r, rfl⟩
    | _ :: _ :: _ => simp at h1
  · exact .inl (List.eq_nil_of_length_eq_zero (by omega))
theorem ledgerLast_walk (p : Int) (hp : -9223372036854775808 ≤ p ∧ p ≤ 9223372036854775807) (a : Option Addr) (len cap : Nat) (cs : List (List Value)) (w : World) (z : RowG 5 w a len cs) (y : ∀ c ∈ cs, OkAll [.int .i64, .int .i64, .int .i64, .bool, .bool] c) :
    Calls Try.prog 9 #[.int .i64 p, .slice a len cap] w fun e w' => e = .returned (.bool true) ∧ Below w.heap.size w w' := by
  obtain ⟨l, hR, hok⟩ := acts_of z y
  clear z y
  have hll := hR.length
  rw [List.length_map] at hll
  have hsm : len ≤ 9223372036854775807 := by have := hR.small; unfold maxLen at this; omega
  have HLL := Lib.hid hll
  clear hll
  go_enter Try.func9, Try.ntmps9
  go_wp2_with fail
  refine (ld_awake _).mono ?_; rintro e w1 ⟨rfl, hb1⟩
  have z1 := hb1.size
  by_cases hl : 120 < len
  · go_wp2_with fail
    go_ret
    exact ⟨rfl, hb1⟩
  go_wp2_with fail
  refine (ledger_new p hp _).mono ?_; rintro e w2 ⟨rfl, hL2, hb2, z2⟩
  have B2 : Below w.heap.size w w2 := hb1.trans (hb2.mono z1)
  go_wp2_with fail
  go_loopw [7] (fun i wr => ∃ (k : Nat) (s : LS), k ≤ len ∧ i = .int .i64 k ∧ Led wr (w1.heap.size + 1) w1.heap.size k s ∧ Below w.heap.size w wr) (fun i wr => len - (intOf i).toNat)
  case atStart => exact ⟨0, _, Nat.zero_le _, rfl, hL2, B2⟩
  case round =>
    obtain ⟨k, s, hk, rfl, hL, hB⟩ := hrel
    have hz3 : w1.heap.size ≤ wr.heap.size := by have := MapB.lt hL.m; omega
    have HL := Lib.hid hL; clear hL hL2
    by_cases hlt : k < len
    · obtain ⟨ab, ao, rfl, hab, hat⟩ := RowA.at_ hR (by omega)
      have hac := (hat k hlt).turn (S := fun _ => False) (Turn.ofBelow hB rfl) hab (fun h => h)
      have hok1 := ok_getD hok (i := k) (by have := HLL.out; omega)
      clear hat
      generalize l.getD k acD = ac at *
      obtain ⟨k0, k1, k2, k3, k4⟩ := id hac
      have habr : ab < wr.heap.size := by have := hB.size; omega
      go_wp2_with fail
      refine (play_any _ _ _ _ ac hok1 _ HL.out (by omega)).mono ?_; rintro e w3 hs
      obtain ⟨q, c, rfl, hRC, hx, hL3, hT3, hcap⟩ := hs.done
      have z3 := hT3.size
      have B3 : Below w.heap.size w w3 := hB.trans (hT3.below (Nat.le_trans z1 hz3) (fun k hk e => by omega))
      clear k0 k1 k2 k3 k4
      obtain ⟨k0, k1, k2, k3, k4⟩ := hac.turn hT3 habr (by omega)
      have HL3 := Lib.hid hL3; clear hL3 hs hac
      have i0 : (0 : Int) ≤ (k : Int) := by omega
      have i1 : (k : Int) < (len : Int) := by omega
      cases hf : ac.fin with
      | true =>
        have hd := fin_done s ac hf
        rw [hf] at k4
        by_cases hm : -1 < ac.at_
        · go_wp2_with fail
          go_quiet ((go_at_call 27; exact Calls.quiet_of_same (done_same _ _ _ _ _ (HL3.out.drewN _))))
          go_wp2_with fail
          go_roundw
          case rel => exact ⟨k + 1, _, by omega, by go_num, HL3.out.drewN _, below_dr B3 _⟩
          case measure => simp [intOf]; omega
        · have hm0 : decide (-1 < ac.at_) = false := by simpa using hm
          go_wp2_with fail
          go_quiet (fail)
          go_wp2_with fail
          go_roundw
          case rel => exact ⟨k + 1, _, by omega, by go_num, HL3.out.drewN _, below_dr B3 _⟩
          case measure => simp [intOf]; omega
      | false =>
        rw [hf] at k4
        have hst := Lib.hid (tell_still_again s ac hf)
        obtain ⟨h1, h2, h3⟩ := id hok1
        rcases tell_lists s ac hf with e | ⟨e1, e | ⟨r, e⟩⟩
        · rw [e] at hRC hcap ⊢
          clear e
          go_wp2_with fail
          refine (ledger_said _ _ _ _ _ h1 _ HL3.out).mono ?_; rintro e w' ⟨rfl, rfl⟩
          go_wp2_with fail
          go_quiet ((go_at_call 28; exact Calls.quiet_of_same (tell_same _ _ _ _ _ _ _ _ h1 h2 h3 _ (HL3.out.drewN _) hst.out)))
          go_wp2_with fail
          go_roundw
          case rel => exact ⟨k + 1, _, by omega, by go_num, HL3.out.drewN _, below_dr B3 _⟩
          case measure => simp [intOf]; omega
        · rw [e] at hRC hcap ⊢
          have E1 := Lib.hid e1
          clear e e1
          obtain ⟨rb, ro, rfl, hrb, hrat⟩ := hRC.at_ (by simp)
          obtain rfl : ro = 0 := (hx _ rfl).2
          have r0 := (hrat 0 (by simp)).c0
          simp only [Nat.zero_mul, Nat.add_zero, List.getD_cons_zero] at r0
          clear hrat hRC
          go_wp2_with fail
          refine (ledger_said _ _ _ _ _ h1 _ HL3.out).mono ?_; rintro e w' ⟨rfl, rfl⟩
          rw [E1.out]
          go_wp2_with fail
          go_quiet ((go_at_call 28; exact Calls.quiet_of_same (tell_same _ _ _ _ _ _ _ _ h1 h2 h3 _ (HL3.out.drewN _) hst.out)))
          go_wp2_with fail
          go_roundw
          case rel => exact ⟨k + 1, _, by omega, by go_num, HL3.out.drewN _, below_dr B3 _⟩
          case measure => simp [intOf]; omega
        · rw [e] at hRC hcap ⊢
          have E1 := Lib.hid e1
          clear e e1
          obtain ⟨rb, ro, rfl, hrb, hrat⟩ := hRC.at_ (by simp)
          obtain rfl : ro = 0 := (hx _ rfl).2
          have r0 : w3.cell? ⟨rb, 8, none⟩ = some (.int .u8 28) := (hrat 1 (by simp)).c0
          clear hrat hRC
          go_wp2_with fail
          refine (ledger_said _ _ _ _ _ h1 _ HL3.out).mono ?_; rintro e w' ⟨rfl, rfl⟩
          rw [E1.out]
          go_wp2_with fail
          go_quiet ((go_at_call 28; exact Calls.quiet_of_same (tell_same _ _ _ _ _ _ _ _ h1 h2 h3 _ (HL3.out.drewN _) hst.out)))
          go_wp2_with fail
          go_roundw
          case rel => exact ⟨k + 1, _, by omega, by go_num, HL3.out.drewN _, below_dr B3 _⟩
          case measure => simp [intOf]; omega
    · go_wp2_with fail
      go_ret
      exact ⟨rfl, hB⟩
end Go.Proofs.Ytkdekdogfplbmaa
