/- lookoutref01.ReadMoment, ReadText, End; octet.Reader's Int, Moment: contracts. -/
import Derived.Test.YtdondjodonmebaaOctRRead
namespace Go.Proofs.Ytdondjodonmebaa
open Go.RowKit
set_option linter.unusedVariables false
set_option linter.unusedSimpArgs false
set_option maxHeartbeats 2000000
set_option maxRecDepth 20000
def rMom (bs : List UInt8) (e : Int) : Int × List UInt8 × Int := if 9223372036854775807 < (rNum bs e).1 then (0, [], 13) else ((rNum bs e).1, (rNum bs e).2.1, (rNum bs e).2.2)
theorem int_any (g : Nat) (bs : List UInt8) (e : Int) (w : World) (h : Rd w g bs e) : Calls Try.prog 27 #[.pointer (some ⟨g, 0, none⟩)] w fun x w' => x = .returned (.int .i64 (plainOf (rNum bs e).1)) ∧ Rd w' g (rNum bs e).2.1 (rNum bs e).2.2 ∧ w.grownBy w' (some g) := by
  have hu := rNum_lt bs e
  go_enter Try.func27, Try.ntmps27
  go_wp2_with fail
  refine (num_any g bs e w h).mono ?_; rintro x w1 ⟨rfl, hR1, hG1⟩
  go_wp2_with fail
  refine (plain_any _ (by omega) (by omega) w1).mono ?_; rintro e w' ⟨rfl, rfl⟩
  go_wp2_with fail
  go_ret
  exact ⟨rfl, hR1, hG1⟩
theorem int_none (w : World) : Calls Try.prog 27 #[.pointer none] w fun x w' => x = .returned (.int .i64 0) ∧ w = w' := by
  go_enter Try.func27, Try.ntmps27
  go_wp2_with fail
  refine (num_none w).mono ?_; rintro x w1 ⟨rfl, rfl⟩
  go_wp2_with fail
  refine (plain_any 0 (by omega) (by omega) w).mono ?_; rintro e w' ⟨rfl, rfl⟩
  go_wp2_with fail
  go_ret
  exact ⟨rfl, rfl⟩
theorem moment_any (g : Nat) (bs : List UInt8) (e : Int) (w : World) (h : Rd w g bs e) : Calls Try.prog 28 #[.pointer (some ⟨g, 0, none⟩)] w fun x w' => x = .returned (.int .i64 (rMom bs e).1) ∧ Rd w' g (rMom bs e).2.1 (rMom bs e).2.2 ∧ w.grownBy w' (some g) := by
  have hu := rNum_lt bs e
  have hN := Lib.hid (num_any g bs e w h)
  unfold rMom
  generalize rNum bs e = t at *
  obtain ⟨u, bs1, e1⟩ := t
  simp only at hu hN ⊢
  by_cases hb : 9223372036854775807 < u
  · rw [if_pos hb]
    go_enter Try.func28, Try.ntmps28
    go_wp2_with fail
    refine hN.out.mono ?_; rintro x w1 ⟨rfl, hR1, hG1⟩
    go_wp2_with fail
    refine (fail_any g bs1 e1 13 w1 hR1).mono ?_; rintro x w2 ⟨rfl, hR2, hG2⟩
    go_wp2_with fail
    go_ret
    exact ⟨rfl, hR2, hG1.trans hG2⟩
  · rw [if_neg hb]
    go_enter Try.func28, Try.ntmps28
    go_wp2_with fail
    refine hN.out.mono ?_; rintro x w1 ⟨rfl, hR1, hG1⟩
    go_wp2_with fail
    go_ret
    exact ⟨rfl, hR1, hG1⟩
theorem moment_none (w : World) : Calls Try.prog 28 #[.pointer none] w fun x w' => x = .returned (.int .i64 0) ∧ w = w' := by
  go_enter Try.func28, Try.ntmps28
  go_wp2_with fail
  refine (num_none w).mono ?_; rintro x w1 ⟨rfl, rfl⟩
  go_wp2_with fail
  go_ret
  exact ⟨rfl, rfl⟩
theorem rend_any (bs : List UInt8) (e : Int) (w : World) : Calls Try.prog 31 #[rV bs e] w fun x w' => x = .returned (.int .i64 (endOf bs e)) ∧ Below w.heap.size w w' := by
  unfold rV endOf
  by_cases he : e = 0
  · subst he
    by_cases hb : 0 < bs.length
    · have hE : bs.isEmpty = false := by cases bs with | nil => simp at hb | cons d r => rfl
      go_enter Try.func31, Try.ntmps31
      go_wp2_with fail
      all_goals (go_ret; exact ⟨ret_int (by simp [hb]), (by repeat (first | with_reducible exact Below.refl _ _ | with_reducible refine Below.drew ?_ | with_reducible refine Below.alloc ?_ (by (try simp) <;> omega) _ | with_reducible refine Below.setCell ?_ (by (try simp) <;> omega) _))⟩)
    · have hb0 : bs = [] := List.eq_nil_of_length_eq_zero (by omega)
      subst hb0
      go_enter Try.func31, Try.ntmps31
      go_wp2_with fail
      all_goals (go_ret; exact ⟨ret_int (by simp), (by repeat (first | with_reducible exact Below.refl _ _ | with_reducible refine Below.drew ?_ | with_reducible refine Below.alloc ?_ (by (try simp) <;> omega) _ | with_reducible refine Below.setCell ?_ (by (try simp) <;> omega) _))⟩)
  · have he' : (e == 0) = false := by rw [beq_eq_false_iff_ne]; exact he
    go_enter Try.func31, Try.ntmps31
    go_wp2_with fail
    all_goals (go_ret; exact ⟨ret_int (by simp [he]), (by repeat (first | with_reducible exact Below.refl _ _ | with_reducible refine Below.drew ?_ | with_reducible refine Below.alloc ?_ (by (try simp) <;> omega) _ | with_reducible refine Below.setCell ?_ (by (try simp) <;> omega) _))⟩)
theorem rmoment_any (bs : List UInt8) (e : Int) (hs : bs.length ≤ 1000000) (w : World) :
    Calls Try.prog 29 #[rV bs e] w fun x w' => x = .returned (.tuple #[.int .i64 (rMom bs e).1, rV (rMom bs e).2.1 (rMom bs e).2.2]) ∧ Below w.heap.size w w' := by
  have hu := rNum_lt bs e
  have hN := fun W => rread_any bs e hs W
  replace hN := Lib.hid hN
  unfold rMom
  generalize rNum bs e = t at *
  obtain ⟨u, bs1, e1⟩ := t
  simp only at hu hN ⊢
  unfold rV at *
  by_cases hb : 9223372036854775807 < u
  · rw [if_pos hb]
    go_enter Try.func29, Try.ntmps29
    go_wp2_with fail
    refine (hN.out _).mono ?_; rintro x w1 ⟨rfl, hb1⟩
    have z1 := hb1.size
    simp at z1
    have f3 : w1.frozen? ⟨w.heap.size + 1, 0, none⟩ = false := (hb1.frozen (p := ⟨w.heap.size + 1, 0, none⟩) (by simp <;> omega)).trans (by simp [go_sem])
    have f4 : w1.frozen? ⟨w.heap.size + 1, 1, none⟩ = false := (hb1.frozen (p := ⟨w.heap.size + 1, 1, none⟩) (by simp <;> omega)).trans (by simp [go_sem])
    have d3 : w1.cell? ⟨w.heap.size + 1, 0, none⟩ = some (.string ⟨#[]⟩) := (hb1.cell (p := ⟨w.heap.size + 1, 0, none⟩) (by simp <;> omega)).trans (by simp [go_sem])
    have d4 : w1.cell? ⟨w.heap.size + 1, 1, none⟩ = some (.int .i64 0) := (hb1.cell (p := ⟨w.heap.size + 1, 1, none⟩) (by simp <;> omega)).trans (by simp [go_sem])
    have B1 : Below w.heap.size w w1 := by
      refine Below.trans ?_ (hb1.mono (by simp <;> omega))
      exact (by repeat (first | with_reducible exact Below.refl _ _ | with_reducible refine Below.drew ?_ | with_reducible refine Below.alloc ?_ (by (try simp) <;> omega) _ | with_reducible refine Below.setCell ?_ (by (try simp) <;> omega) _))
    have hlt1 : w.heap.size + 1 < w1.heap.size := by omega
    go_wp2_with fail
    all_goals (exact bodyPost_ret (v := .tuple #[.int .i64 0, .agg #[.string ⟨#[]⟩, .int .i64 13]]) (by simp [results, Try.results29, go_sem, d3, d4, f3, f4, hlt1]) rfl ⟨rfl, (by repeat (first | with_reducible exact Below.refl _ _ | with_reducible exact B1 | with_reducible refine Below.drew ?_ | with_reducible refine Below.alloc ?_ (by (try simp) <;> omega) _ | with_reducible refine Below.setCell ?_ (by (try simp) <;> omega) _))⟩)
  · rw [if_neg hb]
    have hw : IntKind.i64.wrap (u : Int) = (u : Int) := IntWalk.i64_in _ (by omega)
    go_enter Try.func29, Try.ntmps29
    go_wp2_with fail
    refine (hN.out _).mono ?_; rintro x w1 ⟨rfl, hb1⟩
    have z1 := hb1.size
    simp at z1
    have f3 : w1.frozen? ⟨w.heap.size + 1, 0, none⟩ = false := (hb1.frozen (p := ⟨w.heap.size + 1, 0, none⟩) (by simp <;> omega)).trans (by simp [go_sem])
    have f4 : w1.frozen? ⟨w.heap.size + 1, 1, none⟩ = false := (hb1.frozen (p := ⟨w.heap.size + 1, 1, none⟩) (by simp <;> omega)).trans (by simp [go_sem])
    have d3 : w1.cell? ⟨w.heap.size + 1, 0, none⟩ = some (.string ⟨#[]⟩) := (hb1.cell (p := ⟨w.heap.size + 1, 0, none⟩) (by simp <;> omega)).trans (by simp [go_sem])
    have d4 : w1.cell? ⟨w.heap.size + 1, 1, none⟩ = some (.int .i64 0) := (hb1.cell (p := ⟨w.heap.size + 1, 1, none⟩) (by simp <;> omega)).trans (by simp [go_sem])
    have B1 : Below w.heap.size w w1 := by
      refine Below.trans ?_ (hb1.mono (by simp <;> omega))
      exact (by repeat (first | with_reducible exact Below.refl _ _ | with_reducible refine Below.drew ?_ | with_reducible refine Below.alloc ?_ (by (try simp) <;> omega) _ | with_reducible refine Below.setCell ?_ (by (try simp) <;> omega) _))
    have hlt1 : w.heap.size + 1 < w1.heap.size := by omega
    go_wp2_with fail
    go_region_with (fail)
    all_goals go_wp2_with fail
    all_goals (exact bodyPost_ret (v := .tuple #[.int .i64 u, .agg #[.string ⟨bs1.toArray⟩, .int .i64 e1]]) (by simp [results, Try.results29, go_sem, d3, d4, f3, f4, hlt1, hw]) rfl ⟨rfl, (by repeat (first | with_reducible exact Below.refl _ _ | with_reducible exact B1 | with_reducible refine Below.drew ?_ | with_reducible refine Below.alloc ?_ (by (try simp) <;> omega) _ | with_reducible refine Below.setCell ?_ (by (try simp) <;> omega) _))⟩)
theorem rtext_any (bs : List UInt8) (e : Int) (most : Int) (bm : -9223372036854775808 ≤ most ∧ most ≤ 9223372036854775807) (hs : bs.length ≤ 1000000) (w : World) :
    Calls Try.prog 30 #[rV bs e, .int .i64 most] w fun x w' => x = .returned (.tuple #[.string ⟨(rText bs e most).1.toArray⟩, rV (rText bs e most).2.1 (rText bs e most).2.2]) ∧ Below w.heap.size w w' := by
  have hN := fun W => rread_any bs e hs W
  replace hN := Lib.hid hN
  have hr : rText bs e most = if (rNum bs e).2.2 ≠ 0 then ([], (rNum bs e).2.1, (rNum bs e).2.2) else if max most 0 < ((rNum bs e).1 : Int) then ([], [], 13) else if (rNum bs e).2.1.length < (rNum bs e).1 then ([], [], 10) else ((rNum bs e).2.1.take (rNum bs e).1, (rNum bs e).2.1.drop (rNum bs e).1, 0) := rfl
  have hu := rNum_lt bs e
  have hl1 := rNum_le bs e
  generalize rNum bs e = t at *
  obtain ⟨u, bs1, e1⟩ := t
  simp only at hr hN hu hl1
  unfold rV at *
  by_cases he : e1 = 0
  · rw [if_neg (by simpa using he)] at hr
    subst he
    by_cases h1 : max most 0 < (u : Int)
    · rw [if_pos h1] at hr
      rw [hr]
      clear hr
      have hu0 : 0 < (u : Int) := by omega
      by_cases hneg : most < 0
      · go_enter Try.func30, Try.ntmps30
        go_wp2_with fail
        refine (hN.out _).mono ?_; rintro x w1 ⟨rfl, hb1⟩
        have z1 := hb1.size
        simp at z1
        have f3 : w1.frozen? ⟨w.heap.size + 1, 0, none⟩ = false := (hb1.frozen (p := ⟨w.heap.size + 1, 0, none⟩) (by simp <;> omega)).trans (by simp [go_sem])
        have f4 : w1.frozen? ⟨w.heap.size + 1, 1, none⟩ = false := (hb1.frozen (p := ⟨w.heap.size + 1, 1, none⟩) (by simp <;> omega)).trans (by simp [go_sem])
        have d3 : w1.cell? ⟨w.heap.size + 1, 0, none⟩ = some (.string ⟨#[]⟩) := (hb1.cell (p := ⟨w.heap.size + 1, 0, none⟩) (by simp <;> omega)).trans (by simp [go_sem])
        have d4 : w1.cell? ⟨w.heap.size + 1, 1, none⟩ = some (.int .i64 0) := (hb1.cell (p := ⟨w.heap.size + 1, 1, none⟩) (by simp <;> omega)).trans (by simp [go_sem])
        have B1 : Below w.heap.size w w1 := by
          refine Below.trans ?_ (hb1.mono (by simp <;> omega))
          exact (by repeat (first | with_reducible exact Below.refl _ _ | with_reducible refine Below.drew ?_ | with_reducible refine Below.alloc ?_ (by (try simp) <;> omega) _ | with_reducible refine Below.setCell ?_ (by (try simp) <;> omega) _))
        have hlt1 : w.heap.size + 1 < w1.heap.size := by omega
        go_wp2_with fail
        all_goals (exact bodyPost_ret (v := .tuple #[.string ⟨#[]⟩, .agg #[.string ⟨#[]⟩, .int .i64 13]]) (by simp [results, Try.results30, go_sem, d3, d4, f3, f4, hlt1]) rfl ⟨rfl, (by repeat (first | with_reducible exact Below.refl _ _ | with_reducible exact B1 | with_reducible refine Below.drew ?_ | with_reducible refine Below.alloc ?_ (by (try simp) <;> omega) _ | with_reducible refine Below.setCell ?_ (by (try simp) <;> omega) _))⟩)
      · have hmu : most < (u : Int) := by omega
        go_enter Try.func30, Try.ntmps30
        go_wp2_with fail
        refine (hN.out _).mono ?_; rintro x w1 ⟨rfl, hb1⟩
        have z1 := hb1.size
        simp at z1
        have f3 : w1.frozen? ⟨w.heap.size + 1, 0, none⟩ = false := (hb1.frozen (p := ⟨w.heap.size + 1, 0, none⟩) (by simp <;> omega)).trans (by simp [go_sem])
        have f4 : w1.frozen? ⟨w.heap.size + 1, 1, none⟩ = false := (hb1.frozen (p := ⟨w.heap.size + 1, 1, none⟩) (by simp <;> omega)).trans (by simp [go_sem])
        have d3 : w1.cell? ⟨w.heap.size + 1, 0, none⟩ = some (.string ⟨#[]⟩) := (hb1.cell (p := ⟨w.heap.size + 1, 0, none⟩) (by simp <;> omega)).trans (by simp [go_sem])
        have d4 : w1.cell? ⟨w.heap.size + 1, 1, none⟩ = some (.int .i64 0) := (hb1.cell (p := ⟨w.heap.size + 1, 1, none⟩) (by simp <;> omega)).trans (by simp [go_sem])
        have B1 : Below w.heap.size w w1 := by
          refine Below.trans ?_ (hb1.mono (by simp <;> omega))
          exact (by repeat (first | with_reducible exact Below.refl _ _ | with_reducible refine Below.drew ?_ | with_reducible refine Below.alloc ?_ (by (try simp) <;> omega) _ | with_reducible refine Below.setCell ?_ (by (try simp) <;> omega) _))
        have hlt1 : w.heap.size + 1 < w1.heap.size := by omega
        go_wp2_with fail
        all_goals (exact bodyPost_ret (v := .tuple #[.string ⟨#[]⟩, .agg #[.string ⟨#[]⟩, .int .i64 13]]) (by simp [results, Try.results30, go_sem, d3, d4, f3, f4, hlt1]) rfl ⟨rfl, (by repeat (first | with_reducible exact Below.refl _ _ | with_reducible exact B1 | with_reducible refine Below.drew ?_ | with_reducible refine Below.alloc ?_ (by (try simp) <;> omega) _ | with_reducible refine Below.setCell ?_ (by (try simp) <;> omega) _))⟩)
    · rw [if_neg h1] at hr
      by_cases h2 : bs1.length < u
      · rw [if_pos h2] at hr
        rw [hr]
        clear hr
        have h2' : (bs1.length : Int) < (u : Int) := by omega
        have hm0 : 0 ≤ most := by omega
        have hmu : (u : Int) ≤ most := by omega
        go_enter Try.func30, Try.ntmps30
        go_wp2_with fail
        refine (hN.out _).mono ?_; rintro x w1 ⟨rfl, hb1⟩
        have z1 := hb1.size
        simp at z1
        have f3 : w1.frozen? ⟨w.heap.size + 1, 0, none⟩ = false := (hb1.frozen (p := ⟨w.heap.size + 1, 0, none⟩) (by simp <;> omega)).trans (by simp [go_sem])
        have f4 : w1.frozen? ⟨w.heap.size + 1, 1, none⟩ = false := (hb1.frozen (p := ⟨w.heap.size + 1, 1, none⟩) (by simp <;> omega)).trans (by simp [go_sem])
        have d3 : w1.cell? ⟨w.heap.size + 1, 0, none⟩ = some (.string ⟨#[]⟩) := (hb1.cell (p := ⟨w.heap.size + 1, 0, none⟩) (by simp <;> omega)).trans (by simp [go_sem])
        have d4 : w1.cell? ⟨w.heap.size + 1, 1, none⟩ = some (.int .i64 0) := (hb1.cell (p := ⟨w.heap.size + 1, 1, none⟩) (by simp <;> omega)).trans (by simp [go_sem])
        have B1 : Below w.heap.size w w1 := by
          refine Below.trans ?_ (hb1.mono (by simp <;> omega))
          exact (by repeat (first | with_reducible exact Below.refl _ _ | with_reducible refine Below.drew ?_ | with_reducible refine Below.alloc ?_ (by (try simp) <;> omega) _ | with_reducible refine Below.setCell ?_ (by (try simp) <;> omega) _))
        have hlt1 : w.heap.size + 1 < w1.heap.size := by omega
        go_wp2_with fail
        all_goals (exact bodyPost_ret (v := .tuple #[.string ⟨#[]⟩, .agg #[.string ⟨#[]⟩, .int .i64 10]]) (by simp [results, Try.results30, go_sem, d3, d4, f3, f4, hlt1]) rfl ⟨rfl, (by repeat (first | with_reducible exact Below.refl _ _ | with_reducible exact B1 | with_reducible refine Below.drew ?_ | with_reducible refine Below.alloc ?_ (by (try simp) <;> omega) _ | with_reducible refine Below.setCell ?_ (by (try simp) <;> omega) _))⟩)
      · rw [if_neg h2] at hr
        rw [hr]
        clear hr
        have h2' : (u : Int) ≤ (bs1.length : Int) := by omega
        have hu0 : (0 : Int) ≤ (u : Int) := by omega
        have hs1 : ∀ W, (Instr.slice 9 (.string ⟨bs1.toArray⟩) (some (.int .u64 (u : Int))) none none).run Try.prog W = .ok (.string ⟨(bs1.drop u).toArray⟩) W := fun W => by
          have := run_slice_string_l W 9 ⟨bs1.toArray⟩ Try.underlying9 .u64 (u : Int) hu0 (by show (u : Int) ≤ (bs1.toArray.size : Int); simpa using h2')
          rw [this, show ((u : Int)).toNat = u from by omega, ba_drop]
        have hs2 : ∀ W, (Instr.slice 9 (.string ⟨bs1.toArray⟩) none (some (.int .u64 (u : Int))) none).run Try.prog W = .ok (.string ⟨(bs1.take u).toArray⟩) W := fun W => by
          have := run_slice_string_h W 9 ⟨bs1.toArray⟩ Try.underlying9 .u64 (u : Int) hu0 (by show (u : Int) ≤ (bs1.toArray.size : Int); simpa using h2')
          rw [this, show ((u : Int)).toNat = u from by omega, ba_take]
        obtain ⟨p, hp⟩ : ∃ p, bs1.drop u = p := ⟨_, rfl⟩
        obtain ⟨q, hq⟩ : ∃ q, bs1.take u = q := ⟨_, rfl⟩
        rw [hp] at hs1
        rw [hq] at hs2
        rw [hp, hq]
        clear hp hq
        have hz : (u : Int) = 0 ∨ (0 < (u : Int) ∧ 0 ≤ most ∧ (u : Int) ≤ most) := by omega
        rcases hz with hz | ⟨hz, hm0, hmu⟩
        · have hz' : (u : Int) ≤ 0 := by omega
          clear hz
          go_enter Try.func30, Try.ntmps30
          go_wp2_with fail
          refine (hN.out _).mono ?_; rintro x w1 ⟨rfl, hb1⟩
          have z1 := hb1.size
          simp at z1
          have f3 : w1.frozen? ⟨w.heap.size + 1, 0, none⟩ = false := (hb1.frozen (p := ⟨w.heap.size + 1, 0, none⟩) (by simp <;> omega)).trans (by simp [go_sem])
          have f4 : w1.frozen? ⟨w.heap.size + 1, 1, none⟩ = false := (hb1.frozen (p := ⟨w.heap.size + 1, 1, none⟩) (by simp <;> omega)).trans (by simp [go_sem])
          have d3 : w1.cell? ⟨w.heap.size + 1, 0, none⟩ = some (.string ⟨#[]⟩) := (hb1.cell (p := ⟨w.heap.size + 1, 0, none⟩) (by simp <;> omega)).trans (by simp [go_sem])
          have d4 : w1.cell? ⟨w.heap.size + 1, 1, none⟩ = some (.int .i64 0) := (hb1.cell (p := ⟨w.heap.size + 1, 1, none⟩) (by simp <;> omega)).trans (by simp [go_sem])
          have B1 : Below w.heap.size w w1 := by
            refine Below.trans ?_ (hb1.mono (by simp <;> omega))
            exact (by repeat (first | with_reducible exact Below.refl _ _ | with_reducible refine Below.drew ?_ | with_reducible refine Below.alloc ?_ (by (try simp) <;> omega) _ | with_reducible refine Below.setCell ?_ (by (try simp) <;> omega) _))
          have hlt1 : w.heap.size + 1 < w1.heap.size := by omega
          go_wp2_with fail
          go_region_with (fail)
          all_goals go_wp2_with fail
          all_goals (exact bodyPost_ret (v := .tuple #[.string ⟨q.toArray⟩, .agg #[.string ⟨p.toArray⟩, .int .i64 0]]) (by simp [results, Try.results30, go_sem, d3, d4, f3, f4, hlt1]) rfl ⟨rfl, (by repeat (first | with_reducible exact Below.refl _ _ | with_reducible exact B1 | with_reducible refine Below.drew ?_ | with_reducible refine Below.alloc ?_ (by (try simp) <;> omega) _ | with_reducible refine Below.setCell ?_ (by (try simp) <;> omega) _))⟩)
        · go_enter Try.func30, Try.ntmps30
          go_wp2_with fail
          refine (hN.out _).mono ?_; rintro x w1 ⟨rfl, hb1⟩
          have z1 := hb1.size
          simp at z1
          have f3 : w1.frozen? ⟨w.heap.size + 1, 0, none⟩ = false := (hb1.frozen (p := ⟨w.heap.size + 1, 0, none⟩) (by simp <;> omega)).trans (by simp [go_sem])
          have f4 : w1.frozen? ⟨w.heap.size + 1, 1, none⟩ = false := (hb1.frozen (p := ⟨w.heap.size + 1, 1, none⟩) (by simp <;> omega)).trans (by simp [go_sem])
          have d3 : w1.cell? ⟨w.heap.size + 1, 0, none⟩ = some (.string ⟨#[]⟩) := (hb1.cell (p := ⟨w.heap.size + 1, 0, none⟩) (by simp <;> omega)).trans (by simp [go_sem])
          have d4 : w1.cell? ⟨w.heap.size + 1, 1, none⟩ = some (.int .i64 0) := (hb1.cell (p := ⟨w.heap.size + 1, 1, none⟩) (by simp <;> omega)).trans (by simp [go_sem])
          have B1 : Below w.heap.size w w1 := by
            refine Below.trans ?_ (hb1.mono (by simp <;> omega))
            exact (by repeat (first | with_reducible exact Below.refl _ _ | with_reducible refine Below.drew ?_ | with_reducible refine Below.alloc ?_ (by (try simp) <;> omega) _ | with_reducible refine Below.setCell ?_ (by (try simp) <;> omega) _))
          have hlt1 : w.heap.size + 1 < w1.heap.size := by omega
          go_wp2_with fail
          go_region_with (fail)
          all_goals go_wp2_with fail
          all_goals (exact bodyPost_ret (v := .tuple #[.string ⟨q.toArray⟩, .agg #[.string ⟨p.toArray⟩, .int .i64 0]]) (by simp [results, Try.results30, go_sem, d3, d4, f3, f4, hlt1]) rfl ⟨rfl, (by repeat (first | with_reducible exact Below.refl _ _ | with_reducible exact B1 | with_reducible refine Below.drew ?_ | with_reducible refine Below.alloc ?_ (by (try simp) <;> omega) _ | with_reducible refine Below.setCell ?_ (by (try simp) <;> omega) _))⟩)
  · rw [if_pos he] at hr
    rw [hr]
    have he' : (e1 == 0) = false := by rw [beq_eq_false_iff_ne]; exact he
    clear hr
    go_enter Try.func30, Try.ntmps30
    go_wp2_with fail
    refine (hN.out _).mono ?_; rintro x w1 ⟨rfl, hb1⟩
    have z1 := hb1.size
    simp at z1
    have f3 : w1.frozen? ⟨w.heap.size + 1, 0, none⟩ = false := (hb1.frozen (p := ⟨w.heap.size + 1, 0, none⟩) (by simp <;> omega)).trans (by simp [go_sem])
    have f4 : w1.frozen? ⟨w.heap.size + 1, 1, none⟩ = false := (hb1.frozen (p := ⟨w.heap.size + 1, 1, none⟩) (by simp <;> omega)).trans (by simp [go_sem])
    have d3 : w1.cell? ⟨w.heap.size + 1, 0, none⟩ = some (.string ⟨#[]⟩) := (hb1.cell (p := ⟨w.heap.size + 1, 0, none⟩) (by simp <;> omega)).trans (by simp [go_sem])
    have d4 : w1.cell? ⟨w.heap.size + 1, 1, none⟩ = some (.int .i64 0) := (hb1.cell (p := ⟨w.heap.size + 1, 1, none⟩) (by simp <;> omega)).trans (by simp [go_sem])
    have B1 : Below w.heap.size w w1 := by
      refine Below.trans ?_ (hb1.mono (by simp <;> omega))
      exact (by repeat (first | with_reducible exact Below.refl _ _ | with_reducible refine Below.drew ?_ | with_reducible refine Below.alloc ?_ (by (try simp) <;> omega) _ | with_reducible refine Below.setCell ?_ (by (try simp) <;> omega) _))
    have hlt1 : w.heap.size + 1 < w1.heap.size := by omega
    go_wp2_with fail
    go_region_with (fail)
    all_goals go_wp2_with fail
    all_goals (exact bodyPost_ret (v := .tuple #[.string ⟨#[]⟩, .agg #[.string ⟨bs1.toArray⟩, .int .i64 e1]]) (by simp [results, Try.results30, go_sem, d3, d4, f3, f4, hlt1]) rfl ⟨rfl, (by repeat (first | with_reducible exact Below.refl _ _ | with_reducible exact B1 | with_reducible refine Below.drew ?_ | with_reducible refine Below.alloc ?_ (by (try simp) <;> omega) _ | with_reducible refine Below.setCell ?_ (by (try simp) <;> omega) _))⟩)
end Go.Proofs.Ytdondjodonmebaa
