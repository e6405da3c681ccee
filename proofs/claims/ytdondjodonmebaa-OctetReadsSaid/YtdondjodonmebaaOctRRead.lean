/- lookoutref01.Read, ReadMoment, ReadText, End; octet.Reader's Int, Moment: contracts. -/
import Derived.Test.YtdondjodonmebaaOctRTake
import Derived.Test.YtdondjodonmebaaOctSign
import Derived.Deep.RegionWith
import Derived.Deep.QuietTactic
namespace Go.Proofs.Ytdondjodonmebaa
open Go.RowKit
set_option linter.unusedVariables false
set_option linter.unusedSimpArgs false
set_option maxHeartbeats 2000000
set_option maxRecDepth 20000
def rV (bs : List UInt8) (e : Int) : Value := .agg #[.string ⟨bs.toArray⟩, .int .i64 e]
theorem rNum_le (bs : List UInt8) (e : Int) : (rNum bs e).2.1.length ≤ bs.length := by
  unfold rNum
  split
  · exact Nat.le_refl _
  · split
    · simp
    · simp
theorem ba_drop (bs : List UInt8) (n : Nat) : (⟨bs.toArray⟩ : ByteArray).extract n (⟨bs.toArray⟩ : ByteArray).size = ⟨(bs.drop n).toArray⟩ := by
  apply ByteArray.ext
  have h : (⟨bs.toArray⟩ : ByteArray).size = bs.toArray.size := rfl
  rw [h]
  simp [ByteArray.data_extract]
  exact List.take_of_length_le (by rw [List.length_drop]; exact Nat.le_refl _)
theorem rread_any (bs : List UInt8) (e : Int) (hs : bs.length ≤ 1000000) (w : World) :
    Calls Try.prog 26 #[rV bs e] w fun x w' => x = .returned (.tuple #[.int .u64 (rNum bs e).1, rV (rNum bs e).2.1 (rNum bs e).2.2]) ∧ Below w.heap.size w w' := by
  unfold rV
  by_cases he : e = 0
  · subst he
    have hT := fun W => rtake_any bs (by omega) W
    unfold takeV at hT
    have hle := take_le bs
    by_cases ht : (takeOf bs).2.2 = 0
    · have hr : rNum bs 0 = ((takeOf bs).1, bs.drop (takeOf bs).2.1, 0) := by unfold rNum; rw [if_neg (by simp), if_neg (by simpa using ht)]
      rw [hr]
      rw [ht] at hT
      clear hr ht
      generalize (takeOf bs).1 = u at *
      generalize (takeOf bs).2.1 = n at *
      replace hT := Lib.hid hT
      go_enter Try.func26, Try.ntmps26
      go_wp2_with fail
      refine (hT.out _).mono ?_; rintro x w1 ⟨rfl, hb1⟩
      have z1 := hb1.size
      simp at z1
      have f3 : w1.frozen? ⟨w.heap.size + 1, 0, none⟩ = false := (hb1.frozen (p := ⟨w.heap.size + 1, 0, none⟩) (by simp <;> omega)).trans (by simp [go_sem])
      have f4 : w1.frozen? ⟨w.heap.size + 1, 1, none⟩ = false := (hb1.frozen (p := ⟨w.heap.size + 1, 1, none⟩) (by simp <;> omega)).trans (by simp [go_sem])
      have d3 : w1.cell? ⟨w.heap.size + 1, 0, none⟩ = some (.string ⟨#[]⟩) := (hb1.cell (p := ⟨w.heap.size + 1, 0, none⟩) (by simp <;> omega)).trans (by simp [go_sem])
      have d4 : w1.cell? ⟨w.heap.size + 1, 1, none⟩ = some (.int .i64 0) := (hb1.cell (p := ⟨w.heap.size + 1, 1, none⟩) (by simp <;> omega)).trans (by simp [go_sem])
      have c3 : w1.cell? ⟨w.heap.size, 0, none⟩ = some (.string ⟨bs.toArray⟩) := (hb1.cell (p := ⟨w.heap.size, 0, none⟩) (by simp <;> omega)).trans (by simp [go_sem])
      have B1 : Below w.heap.size w w1 := by
        refine Below.trans ?_ (hb1.mono (by simp <;> omega))
        exact (by repeat (first | with_reducible exact Below.refl _ _ | with_reducible refine Below.drew ?_ | with_reducible refine Below.alloc ?_ (by (try simp) <;> omega) _ | with_reducible refine Below.setCell ?_ (by (try simp) <;> omega) _))
      have hn0 : (0 : Int) ≤ (n : Int) := by omega
      have hnl : (n : Int) ≤ (bs.length : Int) := by omega
      have hs1 : ∀ W, (Instr.slice 9 (.string ⟨bs.toArray⟩) (some (.int .i64 (n : Int))) none none).run Try.prog W = .ok (.string ⟨(bs.drop n).toArray⟩) W := fun W => by
        have := run_slice_string_l W 9 ⟨bs.toArray⟩ Try.underlying9 .i64 (n : Int) hn0 (by show (n : Int) ≤ (bs.toArray.size : Int); simpa using hnl)
        rw [this, show ((n : Int)).toNat = n from by omega, ba_drop]
      obtain ⟨p, hp⟩ : ∃ p, bs.drop n = p := ⟨_, rfl⟩
      rw [hp] at hs1
      replace hp := Lib.hid hp
      go_wp2_with fail
      go_region_with (fail)
      all_goals go_wp2_with fail
      all_goals (exact bodyPost_ret (v := .tuple #[.int .u64 u, .agg #[.string ⟨p.toArray⟩, .int .i64 0]]) (by simp [results, Try.results26, go_sem, d3, d4, f3, f4]) rfl ⟨by rw [hp.out], (Below.setCell (Below.setCell B1 (by simp only []; omega) _) (by simp only []; omega) _).drew⟩)
    · have hr : rNum bs 0 = (0, [], (takeOf bs).2.2) := by unfold rNum; rw [if_neg (by simp), if_pos ht]
      rw [hr]
      have ht' : ((takeOf bs).2.2 == 0) = false := by rw [beq_eq_false_iff_ne]; exact ht
      clear hr
      generalize (takeOf bs).2.2 = x at *
      replace hT := Lib.hid hT
      go_enter Try.func26, Try.ntmps26
      go_wp2_with fail
      refine (hT.out _).mono ?_; rintro x1 w1 ⟨rfl, hb1⟩
      have z1 := hb1.size
      simp at z1
      have f3 : w1.frozen? ⟨w.heap.size + 1, 0, none⟩ = false := (hb1.frozen (p := ⟨w.heap.size + 1, 0, none⟩) (by simp <;> omega)).trans (by simp [go_sem])
      have f4 : w1.frozen? ⟨w.heap.size + 1, 1, none⟩ = false := (hb1.frozen (p := ⟨w.heap.size + 1, 1, none⟩) (by simp <;> omega)).trans (by simp [go_sem])
      have d3 : w1.cell? ⟨w.heap.size + 1, 0, none⟩ = some (.string ⟨#[]⟩) := (hb1.cell (p := ⟨w.heap.size + 1, 0, none⟩) (by simp <;> omega)).trans (by simp [go_sem])
      have d4 : w1.cell? ⟨w.heap.size + 1, 1, none⟩ = some (.int .i64 0) := (hb1.cell (p := ⟨w.heap.size + 1, 1, none⟩) (by simp <;> omega)).trans (by simp [go_sem])
      have c3 : w1.cell? ⟨w.heap.size, 0, none⟩ = some (.string ⟨bs.toArray⟩) := (hb1.cell (p := ⟨w.heap.size, 0, none⟩) (by simp <;> omega)).trans (by simp [go_sem])
      have B1 : Below w.heap.size w w1 := by
        refine Below.trans ?_ (hb1.mono (by simp <;> omega))
        exact (by repeat (first | with_reducible exact Below.refl _ _ | with_reducible refine Below.drew ?_ | with_reducible refine Below.alloc ?_ (by (try simp) <;> omega) _ | with_reducible refine Below.setCell ?_ (by (try simp) <;> omega) _))
      go_wp2_with fail
      all_goals (exact bodyPost_ret (v := .tuple #[.int .u64 0, .agg #[.string ⟨#[]⟩, .int .i64 x]]) (by simp [results, Try.results26, go_sem, d3, d4, f3, f4]) rfl ⟨rfl, (Below.setCell (Below.setCell B1 (by simp only []; omega) _) (by simp only []; omega) _)⟩)
  · have he' : (e == 0) = false := by rw [beq_eq_false_iff_ne]; exact he
    have hr : rNum bs e = (0, bs, e) := by unfold rNum; rw [if_pos he]
    rw [hr]
    go_enter Try.func26, Try.ntmps26
    go_wp2_with fail
    go_region_with (fail)
    all_goals go_wp2_with fail
    all_goals (exact bodyPost_ret (v := .tuple #[.int .u64 0, .agg #[.string ⟨bs.toArray⟩, .int .i64 e]]) (by simp [results, Try.results26, go_sem]) rfl ⟨rfl, (by repeat (first | with_reducible exact Below.refl _ _ | with_reducible refine Below.drew ?_ | with_reducible refine Below.alloc ?_ (by (try simp) <;> omega) _ | with_reducible refine Below.setCell ?_ (by (try simp) <;> omega) _))⟩)
end Go.Proofs.Ytdondjodonmebaa
