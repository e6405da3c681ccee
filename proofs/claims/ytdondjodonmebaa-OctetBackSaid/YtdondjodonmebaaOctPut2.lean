/- octet.Put: contract. -/
import Derived.Test.YtdondjodonmebaaOctPut
namespace Go.Proofs.Ytdondjodonmebaa
open Go.RowKit
set_option linter.unusedVariables false
set_option linter.unusedSimpArgs false
set_option maxHeartbeats 2000000
set_option maxRecDepth 20000
def encAll (us : List Int) : List UInt8 := us.flatMap fun x => enc x.toNat
theorem encAll_snoc (us : List Int) (x : Int) : encAll (us ++ [x]) = encAll us ++ enc x.toNat := by simp [encAll]
theorem nb_le (u : Nat) : nb u ≤ 8 := by
  have h : ∀ f x, Lib.bitLenAux f x ≤ f := by
    intro f
    induction f with
    | zero => intro x; exact Nat.le_refl _
    | succ f ih => intro x; simp only [Lib.bitLenAux]; split <;> have := ih (x / 2) <;> omega
  have := h 64 u
  unfold nb
  unfold Lib.bitLen
  omega
theorem enc_le (u : Nat) : (enc u).length ≤ 9 := by
  unfold enc
  split
  · simp
  · have := nb_le u; simp [be]; omega
theorem encAll_le (us : List Int) : (encAll us).length ≤ us.length * 9 := by
  induction us with
  | nil => simp [encAll]
  | cons x us ih =>
    have e : encAll (x :: us) = enc x.toNat ++ encAll us := by simp [encAll]
    have := enc_le x.toNat
    rw [e, List.length_append, List.length_cons]; omega
theorem range_u64 {zs : List Int} (h : ∀ n ∈ zs, (Lit.int .u64 n).wf = true) (j : Nat) : 0 ≤ zs.getD j 0 ∧ zs.getD j 0 ≤ 18446744073709551615 := by
  by_cases hj : j < zs.length
  · have := h (zs.getD j 0) (by simp [List.getD, hj])
    have e1 : IntKind.u64.min = 0 := by rfl
    have e2 : IntKind.u64.max = 18446744073709551615 := by rfl
    simp only [Lit.wf, e1, e2] at this
    simpa using this
  · simp [List.getD, List.getElem?_eq_none (Nat.le_of_not_lt hj)]
theorem take_succZ {l : List Int} {k : Nat} (h : k < l.length) : l.take (k + 1) = l.take k ++ [l.getD k 0] := by
  rw [List.take_succ_eq_append_getElem h]; simp [List.getD, h]

theorem puts_any (a : Option Addr) (len cap : Nat) (us : List Int) (w : World) (h : RowI .u64 w a len cap us) (hl : len ≤ 1000000) :
    Calls Try.prog 15 #[.slice a len cap] w fun e w' => ∃ v', e = .returned v' ∧ OwnB 5 w.heap.size w' v' (encAll us) ∧ Below w.heap.size w w' := by
  have LL := Lib.hid h.length
  go_enter Try.func15, Try.ntmps15
  go_wp2_with fail
  go_loopw [3, 8] (fun v i wr => ∃ k : Nat, k ≤ len ∧ i = .int .i64 k ∧ OwnB 5 w.heap.size wr v (encAll (us.take k)) ∧ Below w.heap.size w wr) (fun v i wr => len - (intOf i).toNat)
  case atStart => exact ⟨0, Nat.zero_le _, rfl, OwnB.nil _ _ _, Below.refl _ _⟩
  case round =>
    obtain ⟨k, hk, rfl, hO, hbr⟩ := hrel
    have zr := hbr.size
    by_cases hlt : k < len
    · rcases h.at_ with h0 | ⟨b, off, rfl, hlb, hc⟩
      · omega
      have ck := (hbr.cell (p := ⟨b, off + k, none⟩) hlb).trans (hc k hlt)
      obtain ⟨g1, g2⟩ := range_u64 h.wf k
      have h1 : encAll (us.take (k + 1)) = encAll (us.take k) ++ enc (us.getD k 0).toNat := by rw [take_succZ (by have := LL.out; omega), encAll_snoc]
      have hle := encAll_le (us.take k)
      have htl : (us.take k).length ≤ len := by rw [List.length_take]; omega
      generalize us.getD k 0 = z at *
      obtain ⟨x, rfl⟩ := Int.eq_ofNat_of_zero_le g1
      rw [Int.toNat_natCast] at h1
      replace h1 := Lib.hid h1
      generalize encAll (us.take k) = l0 at *
      clear hc
      replace hO := Lib.hid hO
      go_wp2_with fail
      refine (put_any w.heap.size _ l0 x (by omega) wr hO.out (by omega) zr).mono ?_; rintro e w3 ⟨v3, rfl, hG⟩
      have HB3 := hbr.trans (hG.toBelow hO.out zr)
      replace hG := Lib.hid hG
      go_wp2_with fail
      go_roundw
      case rel => first | exact ⟨k + 1, by omega, by go_num, by rw [h1.out]; exact hG.out.own, HB3⟩ | exact ⟨k + 1, by omega, by omega, by rw [h1.out]; exact hG.out.own⟩
      case measure => simp [intOf] <;> omega
    · obtain rfl : k = len := by omega
      rw [List.take_of_length_le (by rw [LL.out]; exact Nat.le_refl _)] at hO
      go_wp2_with fail
      go_ret
      exact ⟨_, rfl, hO, hbr⟩
end Go.Proofs.Ytdondjodonmebaa
