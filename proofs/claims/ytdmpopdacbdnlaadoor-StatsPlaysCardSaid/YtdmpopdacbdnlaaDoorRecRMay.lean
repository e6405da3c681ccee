/- lookoutref07.May: contract. -/
import Derived.Test.YtdmpopdacbdnlaaDoorRecRHas
import Derived.Test.YtdmpopdacbdnlaaDoorRecUse
namespace Go.Proofs.YtdmpopdacbdnlaaDoor
open Go.RowKit
set_option linter.unusedVariables false
set_option linter.unusedSimpArgs false
set_option maxHeartbeats 4000000
set_option maxRecDepth 20000
def hasL (k : Nat) : List Bool := [hasF k 1, hasF k 2, hasF k 3, hasF k 4, hasF k 5, hasF k 6, hasF k 7]
theorem rhas_lit (k f : Nat) (b : Bool) (hk : k < 256) (hf : 1 ≤ f) (hf' : f ≤ 7) (hb : hasF k f = b) (z y : Int) (hz : z = (k : Int)) (hy : y = (f : Int)) (w : World) :
    Calls Tryd.prog 83 #[.int .u8 z, .int .i64 y] w fun e w' => e = .returned (.bool b) ∧ w = w' := by
  subst hz hy hb
  exact rhas_any k f hk hf hf' w
theorem text_nil (t : List UInt8) : ((⟨t.toArray⟩ : ByteArray).toList == (⟨#[]⟩ : ByteArray).toList) = decide (t = []) := by
  rw [ByteArray.toList_eq, ByteArray.toList_eq, Bool.eq_iff_iff, beq_iff_eq, decide_eq_true_iff]
theorem rrmay_no (r : Rec) (hk : ¬ (17 ≤ r.kind.toNat ∧ r.kind.toNat ≤ 32)) (w : World) :
    Calls Tryd.prog 55 #[recA r] w fun e w' => e = .returned (.bool (refMay r)) ∧ Below w.heap.size w w' := by
  have hm : refMay r = false := by
    unfold refMay refRange
    rw [decide_eq_false (by omega)]
    rfl
  rw [hm]
  unfold recA
  by_cases h1 : r.kind.toNat < 17
  · have h1' : (r.kind.toNat : Int) < 17 := by omega
    clear hk hm
    generalize (r.kind.toNat : Int) = kz at *
    go_enter Tryd.func55, Tryd.ntmps55
    go_wp2_with fail
    go_ret
    exact ⟨rfl, (by repeat (first | with_reducible exact Below.refl _ _ | with_reducible refine Below.drew ?_ | with_reducible refine Below.alloc ?_ (by (try simp) <;> omega) _ | with_reducible refine Below.setCell ?_ (by (try simp) <;> omega) _))⟩
  · have h1' : ¬ (r.kind.toNat : Int) < 17 := by omega
    have h2' : (32 : Int) < (r.kind.toNat : Int) := by omega
    clear hk hm h1
    generalize (r.kind.toNat : Int) = kz at *
    go_enter Tryd.func55, Tryd.ntmps55
    go_wp2_with fail
    go_ret
    exact ⟨rfl, (by repeat (first | with_reducible exact Below.refl _ _ | with_reducible refine Below.drew ?_ | with_reducible refine Below.alloc ?_ (by (try simp) <;> omega) _ | with_reducible refine Below.setCell ?_ (by (try simp) <;> omega) _))⟩
theorem rrmay_bad (r : Rec) (hk : 17 ≤ r.kind.toNat ∧ r.kind.toNat ≤ 32) (hok : r.ok) (hr : refRange r = false) (w : World) :
    Calls Tryd.prog 55 #[recA r] w fun e w' => e = .returned (.bool false) ∧ Below w.heap.size w w' := by
  have h1' : ¬ (r.kind.toNat : Int) < 17 := by omega
  have h2' : ¬ (32 : Int) < (r.kind.toNat : Int) := by omega
  have hs := ba_sizeP r.text
  have htl := hok.text
  unfold maxLen at htl
  have hr' : ¬ (0 ≤ r.source ∧ r.source ≤ 7 ∧ 0 ≤ r.at_ ∧ 0 ≤ r.num ∧ 0 ≤ r.code ∧ r.code ≤ 255 ∧ r.text.length ≤ 240) := fun h => by
    unfold refRange at hr
    have := of_decide_eq_false hr
    exact this ⟨hk.1, hk.2, h⟩
  clear hr hk hok
  unfold recA
  generalize (r.kind.toNat : Int) = kz at *
  generalize r.source = v1 at *
  generalize r.at_ = v3 at *
  generalize r.num = v4 at *
  generalize r.code = v5 at *
  generalize r.text = tx at *
  replace hr' := Lib.hid hr'
  by_cases c1 : v1 < 0
  · go_enter Tryd.func55, Tryd.ntmps55
    go_wp2_with fail
    go_ret
    exact ⟨rfl, (by repeat (first | with_reducible exact Below.refl _ _ | with_reducible refine Below.drew ?_ | with_reducible refine Below.alloc ?_ (by (try simp) <;> omega) _ | with_reducible refine Below.setCell ?_ (by (try simp) <;> omega) _))⟩
  by_cases c2 : 7 < v1
  · go_enter Tryd.func55, Tryd.ntmps55
    go_wp2_with fail
    go_ret
    exact ⟨rfl, (by repeat (first | with_reducible exact Below.refl _ _ | with_reducible refine Below.drew ?_ | with_reducible refine Below.alloc ?_ (by (try simp) <;> omega) _ | with_reducible refine Below.setCell ?_ (by (try simp) <;> omega) _))⟩
  by_cases c3 : v3 < 0
  · go_enter Tryd.func55, Tryd.ntmps55
    go_wp2_with fail
    go_ret
    exact ⟨rfl, (by repeat (first | with_reducible exact Below.refl _ _ | with_reducible refine Below.drew ?_ | with_reducible refine Below.alloc ?_ (by (try simp) <;> omega) _ | with_reducible refine Below.setCell ?_ (by (try simp) <;> omega) _))⟩
  by_cases c4 : v4 < 0
  · go_enter Tryd.func55, Tryd.ntmps55
    go_wp2_with fail
    go_ret
    exact ⟨rfl, (by repeat (first | with_reducible exact Below.refl _ _ | with_reducible refine Below.drew ?_ | with_reducible refine Below.alloc ?_ (by (try simp) <;> omega) _ | with_reducible refine Below.setCell ?_ (by (try simp) <;> omega) _))⟩
  by_cases c5 : v5 < 0
  · go_enter Tryd.func55, Tryd.ntmps55
    go_wp2_with fail
    go_ret
    exact ⟨rfl, (by repeat (first | with_reducible exact Below.refl _ _ | with_reducible refine Below.drew ?_ | with_reducible refine Below.alloc ?_ (by (try simp) <;> omega) _ | with_reducible refine Below.setCell ?_ (by (try simp) <;> omega) _))⟩
  by_cases c6 : 255 < v5
  · go_enter Tryd.func55, Tryd.ntmps55
    go_wp2_with fail
    go_ret
    exact ⟨rfl, (by repeat (first | with_reducible exact Below.refl _ _ | with_reducible refine Below.drew ?_ | with_reducible refine Below.alloc ?_ (by (try simp) <;> omega) _ | with_reducible refine Below.setCell ?_ (by (try simp) <;> omega) _))⟩
  have c7 : (240 : Int) < (tx.length : Int) := by have := hr'.out; omega
  go_enter Tryd.func55, Tryd.ntmps55
  go_wp2_with fail
  go_ret
  exact ⟨rfl, (by repeat (first | with_reducible exact Below.refl _ _ | with_reducible refine Below.drew ?_ | with_reducible refine Below.alloc ?_ (by (try simp) <;> omega) _ | with_reducible refine Below.setCell ?_ (by (try simp) <;> omega) _))⟩
theorem rrmay_ok (r : Rec) (hk : 17 ≤ r.kind.toNat ∧ r.kind.toNat ≤ 32) (hr : refRange r = true) (hq : r.seq ≤ 18446744073709551615) (w : World) :
    Calls Tryd.prog 55 #[recA r] w fun e w' => e = .returned (.bool (refNought r)) ∧ Below w.heap.size w w' := by
  unfold refRange at hr
  obtain ⟨_, _, c1, c2, c3, c4, c5, c6, c7⟩ := of_decide_eq_true hr
  have hs := ba_sizeP r.text
  have htn := text_nil r.text
  have hrn : refNought r = ((hasF r.kind.toNat 1 || decide (r.source = 0)) && ((hasF r.kind.toNat 2 || decide (r.seq = 0)) && ((hasF r.kind.toNat 3 || decide (r.at_ = 0)) && ((hasF r.kind.toNat 4 || decide (r.num = 0)) && ((hasF r.kind.toNat 5 || decide (r.code = 0)) && ((hasF r.kind.toNat 6 || !r.yes) && (hasF r.kind.toNat 7 || decide (r.text = [])))))))) := rfl
  clear hr
  have H1 := fun W => rhas_any r.kind.toNat 1 (by omega) (by omega) (by omega) W
  have H2 := fun W => rhas_any r.kind.toNat 2 (by omega) (by omega) (by omega) W
  have H3 := fun W => rhas_any r.kind.toNat 3 (by omega) (by omega) (by omega) W
  have H4 := fun W => rhas_any r.kind.toNat 4 (by omega) (by omega) (by omega) W
  have H5 := fun W => rhas_any r.kind.toNat 5 (by omega) (by omega) (by omega) W
  have H6 := fun W => rhas_any r.kind.toNat 6 (by omega) (by omega) (by omega) W
  have H7 := fun W => rhas_any r.kind.toNat 7 (by omega) (by omega) (by omega) W
  unfold recA
  generalize refNought r = rn at *
  generalize r.source = v1 at *
  generalize r.seq = v2 at *
  generalize r.at_ = v3 at *
  generalize r.num = v4 at *
  generalize r.code = v5 at *
  generalize r.yes = v6 at *
  generalize r.text = tx at *
  have hks := kind_split r.kind hk.1 hk.2
  generalize r.kind = k at *
  have h71 : ∀ x : Int, 0 ≤ x → x ≤ 7 → ¬ x < 0 ∧ ¬ 7 < x := fun x a b => ⟨by omega, by omega⟩
  rcases hks with h | h | h | h | h | h | h | h | h | h | h | h | h | h | h | h
  all_goals
    subst h
    simp [hasF] at H1 H2 H3 H4 H5 H6 H7 hrn
    replace H1 := Lib.hid H1
    replace H2 := Lib.hid H2
    replace H3 := Lib.hid H3
    replace H4 := Lib.hid H4
    replace H5 := Lib.hid H5
    replace H6 := Lib.hid H6
    replace H7 := Lib.hid H7
    replace hrn := Lib.hid hrn
    clear hk h71
    go_enter Tryd.func55, Tryd.ntmps55
    go_wp2_with (go_at_call 83; (first | with_reducible refine (H1.out _).mono ?_ | with_reducible refine (H2.out _).mono ?_ | with_reducible refine (H3.out _).mono ?_ | with_reducible refine (H4.out _).mono ?_ | with_reducible refine (H5.out _).mono ?_ | with_reducible refine (H6.out _).mono ?_ | with_reducible refine (H7.out _).mono ?_); rintro e w' ⟨rfl, rfl⟩)
    all_goals (go_ret; exact ⟨ret_bool (by rw [hrn.out]; first | (simp [*]; done) | (simp [*]; cases tx <;> rfl)), (by repeat (first | with_reducible exact Below.refl _ _ | with_reducible refine Below.drew ?_ | with_reducible refine Below.alloc ?_ (by (try simp) <;> omega) _ | with_reducible refine Below.setCell ?_ (by (try simp) <;> omega) _))⟩)
theorem rrmay_any (r : Rec) (hok : r.ok) (w : World) :
    Calls Tryd.prog 55 #[recA r] w fun e w' => e = .returned (.bool (mayB r)) ∧ Below w.heap.size w w' := by
  rw [may_eq]
  by_cases hk : 17 ≤ r.kind.toNat ∧ r.kind.toNat ≤ 32
  · cases hr : refRange r with
    | true =>
      have : refMay r = refNought r := by unfold refMay; rw [hr]; rfl
      rw [this]
      exact rrmay_ok r hk hr hok.seq w
    | false =>
      have : refMay r = false := by unfold refMay; rw [hr]; rfl
      rw [this]
      exact rrmay_bad r hk hok hr w
  · exact rrmay_no r hk w
end Go.Proofs.YtdmpopdacbdnlaaDoor
