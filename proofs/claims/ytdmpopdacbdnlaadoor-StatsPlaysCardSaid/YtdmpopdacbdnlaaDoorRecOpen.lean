/- Records that the frame hands over. -/
import Derived.Test.YtdmpopdacbdnlaaDoorRecAwake
import Derived.Test.YtdmpopdacbdnlaaDoorOpenG
import Derived.OrdersHeld
import Derived.Deep.RegionHeld
namespace Go.Proofs.YtdmpopdacbdnlaaDoor
open Go.RowKit
set_option linter.unusedVariables false
set_option linter.unusedSimpArgs false
theorem wpAnyH_switchM {P : Program} {ops : Array Oper} {Q : Exit → Act → World → Prop} {md : Region.Mode} {S S' : World → Prop} (hS : ∀ w, S' w → S w) : ∀ (fuel : Nat) (listed : Array Bool) (a : Act) (w : World), wpAnyH P md ops Q S' fuel listed a w → wpAnyH P md ops Q S fuel listed a w
  | 0, _, _, _, h => h
  | fuel + 1, _, _, _, h => ⟨h.1, fun i hi => wpOp_mono (fun a' w' h' => ⟨hS _ h'.1, wpAnyH_switchM hS fuel _ a' w' h'.2⟩) (h.2 i hi)⟩
theorem rec_of {vs : List Value} (h : OkAll [.int .u8, .int .i64, .int .u64, .int .i64, .int .i64, .int .i64, .bool, .str] vs) : ∃ r : Rec, vs = recVs r ∧ r.ok := by
  have hlen := OkAll.len h
  match vs, hlen with
  | [v0, v1, v2, v3, v4, v5, v6, v7], _ =>
    simp only [OkAll, Sh.ok, and_true] at h
    obtain ⟨⟨k, rfl, h0⟩, ⟨s, rfl, h1⟩, ⟨q, rfl, h2⟩, ⟨a, rfl, h3⟩, ⟨n, rfl, h4⟩, ⟨c, rfl, h5⟩, ⟨y, rfl⟩, ⟨t, rfl, h7⟩⟩ := h
    have b0 := bounds_u8 h0
    have b1 := bounds_i64 h1
    have b2 := bounds_u64 h2
    have b3 := bounds_i64 h3
    have b4 := bounds_i64 h4
    have b5 := bounds_i64 h5
    obtain ⟨kn, rfl⟩ := Int.eq_ofNat_of_zero_le b0.1
    obtain ⟨kb, rfl⟩ : ∃ kb : UInt8, kn = kb.toNat := ⟨UInt8.ofNat kn, by rw [UInt8.toNat_ofNat']; omega⟩
    obtain ⟨qn, rfl⟩ := Int.eq_ofNat_of_zero_le b2.1
    refine ⟨⟨kb, s, qn, a, n, c, y, t.data.toList⟩, by simp [recVs], ⟨b1, by simp only; omega, b3, b4, b5, ?_⟩⟩
    have : t.data.toList.length = t.size := by rw [Array.length_toList]; rfl
    simp only
    omega
theorem recs_of {w : World} {a : Option Addr} {n : Nat} {cs : List (List Value)} (h : RowG 8 w a n cs) (hc : ∀ c ∈ cs, OkAll [.int .u8, .int .i64, .int .u64, .int .i64, .int .i64, .int .i64, .bool, .str] c) : ∃ l : List Rec, RowG 8 w a n (l.map recVs) ∧ ∀ r ∈ l, r.ok := by
  have hl : ∀ cs : List (List Value), (∀ c ∈ cs, OkAll [.int .u8, .int .i64, .int .u64, .int .i64, .int .i64, .int .i64, .bool, .str] c) → ∃ l : List Rec, cs = l.map recVs ∧ ∀ r ∈ l, r.ok := by
    intro cs
    induction cs with
    | nil => intro _; exact ⟨[], rfl, by simp⟩
    | cons c cs ih =>
      intro hc
      obtain ⟨r, rfl, hr⟩ := rec_of (hc c (by simp))
      obtain ⟨l, rfl, hl⟩ := ih (fun d hd => hc d (by simp [hd]))
      exact ⟨r :: l, rfl, fun x hx => (List.mem_cons.1 hx).elim (fun e => e ▸ hr) (hl x)⟩
  obtain ⟨l, rfl, hok⟩ := hl cs hc
  exact ⟨l, h, hok⟩
end Go.Proofs.YtdmpopdacbdnlaaDoor
