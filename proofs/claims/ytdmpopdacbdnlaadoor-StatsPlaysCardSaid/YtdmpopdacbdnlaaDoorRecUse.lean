/- Words that record's texts use: one number or one text put; a reader kept. -/
import Derived.Test.YtdmpopdacbdnlaaDoorOctG
import Derived.Test.YtdmpopdacbdnlaaDoorKitG
import Derived.Deep.RegionHeld3
namespace Go.Proofs.YtdmpopdacbdnlaaDoor
open Go.RowKit Oct
set_option linter.unusedVariables false
set_option linter.unusedSimpArgs false
set_option maxHeartbeats 4000000
set_option maxRecDepth 20000
theorem ba_sizeP (bs : List UInt8) : (⟨bs.toArray⟩ : ByteArray).size = bs.length := by show bs.toArray.size = _; simp
theorem rowI_mkM {k : IntKind} {w : World} {g len : Nat} {zs : List Int} (hg : g < w.heap.size) (hl : zs.length = len) (hm : len ≤ 1000) (hw : ∀ n ∈ zs, (Lit.int k n).wf = true) (hc : ∀ i, i < len → w.cell? ⟨g, i, none⟩ = some (.int k (zs.getD i 0))) : RowI k w (some ⟨g, 0, none⟩) len len zs :=
  ⟨hl, by unfold maxLen; omega, Nat.le_refl _, hw, .inr ⟨g, 0, rfl, hg, fun i hi => by rw [Nat.zero_add]; exact hc i hi⟩, fun e => by cases e⟩
theorem _root_.Go.Proofs.YtdmpopdacbdnlaaDoor.Turn.ofGrownS {w w' : World} {g : Nat} (h : w.grownBy w' (some g)) : Turn (fun k => k = g) w w' := Turn.ofGrown h (fun k e _ => by cases e; rfl)
theorem Rd.turnM {S : Nat → Prop} {w w' : World} {g : Nat} {bs : List UInt8} {e : Int} (h : Rd w g bs e) (ht : Turn S w w') (hS : ∀ k, k ≤ g → ¬ S k) : Rd w' g bs e := by
  obtain ⟨hlt, ⟨q, len, cap, c0, hR, hq⟩, c1, f0, f1⟩ := h
  exact ⟨Nat.lt_of_lt_of_le hlt ht.size, ⟨q, len, cap, (ht.cell (p := ⟨g, 0, none⟩) hlt (hS g (Nat.le_refl _))).trans c0, hR.turn ht (fun x e => hS _ (Nat.le_of_lt (hq x e))), hq⟩, (ht.cell (p := ⟨g, 1, none⟩) hlt (hS g (Nat.le_refl _))).trans c1, (ht.frozen (p := ⟨g, 0, none⟩) hlt (hS g (Nat.le_refl _))).trans f0, (ht.frozen (p := ⟨g, 1, none⟩) hlt (hS g (Nat.le_refl _))).trans f1⟩
theorem _root_.Go.Proofs.YtdmpopdacbdnlaaDoor.OwnB.lower {t : TypeId} {base base' : Nat} {w : World} {v : Value} {l : List UInt8} (h : OwnB t base w v l) (hb : base' ≤ base) : OwnB t base' w v l := by
  refine ⟨⟨h.owns.1, ?_⟩, h.small⟩
  rcases h.owns.2 with hn | ⟨g, cap, cur, hv, hbb, rest⟩
  · exact .inl hn
  · exact .inr ⟨g, cap, cur, hv, Nat.le_trans hb hbb, rest⟩
theorem put_one (s : Nat) (hs : s ≤ 18446744073709551615) (w : World) (g : Nat) (hg : g < w.heap.size) (hc : w.cell? ⟨g, 0, none⟩ = some (.int .u64 (s : Int))) :
    Calls Tryd.prog 85 #[.slice (some ⟨g, 0, none⟩) 1 1] w fun e w' => ∃ q m c, e = .returned (.slice q m c) ∧ m ≤ 9 ∧ m = (enc s).length ∧ OwnB 5 w.heap.size w' (.slice q m c) (enc s) ∧ RowB w' q m c (enc s) ∧ Below w.heap.size w w' := by
  refine (puts_any _ 1 1 [(s : Int)] w (rowI_mkM hg rfl (by omega) (fun x hx => by
    rw [List.mem_singleton] at hx
    subst hx
    simp only [Lit.wf, IntKind.min, IntKind.max, IntKind.signed, IntKind.bits, Bool.and_eq_true, decide_eq_true_eq, if_true, Bool.false_eq_true, if_false]
    constructor <;> omega) (fun i hi => by
    have h4 : i = 0 := by omega
    subst h4; simpa using hc)) (by omega)).mono ?_
  rintro e w' ⟨v, rfl, hO, hb⟩
  have he : encAll [(s : Int)] = enc s := by simp [encAll]
  rw [he] at hO
  obtain ⟨q, c, rfl, hR, _⟩ := hO.row
  exact ⟨q, (enc s).length, c, rfl, enc_le s, rfl, hO, hR, hb⟩
theorem text_one (t : List UInt8) (ht : t.length ≤ 1000) (w : World) (g : Nat) (hg : g < w.heap.size) (hc : w.cell? ⟨g, 0, none⟩ = some (.string ⟨t.toArray⟩)) :
    Calls Tryd.prog 84 #[.slice (some ⟨g, 0, none⟩) 1 1] w fun e w' => ∃ q m c, e = .returned (.slice q m c) ∧ m ≤ 1009 ∧ m = (encText ⟨t.toArray⟩).length ∧ OwnB 5 w.heap.size w' (.slice q m c) (encText ⟨t.toArray⟩) ∧ RowB w' q m c (encText ⟨t.toArray⟩) ∧ Below w.heap.size w w' := by
  have hz := ba_sizeP t
  have hR : RowT w (some ⟨g, 0, none⟩) 1 [⟨t.toArray⟩] := ⟨rfl, by unfold maxLen; omega, fun s hs => by
    rw [List.mem_singleton] at hs; subst hs; unfold maxLen; omega, .inr ⟨g, 0, rfl, hg, fun i hi => by
    have h4 : i = 0 := by omega
    subst h4; simpa using hc⟩⟩
  refine (texts_any _ 1 1 [⟨t.toArray⟩] w hR (by omega) (fun s hs => by rw [List.mem_singleton] at hs; subst hs; omega)).mono ?_
  rintro e w' ⟨v, rfl, hO, hb⟩
  have he : encTexts [(⟨t.toArray⟩ : ByteArray)] = encText ⟨t.toArray⟩ := by simp [encTexts]
  have hle := encTexts_le [(⟨t.toArray⟩ : ByteArray)] (fun s hs => by rw [List.mem_singleton] at hs; subst hs; omega)
  rw [he] at hO hle
  obtain ⟨q, c, rfl, hR, _⟩ := hO.row
  exact ⟨q, (encText ⟨t.toArray⟩).length, c, rfl, by simpa using hle, rfl, hO, hR, hb⟩
end Go.Proofs.YtdmpopdacbdnlaaDoor
