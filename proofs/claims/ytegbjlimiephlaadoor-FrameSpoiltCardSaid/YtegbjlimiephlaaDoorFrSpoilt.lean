/- The walk of FrameSpoilt. -/
import Derived.Test.YtegbjlimiephlaaDoorFrLPuts
import Derived.Test.YtegbjlimiephlaaDoorFrSpoilLaw
import Derived.Test.YtegbjlimiephlaaDoorFrTab
import Derived.Test.YtegbjlimiephlaaDoorChecked
import Derived.Test.YtegbjlimiephlaaDoorRows
namespace Go.Proofs.YtegbjlimiephlaaDoor
open Go.RowKit
set_option linter.unusedVariables false
set_option linter.unusedSimpArgs false
set_option maxHeartbeats 4000000
set_option maxRecDepth 20000
theorem OwnB.stored {t : TypeId} {base : Nat} {w : World} {g n cap : Nat} {l : List UInt8} (h : OwnB t base w (.slice (some ⟨g, 0, none⟩) n cap) l) (i : Nat) (c : UInt8) :
    OwnB t base (w.setCell ⟨g, i, none⟩ (.int .u8 (c.toNat : Int))) (.slice (some ⟨g, 0, none⟩) n cap) (l.set i c) ∧ base ≤ g := by
  obtain ⟨⟨h1, h2⟩, hs⟩ := h
  have hn : l.length = n := by
    rcases h2 with ⟨h', _⟩ | ⟨g', cap', cur, h', _⟩
    · cases h'
    · cases h'; rfl
  have ho : w.ownsRow base t 1 (.slice (some ⟨g, 0, none⟩) n cap) l.length (bv l) := ⟨h1, h2⟩
  rw [hn] at ho
  refine ⟨⟨?_, by simpa using hs⟩, (ho.lt g rfl).1⟩
  have := (ho.stored i (.int .u8 (c.toNat : Int))).1
  rw [show (bv l).set i (.int .u8 (c.toNat : Int)) = bv (l.set i c) from by simp [bv, List.map_set]] at this
  simpa [hn] using this
theorem OwnB.cellAt {t : TypeId} {base : Nat} {w : World} {g n cap : Nat} {l : List UInt8} (h : OwnB t base w (.slice (some ⟨g, 0, none⟩) n cap) l) (i : Nat) (hi : i < l.length) :
    w.cell? ⟨g, i, none⟩ = some (.int .u8 ((l.getD i 0).toNat : Int)) ∧ w.frozen? ⟨g, i, none⟩ = false := by
  obtain ⟨⟨h1, h2⟩, hs⟩ := h
  have hn : l.length = n := by
    rcases h2 with ⟨h', _⟩ | ⟨g', cap', cur, h', _⟩
    · cases h'
    · cases h'; rfl
  have ho : w.ownsRow base t 1 (.slice (some ⟨g, 0, none⟩) n cap) l.length (bv l) := ⟨h1, h2⟩
  rw [hn] at ho
  refine ⟨?_, ho.frozenAt i⟩
  rw [ho.cellAt i (by omega)]
  simp [bv, List.getD, hi]
theorem frameSpoilt_walk (kn : Int) (bk : 0 ≤ kn ∧ kn ≤ 255) (q : Option Addr) (n c : Nat) (bs : List UInt8) (at_ : Int) (ba : 0 ≤ at_ ∧ at_ ≤ 65535) (tn : Int) (bt : 0 ≤ tn ∧ tn ≤ 255) (w : World) (h : RowB w q n c bs) (hT : Tab w) :
    Calls Tryd.prog 9 #[.agg #[.int .u8 kn, .slice q n c], .int .u16 at_, .int .u8 tn] w fun e w' => e = .returned (.bool true) ∧ Below w.heap.size w w' := by
  obtain ⟨kn0, rfl⟩ := Int.eq_ofNat_of_zero_le bk.1
  obtain ⟨kd, rfl⟩ : ∃ kd : UInt8, kn0 = kd.toNat := ⟨UInt8.ofNat kn0, by rw [UInt8.toNat_ofNat']; omega⟩
  clear bk
  obtain ⟨at0, rfl⟩ := Int.eq_ofNat_of_zero_le ba.1
  obtain ⟨tn0, rfl⟩ := Int.eq_ofNat_of_zero_le bt.1
  obtain ⟨t, rfl⟩ : ∃ t : UInt8, tn0 = t.toNat := ⟨UInt8.ofNat tn0, by rw [UInt8.toNat_ofNat']; omega⟩
  have LL := Lib.hid h.length
  have hsm := h.small
  have hm := h.small
  unfold maxLen at hm
  have A0 : Below w.heap.size w (w.alloc (.cells #[.int .u8 (kd.toNat : Int), .slice q n c] 40)) := (Below.refl _ _).alloc (Nat.le_refl _) _
  go_enter Tryd.func9, Tryd.ntmps9
  go_wp2_with fail
  have x0 : (w.alloc (.cells #[.int .u8 (kd.toNat : Int), .slice q n c] 40)).cell? ⟨w.heap.size, 0, none⟩ = some (.int .u8 (kd.toNat : Int)) := by simp [go_sem]
  have x1 : (w.alloc (.cells #[.int .u8 (kd.toNat : Int), .slice q n c] 40)).cell? ⟨w.heap.size, 1, none⟩ = some (.slice q n c) := by simp [go_sem]
  have xl : w.heap.size < (w.alloc (.cells #[.int .u8 (kd.toNat : Int), .slice q n c] 40)).heap.size := by simp
  refine (awake_any _ (hT.below A0)).mono ?_
  generalize w.alloc (.cells #[.int .u8 (kd.toNat : Int), .slice q n c] 40) = w0 at *
  rintro e w1 ⟨rfl, hb1⟩
  have B1 := A0.trans (hb1.mono A0.size)
  have y0 := (hb1.cell (p := ⟨w.heap.size, 0, none⟩) xl).trans x0
  have y1 := (hb1.cell (p := ⟨w.heap.size, 1, none⟩) xl).trans x1
  have h1 := h.below B1
  clear x0 x1
  go_wp2_with fail
  by_cases hlong : 256 < n
  · refine (put_long kd q n c w1 hlong hsm).mono ?_; rintro e w' ⟨rfl, rfl⟩
    go_wp2_with fail
    go_ret
    exact ⟨by simp, B1⟩
  refine (put_any kd q n c bs w1 h1 (by omega) (hT.below B1)).mono ?_; rintro e w2 ⟨v, rfl, hO, hb2⟩
  have B2 := B1.trans (hb2.mono B1.size)
  obtain ⟨g, cp, rfl, hgl⟩ : ∃ g cp, v = .slice (some ⟨g, 0, none⟩) (n + 7) cp ∧ w1.heap.size ≤ g := by
    obtain ⟨q', c', hv, hR, hx⟩ := hO.row
    rw [Fr.put_length, LL.out] at hv hR
    rcases hR.at_ with e0 | ⟨b, o, e, _⟩
    · omega
    · subst e
      obtain ⟨z1, z2, z3⟩ := hx _ rfl
      simp only at z2
      subst z2
      exact ⟨b, c', hv, z1⟩
  have hcap := hO.rowS.2.le
  by_cases ht0 : t = 0
  · subst ht0
    go_wp2_with fail
    go_ret
    exact ⟨by simp, B2⟩
  have htn : t.toNat ≠ 0 := fun e => ht0 (UInt8.toNat_inj.1 e)
  have htz : ((t.toNat : Int) == 0) = false := by rw [beq_eq_false_iff_ne]; omega
  have hn7 : decide ((n : Int) + 7 < 7) = false := decide_eq_false (by omega)
  obtain ⟨m, hm0⟩ : ∃ m, at0 % (n + 4) = m := ⟨_, rfl⟩
  have hml : m < n + 4 := by rw [← hm0]; exact Nat.mod_lt _ (by omega)
  have hmod : (at0 : Int) % ((n : Int) + 7 - 3) = (m : Int) := by
    rw [show (n : Int) + 7 - 3 = ((n + 4 : Nat) : Int) from by omega, ← hm0, Int.natCast_emod]
  replace hm0 := Lib.hid hm0
  obtain ⟨j, hj⟩ : ∃ j, (if m = 0 then 1 else m + 3) = j := ⟨_, rfl⟩
  have hjl : j < n + 7 := by rw [← hj]; split <;> omega
  have hj1 : j = 1 ∨ 4 ≤ j := by rw [← hj]; split <;> omega
  have hpl : (Fr.put kd bs).length = n + 7 := by rw [Fr.put_length, LL.out]
  obtain ⟨cj, fj⟩ := hO.cellAt j (by rw [hpl]; exact hjl)
  have hst := (hO.stored j ((Fr.put kd bs).getD j 0 ^^^ t)).1
  obtain ⟨sx, sf, hits, hsx⟩ := spoilt_items kd bs j t (by rw [LL.out]; omega) ht0 hj1 (by rw [LL.out]; exact hjl)
  have hxor : bits .xor .u8 (((Fr.put kd bs).getD j 0).toNat : Int) (t.toNat : Int) = (((Fr.put kd bs).getD j 0 ^^^ t).toNat : Int) := by
    have h1 := ((Fr.put kd bs).getD j 0).toNat_lt
    have h2 := t.toNat_lt
    rw [u8_xor_nat _ _ (by omega) (by omega), UInt8.toNat_xor]
  have hsp : spoilt kd bs j t = (Fr.put kd bs).set j ((Fr.put kd bs).getD j 0 ^^^ t) := rfl
  rw [← hsp] at hst
  have hsl : (spoilt kd bs j t).length = n + 7 := by rw [hsp, List.length_set, hpl]
  generalize spoilt kd bs j t = sp at *
  generalize (Fr.put kd bs).getD j 0 ^^^ t = cx at *
  generalize (Fr.put kd bs).getD j 0 = c0 at *
  have hgB : w.heap.size ≤ g := Nat.le_trans B1.size hgl
  have B3 : Below w.heap.size w (w2.setCell ⟨g, j, none⟩ (.int .u8 (cx.toNat : Int))) := B2.setCell hgB _
  have hR3 := hst.rowS.2
  have A4 : Below (w2.setCell ⟨g, j, none⟩ (.int .u8 (cx.toNat : Int))).heap.size (w2.setCell ⟨g, j, none⟩ (.int .u8 (cx.toNat : Int))) ((w2.setCell ⟨g, j, none⟩ (.int .u8 (cx.toNat : Int))).alloc (.cells #[.slice (some ⟨g, 0, none⟩) (n + 7) cp] 22)) := (Below.refl _ _).alloc (Nat.le_refl _) _
  have hBB : RowBB ((w2.setCell ⟨g, j, none⟩ (.int .u8 (cx.toNat : Int))).alloc (.cells #[.slice (some ⟨g, 0, none⟩) (n + 7) cp] 22)) (some ⟨w2.heap.size, 0, none⟩) 1 [sp] :=
    ⟨rfl, by decide, .inr ⟨w2.heap.size, 0, rfl, by simp, fun i hi => by
      obtain rfl : i = 0 := by omega
      refine ⟨some ⟨g, 0, none⟩, n + 7, cp, ?_, hR3.below A4⟩
      simp [go_sem]⟩⟩
  have B4 := B3.trans (A4.mono B3.size)
  have htot : tot [sp] ≤ 100000 := by simp [tot]; omega
  have i0 : (0 : Int) ≤ 1 + (m : Int) + 2 := by omega
  have i1 : 1 + (m : Int) + 2 < (n : Int) + 7 ∨ m = 0 := by omega
  replace hits := Lib.hid hits
  clear hsp hpl hst hR3 hO
  by_cases hmz : m = 0
  · subst hmz
    obtain rfl : j = 1 := by rw [← hj]; rfl
    have i2 : (1 : Int) < (n : Int) + 7 := by omega
    clear hj i1
    go_wp2_with fail
    refine (all_any _ 1 1 [sp] _ hBB (hT.below B4) (by omega) htot).mono ?_; rintro e w5 ⟨q5, n5, c5, o5, b5, rfl, hF5, hb5⟩
    have B5 := B4.trans (hb5.mono B4.size)
    rw [hits.out] at hF5
    have hl5 := hF5.length
    rw [List.length_cons] at hl5
    have hle5 := hF5.le
    have hsm5 := hF5.small
    unfold maxLen at hsm5
    rcases hF5.at_ with e0 | ⟨bb, offb, rfl, _, hbb, _, ib⟩
    · omega
    obtain ⟨d0, _⟩ := ib 0 (by omega)
    simp only [List.getD_cons_zero, Nat.zero_mul, Nat.add_zero] at d0
    have k0 : (0 : Int) < (n5 : Int) := by omega
    have k1 : (0 : Int) < (sx.skip : Int) := by omega
    clear ib
    replace hl5 := Lib.hid hl5
    go_wp2_with fail
    go_ret
    exact ⟨by simp, B5⟩
  · rw [if_neg hmz] at hj
    subst hj
    have i3 : 1 + (m : Int) + 2 < (n : Int) + 7 := by omega
    have i4 : (1 : Int) < 1 + (m : Int) := by omega
    have i5 : (1 + (m : Int) + 2).toNat = m + 3 := by omega
    clear i1
    go_wp2_with fail
    refine (all_any _ 1 1 [sp] _ hBB (hT.below B4) (by omega) htot).mono ?_; rintro e w5 ⟨q5, n5, c5, o5, b5, rfl, hF5, hb5⟩
    have B5 := B4.trans (hb5.mono B4.size)
    rw [hits.out] at hF5
    have hl5 := hF5.length
    rw [List.length_cons] at hl5
    have hle5 := hF5.le
    have hsm5 := hF5.small
    unfold maxLen at hsm5
    rcases hF5.at_ with e0 | ⟨bb, offb, rfl, _, hbb, _, ib⟩
    · omega
    obtain ⟨d0, _⟩ := ib 0 (by omega)
    simp only [List.getD_cons_zero, Nat.zero_mul, Nat.add_zero] at d0
    have k0 : (0 : Int) < (n5 : Int) := by omega
    have k1 : (0 : Int) < (sx.skip : Int) := by omega
    clear ib
    replace hl5 := Lib.hid hl5
    go_wp2_with fail
    go_ret
    exact ⟨by simp, B5⟩
end Go.Proofs.YtegbjlimiephlaaDoor
