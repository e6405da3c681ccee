/- The walk of MarkGrows (under way). -/
import Derived.Test.YtkdekdogfplbmaaMarkAwake
import Derived.Test.YtkdekdogfplbmaaMarkMath2
import Derived.Test.YtkdekdogfplbmaaMarkOpen
import Derived.Deep.RegionWith
import Derived.Deep.QuietTactic
import Derived.Test.YtkdekdogfplbmaaMarkOwn
namespace Go.Proofs.Ytkdekdogfplbmaa
open Go.RowKit
set_option linter.unusedVariables false
set_option linter.unusedSimpArgs false
set_option maxHeartbeats 2000000

theorem infoS : (Try.prog.info? 38).map (fun i => (i.zero, i.size, i.bytes)) = some (some (.agg #[.bool false, .int .i64 0, .bool false, .int .i64 0]), 4, 32) := by kernel_rfl
theorem markGrows_walk (a : Option Addr) (len cap : Nat) (l : List Src) (ix : Int) (bi : 0 ≤ ix ∧ ix ≤ 255) (low : Int) (bl : -9223372036854775808 ≤ low ∧ low ≤ 9223372036854775807) (head : Int) (bh : -9223372036854775808 ≤ head ∧ head ≤ 9223372036854775807) (is : Bool) (since : Int) (b1 : -9223372036854775808 ≤ since ∧ since ≤ 9223372036854775807) (now : Int) (b2 : -9223372036854775808 ≤ now ∧ now ≤ 9223372036854775807) (top : Int) (b3 : -9223372036854775808 ≤ top ∧ top ≤ 9223372036854775807) (w : World) (hS : RowS w a len l) :
    Calls Try.prog 6 #[.slice a len cap, .int .u8 ix, .int .i64 low, .int .i64 head, .agg #[.bool is, .int .i64 since, .int .i64 now], .int .i64 top] w fun e w' => e = .returned (.bool true) ∧ Below w.heap.size w w' := by
  have hm : len ≤ 9223372036854775807 := by have := hS.small; unfold maxLen at this; omega
  have LL := Lib.hid hS.length
  go_enter Try.func6, Try.ntmps6
  go_wp2_with fail
  refine (awake_any _).mono ?_; rintro e w1 ⟨rfl, hb1⟩
  have z1 := hb1.size
  simp at z1
  have B1 : Below w.heap.size w w1 := by
    refine Below.trans ?_ (hb1.mono (by simp))
    exact (by repeat (first | with_reducible exact Below.refl _ _ | with_reducible refine Below.drew ?_ | with_reducible refine Below.alloc ?_ (by (try simp) <;> omega) _ | with_reducible refine Below.setCell ?_ (by (try simp) <;> omega) _))
  by_cases hl : 60 < len
  · go_wp2_with fail
    go_ret
    exact ⟨rfl, B1⟩
  · by_cases h0 : len = 0
    · subst h0
      go_wp2_with fail
      go_ret
      exact ⟨rfl, B1⟩
    · go_wp2_with fail
      · rename_i hcc
        exfalso
        simp at hcc
        omega
      obtain ⟨kn, rfl⟩ : ∃ kn : Nat, ix = kn := ⟨ix.toNat, by omega⟩
      have hkk : ((kn : Int) % (len : Int)) = ((kn % len : Nat) : Int) := by simp
      rw [hkk]
      clear hkk
      generalize kn % len = k at *
      have hb0 : ((len : Int) == 0) = false := by rw [beq_eq_false_iff_ne]; omega
      have hb1' : decide ((60 : Int) < len) = false := by rw [decide_eq_false_iff_not]; omega
      simp only [hb0, hb1', Bool.or_false]
      clear hb0 hb1'
      go_loopw [15, 16] (fun v n wr => ∃ j : Nat, j ≤ len ∧ n = .int .i64 ((len : Int) - 1 - j) ∧ OwnS 38 w1.heap.size wr v (bk l k low head j) ∧ Below w1.heap.size w1 wr) (fun v n wr => (intOf n + 1).toNat)
      case atStart => exact ⟨0, Nat.zero_le _, by simp, ⟨World.ownsRow_nil _ _ _ _, by simp [bk]⟩, Below.refl _ _⟩
      case round =>
        obtain ⟨j, hj, rfl, hO, hbr⟩ := hrel
        by_cases hlt : j < len
        · obtain ⟨n, hn⟩ : ∃ n : Nat, (len : Int) - 1 - j = n := ⟨len - 1 - j, by omega⟩
          rw [hn]
          have hnl : n < len := by omega
          rcases hS.at_ with g0 | ⟨b, off, rfl, hlb, hc⟩
          · omega
          obtain ⟨c0, c1, c2, c3⟩ := hc n hnl
          have HB := B1.trans (hbr.mono (by omega))
          have hok := hS.ok (l.getD n default) (by have := LL.out; simp [List.getD, show n < l.length from by omega])
          have h1 : bk l k low head (j + 1) = bk l k low head j ++ [if n = k then rz low head (l.getD n default) else l.getD n default] := by
            have : l.length - 1 - j = n := by have := LL.out; omega
            simp only [bk, this, pk]
          have H1 := Lib.hid h1; clear h1
          generalize l.getD n default = s at *
          have d0 := (HB.cell (p := ⟨b, off + n * 4, none⟩) hlb).trans c0
          have d1 := (HB.cell (p := ⟨b, off + n * 4 + 1, none⟩) hlb).trans c1
          have d2 := (HB.cell (p := ⟨b, off + n * 4 + 2, none⟩) hlb).trans c2
          have d3 := (HB.cell (p := ⟨b, off + n * 4 + 3, none⟩) hlb).trans c3
          clear c0 c1 c2 c3 hc
          obtain ⟨ac, lo, ha, he⟩ := s
          obtain ⟨o1, o2, o3, o4⟩ := hok
          simp only at d0 d1 d2 d3 o1 o2 o3 o4
          have hbl := bk_length l k low head j
          generalize bk l k low head j = bl0 at *
          have HO := Lib.hid hO; clear hO
          have BLL := Lib.hid (show bl0.length ≤ 60 from by omega)
          have tok1 : True := trivial
          by_cases hnk : n = k
          · subst hnk
            have e2 : bk l n low head (j + 1) = bl0 ++ [⟨ac, max lo low, ha, max he head⟩] := by rw [H1.out, if_pos rfl]; rfl
            clear H1
            by_cases q1 : low ≤ lo
            · rw [Int.max_eq_left q1] at e2
              by_cases q2 : head ≤ he
              · rw [Int.max_eq_left q2] at e2
                have H2 := Lib.hid e2; clear e2
                go_wp2_with (at_builtin; have _t := tok1; refine append_src 22 38 infoS Try.underlying22 rfl _ _ rfl w1.heap.size u15 bl0 rfl (HO.out.below (by repeat (first | with_reducible exact Below.refl _ _ | with_reducible refine Below.drew ?_ | with_reducible refine Below.alloc ?_ (by (try simp) <;> omega) _ | with_reducible refine Below.setCell ?_ (by (try simp) <;> omega) _))) ⟨wr.heap.size + 1, 0, none⟩ 1 ⟨ac, lo, ha, he⟩ rfl (by simp [SrcAt, go_sem]) (by have := BLL.out; omega) (by have := hbr.size; simp; omega) ?_; intro v2 w3 hO3 hG3; clear tok1; have HB3 : Below w1.heap.size w1 w3 := Below.grown (Below.trans hbr (Below.mono ((by repeat (first | with_reducible exact Below.refl _ _ | with_reducible refine Below.drew ?_ | with_reducible refine Below.alloc ?_ (by (try simp) <;> omega) _ | with_reducible refine Below.setCell ?_ (by (try simp) <;> omega) _)) : Below wr.heap.size wr _) (by have := hbr.size; omega))) hG3 (by have := hbr.size; simp; omega) (fun k hk => (HO.out.owns.lt k hk).1)); go_roundw; (case rel => first | exact ⟨j + 1, (by omega), (by omega), (by rw [H2.out]; exact hO3)⟩ | exact ⟨j + 1, (by omega), (by go_num), (by rw [H2.out]; exact hO3), HB3⟩ | exact ⟨_, _, _, _, _, _, _, _, _, _, _, _, _, _, _, _, _, _, _, _, _, _, _, _, _, _, _, _, ⟨j + 1, (by omega), (by go_num), (by rw [H2.out]; exact hO3), HB3⟩, rfl⟩); (case measure => simp [intOf] <;> omega)
              · rw [Int.max_eq_right (by omega)] at e2
                have H2 := Lib.hid e2; clear e2
                go_wp2_with (at_builtin; have _t := tok1; refine append_src 22 38 infoS Try.underlying22 rfl _ _ rfl w1.heap.size u15 bl0 rfl (HO.out.below (by repeat (first | with_reducible exact Below.refl _ _ | with_reducible refine Below.drew ?_ | with_reducible refine Below.alloc ?_ (by (try simp) <;> omega) _ | with_reducible refine Below.setCell ?_ (by (try simp) <;> omega) _))) ⟨wr.heap.size + 1, 0, none⟩ 1 ⟨ac, lo, ha, head⟩ rfl (by simp [SrcAt, go_sem]) (by have := BLL.out; omega) (by have := hbr.size; simp; omega) ?_; intro v2 w3 hO3 hG3; clear tok1; have HB3 : Below w1.heap.size w1 w3 := Below.grown (Below.trans hbr (Below.mono ((by repeat (first | with_reducible exact Below.refl _ _ | with_reducible refine Below.drew ?_ | with_reducible refine Below.alloc ?_ (by (try simp) <;> omega) _ | with_reducible refine Below.setCell ?_ (by (try simp) <;> omega) _)) : Below wr.heap.size wr _) (by have := hbr.size; omega))) hG3 (by have := hbr.size; simp; omega) (fun k hk => (HO.out.owns.lt k hk).1)); go_roundw; (case rel => first | exact ⟨j + 1, (by omega), (by omega), (by rw [H2.out]; exact hO3)⟩ | exact ⟨j + 1, (by omega), (by go_num), (by rw [H2.out]; exact hO3), HB3⟩ | exact ⟨_, _, _, _, _, _, _, _, _, _, _, _, _, _, _, _, _, _, _, _, _, _, _, _, _, _, _, _, ⟨j + 1, (by omega), (by go_num), (by rw [H2.out]; exact hO3), HB3⟩, rfl⟩); (case measure => simp [intOf] <;> omega)
            · rw [Int.max_eq_right (by omega)] at e2
              by_cases q2 : head ≤ he
              · rw [Int.max_eq_left q2] at e2
                have H2 := Lib.hid e2; clear e2
                go_wp2_with (at_builtin; have _t := tok1; refine append_src 22 38 infoS Try.underlying22 rfl _ _ rfl w1.heap.size u15 bl0 rfl (HO.out.below (by repeat (first | with_reducible exact Below.refl _ _ | with_reducible refine Below.drew ?_ | with_reducible refine Below.alloc ?_ (by (try simp) <;> omega) _ | with_reducible refine Below.setCell ?_ (by (try simp) <;> omega) _))) ⟨wr.heap.size + 1, 0, none⟩ 1 ⟨ac, low, ha, he⟩ rfl (by simp [SrcAt, go_sem]) (by have := BLL.out; omega) (by have := hbr.size; simp; omega) ?_; intro v2 w3 hO3 hG3; clear tok1; have HB3 : Below w1.heap.size w1 w3 := Below.grown (Below.trans hbr (Below.mono ((by repeat (first | with_reducible exact Below.refl _ _ | with_reducible refine Below.drew ?_ | with_reducible refine Below.alloc ?_ (by (try simp) <;> omega) _ | with_reducible refine Below.setCell ?_ (by (try simp) <;> omega) _)) : Below wr.heap.size wr _) (by have := hbr.size; omega))) hG3 (by have := hbr.size; simp; omega) (fun k hk => (HO.out.owns.lt k hk).1)); go_roundw; (case rel => first | exact ⟨j + 1, (by omega), (by omega), (by rw [H2.out]; exact hO3)⟩ | exact ⟨j + 1, (by omega), (by go_num), (by rw [H2.out]; exact hO3), HB3⟩ | exact ⟨_, _, _, _, _, _, _, _, _, _, _, _, _, _, _, _, _, _, _, _, _, _, _, _, _, _, _, _, ⟨j + 1, (by omega), (by go_num), (by rw [H2.out]; exact hO3), HB3⟩, rfl⟩); (case measure => simp [intOf] <;> omega)
              · rw [Int.max_eq_right (by omega)] at e2
                have H2 := Lib.hid e2; clear e2
                go_wp2_with (at_builtin; have _t := tok1; refine append_src 22 38 infoS Try.underlying22 rfl _ _ rfl w1.heap.size u15 bl0 rfl (HO.out.below (by repeat (first | with_reducible exact Below.refl _ _ | with_reducible refine Below.drew ?_ | with_reducible refine Below.alloc ?_ (by (try simp) <;> omega) _ | with_reducible refine Below.setCell ?_ (by (try simp) <;> omega) _))) ⟨wr.heap.size + 1, 0, none⟩ 1 ⟨ac, low, ha, head⟩ rfl (by simp [SrcAt, go_sem]) (by have := BLL.out; omega) (by have := hbr.size; simp; omega) ?_; intro v2 w3 hO3 hG3; clear tok1; have HB3 : Below w1.heap.size w1 w3 := Below.grown (Below.trans hbr (Below.mono ((by repeat (first | with_reducible exact Below.refl _ _ | with_reducible refine Below.drew ?_ | with_reducible refine Below.alloc ?_ (by (try simp) <;> omega) _ | with_reducible refine Below.setCell ?_ (by (try simp) <;> omega) _)) : Below wr.heap.size wr _) (by have := hbr.size; omega))) hG3 (by have := hbr.size; simp; omega) (fun k hk => (HO.out.owns.lt k hk).1)); go_roundw; (case rel => first | exact ⟨j + 1, (by omega), (by omega), (by rw [H2.out]; exact hO3)⟩ | exact ⟨j + 1, (by omega), (by go_num), (by rw [H2.out]; exact hO3), HB3⟩ | exact ⟨_, _, _, _, _, _, _, _, _, _, _, _, _, _, _, _, _, _, _, _, _, _, _, _, _, _, _, _, ⟨j + 1, (by omega), (by go_num), (by rw [H2.out]; exact hO3), HB3⟩, rfl⟩); (case measure => simp [intOf] <;> omega)
          · have H2 : Hid (bk l k low head (j + 1) = bl0 ++ [⟨ac, lo, ha, he⟩]) := by rw [H1.out, if_neg hnk]; exact Lib.hid rfl
            clear H1
            go_wp2_with (at_builtin; have _t := tok1; refine append_src 22 38 infoS Try.underlying22 rfl _ _ rfl w1.heap.size u15 bl0 rfl (HO.out.below (by repeat (first | with_reducible exact Below.refl _ _ | with_reducible refine Below.drew ?_ | with_reducible refine Below.alloc ?_ (by (try simp) <;> omega) _ | with_reducible refine Below.setCell ?_ (by (try simp) <;> omega) _))) ⟨wr.heap.size + 1, 0, none⟩ 1 ⟨ac, lo, ha, he⟩ rfl (by simp [SrcAt, go_sem]) (by have := BLL.out; omega) (by have := hbr.size; simp; omega) ?_; intro v2 w3 hO3 hG3; clear tok1; have HB3 : Below w1.heap.size w1 w3 := Below.grown (Below.trans hbr (Below.mono ((by repeat (first | with_reducible exact Below.refl _ _ | with_reducible refine Below.drew ?_ | with_reducible refine Below.alloc ?_ (by (try simp) <;> omega) _ | with_reducible refine Below.setCell ?_ (by (try simp) <;> omega) _)) : Below wr.heap.size wr _) (by have := hbr.size; omega))) hG3 (by have := hbr.size; simp; omega) (fun k hk => (HO.out.owns.lt k hk).1)); go_roundw; (case rel => first | exact ⟨j + 1, (by omega), (by omega), (by rw [H2.out]; exact hO3)⟩ | exact ⟨j + 1, (by omega), (by go_num), (by rw [H2.out]; exact hO3), HB3⟩ | exact ⟨_, _, _, _, _, _, _, _, _, _, _, _, _, _, _, _, _, _, _, _, _, _, _, _, _, _, _, _, ⟨j + 1, (by omega), (by go_num), (by rw [H2.out]; exact hO3), HB3⟩, rfl⟩); (case measure => simp [intOf] <;> omega)
        · obtain rfl : j = len := by omega
          have HBr : Below w.heap.size w wr := B1.trans (hbr.mono (by omega))
          have hS' := hS.below HBr
          obtain ⟨q, cp, rfl, hR⟩ := hO.row (bk_ok hS.ok bl bh (by have := LL.out; omega))
          rw [bk_length] at hR ⊢
          have e0 : w1.cell? ⟨w.heap.size, 0, none⟩ = some (.bool is) := (hb1.cell (p := ⟨w.heap.size, 0, none⟩) (by simp)).trans (by simp [go_sem])
          have e1 : w1.cell? ⟨w.heap.size, 1, none⟩ = some (.int .i64 since) := (hb1.cell (p := ⟨w.heap.size, 1, none⟩) (by simp)).trans (by simp [go_sem])
          have e2 : w1.cell? ⟨w.heap.size, 2, none⟩ = some (.int .i64 now) := (hb1.cell (p := ⟨w.heap.size, 2, none⟩) (by simp)).trans (by simp [go_sem])
          have g0 : wr.drew.cell? _ = _ := (hbr.cell (p := ⟨w.heap.size, 0, none⟩) (by simp; omega)).trans e0
          have g1 : wr.drew.cell? _ = _ := (hbr.cell (p := ⟨w.heap.size, 1, none⟩) (by simp; omega)).trans e1
          have g2 : wr.drew.cell? _ = _ := (hbr.cell (p := ⟨w.heap.size, 2, none⟩) (by simp; omega)).trans e2
          clear e0 e1 e2 hO
          have GR := bound_grows l k low head is since now top
          rw [LL.out] at GR
          generalize bk l k low head j = more at *
          have HR := Lib.hid (hR.below ((Below.refl wr.heap.size wr).drew)); have HS := Lib.hid (hS'.below ((Below.refl wr.heap.size wr).drew))
          replace HBr := HBr.drew
          have HG := Lib.hid GR
          clear hR hS' hS GR
          have zr := hbr.size
          have tok2 : True := trivial
          go_wp2_with fail
          go_region_with (first
            | (go_at_call 12; have _t := tok2; refine (bound_any q j cp more is since now top b1 b2 b3 wr.drew HR.out).mono ?_; rintro e w3 ⟨rfl, hb3⟩; have HS3 := Lib.hid (HS.out.below hb3); have k0 := (hb3.cell (p := ⟨w.heap.size, 0, none⟩) (show w.heap.size < wr.heap.size by omega)).trans g0; have k1 := (hb3.cell (p := ⟨w.heap.size, 1, none⟩) (show w.heap.size < wr.heap.size by omega)).trans g1; have k2 := (hb3.cell (p := ⟨w.heap.size, 2, none⟩) (show w.heap.size < wr.heap.size by omega)).trans g2; have z3 : wr.heap.size ≤ w3.heap.size := hb3.size; have HB3 := HBr.trans (hb3.mono (show w.heap.size ≤ wr.heap.size by omega)); clear hb3 tok2)
            | (go_at_call 12; have _t := HS3; refine (bound_any a j cap l is since now top b1 b2 b3 w3 HS3.out).mono ?_; rintro e w4 ⟨rfl, hb4⟩; have HB4 := HB3.trans (hb4.mono (by omega)); clear hb4))
          all_goals (go_wp2_with fail; go_ret; exact ⟨ret_bool (decide_eq_true HG.out), HB4⟩)
end Go.Proofs.Ytkdekdogfplbmaa
