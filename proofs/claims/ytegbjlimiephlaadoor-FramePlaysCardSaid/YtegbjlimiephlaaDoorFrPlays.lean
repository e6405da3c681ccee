/- The walk of FramePlays. -/
import Derived.BigQuiet
import Derived.Test.YtegbjlimiephlaaDoorFrPlayMem
import Derived.Test.YtegbjlimiephlaaDoorFrOpen
import Derived.Test.YtegbjlimiephlaaDoorFrAwake
import Derived.Test.YtegbjlimiephlaaDoorFrTab
import Derived.Test.YtegbjlimiephlaaDoorChecked
import Derived.Test.YtegbjlimiephlaaDoorRows
namespace Go.Proofs.YtegbjlimiephlaaDoor
open Go.RowKit
set_option linter.unusedVariables false
set_option linter.unusedSimpArgs false
set_option maxHeartbeats 4000000
set_option maxRecDepth 20000
theorem next_r (d : St) (q : Option Addr) (n c : Nat) (w : World) (hR : RowR w q n c d.found) (hq : ∀ x, q = some x → x.block < w.heap.size) (hb : d.found.length ≤ 1000000) :
    Calls Tryd.prog 18 #[.agg #[.string ⟨d.rest.toArray⟩, .int .i64 (d.skips : Int), .slice q n c, .bool d.over]] w fun e w' => ∃ v', e = .returned (.tuple #[v', .agg #[.int .i64 ((d.found.getD 0 It.no).skip : Int), .int .u8 ((d.found.getD 0 It.no).kind.toNat : Int), .string ⟨(d.found.getD 0 It.no).body.toArray⟩], .bool (decide (0 < d.found.length))]) ∧ RD w' v' d.next q w.heap.size ∧ Below w.heap.size w w' := by
  obtain ⟨rest, s, f, o⟩ := d
  cases f with
  | nil => exact next_r0 rest s o q n c w hR hq
  | cons x l => exact (next_r1 rest s x l o q n c w hR hq (by simp at hb; omega)).mono (fun _ _ h => by simpa [St.next] using h)
theorem below_dr {B : Nat} {a w : World} (h : Below B a w) (n : Nat) : Below B a (w.drewN n) := h.trans ⟨rfl, rfl, rfl, Nat.le_refl _, fun _ _ => rfl⟩
/-- so many bytes the acts bring -/
def actLen (ks : List (UInt8 × List UInt8)) : Nat := (ks.map fun k => k.2.length).sum
theorem actLen_succ (ks : List (UInt8 × List UInt8)) (k : Nat) (h : k < ks.length) : actLen (ks.take (k + 1)) = actLen (ks.take k) + (ks.getD k (0, [])).2.length := by
  unfold actLen
  rw [List.take_succ_eq_append_getElem h]
  simp only [List.map_append, List.sum_append, List.map_cons, List.map_nil, List.sum_cons, List.sum_nil, Nat.add_zero]
  congr 2
  simp [List.getD, h]
theorem actLen_le (ks : List (UInt8 × List UInt8)) (k : Nat) : actLen (ks.take k) ≤ actLen ks := by
  have e : actLen ks = actLen (ks.take k) + actLen (ks.drop k) := by
    unfold actLen
    rw [← List.sum_append, ← List.map_append, List.take_append_drop]
  omega
theorem framePlays_walk (a : Option Addr) (len cap : Nat) (ks : List (UInt8 × List UInt8)) (w : World) (h : RowKB w a len ks) (hT : Tab w) :
    Calls Tryd.prog 4 #[.slice a len cap] w fun e w' => e = .returned (.bool true) ∧ Below w.heap.size w w' := by
  have LL := Lib.hid h.length
  have hm := h.small
  unfold maxLen at hm
  go_enter Tryd.func4, Tryd.ntmps4
  go_wp2_with fail
  refine (awake_any _ hT).mono ?_; rintro e w1 ⟨rfl, hb1⟩
  have h1 := h.below hb1
  go_wp2_with fail
  go_loop [4, 5] (fun n i => ∃ k : Nat, k ≤ len ∧ i = .int .i64 k ∧ n = .int .i64 (actLen (ks.take k) : Int) ∧ actLen (ks.take k) ≤ 1500) (fun n i => len - (intOf i).toNat)
  case atStart => exact ⟨0, Nat.zero_le _, rfl, rfl, by simp [actLen]⟩
  case round =>
    obtain ⟨k, hk, rfl, rfl, ht⟩ := hrel
    by_cases hlt : k < len
    · rcases h1.at_ with h0 | ⟨b, off, rfl, hlb, hc⟩
      · omega
      obtain ⟨ck0, q, n, c, ck, hR⟩ := hc k hlt
      have hkl : k < ks.length := by have := LL.out; omega
      have h2 : actLen (ks.take (k + 1)) = actLen (ks.take k) + n := by rw [actLen_succ ks k hkl, hR.length]
      have hk0 : (0 : Int) ≤ (k : Int) := by omega
      have hk1 : (k : Int) < (len : Int) := by omega
      have hn9 : n ≤ 9223372036854775807 := by have := hR.small; unfold maxLen at this; omega
      clear hc hR
      generalize hgC : actLen (ks.take k) = tk at *
      replace h2 := Lib.hid h2
      clear hgC
      by_cases hb1' : 1500 < n
      · go_wp2_with fail
        go_ret
        exact ⟨rfl, hb1⟩
      by_cases hb2 : 1500 < tk + n
      · have hb3 : (1500 : Int) < (tk : Int) + (n : Int) := by omega
        go_wp2_with fail
        go_ret
        exact ⟨rfl, hb1⟩
      have hb3 : (tk : Int) + (n : Int) ≤ 1500 := by omega
      go_wp2_with fail
      go_round
      case rel => exact ⟨k + 1, by omega, by go_num, by rw [h2.out]; go_num, by rw [h2.out]; omega⟩
      case measure => simp [intOf] <;> omega
    · obtain rfl : k = len := by omega
      rw [List.take_of_length_le (by rw [LL.out]; exact Nat.le_refl _)] at ht
      by_cases hl : 80 < k
      · go_wp2_with fail
        go_ret
        exact ⟨rfl, hb1⟩
      go_wp2_with fail
      refine (new_any _).mono ?_; rintro e w2 ⟨g, rfl, hg, ⟨S, hD, hS⟩, hb2⟩
      have B2 := hb1.trans (hb2.mono hb1.size)
      obtain ⟨W3, eW3⟩ : ∃ W, w2.alloc (.cells #[.string { data := #[] }, .int .i64 0, .slice none 0 0, .bool false] 36) = W := ⟨_, rfl⟩
      have B23 : Below w2.heap.size w2 W3 := by rw [← eW3]; exact (Below.refl _ _).alloc (Nat.le_refl _) _
      have X3 : BoxD W3 w2.heap.size (.string ⟨#[]⟩) 0 (.slice none 0 0) false := by rw [← eW3]; exact BoxD.new w2 _ _ _ _ _
      have N3 : NoU8 W3 w2.heap.size := fun o v e => by
        rw [← eW3] at e
        match o with
        | 0 => simp [go_sem] at e
        | 1 => simp [go_sem] at e
        | 2 => simp [go_sem] at e
        | 3 => simp [go_sem] at e
        | o + 4 => simp [go_sem] at e
      have P3 : Beside w W3 g w2.heap.size S St.new St.new none 0 0 := ⟨hD.below B23, (fun e => by have := hD.lt _ e; omega), (fun k hk => Nat.le_trans hb1.size (hS k hk)), X3, RowR.none _, (fun x e => by cases e), N3, B2.size, B2.trans (B23.mono B2.size)⟩
      have P4 := P3.store (dr' := St.new) (RowR.none _) (fun x e => by cases e)
      have z2 := B23.size
      have c0 := X3.c0
      have c1 := X3.c1
      have c2 := X3.c2
      have c3 := X3.c3
      have f0 := X3.f0
      have f1 := X3.f1
      have f2 := X3.f2
      have f3 := X3.f3
      clear P3 X3 N3
      go_wp2_with fail
      go_loopw [8] (fun i wr => ∃ j : Nat, j ≤ k ∧ i = .int .i64 j ∧ ∃ d S q n c, Beside w wr g w2.heap.size S d d q n c ∧ d.size ≤ 2 * actLen (ks.take j)) (fun i wr => k - (intOf i).toNat)
      case atStart => exact ⟨0, Nat.zero_le _, rfl, St.new, S, none, 0, 0, P4, by simp [St.size, St.new]⟩
      case round =>
        clear P4 hD hS c0 c1 c2 c3 f0 f1 f2 f3
        obtain ⟨j, hj, rfl, d, S, q, n, c, hP, hsz⟩ := hrel
        by_cases hlt : j < k
        · have hTr := hT.below hP.bel
          have hTS : ¬ S 0 := fun e => by have := hP.old _ e; have := hT.lt; omega
          rcases h.at_ with h0 | ⟨b, off, rfl, hlb, hc⟩
          · omega
          obtain ⟨cw0, aq, an, ac, cw, hRw⟩ := hc j hlt
          have ck0 := (hP.bel.cell (p := ⟨b, off + j * 2, none⟩) hlb).trans cw0
          have ck := (hP.bel.cell (p := ⟨b, off + j * 2 + 1, none⟩) hlb).trans cw
          have hR := hRw.below (hP.bel)
          have hkl : j < ks.length := by have := LL.out; omega
          have h2 : actLen (ks.take (j + 1)) = actLen (ks.take j) + an := by rw [actLen_succ ks j hkl, hR.length]
          have hk0 : (0 : Int) ≤ (j : Int) := by omega
          have hk1 : (j : Int) < (k : Int) := by omega
          have hX0 := hP.box.lt
          clear hc h1 h
          generalize ks.getD j (0, []) = kv at *
          by_cases k0 : kv.1 = 0
          · rw [k0] at ck0
            have ck0' : wr.cell? ⟨b, off + j * 2, none⟩ = some (.int .u8 0) := ck0
            clear ck0
            have hbd : d.found.length + d.skips + 2 * (d.rest.length + an) ≤ 1000000 := by
              have := actLen_le ks (j + 1)
              unfold St.size at hsz
              omega
            go_wp2_with fail
            refine (give_any g S d wr hP.dec hTr hTS aq an ac _ hR hbd).mono ?_; rintro e w5 ⟨rfl, hD5⟩
            obtain ⟨S5, hP5⟩ := hP.act hD5
            have ck5 := (hP5.bel.cell (p := ⟨b, off + j * 2 + 1, none⟩) hlb).trans cw
            have hR5 := hRw.below hP5.bel
            have cv5 := hR5.conv (P := Tryd.prog) 22 9 5 Tryd.underlying22 Tryd.underlying5 Tryd.underlying9
            have e0 := hP5.box.c0
            have e1 := hP5.box.c1
            have e2 := hP5.box.c2
            have e3 := hP5.box.c3
            go_wp2_with fail
            have hbd2 : d.found.length + d.skips + 2 * (d.rest.length + kv.2.length) ≤ 1000000 := by rw [hR.length]; exact hbd
            have hP6 := hP5.below ((Below.refl _ _).drew)
            have cv6 := (hRw.below hP6.bel).conv (P := Tryd.prog) 22 9 5 Tryd.underlying22 Tryd.underlying5 Tryd.underlying9
            go_region_with (go_at_call 16; refine (give_r d kv.2 q n c _ hP6.row (fun x hx => (hP6.off x hx).1) hbd2).mono ?_; rintro e w7 ⟨v7, rfl, hv7, hb7⟩; obtain ⟨q7, n7, c7, rfl, R7, Q7⟩ := hP6.ref hb7 hv7; have hP7 := (hP6.below hb7).store R7 Q7; have bx7 := (hP6.below hb7).box; have l0 := bx7.c0; have l1 := bx7.c1; have l2 := bx7.c2; have l3 := bx7.c3; have m0 := bx7.f0; have m1 := bx7.f1; have m2 := bx7.f2; have m3 := bx7.f3)
            all_goals
              have hgs := St.give_size d kv.2
              rw [hR.length] at hgs
              have hsz7 : (d.give kv.2).size ≤ 2 * actLen (ks.take (j + 1)) := by omega
              generalize d.give kv.2 = d7 at *
              generalize (((w7.setCell ⟨w2.heap.size, 0, none⟩ (.string ⟨d7.rest.toArray⟩)).setCell ⟨w2.heap.size, 1, none⟩ (.int .i64 (d7.skips : Int))).setCell ⟨w2.heap.size, 2, none⟩ (.slice q7 n7 c7)).setCell ⟨w2.heap.size, 3, none⟩ (.bool d7.over) = w8 at *
              have hL7 := ba_size d7.rest
              have x0 := hP7.box.c0
              clear bx7 R7 Q7 e0 e1 e2 e3
              go_wp2_with fail
              have hPd := Lib.hid hP7
              replace h2 := Lib.hid h2
              go_quiet ((go_at_call 21; exact Calls.quiet_of_same ((held_any g S5 d7 _ (hPd.out.below (below_dr (Below.refl _ _) _)).dec).mono (fun _ _ ⟨he, hw⟩ => ⟨he, hw.symm⟩))))
              go_wp2_with fail
              go_roundw
              case rel => exact ⟨j + 1, by omega, by go_num, d7, S5, q7, n7, c7, hPd.out.below (below_dr (Below.refl _ _) nq), hsz7⟩
              case measure => simp [intOf] <;> omega
          have hsz2 : d.size ≤ 2 * actLen (ks.take (j + 1)) := by omega
          have h2 := Lib.hid h2
          by_cases k1 : kv.1 = 1
          · have ck0' : wr.cell? ⟨b, off + j * 2, none⟩ = some (.int .u8 1) := by rw [k1] at ck0; exact ck0
            clear ck0
            have HN := next_any g S d wr hP.dec
            have HR := next_r d
            have hfl : d.found.length ≤ 1000000 := by
              have := actLen_le ks (j + 1)
              have := h2.out
              unfold St.size at hsz
              omega
            generalize d.found.getD 0 It.no = it at HN HR
            generalize decide (0 < d.found.length) = more at HN HR
            replace HR := Lib.hid HR
            replace HN := Lib.hid HN
            go_wp2_with fail
            refine HN.out.mono ?_; rintro e w5 ⟨qb, nb, cb, rfl, hRb, hqb, hD5, -⟩
            obtain ⟨S5, hP5⟩ := hP.act hD5
            obtain ⟨W6, eW6⟩ : ∃ W, w5.alloc (.cells #[.int .i64 (it.skip : Int), .int .u8 (it.kind.toNat : Int), .slice qb nb cb] 42) = W := ⟨_, rfl⟩
            have B6 : Below w5.heap.size w5 W6 := by rw [← eW6]; exact (Below.refl _ _).alloc (Nat.le_refl _) _
            have z6 : W6.heap.size = w5.heap.size + 1 := by rw [← eW6]; simp
            have i0 : W6.cell? ⟨w5.heap.size, 0, none⟩ = some (.int .i64 (it.skip : Int)) := by rw [← eW6]; simp [go_sem]
            have i1 : W6.cell? ⟨w5.heap.size, 1, none⟩ = some (.int .u8 (it.kind.toNat : Int)) := by rw [← eW6]; simp [go_sem]
            have i2 : W6.cell? ⟨w5.heap.size, 2, none⟩ = some (.slice qb nb cb) := by rw [← eW6]; simp [go_sem]
            have hP6 := hP5.below B6
            have hX6 := hP5.box.lt
            have e0 := hP6.box.c0
            have e1 := hP6.box.c1
            have e2 := hP6.box.c2
            have e3 := hP6.box.c3
            go_wp2_with fail
            refine (HR.out q n c _ hP6.row (fun x hx => (hP6.off x hx).1) hfl).mono ?_; rintro e w7 ⟨v7, rfl, hv7, hb7⟩
            obtain ⟨q7, n7, c7, rfl, R7, Q7⟩ := hP6.ref hb7 hv7
            have hsz7 : d.next.size ≤ 2 * actLen (ks.take (j + 1)) := Nat.le_trans (St.next_size d) hsz2
            generalize d.next = d7 at *
            obtain ⟨W8, eW8⟩ : ∃ W, w7.alloc (.cells #[.string ⟨d7.rest.toArray⟩, .int .i64 (d7.skips : Int), .slice q7 n7 c7, .bool d7.over] 36) = W := ⟨_, rfl⟩
            obtain ⟨W9, eW9⟩ : ∃ W, W8.alloc (.cells #[.int .i64 (it.skip : Int), .int .u8 (it.kind.toNat : Int), .string ⟨it.body.toArray⟩] 46) = W := ⟨_, rfl⟩
            have B8 : Below w7.heap.size w7 W8 := by rw [← eW8]; exact (Below.refl _ _).alloc (Nat.le_refl _) _
            have B9 : Below W8.heap.size W8 W9 := by rw [← eW9]; exact (Below.refl _ _).alloc (Nat.le_refl _) _
            have z7 := hb7.size
            have z8 : W8.heap.size = w7.heap.size + 1 := by rw [← eW8]; simp
            have z9 : W9.heap.size = W8.heap.size + 1 := by rw [← eW9]; simp
            have B79 := B8.trans (B9.mono B8.size)
            have hP9 := (hP6.below hb7).below B79
            have X8 : BoxD W8 w7.heap.size (.string ⟨d7.rest.toArray⟩) (d7.skips : Int) (.slice q7 n7 c7) d7.over := by rw [← eW8]; exact BoxD.new w7 _ _ _ _ _
            have X9 := X8.turn (Turn.ofBelow (S := fun _ => False) B9 rfl) (fun h => h)
            have y0 : W9.cell? ⟨W8.heap.size, 0, none⟩ = some (.int .i64 (it.skip : Int)) := by rw [← eW9]; simp [go_sem]
            have y1 : W9.cell? ⟨W8.heap.size, 1, none⟩ = some (.int .u8 (it.kind.toNat : Int)) := by rw [← eW9]; simp [go_sem]
            have y2 : W9.cell? ⟨W8.heap.size, 2, none⟩ = some (.string ⟨it.body.toArray⟩) := by rw [← eW9]; simp [go_sem]
            have D69 : Below W6.heap.size W6 W9 := hb7.trans (B79.mono hb7.size)
            have t6 := Turn.ofBelow (S := fun j => j = w2.heap.size) D69 rfl
            have j0 : W9.cell? ⟨w5.heap.size, 0, none⟩ = some (.int .i64 (it.skip : Int)) := (D69.cell (p := ⟨w5.heap.size, 0, none⟩) (by simp; omega)).trans i0
            have j1 : W9.cell? ⟨w5.heap.size, 1, none⟩ = some (.int .u8 (it.kind.toNat : Int)) := (D69.cell (p := ⟨w5.heap.size, 1, none⟩) (by simp; omega)).trans i1
            have j2 : W9.cell? ⟨w5.heap.size, 2, none⟩ = some (.slice qb nb cb) := (D69.cell (p := ⟨w5.heap.size, 2, none⟩) (by simp; omega)).trans i2
            have R9 := R7.below B79
            have Q9 : ∀ x, q7 = some x → x.block < W9.heap.size ∧ x.block ≠ w2.heap.size ∧ ¬ S5 x.block := fun x hx => ⟨by have := (Q7 x hx).1; omega, (Q7 x hx).2⟩
            have hP10 := hP9.store R9 Q9
            obtain ⟨Z10, T10⟩ := hP9.box.set (.string ⟨d7.rest.toArray⟩) (d7.skips : Int) (.slice q7 n7 c7) d7.over
            have hRb9 := ((hRb.below B6).below D69).apart hP9.no T10
            have l0 := hP9.box.c0
            have l1 := hP9.box.c1
            have l2 := hP9.box.c2
            have l3 := hP9.box.c3
            have m0 := hP9.box.f0
            have m1 := hP9.box.f1
            have m2 := hP9.box.f2
            have m3 := hP9.box.f3
            have n0 := X9.c0
            have n1 := X9.c1
            have n2 := X9.c2
            have n3 := X9.c3
            have k50 := (T10.cell (p := ⟨w5.heap.size, 0, none⟩) (by simp; omega) (show w5.heap.size ≠ w2.heap.size by omega)).trans j0
            have k51 := (T10.cell (p := ⟨w5.heap.size, 1, none⟩) (by simp; omega) (show w5.heap.size ≠ w2.heap.size by omega)).trans j1
            have k52 := (T10.cell (p := ⟨w5.heap.size, 2, none⟩) (by simp; omega) (show w5.heap.size ≠ w2.heap.size by omega)).trans j2
            have k80 := (T10.cell (p := ⟨W8.heap.size, 0, none⟩) (by simp; omega) (show W8.heap.size ≠ w2.heap.size by omega)).trans y0
            have k81 := (T10.cell (p := ⟨W8.heap.size, 1, none⟩) (by simp; omega) (show W8.heap.size ≠ w2.heap.size by omega)).trans y1
            have k82 := (T10.cell (p := ⟨W8.heap.size, 2, none⟩) (by simp; omega) (show W8.heap.size ≠ w2.heap.size by omega)).trans y2
            rw [z8] at k80 k81 k82
            have x0 := hP10.box.c0
            generalize hw10 : (((W9.setCell ⟨w2.heap.size, 0, none⟩ (.string ⟨d7.rest.toArray⟩)).setCell ⟨w2.heap.size, 1, none⟩ (.int .i64 (d7.skips : Int))).setCell ⟨w2.heap.size, 2, none⟩ (.slice q7 n7 c7)).setCell ⟨w2.heap.size, 3, none⟩ (.bool d7.over) = w10 at *
            have cv10 := hRb9.conv (P := Tryd.prog) 22 9 5 Tryd.underlying22 Tryd.underlying5 Tryd.underlying9
            have hL7 := ba_size d7.rest
            have hPd := Lib.hid hP10
            clear hP10 hP9 hP6 hP5 Z10 T10 X9 X8 R9 Q9 R7 Q7 e0 e1 e2 e3 i0 i1 i2 j0 j1 j2 y0 y1 y2 hRb hRb9 HN HR hqb hv7 hD5
            go_wp2_with fail
            go_quiet ((go_at_call 21; exact Calls.quiet_of_same ((held_any g S5 d7 _ (hPd.out.below (below_dr (Below.refl _ _) _)).dec).mono (fun _ _ ⟨he, hw⟩ => ⟨he, hw.symm⟩))))
            go_wp2_with fail
            go_roundw
            case rel => exact ⟨j + 1, by omega, by go_num, d7, S5, q7, n7, c7, hPd.out.below (below_dr (Below.refl _ _) nq), hsz7⟩
            case measure => simp [intOf] <;> omega
          · have kk : (0 : Int) ≤ (kv.1.toNat : Int) ∧ (kv.1.toNat : Int) ≠ 0 ∧ (kv.1.toNat : Int) ≠ 1 := ⟨by omega, fun e => k0 (UInt8.toNat_inj.1 (show kv.1.toNat = 0 by omega)), fun e => k1 (UInt8.toNat_inj.1 (show kv.1.toNat = 1 by omega))⟩
            have kk1 := kk.2.1
            have kk2 := kk.2.2
            have hbd : d.found.length + d.skips + 2 * d.rest.length ≤ 1000000 := by
              have := actLen_le ks (j + 1)
              have := h2.out
              unfold St.size at hsz
              omega
            go_wp2_with fail
            refine (end_any g S d wr hP.dec hTr hTS hbd).mono ?_; rintro e w5 ⟨rfl, hD5⟩
            obtain ⟨S5, hP5⟩ := hP.act hD5
            have e0 := hP5.box.c0
            have e1 := hP5.box.c1
            have e2 := hP5.box.c2
            have e3 := hP5.box.c3
            go_wp2_with fail
            refine (end_r d q n c _ hP5.row (fun x hx => (hP5.off x hx).1) hbd).mono ?_; rintro e w7 ⟨v7, rfl, hv7, hb7⟩
            obtain ⟨q7, n7, c7, rfl, R7, Q7⟩ := hP5.ref hb7 hv7
            have hP7 := (hP5.below hb7).store R7 Q7
            have bx7 := (hP5.below hb7).box
            have l0 := bx7.c0
            have l1 := bx7.c1
            have l2 := bx7.c2
            have l3 := bx7.c3
            have m0 := bx7.f0
            have m1 := bx7.f1
            have m2 := bx7.f2
            have m3 := bx7.f3
            go_wp2_with fail
            have hsz7 : d.fin.size ≤ 2 * actLen (ks.take (j + 1)) := Nat.le_trans (St.fin_size d) hsz2
            generalize d.fin = d7 at *
            generalize (((w7.setCell ⟨w2.heap.size, 0, none⟩ (.string ⟨d7.rest.toArray⟩)).setCell ⟨w2.heap.size, 1, none⟩ (.int .i64 (d7.skips : Int))).setCell ⟨w2.heap.size, 2, none⟩ (.slice q7 n7 c7)).setCell ⟨w2.heap.size, 3, none⟩ (.bool d7.over) = w8 at *
            have hL7 := ba_size d7.rest
            have x0 := hP7.box.c0
            clear bx7 R7 Q7 e0 e1 e2 e3
            have hPd := Lib.hid hP7
            go_quiet ((go_at_call 21; exact Calls.quiet_of_same ((held_any g S5 d7 _ (hPd.out.below (below_dr (Below.refl _ _) _)).dec).mono (fun _ _ ⟨he, hw⟩ => ⟨he, hw.symm⟩))))
            go_wp2_with fail
            go_roundw
            case rel => exact ⟨j + 1, by omega, by go_num, d7, S5, q7, n7, c7, hPd.out.below (below_dr (Below.refl _ _) nq), hsz7⟩
            case measure => simp [intOf] <;> omega
        · obtain rfl : j = k := by omega
          have Bx := hP.bel
          go_wp2_with fail
          refine (give_none _ _).mono ?_; rintro e w5 ⟨rfl, rfl⟩
          go_wp2_with fail
          refine (end_none _).mono ?_; rintro e w6 ⟨rfl, rfl⟩
          go_wp2_with fail
          refine (next_none _).mono ?_; rintro e w7 ⟨rfl, hb7⟩
          have B7 : Below w.heap.size w w7 := (Bx.alloc Bx.size _).trans (hb7.mono (Bx.alloc Bx.size _).size)
          go_wp2_with fail
          refine (held_none _).mono ?_; rintro e w8 ⟨rfl, rfl⟩
          go_wp2_with fail
          go_ret
          exact ⟨rfl, B7.alloc B7.size _⟩
end Go.Proofs.YtegbjlimiephlaaDoor
