/- The walk of OctetReads. -/
import Derived.Test.YtdondjodonmebaaOctAwake
import Derived.Test.YtdondjodonmebaaOctRRead2
import Derived.Deep.RegionHeld3
import Derived.Deep.QuietTactic
import Derived.Test.YtdondjodonmebaaChecked
import Derived.Test.YtdondjodonmebaaRows
namespace Go.Proofs.Ytdondjodonmebaa
open Go.RowKit
set_option linter.unusedVariables false
set_option linter.unusedSimpArgs false
set_option maxHeartbeats 8000000
set_option maxRecDepth 20000
theorem range_i8' {zs : List Int} (h : ∀ n ∈ zs, (Lit.int .i8 n).wf = true) (j : Nat) : -128 ≤ zs.getD j 0 ∧ zs.getD j 0 ≤ 127 := by
  by_cases hj : j < zs.length
  · have := h (zs.getD j 0) (by simp [List.getD, hj])
    have e1 : IntKind.i8.min = -128 := by rfl
    have e2 : IntKind.i8.max = 127 := by rfl
    simp only [Lit.wf, e1, e2] at this
    simpa using this
  · simp [List.getD, List.getElem?_eq_none (Nat.le_of_not_lt hj)]
theorem rMom_le (bs : List UInt8) (e : Int) : (rMom bs e).2.1.length ≤ bs.length := by
  unfold rMom
  split
  · simp
  · exact rNum_le bs e
theorem rText_le (bs : List UInt8) (e most : Int) : (rText bs e most).2.1.length ≤ bs.length := by
  have := rNum_le bs e
  unfold rText
  split
  · exact this
  · split
    · simp
    · split
      · simp
      · simp; omega
/-- the document's reader at block G -/
structure GC (w : World) (G : Nat) (bs : List UInt8) (e : Int) : Prop where
  lt : G < w.heap.size
  c0 : w.cell? ⟨G, 0, none⟩ = some (.string ⟨bs.toArray⟩)
  c1 : w.cell? ⟨G, 1, none⟩ = some (.int .i64 e)
  f0 : w.frozen? ⟨G, 0, none⟩ = false
  f1 : w.frozen? ⟨G, 1, none⟩ = false
theorem GC.grown {w w' : World} {g G : Nat} {bs : List UInt8} {e : Int} (h : GC w G bs e) (hg : w.grownBy w' (some g)) (hG : g < G) : GC w' G bs e := by
  have hne : ∀ o, some (⟨G, o, none⟩ : Addr).block ≠ some g := fun o e => by have := Option.some.inj e; simp only at this; omega
  exact ⟨Nat.lt_of_lt_of_le h.lt hg.size, hg.cell h.c0 (hne 0), hg.cell h.c1 (hne 1), (World.grownBy.frozen_far hg ⟨G, 0, none⟩ h.lt (hne 0)).trans h.f0, (World.grownBy.frozen_far hg ⟨G, 1, none⟩ h.lt (hne 1)).trans h.f1⟩
theorem GC.below {w w' : World} {G : Nat} {bs : List UInt8} {e : Int} (h : GC w G bs e) (hb : Below w.heap.size w w') : GC w' G bs e :=
  ⟨Nat.lt_of_lt_of_le h.lt hb.size, (hb.cell (p := ⟨G, 0, none⟩) h.lt).trans h.c0, (hb.cell (p := ⟨G, 1, none⟩) h.lt).trans h.c1, (hb.frozen (p := ⟨G, 0, none⟩) h.lt).trans h.f0, (hb.frozen (p := ⟨G, 1, none⟩) h.lt).trans h.f1⟩
/-- the world behind 'w = q' -/
def setG (w : World) (G : Nat) (bs : List UInt8) (e : Int) : World := (w.setCell ⟨G, 0, none⟩ (.string ⟨bs.toArray⟩)).setCell ⟨G, 1, none⟩ (.int .i64 e)
theorem GC.set {w : World} {G : Nat} {bs bs' : List UInt8} {e e' : Int} (h : GC w G bs e) : GC (setG w G bs' e') G bs' e' := by
  obtain ⟨hlt, c0, c1, f0, f1⟩ := h
  unfold setG
  exact ⟨by simpa using hlt, by simp [go_sem, c0, c1], by simp [go_sem, c0, c1], by simp [go_sem, f0, f1], by simp [go_sem, f0, f1]⟩
theorem Rd.setG {w : World} {g G : Nat} {bs bs' : List UInt8} {e e' : Int} (h : Rd w g bs e) (hG : g < G) : Rd (Go.Proofs.Ytdondjodonmebaa.setG w G bs' e') g bs e :=
  (h.far (grown_set w ⟨G, 0, none⟩ _) hG).far (grown_set _ ⟨G, 1, none⟩ _) hG
theorem octetReads_walk (a : Option Addr) (len cap : Nat) (zs0 : List Int) (a' : Option Addr) (len' cap' : Nat) (zs1 : List Int) (w : World) (h0 : IsRow .u8 w a len cap zs0) (h1 : IsRow .i8 w a' len' cap' zs1) :
    Calls Try.prog 8 #[.slice a len cap, .slice a' len' cap'] w fun e w' => e = .returned (.bool true) ∧ Below w.heap.size w w' := by
  have hB := h0.row.bytes
  have hO := h1.row
  generalize bytesOf (zs0.take len) = bs at *
  generalize zs1.take len' = ops at *
  clear h0 h1
  have hm : len ≤ 9223372036854775807 := by have := hB.small; unfold maxLen at this; omega
  have hm' : len' ≤ 9223372036854775807 := by have := hO.small; unfold maxLen at this; omega
  have LL := Lib.hid hB.length
  go_enter Try.func8, Try.ntmps8
  go_wp2_with fail
  refine (awake_any _).mono ?_; rintro e w1 ⟨rfl, hb1⟩
  have z1 := hb1.size
  have B1 : Below w.heap.size w w1 := by
    first
      | exact hb1
      | (refine Below.trans ?_ (hb1.mono (by simp <;> omega)); exact (by repeat (first | with_reducible exact Below.refl _ _ | with_reducible refine Below.drew ?_ | with_reducible refine Below.alloc ?_ (by (try simp) <;> omega) _ | with_reducible refine Below.setCell ?_ (by (try simp) <;> omega) _)))
  clear hb1
  have hB1 := hB.below B1
  have hO1 := hO.below B1
  by_cases hl : 600 < len
  · go_wp2_with fail
    go_ret
    exact ⟨rfl, B1⟩
  by_cases hl2 : 60 < len'
  · go_wp2_with fail
    all_goals (first | (go_ret; exact ⟨rfl, B1⟩) | (exfalso; omega))
  go_wp2_with fail
  refine (open_any a len cap bs w1 hB1 (by omega)).mono ?_; rintro e w2 ⟨g, rfl, hg, hR2, hb2⟩
  have cv := (hB1.below hb2).conv 27 9 5 Try.underlying27 Try.underlying5 Try.underlying9 (P := Try.prog)
  have hg0 : w.heap.size ≤ g := Nat.le_trans B1.size hg
  have hgl := hR2.lt
  have B2 : Below w.heap.size w w2 := B1.trans (hb2.mono B1.size)
  clear hb2
  have hopr : ∀ j, -128 ≤ ops.getD j 0 ∧ ops.getD j 0 ≤ 127 := range_i8' hO.wf
  have hbl : bs.length ≤ 600 := by have := LL.out; omega
  go_wp2_with fail
  go_loopw [8] (fun i wr => ∃ k : Nat, k ≤ len' ∧ i = .int .i64 k ∧ ∃ (bs : List UInt8) (e : Int), bs.length ≤ 600 ∧ Rd wr g bs e ∧ wr.cell? ⟨w2.heap.size, 0, none⟩ = some (.string ⟨bs.toArray⟩) ∧ wr.cell? ⟨w2.heap.size, 1, none⟩ = some (.int .i64 e) ∧ wr.frozen? ⟨w2.heap.size, 0, none⟩ = false ∧ wr.frozen? ⟨w2.heap.size, 1, none⟩ = false ∧ w2.heap.size < wr.heap.size ∧ Below w.heap.size w wr) (fun i wr => len' - (intOf i).toNat)
  case atStart => exact ⟨0, Nat.zero_le _, rfl, bs, 0, hbl, hR2.below ((Below.refl _ _).alloc (Nat.le_refl _) _), by simp [go_sem], by simp [go_sem], by simp [go_sem], by simp [go_sem], by simp, B2.alloc B2.size _⟩
  case round =>
    obtain ⟨k, hk, rfl, bs, e, hbl, hRd, cG0, cG1, fG0, fG1, hGs, hbr⟩ := hrel
    by_cases hlt : k < len'
    · rcases hO.at_ with h0 | ⟨b, off, rfl, hlb, hc⟩
      · omega
      have ck0 := hc k hlt
      have ck := (hbr.cell (p := ⟨b, off + k, none⟩) hlb).trans ck0
      have hop := hopr k
      generalize ops.getD k 0 = op at *
      clear hc
      by_cases h0 : op = 0
      · subst h0
        go_wp2_with fail
        refine (num_any g bs e wr hRd).mono ?_; rintro x w3 ⟨rfl, hR3, hG3⟩
        have hC3 := (GC.mk hGs cG0 cG1 fG0 fG1).grown hG3 hgl
        have hb3 : Below w.heap.size w w3 := hbr.grown hG3 hbr.size (fun k e => by cases e; exact hg0)
        clear cG0 cG1 fG0 fG1 hRd hG3
        have hln := rNum_le bs e
        obtain ⟨hG1, p0, p1, p2, p3⟩ := hC3
        have hRR := Lib.hid (rread_any bs e (by omega) w3)
        unfold rV at hRR
        have hul := rNum_lt bs e
        generalize rNum bs e = t at *
        obtain ⟨u, bs1, e1⟩ := t
        simp only at hln hR3 hRR hul ⊢
        go_wp2_with fail
        refine hRR.out.mono ?_; rintro x w4 ⟨rfl, hb4⟩
        have hC4 := (GC.mk hG1 p0 p1 p2 p3).below hb4
        have hR4 := hR3.below hb4
        have hB4 : Below w.heap.size w w4 := hb3.trans (hb4.mono hb3.size)
        have hR5 := hR4.setG (bs' := bs1) (e' := e1) hgl
        have hC5 := hC4.set (bs' := bs1) (e' := e1)
        obtain ⟨hG4, p0, p1, p2, p3⟩ := hC4
        have hgw : w.heap.size ≤ w2.heap.size := B2.size
        have hB5 : Below w.heap.size w (setG w4 w2.heap.size bs1 e1) := Below.setCell (Below.setCell hB4 hgw _) hgw _
        have hR6 : Rd ((((w4.setCell ⟨w2.heap.size, 0, none⟩ (.string ⟨bs1.toArray⟩)).setCell ⟨w2.heap.size, 1, none⟩ (.int .i64 e1)).alloc (.cells #[.string ⟨bs1.toArray⟩, .int .i64 e1] 52)).drew) g bs1 e1 := hR5.below (((Below.refl _ _).alloc (Nat.le_refl _) _).drew)
        have hC6 : GC ((((w4.setCell ⟨w2.heap.size, 0, none⟩ (.string ⟨bs1.toArray⟩)).setCell ⟨w2.heap.size, 1, none⟩ (.int .i64 e1)).alloc (.cells #[.string ⟨bs1.toArray⟩, .int .i64 e1] 52)).drew) w2.heap.size bs1 e1 := hC5.below (((Below.refl _ _).alloc (Nat.le_refl _) _).drew)
        have hB6 : Below w.heap.size w ((((w4.setCell ⟨w2.heap.size, 0, none⟩ (.string ⟨bs1.toArray⟩)).setCell ⟨w2.heap.size, 1, none⟩ (.int .i64 e1)).alloc (.cells #[.string ⟨bs1.toArray⟩, .int .i64 e1] 52)).drew) := (hB5.alloc hB5.size _).drew
        clear hR3 hb4 hb3 hRR hR4 hR5 hC5 hB4 hB5
        replace hR6 := Lib.hid hR6; replace hC6 := Lib.hid hC6; replace hB6 := Lib.hid hB6
        have hE := Lib.hid (rend_any bs1 e1)
        unfold rV at hE
        go_wp2_with fail
        clear p0 p1 p2 p3
        go_region_held3 (fun W => W.cell? ⟨w2.heap.size, 0, none⟩ = some (.string ⟨bs1.toArray⟩) ∧ W.cell? ⟨w2.heap.size, 1, none⟩ = some (.int .i64 e1))
          (first | exact ⟨hC6.out.c0, hC6.out.c1⟩ | exact ⟨hC7.c0, hC7.c1⟩)
          (first
            | (go_at_call 24; refine (left_any g bs1 e1 _ hR6.out).mono ?_; rintro x w' ⟨rfl, rfl⟩)
            | (go_at_call 25; refine (err_any g bs1 e1 _ hR6.out).mono ?_; rintro x w' ⟨rfl, rfl⟩)
            | (go_at_call 23; refine (end_any g bs1 e1 _ hR6.out).mono ?_; rintro x w' ⟨rfl, rfl⟩)
            | (go_at_call 31; refine (hE.out ((((w4.setCell ⟨w2.heap.size, 0, none⟩ (.string ⟨bs1.toArray⟩)).setCell ⟨w2.heap.size, 1, none⟩ (.int .i64 e1)).alloc (.cells #[.string ⟨bs1.toArray⟩, .int .i64 e1] 52)).drew)).mono ?_; rintro x w7 ⟨rfl, hb7⟩; have hC7 := hC6.out.below hb7; have hR7 := hR6.out.below hb7; have hB7 := hB6.out.trans (hb7.mono hB6.out.size)))
        all_goals go_wp2_with fail
        all_goals go_roundw
        case rel => exact ⟨k + 1, by omega, by go_num, bs1, e1, by omega, hR7, hC7.c0, hC7.c1, hC7.f0, hC7.f1, hC7.lt, hB7⟩
        case measure => simp [intOf] <;> omega
      by_cases h1 : op = 1
      · subst h1
        go_wp2_with fail
        refine (int_any g bs e wr hRd).mono ?_; rintro x w3 ⟨rfl, hR3, hG3⟩
        have hC3 := (GC.mk hGs cG0 cG1 fG0 fG1).grown hG3 hgl
        have hb3 : Below w.heap.size w w3 := hbr.grown hG3 hbr.size (fun k e => by cases e; exact hg0)
        clear cG0 cG1 fG0 fG1 hRd hG3
        have hln := rNum_le bs e
        obtain ⟨hG1, p0, p1, p2, p3⟩ := hC3
        have hRR := Lib.hid (rread_any bs e (by omega) w3)
        unfold rV at hRR
        have hul := rNum_lt bs e
        generalize rNum bs e = t at *
        obtain ⟨u, bs1, e1⟩ := t
        simp only at hln hR3 hRR hul ⊢
        go_wp2_with fail
        refine hRR.out.mono ?_; rintro x w4 ⟨rfl, hb4⟩
        have hC4 := (GC.mk hG1 p0 p1 p2 p3).below hb4
        have hR4 := hR3.below hb4
        have hB4 : Below w.heap.size w w4 := hb3.trans (hb4.mono hb3.size)
        have hR5 := hR4.setG (bs' := bs1) (e' := e1) hgl
        have hC5 := hC4.set (bs' := bs1) (e' := e1)
        obtain ⟨hG4, p0, p1, p2, p3⟩ := hC4
        have hgw : w.heap.size ≤ w2.heap.size := B2.size
        have hB5 : Below w.heap.size w (setG w4 w2.heap.size bs1 e1) := Below.setCell (Below.setCell hB4 hgw _) hgw _
        have hR6 : Rd ((((w4.setCell ⟨w2.heap.size, 0, none⟩ (.string ⟨bs1.toArray⟩)).setCell ⟨w2.heap.size, 1, none⟩ (.int .i64 e1)).alloc (.cells #[.string ⟨bs1.toArray⟩, .int .i64 e1] 52)).drew) g bs1 e1 := hR5.below (((Below.refl _ _).alloc (Nat.le_refl _) _).drew)
        have hC6 : GC ((((w4.setCell ⟨w2.heap.size, 0, none⟩ (.string ⟨bs1.toArray⟩)).setCell ⟨w2.heap.size, 1, none⟩ (.int .i64 e1)).alloc (.cells #[.string ⟨bs1.toArray⟩, .int .i64 e1] 52)).drew) w2.heap.size bs1 e1 := hC5.below (((Below.refl _ _).alloc (Nat.le_refl _) _).drew)
        have hB6 : Below w.heap.size w ((((w4.setCell ⟨w2.heap.size, 0, none⟩ (.string ⟨bs1.toArray⟩)).setCell ⟨w2.heap.size, 1, none⟩ (.int .i64 e1)).alloc (.cells #[.string ⟨bs1.toArray⟩, .int .i64 e1] 52)).drew) := (hB5.alloc hB5.size _).drew
        clear hR3 hb4 hb3 hRR hR4 hR5 hC5 hB4 hB5
        replace hR6 := Lib.hid hR6; replace hC6 := Lib.hid hC6; replace hB6 := Lib.hid hB6
        have hE := Lib.hid (rend_any bs1 e1)
        unfold rV at hE
        go_wp2_with fail
        refine (rplain_any (u : Int) (by omega) (by omega) _).mono ?_; rintro x w' ⟨rfl, rfl⟩
        go_wp2_with fail
        clear p0 p1 p2 p3
        go_region_held3 (fun W => W.cell? ⟨w2.heap.size, 0, none⟩ = some (.string ⟨bs1.toArray⟩) ∧ W.cell? ⟨w2.heap.size, 1, none⟩ = some (.int .i64 e1))
          (first | exact ⟨hC6.out.c0, hC6.out.c1⟩ | exact ⟨hC7.c0, hC7.c1⟩)
          (first
            | (go_at_call 24; refine (left_any g bs1 e1 _ hR6.out).mono ?_; rintro x w' ⟨rfl, rfl⟩)
            | (go_at_call 25; refine (err_any g bs1 e1 _ hR6.out).mono ?_; rintro x w' ⟨rfl, rfl⟩)
            | (go_at_call 23; refine (end_any g bs1 e1 _ hR6.out).mono ?_; rintro x w' ⟨rfl, rfl⟩)
            | (go_at_call 31; refine (hE.out ((((w4.setCell ⟨w2.heap.size, 0, none⟩ (.string ⟨bs1.toArray⟩)).setCell ⟨w2.heap.size, 1, none⟩ (.int .i64 e1)).alloc (.cells #[.string ⟨bs1.toArray⟩, .int .i64 e1] 52)).drew)).mono ?_; rintro x w7 ⟨rfl, hb7⟩; have hC7 := hC6.out.below hb7; have hR7 := hR6.out.below hb7; have hB7 := hB6.out.trans (hb7.mono hB6.out.size)))
        all_goals go_wp2_with fail
        all_goals go_roundw
        case rel => exact ⟨k + 1, by omega, by go_num, bs1, e1, by omega, hR7, hC7.c0, hC7.c1, hC7.f0, hC7.f1, hC7.lt, hB7⟩
        case measure => simp [intOf] <;> omega
      by_cases h2 : op = 2
      · subst h2
        go_wp2_with fail
        refine (moment_any g bs e wr hRd).mono ?_; rintro x w3 ⟨rfl, hR3, hG3⟩
        have hC3 := (GC.mk hGs cG0 cG1 fG0 fG1).grown hG3 hgl
        have hb3 : Below w.heap.size w w3 := hbr.grown hG3 hbr.size (fun k e => by cases e; exact hg0)
        clear cG0 cG1 fG0 fG1 hRd hG3
        have hln := rMom_le bs e
        obtain ⟨hG1, p0, p1, p2, p3⟩ := hC3
        have hRR := Lib.hid (rmoment_any bs e (by omega) w3)
        unfold rV at hRR
        generalize rMom bs e = t at *
        obtain ⟨u, bs1, e1⟩ := t
        simp only at hln hR3 hRR ⊢
        go_wp2_with fail
        refine hRR.out.mono ?_; rintro x w4 ⟨rfl, hb4⟩
        have hC4 := (GC.mk hG1 p0 p1 p2 p3).below hb4
        have hR4 := hR3.below hb4
        have hB4 : Below w.heap.size w w4 := hb3.trans (hb4.mono hb3.size)
        have hR5 := hR4.setG (bs' := bs1) (e' := e1) hgl
        have hC5 := hC4.set (bs' := bs1) (e' := e1)
        obtain ⟨hG4, p0, p1, p2, p3⟩ := hC4
        have hgw : w.heap.size ≤ w2.heap.size := B2.size
        have hB5 : Below w.heap.size w (setG w4 w2.heap.size bs1 e1) := Below.setCell (Below.setCell hB4 hgw _) hgw _
        have hR6 : Rd ((((w4.setCell ⟨w2.heap.size, 0, none⟩ (.string ⟨bs1.toArray⟩)).setCell ⟨w2.heap.size, 1, none⟩ (.int .i64 e1)).alloc (.cells #[.string ⟨bs1.toArray⟩, .int .i64 e1] 52)).drew) g bs1 e1 := hR5.below (((Below.refl _ _).alloc (Nat.le_refl _) _).drew)
        have hC6 : GC ((((w4.setCell ⟨w2.heap.size, 0, none⟩ (.string ⟨bs1.toArray⟩)).setCell ⟨w2.heap.size, 1, none⟩ (.int .i64 e1)).alloc (.cells #[.string ⟨bs1.toArray⟩, .int .i64 e1] 52)).drew) w2.heap.size bs1 e1 := hC5.below (((Below.refl _ _).alloc (Nat.le_refl _) _).drew)
        have hB6 : Below w.heap.size w ((((w4.setCell ⟨w2.heap.size, 0, none⟩ (.string ⟨bs1.toArray⟩)).setCell ⟨w2.heap.size, 1, none⟩ (.int .i64 e1)).alloc (.cells #[.string ⟨bs1.toArray⟩, .int .i64 e1] 52)).drew) := (hB5.alloc hB5.size _).drew
        clear hR3 hb4 hb3 hRR hR4 hR5 hC5 hB4 hB5
        replace hR6 := Lib.hid hR6; replace hC6 := Lib.hid hC6; replace hB6 := Lib.hid hB6
        have hE := Lib.hid (rend_any bs1 e1)
        unfold rV at hE
        go_wp2_with fail
        clear p0 p1 p2 p3
        go_region_held3 (fun W => W.cell? ⟨w2.heap.size, 0, none⟩ = some (.string ⟨bs1.toArray⟩) ∧ W.cell? ⟨w2.heap.size, 1, none⟩ = some (.int .i64 e1))
          (first | exact ⟨hC6.out.c0, hC6.out.c1⟩ | exact ⟨hC7.c0, hC7.c1⟩)
          (first
            | (go_at_call 24; refine (left_any g bs1 e1 _ hR6.out).mono ?_; rintro x w' ⟨rfl, rfl⟩)
            | (go_at_call 25; refine (err_any g bs1 e1 _ hR6.out).mono ?_; rintro x w' ⟨rfl, rfl⟩)
            | (go_at_call 23; refine (end_any g bs1 e1 _ hR6.out).mono ?_; rintro x w' ⟨rfl, rfl⟩)
            | (go_at_call 31; refine (hE.out ((((w4.setCell ⟨w2.heap.size, 0, none⟩ (.string ⟨bs1.toArray⟩)).setCell ⟨w2.heap.size, 1, none⟩ (.int .i64 e1)).alloc (.cells #[.string ⟨bs1.toArray⟩, .int .i64 e1] 52)).drew)).mono ?_; rintro x w7 ⟨rfl, hb7⟩; have hC7 := hC6.out.below hb7; have hR7 := hR6.out.below hb7; have hB7 := hB6.out.trans (hb7.mono hB6.out.size)))
        all_goals go_wp2_with fail
        all_goals go_roundw
        case rel => exact ⟨k + 1, by omega, by go_num, bs1, e1, by omega, hR7, hC7.c0, hC7.c1, hC7.f0, hC7.f1, hC7.lt, hB7⟩
        case measure => simp [intOf] <;> omega
      have hk0 : (0 : Int) ≤ (k : Int) := by omega
      have hk1 : (k : Int) < (len' : Int) := by omega
      have e0 : (op == 0) = false := by rw [beq_eq_false_iff_ne]; exact h0
      have e1' : (op == 1) = false := by rw [beq_eq_false_iff_ne]; exact h1
      have e2' : (op == 2) = false := by rw [beq_eq_false_iff_ne]; exact h2
      clear h0 h1 h2
      go_wp2_with fail
      refine (text_any g bs e (op - 4) (by omega) wr hRd).mono ?_; rintro x w3 ⟨rfl, hR3, hG3⟩
      have hC3 := (GC.mk hGs cG0 cG1 fG0 fG1).grown hG3 hgl
      have hb3 : Below w.heap.size w w3 := hbr.grown hG3 hbr.size (fun k e => by cases e; exact hg0)
      clear cG0 cG1 fG0 fG1 hRd hG3
      have hln := rText_le bs e (op - 4)
      obtain ⟨hG1, p0, p1, p2, p3⟩ := hC3
      have hRR := Lib.hid (fun W => rtext_any bs e (op - 4) (by omega) (by omega) W)
      unfold rV at hRR
      generalize rText bs e (op - 4) = t at *
      obtain ⟨u, bs1, e1⟩ := t
      simp only at hln hR3 hRR ⊢
      have hw0 : IntKind.i64.wrap op = op := IntWalk.i64_in _ (by omega)
      have hw4 : IntKind.i64.wrap (op - 4) = op - 4 := IntWalk.i64_in _ (by omega)
      have D : ∀ W, Below w3.heap.size w3 W → W.cell? ⟨w2.heap.size, 0, none⟩ = some (.string ⟨bs.toArray⟩) ∧ W.cell? ⟨w2.heap.size, 1, none⟩ = some (.int .i64 e) ∧ W.cell? ⟨b, off + k, none⟩ = some (.int .i8 op) := fun W h => ⟨(h.cell (p := ⟨w2.heap.size, 0, none⟩) hG1).trans p0, (h.cell (p := ⟨w2.heap.size, 1, none⟩) hG1).trans p1, (h.cell (p := ⟨b, off + k, none⟩) (Nat.lt_of_lt_of_le hlb hb3.size)).trans ((hb3.cell (p := ⟨b, off + k, none⟩) hlb).trans ck0)⟩
      replace D := Lib.hid D
      have D0 : Below w3.heap.size w3 w3.drew := (Below.refl _ _).drew
      go_wp2_with fail
      refine wp_region_noPanic ?_
      refine wp_region_held_drew (S := fun W => W.cell? ⟨w2.heap.size, 0, none⟩ = some (.string ⟨bs.toArray⟩) ∧ W.cell? ⟨w2.heap.size, 1, none⟩ = some (.int .i64 e) ∧ W.cell? ⟨b, off + k, none⟩ = some (.int .i8 op)) (by kernel_rfl) (D.out _ D0) (fun hHeld => ?_)
      refine wpAnyH_take (i := 0) (oi := ⟨some 53, _, _, _, _, _⟩) (v := ?_) rfl (by kernel_rfl) (by kernel_rfl) (by kernel_rfl) (fun _ _ _ h => h) (Or.inl ⟨by rfl, ?hyt0⟩) (by assumption) ?_; (case hyt0 => ((intro W hSW; (try dsimp only at hSW); obtain ⟨hSW, hSW2, hSW3⟩ := hSW; go_simp); (all_goals with_reducible rfl))); (try simp only [Act.put, List.setIfInBounds_toArray, List.set_cons_zero, List.set_cons_succ])
      refine wpAnyH_take (i := 1) (oi := ⟨some 54, _, _, _, _, _⟩) (v := ?_) rfl (by kernel_rfl) (by kernel_rfl) (by kernel_rfl) (fun _ _ _ h => h) (Or.inl ⟨by rfl, ?hyt1⟩) (by assumption) ?_; (case hyt1 => ((intro W hSW; (try dsimp only at hSW); obtain ⟨hSW, hSW2, hSW3⟩ := hSW; go_simp); (all_goals with_reducible rfl))); (try simp only [Act.put, List.setIfInBounds_toArray, List.set_cons_zero, List.set_cons_succ])
      refine wpAnyH_take (i := 2) (oi := ⟨some 55, _, _, _, _, _⟩) (v := ?_) rfl (by kernel_rfl) (by kernel_rfl) (by kernel_rfl) (fun _ _ _ h => h) (Or.inl ⟨by rfl, ?hyt2⟩) (by assumption) ?_; (case hyt2 => ((intro W hSW; (try dsimp only at hSW); obtain ⟨hSW, hSW2, hSW3⟩ := hSW; go_simp); (all_goals with_reducible rfl))); (try simp only [Act.put, List.setIfInBounds_toArray, List.set_cons_zero, List.set_cons_succ])
      refine wpAnyH_take (i := 3) (oi := ⟨some 56, _, _, _, _, _⟩) (v := ?_) rfl (by kernel_rfl) (by kernel_rfl) (by kernel_rfl) (fun _ _ _ h => h) (Or.inl ⟨by rfl, ?hyt3⟩) (by assumption) ?_; (case hyt3 => ((intro W hSW; (try dsimp only at hSW); obtain ⟨hSW, hSW2, hSW3⟩ := hSW; go_simp); (all_goals with_reducible rfl))); (try simp only [Act.put, List.setIfInBounds_toArray, List.set_cons_zero, List.set_cons_succ])
      refine wpAnyH_take (i := 4) (oi := ⟨some 57, _, _, _, _, _⟩) (v := ?_) rfl (by kernel_rfl) (by kernel_rfl) (by kernel_rfl) (fun _ _ _ h => h) (Or.inl ⟨by rfl, ?hyt4⟩) (by assumption) ?_; (case hyt4 => ((intro W hSW; (try dsimp only at hSW); obtain ⟨hSW, hSW2, hSW3⟩ := hSW; go_simp); (all_goals with_reducible rfl))); (try simp only [Act.put, List.setIfInBounds_toArray, List.set_cons_zero, List.set_cons_succ])
      refine wpAnyH_take (i := 5) (oi := ⟨some 58, _, _, _, _, _⟩) (v := ?_) rfl (by kernel_rfl) (by kernel_rfl) (by kernel_rfl) (fun _ _ _ h => h) (Or.inl ⟨by rfl, ?hyt5⟩) (by assumption) ?_; (case hyt5 => ((intro W hSW; (try dsimp only at hSW); obtain ⟨hSW, hSW2, hSW3⟩ := hSW; go_simp); (all_goals with_reducible rfl))); (try simp only [Act.put, List.setIfInBounds_toArray, List.set_cons_zero, List.set_cons_succ])
      refine wpAnyH_take (i := 6) (oi := ⟨some 59, _, _, _, _, _⟩) (v := ?_) rfl (by kernel_rfl) (by kernel_rfl) (by kernel_rfl) (fun _ _ _ h => h) (Or.inl ⟨by rfl, ?hyt6⟩) (by assumption) ?_; (case hyt6 => ((intro W hSW; (try dsimp only at hSW); obtain ⟨hSW, hSW2, hSW3⟩ := hSW; go_simp); (all_goals with_reducible rfl))); (try simp only [Act.put, List.setIfInBounds_toArray, List.set_cons_zero, List.set_cons_succ])
      refine wpAnyH_ready (rs := [7, 11]) (by kernel_rfl) (by simp) ?_
      refine AllReadyH.cons (o := ⟨some 60, _, _, _, _, _⟩) rfl (fun K hK => ?_) ?_
      · go_simp
        go_at_call 30
        refine (hRR.out _).mono ?_; rintro x w4 ⟨rfl, hb4⟩
        have D4 : Below w3.heap.size w3 w4 := D0.trans hb4
        (try go_simp)
        refine hK.out _ _ (D.out _ D4) (fun hHeld2 => ?_)
        clear hK K hHeld
        (try simp only [Act.put, List.setIfInBounds_toArray, List.set_cons_zero, List.set_cons_succ])
        refine wpAnyH_take (i := 8) (oi := ⟨some 52, _, _, _, _, _⟩) (v := ?_) rfl (by kernel_rfl) (by kernel_rfl) (by kernel_rfl) (fun _ _ _ h => h) (Or.inl ⟨by rfl, ?hyt8⟩) (by assumption) ?_; (case hyt8 => ((intro W hSW; (try dsimp only at hSW); obtain ⟨hSW, hSW2, hSW3⟩ := hSW; go_simp); (all_goals with_reducible rfl))); (try simp only [Act.put, List.setIfInBounds_toArray, List.set_cons_zero, List.set_cons_succ])
        refine wpAnyH_take (i := 9) (oi := ⟨some 61, _, _, _, _, _⟩) (v := ?_) rfl (by kernel_rfl) (by kernel_rfl) (by kernel_rfl) (fun _ _ _ h => h) (Or.inl ⟨by rfl, ?hyt9⟩) (by assumption) ?_; (case hyt9 => ((intro W hSW; (try dsimp only at hSW); obtain ⟨hSW, hSW2, hSW3⟩ := hSW; go_simp); (all_goals with_reducible rfl))); (try simp only [Act.put, List.setIfInBounds_toArray, List.set_cons_zero, List.set_cons_succ])
        refine wpAnyH_take (i := 10) (oi := ⟨some 62, _, _, _, _, _⟩) (v := ?_) rfl (by kernel_rfl) (by kernel_rfl) (by kernel_rfl) (fun _ _ _ h => h) (Or.inl ⟨by rfl, ?hyt10⟩) (by assumption) ?_; (case hyt10 => ((intro W hSW; (try dsimp only at hSW); obtain ⟨hSW, hSW2, hSW3⟩ := hSW; go_simp); (all_goals with_reducible rfl))); (try simp only [Act.put, List.setIfInBounds_toArray, List.set_cons_zero, List.set_cons_succ])
        refine wpAnyH_ready (rs := [11]) (by kernel_rfl) (by simp) ?_; refine AllReadyH.cons (o := ⟨some 20, _, _, _, _, _⟩) rfl (fun K hK => ?_) AllReadyH.nil; go_simp
        refine hK.out _ _ (D.out _ (Below.alloc D4 D4.size _)) (fun hHeld3 => ?_)
        clear hK K hHeld2
        (try simp only [Act.put, List.setIfInBounds_toArray, List.set_cons_zero, List.set_cons_succ])
        refine wpAnyH_take (i := 12) (oi := ⟨some 19, _, _, _, _, _⟩) (v := ?_) rfl (by kernel_rfl) (by kernel_rfl) (by kernel_rfl) (fun _ _ _ h => h) (Or.inl ⟨by rfl, ?hyt12⟩) (by assumption) ?_; (case hyt12 => ((intro W hSW; (try dsimp only at hSW); obtain ⟨hSW, hSW2, hSW3⟩ := hSW; go_simp); (all_goals with_reducible rfl))); (try simp only [Act.put, List.setIfInBounds_toArray, List.set_cons_zero, List.set_cons_succ])
        refine wpAnyH_ready (rs := [13]) (by kernel_rfl) (by simp) ?_; refine AllReadyH.cons (o := ⟨none, _, _, _, _, _⟩) rfl (fun K hK => ?_) AllReadyH.nil; go_simp
        have hC5 := ((GC.mk hG1 p0 p1 p2 p3).below D4).below ((Below.refl _ _).alloc (Nat.le_refl _) (.cells #[.string ⟨bs1.toArray⟩, .int .i64 e1] 52))
        have hR5 := (hR3.below D4).below ((Below.refl _ _).alloc (Nat.le_refl _) (.cells #[.string ⟨bs1.toArray⟩, .int .i64 e1] 52))
        have hB5 := (hb3.trans (D4.mono hb3.size)).alloc (hb3.trans (D4.mono hb3.size)).size (.cells #[.string ⟨bs1.toArray⟩, .int .i64 e1] 52)
        have s0 : (w4.alloc (.cells #[.string ⟨bs1.toArray⟩, .int .i64 e1] 52)).cell? ⟨w4.heap.size, 0, none⟩ = some (.string ⟨bs1.toArray⟩) := by simp [go_sem]
        have s1 : (w4.alloc (.cells #[.string ⟨bs1.toArray⟩, .int .i64 e1] 52)).cell? ⟨w4.heap.size, 1, none⟩ = some (.int .i64 e1) := by simp [go_sem]
        have D6 := Below.alloc D4 D4.size (.cells #[.string ⟨bs1.toArray⟩, .int .i64 e1] 52)
        refine hK.out _ _ (D.out _ D6) (fun hHeld4 => ?_)
        clear hK K hHeld3
        refine wpAnyH_done (by kernel_rfl) ?_ _
        refine NoPanic.normal ?_
        clear hHeld4 D6
        generalize w4.alloc (.cells #[.string ⟨bs1.toArray⟩, .int .i64 e1] 52) = W5 at *
        clear D4 hb4
        clear D D0 hRR p0 p1 p2 p3; have hR6 : Rd (((W5.setCell ⟨w2.heap.size, 0, none⟩ (.string ⟨bs1.toArray⟩)).setCell ⟨w2.heap.size, 1, none⟩ (.int .i64 e1)).drew) g bs1 e1 := (hR5.setG (bs' := bs1) (e' := e1) hgl).below ((Below.refl _ _).drew); have hC6 : GC (((W5.setCell ⟨w2.heap.size, 0, none⟩ (.string ⟨bs1.toArray⟩)).setCell ⟨w2.heap.size, 1, none⟩ (.int .i64 e1)).drew) w2.heap.size bs1 e1 := (hC5.set (bs' := bs1) (e' := e1)).below ((Below.refl _ _).drew); have hgw : w.heap.size ≤ w2.heap.size := B2.size; have hB6 : Below w.heap.size w (((W5.setCell ⟨w2.heap.size, 0, none⟩ (.string ⟨bs1.toArray⟩)).setCell ⟨w2.heap.size, 1, none⟩ (.int .i64 e1)).drew) := (Below.setCell (Below.setCell hB5 hgw _) hgw _).drew; obtain ⟨hG5, p0, p1, p2, p3⟩ := hC5; clear hR5 hB5; replace hR6 := Lib.hid hR6; replace hC6 := Lib.hid hC6; replace hB6 := Lib.hid hB6; have hE := Lib.hid (rend_any bs1 e1); unfold rV at hE; go_wp2_with fail; clear p0 p1 p2 p3; go_region_held3 (fun W => W.cell? ⟨w2.heap.size, 0, none⟩ = some (.string ⟨bs1.toArray⟩) ∧ W.cell? ⟨w2.heap.size, 1, none⟩ = some (.int .i64 e1)) (first | exact ⟨hC6.out.c0, hC6.out.c1⟩ | exact ⟨hC7.c0, hC7.c1⟩) (first | (go_at_call 24; refine (left_any g bs1 e1 _ hR6.out).mono ?_; rintro x w' ⟨rfl, rfl⟩) | (go_at_call 25; refine (err_any g bs1 e1 _ hR6.out).mono ?_; rintro x w' ⟨rfl, rfl⟩) | (go_at_call 23; refine (end_any g bs1 e1 _ hR6.out).mono ?_; rintro x w' ⟨rfl, rfl⟩) | (go_at_call 31; refine (hE.out (((W5.setCell ⟨w2.heap.size, 0, none⟩ (.string ⟨bs1.toArray⟩)).setCell ⟨w2.heap.size, 1, none⟩ (.int .i64 e1)).drew)).mono ?_; rintro x w7 ⟨rfl, hb7⟩; have hC7 := hC6.out.below hb7; have hR7 := hR6.out.below hb7; have hB7 := hB6.out.trans (hb7.mono hB6.out.size))); (all_goals go_wp2_with fail); (all_goals go_roundw); (case rel => exact ⟨k + 1, by omega, by go_num, bs1, e1, by omega, hR7, hC7.c0, hC7.c1, hC7.f0, hC7.f1, hC7.lt, hB7⟩); (case measure => simp [intOf] <;> omega)
      refine AllReadyH.cons (o := ⟨some 20, _, _, _, _, _⟩) rfl (fun K hK => ?_) AllReadyH.nil
      go_simp
      have D1 : Below w3.heap.size w3 ((w3.alloc (.cells #[.string ⟨#[]⟩, .int .i64 0] 52)).drew) := ((Below.refl _ _).alloc (Nat.le_refl _) _).drew
      refine hK.out _ _ (D.out _ D1) (fun hHeld2 => ?_)
      clear hK K hHeld
      (try simp only [Act.put, List.setIfInBounds_toArray, List.set_cons_zero, List.set_cons_succ])
      refine wpAnyH_ready (rs := [7]) (by kernel_rfl) (by simp) ?_; refine AllReadyH.cons (o := ⟨some 60, _, _, _, _, _⟩) rfl (fun K hK => ?_) AllReadyH.nil; go_simp
      go_at_call 30
      refine (hRR.out _).mono ?_; rintro x w4 ⟨rfl, hb4⟩
      have D4 : Below w3.heap.size w3 w4 := D1.trans (hb4.mono D1.size)
      have q0 : w4.cell? ⟨w3.heap.size, 0, none⟩ = some (.string ⟨#[]⟩) := ((bcell hb4).1 w3.heap.size 0 (by simp)).trans (by simp [go_sem])
      have q1 : w4.cell? ⟨w3.heap.size, 1, none⟩ = some (.int .i64 0) := ((bcell hb4).1 w3.heap.size 1 (by simp)).trans (by simp [go_sem])
      have q2 : w4.frozen? ⟨w3.heap.size, 0, none⟩ = false := ((bcell hb4).2 w3.heap.size 0 (by simp)).trans (by simp [go_sem])
      have q3 : w4.frozen? ⟨w3.heap.size, 1, none⟩ = false := ((bcell hb4).2 w3.heap.size 1 (by simp)).trans (by simp [go_sem])
      (try go_simp)
      refine hK.out _ _ (D.out _ D4) (fun hHeld3 => ?_)
      clear hK K hHeld2
      (try simp only [Act.put, List.setIfInBounds_toArray, List.set_cons_zero, List.set_cons_succ])
      refine wpAnyH_take (i := 8) (oi := ⟨some 52, _, _, _, _, _⟩) (v := ?_) rfl (by kernel_rfl) (by kernel_rfl) (by kernel_rfl) (fun _ _ _ h => h) (Or.inl ⟨by rfl, ?hyt8⟩) (by assumption) ?_; (case hyt8 => ((intro W hSW; (try dsimp only at hSW); obtain ⟨hSW, hSW2, hSW3⟩ := hSW; go_simp); (all_goals with_reducible rfl))); (try simp only [Act.put, List.setIfInBounds_toArray, List.set_cons_zero, List.set_cons_succ])
      refine wpAnyH_take (i := 9) (oi := ⟨some 61, _, _, _, _, _⟩) (v := ?_) rfl (by kernel_rfl) (by kernel_rfl) (by kernel_rfl) (fun _ _ _ h => h) (Or.inl ⟨by rfl, ?hyt9⟩) (by assumption) ?_; (case hyt9 => ((intro W hSW; (try dsimp only at hSW); obtain ⟨hSW, hSW2, hSW3⟩ := hSW; go_simp); (all_goals with_reducible rfl))); (try simp only [Act.put, List.setIfInBounds_toArray, List.set_cons_zero, List.set_cons_succ])
      refine wpAnyH_take (i := 10) (oi := ⟨some 62, _, _, _, _, _⟩) (v := ?_) rfl (by kernel_rfl) (by kernel_rfl) (by kernel_rfl) (fun _ _ _ h => h) (Or.inl ⟨by rfl, ?hyt10⟩) (by assumption) ?_; (case hyt10 => ((intro W hSW; (try dsimp only at hSW); obtain ⟨hSW, hSW2, hSW3⟩ := hSW; go_simp); (all_goals with_reducible rfl))); (try simp only [Act.put, List.setIfInBounds_toArray, List.set_cons_zero, List.set_cons_succ])
      refine wpAnyH_take (i := 12) (oi := ⟨some 19, _, _, _, _, _⟩) (v := ?_) rfl (by kernel_rfl) (by kernel_rfl) (by kernel_rfl) (fun _ _ _ h => h) (Or.inl ⟨by rfl, ?hyt12⟩) (by assumption) ?_; (case hyt12 => ((intro W hSW; (try dsimp only at hSW); obtain ⟨hSW, hSW2, hSW3⟩ := hSW; go_simp); (all_goals with_reducible rfl))); (try simp only [Act.put, List.setIfInBounds_toArray, List.set_cons_zero, List.set_cons_succ])
      refine wpAnyH_ready (rs := [13]) (by kernel_rfl) (by simp) ?_; refine AllReadyH.cons (o := ⟨none, _, _, _, _, _⟩) rfl (fun K hK => ?_) AllReadyH.nil; go_simp
      have GC4 := (GC.mk hG1 p0 p1 p2 p3).below D4
      have hn2 : (w2.heap.size : Nat) ≠ w3.heap.size := by omega
      have hC5 : GC ((w4.setCell ⟨w3.heap.size, 0, none⟩ (.string ⟨bs1.toArray⟩)).setCell ⟨w3.heap.size, 1, none⟩ (.int .i64 e1)) w2.heap.size bs e := by
        obtain ⟨x0, x1, x2, x3, x4⟩ := GC4
        exact ⟨by simpa using x0, by simp [go_sem, x1, hn2], by simp [go_sem, x2, hn2], by simp [go_sem, x3, hn2], by simp [go_sem, x4, hn2]⟩
      have hR5 : Rd ((w4.setCell ⟨w3.heap.size, 0, none⟩ (.string ⟨bs1.toArray⟩)).setCell ⟨w3.heap.size, 1, none⟩ (.int .i64 e1)) g bs1 e1 := ((hR3.below D4).far (grown_set w4 ⟨w3.heap.size, 0, none⟩ _) (Nat.lt_trans hgl hG1)).far (grown_set _ ⟨w3.heap.size, 1, none⟩ _) (Nat.lt_trans hgl hG1)
      have hB5 : Below w.heap.size w ((w4.setCell ⟨w3.heap.size, 0, none⟩ (.string ⟨bs1.toArray⟩)).setCell ⟨w3.heap.size, 1, none⟩ (.int .i64 e1)) := ((hb3.trans (D4.mono hb3.size)).setCell hb3.size _).setCell hb3.size _
      have s0 : ((w4.setCell ⟨w3.heap.size, 0, none⟩ (.string ⟨bs1.toArray⟩)).setCell ⟨w3.heap.size, 1, none⟩ (.int .i64 e1)).cell? ⟨w3.heap.size, 0, none⟩ = some (.string ⟨bs1.toArray⟩) := by simp [go_sem, q0, q1]
      have s1 : ((w4.setCell ⟨w3.heap.size, 0, none⟩ (.string ⟨bs1.toArray⟩)).setCell ⟨w3.heap.size, 1, none⟩ (.int .i64 e1)).cell? ⟨w3.heap.size, 1, none⟩ = some (.int .i64 e1) := by simp [go_sem, q0, q1]
      have D6 : Below w3.heap.size w3 ((w4.setCell ⟨w3.heap.size, 0, none⟩ (.string ⟨bs1.toArray⟩)).setCell ⟨w3.heap.size, 1, none⟩ (.int .i64 e1)) := (D4.setCell (Nat.le_refl _) _).setCell (Nat.le_refl _) _
      refine hK.out _ _ (D.out _ D6) (fun hHeld4 => ?_)
      clear hK K hHeld3
      refine wpAnyH_done (by kernel_rfl) ?_ _
      refine NoPanic.normal ?_
      clear hHeld4 D6 q0 q1 q2 q3 D1 GC4
      generalize (w4.setCell ⟨w3.heap.size, 0, none⟩ (.string ⟨bs1.toArray⟩)).setCell ⟨w3.heap.size, 1, none⟩ (.int .i64 e1) = W5 at *
      clear D4 hb4
      clear D D0 hRR p0 p1 p2 p3; have hR6 : Rd (((W5.setCell ⟨w2.heap.size, 0, none⟩ (.string ⟨bs1.toArray⟩)).setCell ⟨w2.heap.size, 1, none⟩ (.int .i64 e1)).drew) g bs1 e1 := (hR5.setG (bs' := bs1) (e' := e1) hgl).below ((Below.refl _ _).drew); have hC6 : GC (((W5.setCell ⟨w2.heap.size, 0, none⟩ (.string ⟨bs1.toArray⟩)).setCell ⟨w2.heap.size, 1, none⟩ (.int .i64 e1)).drew) w2.heap.size bs1 e1 := (hC5.set (bs' := bs1) (e' := e1)).below ((Below.refl _ _).drew); have hgw : w.heap.size ≤ w2.heap.size := B2.size; have hB6 : Below w.heap.size w (((W5.setCell ⟨w2.heap.size, 0, none⟩ (.string ⟨bs1.toArray⟩)).setCell ⟨w2.heap.size, 1, none⟩ (.int .i64 e1)).drew) := (Below.setCell (Below.setCell hB5 hgw _) hgw _).drew; obtain ⟨hG5, p0, p1, p2, p3⟩ := hC5; clear hR5 hB5; replace hR6 := Lib.hid hR6; replace hC6 := Lib.hid hC6; replace hB6 := Lib.hid hB6; have hE := Lib.hid (rend_any bs1 e1); unfold rV at hE; go_wp2_with fail; clear p0 p1 p2 p3; go_region_held3 (fun W => W.cell? ⟨w2.heap.size, 0, none⟩ = some (.string ⟨bs1.toArray⟩) ∧ W.cell? ⟨w2.heap.size, 1, none⟩ = some (.int .i64 e1)) (first | exact ⟨hC6.out.c0, hC6.out.c1⟩ | exact ⟨hC7.c0, hC7.c1⟩) (first | (go_at_call 24; refine (left_any g bs1 e1 _ hR6.out).mono ?_; rintro x w' ⟨rfl, rfl⟩) | (go_at_call 25; refine (err_any g bs1 e1 _ hR6.out).mono ?_; rintro x w' ⟨rfl, rfl⟩) | (go_at_call 23; refine (end_any g bs1 e1 _ hR6.out).mono ?_; rintro x w' ⟨rfl, rfl⟩) | (go_at_call 31; refine (hE.out (((W5.setCell ⟨w2.heap.size, 0, none⟩ (.string ⟨bs1.toArray⟩)).setCell ⟨w2.heap.size, 1, none⟩ (.int .i64 e1)).drew)).mono ?_; rintro x w7 ⟨rfl, hb7⟩; have hC7 := hC6.out.below hb7; have hR7 := hR6.out.below hb7; have hB7 := hB6.out.trans (hb7.mono hB6.out.size))); (all_goals go_wp2_with fail); (all_goals go_roundw); (case rel => exact ⟨k + 1, by omega, by go_num, bs1, e1, by omega, hR7, hC7.c0, hC7.c1, hC7.f0, hC7.f1, hC7.lt, hB7⟩); (case measure => simp [intOf] <;> omega)
    · obtain rfl : k = len' := by omega
      clear cG0 cG1 fG0 fG1 hRd
      go_wp2_with fail
      refine (num_none wr).mono ?_; rintro x w' ⟨rfl, rfl⟩
      go_wp2_with fail
      refine (int_none wr).mono ?_; rintro x w' ⟨rfl, rfl⟩
      go_wp2_with fail
      refine (moment_none wr).mono ?_; rintro x w' ⟨rfl, rfl⟩
      go_wp2_with fail
      refine (text_none 3 wr).mono ?_; rintro x w' ⟨rfl, rfl⟩
      go_wp2_with fail
      refine (left_none wr).mono ?_; rintro x w' ⟨rfl, rfl⟩
      go_wp2_with fail
      refine (err_none wr).mono ?_; rintro x w' ⟨rfl, rfl⟩
      go_wp2_with fail
      refine (end_none wr).mono ?_; rintro x w' ⟨rfl, rfl⟩
      go_wp2_with fail
      go_ret
      exact ⟨rfl, hbr⟩
end Go.Proofs.Ytdondjodonmebaa
