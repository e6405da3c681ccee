/- lookoutref04.pass's contract. -/
import Derived.Test.YtdmpopdacbdnlaaDoorFrRTold
import Derived.Test.YtdmpopdacbdnlaaDoorFrG
namespace Go.Proofs.YtdmpopdacbdnlaaDoor
open Go.RowKit
set_option linter.unusedVariables false
set_option linter.unusedSimpArgs false
set_option maxHeartbeats 4000000
set_option maxRecDepth 20000
theorem BoxD.setR {w : World} {B : Nat} {r : Value} {s : Int} {v : Value} {o : Bool} (h : BoxD w B r s v o) (r' : Value) : BoxD (w.setCell ⟨B, 0, none⟩ r') B r' s v o := by
  obtain ⟨lt, c0, c1, c2, c3, f0, f1, f2, f3⟩ := h
  exact ⟨by simp; exact lt, by simp [go_sem, *], by simp [go_sem, *], by simp [go_sem, *], by simp [go_sem, *], by simp [go_sem, *], by simp [go_sem, *], by simp [go_sem, *], by simp [go_sem, *]⟩
theorem BoxD.setS {w : World} {B : Nat} {r : Value} {s : Int} {v : Value} {o : Bool} (h : BoxD w B r s v o) (s' : Int) : BoxD (w.setCell ⟨B, 1, none⟩ (.int .i64 s')) B r s' v o := by
  obtain ⟨lt, c0, c1, c2, c3, f0, f1, f2, f3⟩ := h
  exact ⟨by simp; exact lt, by simp [go_sem, *], by simp [go_sem, *], by simp [go_sem, *], by simp [go_sem, *], by simp [go_sem, *], by simp [go_sem, *], by simp [go_sem, *], by simp [go_sem, *]⟩
theorem BoxD.setV {w : World} {B : Nat} {r : Value} {s : Int} {v : Value} {o : Bool} (h : BoxD w B r s v o) (v' : Value) : BoxD (w.setCell ⟨B, 2, none⟩ v') B r s v' o := by
  obtain ⟨lt, c0, c1, c2, c3, f0, f1, f2, f3⟩ := h
  exact ⟨by simp; exact lt, by simp [go_sem, *], by simp [go_sem, *], by simp [go_sem, *], by simp [go_sem, *], by simp [go_sem, *], by simp [go_sem, *], by simp [go_sem, *], by simp [go_sem, *]⟩
theorem BoxD.setO {w : World} {B : Nat} {r : Value} {s : Int} {v : Value} {o : Bool} (h : BoxD w B r s v o) (o' : Bool) : BoxD (w.setCell ⟨B, 3, none⟩ (.bool o')) B r s v o' := by
  obtain ⟨lt, c0, c1, c2, c3, f0, f1, f2, f3⟩ := h
  exact ⟨by simp; exact lt, by simp [go_sem, *], by simp [go_sem, *], by simp [go_sem, *], by simp [go_sem, *], by simp [go_sem, *], by simp [go_sem, *], by simp [go_sem, *], by simp [go_sem, *]⟩
/-- the reference's decoder as it lies, beside the cell of the result -/
structure PIn (w wr : World) (r : List UInt8) (s : Nat) (f : List It) (q : Option Addr) (n c : Nat) (over : Bool) (q0 : Option Addr) : Prop where
  box : BoxD wr w.heap.size (.string ⟨r.toArray⟩) (s : Int) (.slice q n c) over
  res : BoxD wr (w.heap.size + 1) (.string ⟨#[]⟩) 0 (.slice none 0 0) false
  row : RowR wr q n c f
  off : ∀ x, q = some x → x.block ≠ w.heap.size ∧ x.block ≠ w.heap.size + 1 ∧ x.block < wr.heap.size ∧ (q = q0 ∨ w.heap.size ≤ x.block)
  bel : Below w.heap.size w wr
def strLen (v : Option Value) : Nat := match v with | some (.string b) => b.size | _ => 0
theorem pass_rany (rest : List UInt8) (s : Nat) (f : List It) (over : Bool) (qa : Option Addr) (na ca : Nat) (w : World) (hR : RowR w qa na ca f) (hq : ∀ x, qa = some x → x.block < w.heap.size) (hb : f.length + s + 2 * rest.length ≤ 1000000) :
    Calls Tryd.prog 69 #[.agg #[.string ⟨rest.toArray⟩, .int .i64 (s : Int), .slice qa na ca, .bool over]] w fun e w' => ∃ q' n' c', e = .returned (.agg #[.string ⟨(Fr.pass over rest s f).1.toArray⟩, .int .i64 ((Fr.pass over rest s f).2.1 : Int), .slice q' n' c', .bool over]) ∧ RowR w' q' n' c' (Fr.pass over rest s f).2.2 ∧ (∀ x, q' = some x → x.block < w'.heap.size ∧ (q' = qa ∨ w.heap.size ≤ x.block)) ∧ Below w.heap.size w w' := by
  obtain ⟨Z, hZ⟩ : ∃ Z, Fr.pass over rest s f = Z := ⟨_, rfl⟩
  rw [hZ]
  obtain ⟨W1, eW1⟩ : ∃ W, w.alloc (.cells #[.string ⟨rest.toArray⟩, .int .i64 (s : Int), .slice qa na ca, .bool over] 29) = W := ⟨_, rfl⟩
  have B1 : Below w.heap.size w W1 := by rw [← eW1]; exact (Below.refl _ _).alloc (Nat.le_refl _) _
  have X1 : BoxD W1 w.heap.size (.string ⟨rest.toArray⟩) (s : Int) (.slice qa na ca) over := by rw [← eW1]; exact BoxD.new w _ _ _ _ _
  have hz1 : W1.heap.size = w.heap.size + 1 := by rw [← eW1]; simp
  obtain ⟨W2, eW2⟩ : ∃ W, W1.alloc (.cells #[.string { data := #[] }, .int .i64 0, .slice none 0 0, .bool false] 29) = W := ⟨_, rfl⟩
  have B2 : Below w.heap.size w W2 := by rw [← eW2]; exact B1.alloc B1.size _
  have B12 : Below W1.heap.size W1 W2 := by rw [← eW2]; exact (Below.refl _ _).alloc (Nat.le_refl _) _
  have X2 : BoxD W2 w.heap.size (.string ⟨rest.toArray⟩) (s : Int) (.slice qa na ca) over := X1.turn (Turn.ofBelow (S := fun _ => False) B12 rfl) (fun h => h)
  have Y2 : BoxD W2 (w.heap.size + 1) (.string ⟨#[]⟩) 0 (.slice none 0 0) false := by rw [← eW2, ← hz1]; exact BoxD.new W1 _ _ _ _ _
  have P2 : PIn w W2 rest s f qa na ca over qa := ⟨X2, Y2, hR.below B2, fun x hx => by have := hq x hx; have := B2.size; exact ⟨by omega, by omega, by omega, .inl rfl⟩, B2⟩
  clear X1 B12 Y2 X2
  go_enter Tryd.func69, Tryd.ntmps69
  go_wp2_with fail
  go_loopw [] (fun wr => ∃ r s f q n c, PIn w wr r s f q n c over qa ∧ f.length + s + 2 * r.length ≤ 1000000 ∧ Fr.pass over r s f = Z) (fun wr => strLen (wr.cell? ⟨w.heap.size, 0, none⟩))
  case atStart => exact ⟨rest, s, f, qa, na, ca, by first | exact P2 | (rw [eW1, eW2]; exact P2), hb, hZ⟩
  case round =>
    clear hb hZ P2 B2 eW2 eW1 hz1 B1 hR hq
    obtain ⟨r, s, f, q, n, c, hP, hb, hZ⟩ := hrel
    obtain ⟨hX, hY, hR, ho, hB⟩ := hP
    have c0 := hX.c0
    have c1 := hX.c1
    have c2 := hX.c2
    have c3 := hX.c3
    have d0 := hY.c0
    have d1 := hY.c1
    have d2 := hY.c2
    have d3 := hY.c3
    have g0 := hY.f0
    have g1 := hY.f1
    have g2 := hY.f2
    have g3 := hY.f3
    by_cases h0 : r = []
    · subst h0
      rw [Fr.pass_nil] at hZ
      replace hZ := Lib.hid hZ
      go_wp2_with fail
      obtain ⟨Z6, T6⟩ := hY.set (.string ⟨#[]⟩) s (.slice q n c) _; have B6 := hB.trans (T6.below hB.size (fun k hk e => by omega)); generalize (((wr.setCell ⟨w.heap.size + 1, 0, none⟩ (.string ⟨#[]⟩)).setCell ⟨w.heap.size + 1, 1, none⟩ (.int .i64 (s : Int))).setCell ⟨w.heap.size + 1, 2, none⟩ (.slice q n c)).setCell ⟨w.heap.size + 1, 3, none⟩ (.bool _) = w6 at *; have m0 := Z6.c0; have m1 := Z6.c1; have m2 := Z6.c2; have m3 := Z6.c3; refine bodyPost_ret (v := .agg #[.string ⟨#[]⟩, .int .i64 (s : Int), .slice q n c, .bool _]) (by simp [results, Tryd.results69, go_sem, m0, m1, m2, m3]; rfl) rfl ?_
      rw [← hZ.out]
      exact ⟨q, n, c, rfl, hR.turn T6 (fun x hx e => (ho x hx).2.1 e), (fun x hx => ⟨Nat.lt_of_lt_of_le (ho x hx).2.2.1 T6.size, (ho x hx).2.2.2⟩), B6⟩
    · have hE : r.isEmpty = false := by cases r with | nil => exact absurd rfl h0 | cons _ _ => rfl
      have hpos : 0 < r.length := List.length_pos_iff.2 h0
      have hs0 : (0 : Int) ≤ (s : Int) := by omega
      have hs1 : (s : Int) ≤ 1000000 := by omega
      have hrz := ba_size r
      have hsl : ∀ (W : World) (l : Int), 0 ≤ l → l ≤ (r.length : Int) → (Instr.slice 9 (.string ⟨r.toArray⟩) (some (.int .i64 l)) none none).run Tryd.prog W = .ok (.string ⟨(r.drop l.toNat).toArray⟩) W := fun W l hl0 hl1 => by
        have := run_slice_string_l (P := Tryd.prog) W 9 ⟨r.toArray⟩ Tryd.underlying9 .i64 l hl0 (by rw [hrz]; exact hl1)
        rw [this, hrz, ba_slice, List.take_of_length_le (Nat.le_refl _)]
      go_wp2_with fail
      refine (rsize_any r h0 (by omega) wr).mono ?_; rintro e w2 ⟨rfl, hb2⟩
      have hX2 := hX.turn (Turn.ofBelow (S := fun _ => False) hb2 rfl) (fun h => h)
      have hY2 := hY.turn (Turn.ofBelow (S := fun _ => False) hb2 rfl) (fun h => h)
      have hR2 := hR.below hb2
      have hB2 := hB.trans (hb2.mono hB.size)
      clear c0 c1 c2 c3 d0 d1 d2 d3 g0 g1 g2 g3
      have c0 := hX2.c0
      have c1 := hX2.c1
      have c2 := hX2.c2
      have c3 := hX2.c3
      have d0 := hY2.c0
      have d1 := hY2.c1
      have d2 := hY2.c2
      have d3 := hY2.c3
      have g0 := hY2.f0
      have g1 := hY2.f1
      have g2 := hY2.f2
      have g3 := hY2.f3
      have g4 := hX2.f0
      have g5 := hX2.f1
      have g6 := hX2.f2
      have g7 := hX2.f3
      replace hZ := Lib.hid hZ
      rcases Fr.look_cases r with hL | hL | ⟨m, hL, hn7, hn8, hn9⟩
      · skip
        have hP2 : Fr.pass over (r.drop 1) (s + 1) f = Z := by
          rw [← hZ.out, Fr.pass_skip h0 (by omega) (fun e => by omega)]
        have hb3 : f.length + (s + 1) + 2 * (r.drop 1).length ≤ 1000000 := by rw [List.length_drop]; omega
        have hsl1 := fun W => hsl W 1 (by omega) (by omega)
        simp only [show (1 : Int).toNat = 1 from rfl] at hsl1
        have hrl : (r.drop 1).length < r.length := by rw [List.length_drop]; omega
        obtain ⟨r1, hr1⟩ : ∃ r1, r.drop 1 = r1 := ⟨_, rfl⟩
        rw [hr1] at hP2 hb3 hrl
        simp only [hr1] at hsl1
        replace hr1 := Lib.hid hr1
        clear hsl hb
        replace hP2 := Lib.hid hP2
        have X3 := hX2.setS ((s : Int) + 1)
        have X4 := X3.setR (.string ⟨r1.toArray⟩)
        have T4 := ((Turn.refl (fun k => k = w.heap.size) w2).setCell ⟨w.heap.size, 1, none⟩ (fun _ => rfl) (.int .i64 ((s : Int) + 1))).setCell ⟨w.heap.size, 0, none⟩ (fun _ => rfl) (.string ⟨r1.toArray⟩)
        have P4 : PIn w _ r1 (s + 1) f q n c over qa := ⟨by rw [show (((s + 1 : Nat)) : Int) = (s : Int) + 1 from by omega]; exact X4, hY2.turn T4 (by omega), hR2.turn T4 (fun x hx e => (ho x hx).1 e), fun x hx => by have h1 := ho x hx; have := hb2.size; have := T4.size; exact ⟨h1.1, h1.2.1, by omega, h1.2.2.2⟩, hB2.trans (T4.below hB2.size (fun k hk e => by omega))⟩
        have m4 := hX.c0
        have m5 := X4.c0
        replace P4 := Lib.hid P4
        clear X3 X4 T4
        rw [hL]
        replace hL := Lib.hid hL
        go_wp2_with fail
        go_roundw
        case rel => exact ⟨r1, s + 1, f, q, n, c, P4.out, hb3, hP2.out⟩
        case measure => rw [m4, m5]; simp [strLen, ba_size]; omega
      · cases over
        · rw [hL]
          go_wp2_with fail
          obtain ⟨Z6, T6⟩ := hY2.set (.string ⟨r.toArray⟩) s (.slice q n c) _; have B6 := hB2.trans (T6.below hB2.size (fun k hk e => by omega)); generalize (((w2.setCell ⟨w.heap.size + 1, 0, none⟩ (.string ⟨r.toArray⟩)).setCell ⟨w.heap.size + 1, 1, none⟩ (.int .i64 (s : Int))).setCell ⟨w.heap.size + 1, 2, none⟩ (.slice q n c)).setCell ⟨w.heap.size + 1, 3, none⟩ (.bool _) = w6 at *; have m0 := Z6.c0; have m1 := Z6.c1; have m2 := Z6.c2; have m3 := Z6.c3; refine bodyPost_ret (v := .agg #[.string ⟨r.toArray⟩, .int .i64 (s : Int), .slice q n c, .bool _]) (by simp [results, Tryd.results69, go_sem, m0, m1, m2, m3]; rfl) rfl ?_
          rw [← hZ.out, Fr.pass_wait hL]
          exact ⟨q, n, c, rfl, hR2.turn T6 (fun x hx e => (ho x hx).2.1 e), (fun x hx => ⟨Nat.lt_of_lt_of_le (ho x hx).2.2.1 (Nat.le_trans hb2.size T6.size), (ho x hx).2.2.2⟩), B6⟩
        · skip
          have hP2 : Fr.pass true (r.drop 1) (s + 1) f = Z := by
            rw [← hZ.out, Fr.pass_skip h0 (by omega) (fun e => by simp at e)]
          have hb3 : f.length + (s + 1) + 2 * (r.drop 1).length ≤ 1000000 := by rw [List.length_drop]; omega
          have hsl1 := fun W => hsl W 1 (by omega) (by omega)
          simp only [show (1 : Int).toNat = 1 from rfl] at hsl1
          have hrl : (r.drop 1).length < r.length := by rw [List.length_drop]; omega
          obtain ⟨r1, hr1⟩ : ∃ r1, r.drop 1 = r1 := ⟨_, rfl⟩
          rw [hr1] at hP2 hb3 hrl
          simp only [hr1] at hsl1
          replace hr1 := Lib.hid hr1
          clear hsl hb
          replace hP2 := Lib.hid hP2
          have X3 := hX2.setS ((s : Int) + 1)
          have X4 := X3.setR (.string ⟨r1.toArray⟩)
          have T4 := ((Turn.refl (fun k => k = w.heap.size) w2).setCell ⟨w.heap.size, 1, none⟩ (fun _ => rfl) (.int .i64 ((s : Int) + 1))).setCell ⟨w.heap.size, 0, none⟩ (fun _ => rfl) (.string ⟨r1.toArray⟩)
          have P4 : PIn w _ r1 (s + 1) f q n c true qa := ⟨by rw [show (((s + 1 : Nat)) : Int) = (s : Int) + 1 from by omega]; exact X4, hY2.turn T4 (by omega), hR2.turn T4 (fun x hx e => (ho x hx).1 e), fun x hx => by have h1 := ho x hx; have := hb2.size; have := T4.size; exact ⟨h1.1, h1.2.1, by omega, h1.2.2.2⟩, hB2.trans (T4.below hB2.size (fun k hk e => by omega))⟩
          have m4 := hX.c0
          have m5 := X4.c0
          replace P4 := Lib.hid P4
          clear X3 X4 T4
          rw [hL]
          replace hL := Lib.hid hL
          go_wp2_with fail
          go_roundw
          case rel => exact ⟨r1, s + 1, f, q, n, c, P4.out, hb3, hP2.out⟩
          case measure => rw [m4, m5]; simp [strLen, ba_size]; omega
      · rw [hL]
        have hm0 : (0 : Int) < (m : Int) := by omega
        have hm1 : ¬ (m : Int) < 0 := by omega
        have hP2 : Fr.pass over (r.drop m) 0 (Fr.tell s f ++ [Fr.item r m]) = Z := by
          rw [← hZ.out, Fr.pass_frame hL (by omega)]
        have htl := Fr.tell_le s f
        have hb3 : (Fr.tell s f ++ [Fr.item r m]).length + 0 + 2 * (r.drop m).length ≤ 1000000 := by rw [List.length_drop, List.length_append]; simp only [List.length_cons, List.length_nil]; omega
        have hsl1 := fun W => hsl W (m : Int) (by omega) (by omega)
        simp only [Int.toNat_natCast] at hsl1
        have hrl : (r.drop m).length < r.length := by rw [List.length_drop]; omega
        obtain ⟨r1, hr1⟩ : ∃ r1, r.drop m = r1 := ⟨_, rfl⟩
        rw [hr1] at hP2 hb3 hrl
        simp only [hr1] at hsl1
        replace hr1 := Lib.hid hr1
        have z1 : 1 < (⟨r.toArray⟩ : ByteArray).size := by omega
        have i1 := ba_get r 1 z1
        have x1 : (1 : Int) < (r.length : Int) := by omega
        obtain ⟨kd, hkd⟩ : ∃ kd, r.getD 1 0 = kd := ⟨_, rfl⟩
        rw [hkd] at i1
        obtain ⟨bd, hbdy⟩ : ∃ bd, (r.take (m - 3)).drop 4 = bd := ⟨_, rfl⟩
        have hit : Fr.item r m = ⟨0, kd, bd⟩ := by unfold Fr.item; rw [hkd, hbdy]
        have hs4 : ∀ W, (Instr.slice 9 (.string ⟨r.toArray⟩) (some (.int .i64 4)) (some (.int .i64 ((m : Int) - 3))) none).run Tryd.prog W = .ok (.string ⟨bd.toArray⟩) W := fun W => by
          have := run_slice_string (P := Tryd.prog) W 9 ⟨r.toArray⟩ .i64 .i64 (4 : Int) ((m : Int) - 3) Tryd.underlying9 (by omega) (by omega) (by rw [hrz]; omega)
          rw [this, show ((m : Int) - 3).toNat = m - 3 from by omega, ba_slice, show (4 : Int).toNat = 4 from rfl, hbdy]
        have hwm : IntKind.i64.wrap ((m : Int) - 3) = (m : Int) - 3 := IntWalk.i64_in _ (by omega)
        have y0 : (0 : Int) ≤ (m : Int) - 3 := by omega
        have y1 : (m : Int) - 3 ≤ (r.length : Int) := by omega
        have y2 : (4 : Int) ≤ (m : Int) - 3 := by omega
        have hex : (⟨r.toArray⟩ : ByteArray).extract 4 ((m : Int) - 3).toNat = ⟨bd.toArray⟩ := by
          rw [show ((m : Int) - 3).toNat = m - 3 from by omega, ba_slice, hbdy]
        rw [hit] at hP2 hb3
        have hbd : f.length + s ≤ 1000000 := by omega
        have hms : (m : Int) ≤ 1000000 := by omega
        replace hit := Lib.hid hit
        replace hkd := Lib.hid hkd
        replace hbdy := Lib.hid hbdy
        replace hL := Lib.hid hL
        replace hP2 := Lib.hid hP2
        clear hsl hb
        go_wp2_with fail
        refine (told_any r s f over q n c w2 hR2 hbd).mono ?_; rintro e w3 ⟨⟨v3, rfl, hO3⟩, hb4⟩
        obtain ⟨q3, k3, rfl, hR3, hq3⟩ := hO3.row
        have hX3 := hX2.turn (Turn.ofBelow (S := fun _ => False) hb4 rfl) (fun h => h)
        have hY3 := hY2.turn (Turn.ofBelow (S := fun _ => False) hb4 rfl) (fun h => h)
        have hB3 := hB2.trans (hb4.mono hB2.size)
        have L2 := hY2.lt
        obtain ⟨LL, hLL⟩ : ∃ LL, (Fr.tell s f).length = LL := ⟨_, rfl⟩
        have hroom : (Fr.tell s f).length ≤ 1000000 := by omega
        have e0 := hX3.c0
        have e1 := hX3.c1
        have e2 := hX3.c2
        have e3 := hX3.c3
        have j0 := hX3.f0
        have j1 := hX3.f1
        have j2 := hX3.f2
        have j3 := hX3.f3
        clear c0 c1 c2 c3 d0 d1 d2 d3 g0 g1 g2 g3 g4 g5 g6 g7
        rw [hLL] at hO3 hroom
        have hlen2 : (Fr.tell s f).length = LL := hLL
        replace hlen2 := Lib.hid hlen2
        go_wp2_with fail
        obtain ⟨X4, T4⟩ := hX3.set (.string ⟨r.toArray⟩) 0 (.slice q3 LL k3) over
        have Y4 := hY3.turn T4 (by omega)
        have O4 := hO3.kept2 T4 (by omega)
        have B4 := hB3.trans (T4.below hB3.size (fun k hk e => by omega))
        have s4 := Nat.le_trans hb4.size T4.size
        generalize (((w3.setCell ⟨w.heap.size, 0, none⟩ (.string ⟨r.toArray⟩)).setCell ⟨w.heap.size, 1, none⟩ (.int .i64 0)).setCell ⟨w.heap.size, 2, none⟩ (.slice q3 LL k3)).setCell ⟨w.heap.size, 3, none⟩ (.bool over) = w4 at *
        have m4 := hX.c0
        clear e0 e1 e2 e3 j0 j1 j2 j3 hR3 hq3 hX3 hY3 hB3 hX2 hY2 hR2 hX hY hR T4 hLL
        have c0 := X4.c0
        have c2 := X4.c2
        have T6 : Turn (fun _ => False) w4 ((w4.alloc (.cells #[.int .i64 0, .int .u8 (kd.toNat : Int), .string ⟨bd.toArray⟩] 43)).drew) := ((Turn.refl _ w4).alloc _).drew
        have b6 : Below w4.heap.size w4 ((w4.alloc (.cells #[.int .i64 0, .int .u8 (kd.toNat : Int), .string ⟨bd.toArray⟩] 43)).drew) := ((Below.refl _ _).alloc (Nat.le_refl _) _).drew
        have O6 := O4.below b6
        have c2a : (w4.alloc (.cells #[.int .i64 0, .int .u8 (kd.toNat : Int), .string ⟨bd.toArray⟩] 43)).cell? ⟨w.heap.size, 2, none⟩ = some (.slice q3 LL k3) := (X4.turn (((Turn.refl (fun _ => False) w4).alloc _)) (fun h => h)).c2
        refine wp_region_noPanic ?_
        go_region_law (refine step_append_item 27 43 _ 32 infoRI rfl Tryd.underlying27 rfl (.tmp 34) (.tmp 42) rfl w2.heap.size (.slice q3 LL k3) (Fr.tell s f) rfl O6 w4.heap.size 1 ⟨0, kd, bd⟩ rfl (by simp [go_sem]) (by simp [go_sem]) (by simp [go_sem]) (by rw [hlen2.out]; exact hroom) (by decide) (Nat.le_trans s4 b6.size) ?_; intro g7 k7 w7 hO7 hG7; rw [hlen2.out] at hO7 ⊢; have T7 : Turn (fun x => w2.heap.size ≤ x) w4 w7 := (T6.mono (fun _ _ h => h.elim)).trans (Turn.ofGrown hG7 (fun x hx _ => (O6.owns.lt x hx).1)) (fun _ _ h => h); have X7 := X4.turn T7 (fun e => by omega); have Y7 := Y4.turn T7 (fun e => by omega); have b72 := X7.c2; have e72 := X7.f2)
        all_goals refine NoPanic.normal ?_
        all_goals
          have X8 := X7.setV (.slice (some ⟨g7, 0, none⟩) (LL + 1) k7)
          have X9 := X8.setR (.string ⟨r1.toArray⟩)
          have T9 := ((Turn.refl (fun k => k = w.heap.size) w7).setCell ⟨w.heap.size, 2, none⟩ (fun _ => rfl) (.slice (some ⟨g7, 0, none⟩) (LL + 1) k7)).setCell ⟨w.heap.size, 0, none⟩ (fun _ => rfl) (.string ⟨r1.toArray⟩)
          have O9 := hO7.kept2 T9 (by omega)
          have B7 := B4.trans (T7.below B4.size (fun k hk e => by omega))
          have B9 := B7.trans (T9.below B7.size (fun k hk e => by omega))
          obtain ⟨q9, k9, e9, R9, hq9⟩ := O9.row
          rw [List.length_append, List.length_singleton, hlen2.out] at e9 R9
          simp only [Value.slice.injEq, true_and] at e9
          obtain ⟨rfl, rfl⟩ := e9
          have P9 : PIn w _ r1 0 (Fr.tell s f ++ [⟨0, kd, bd⟩]) (some ⟨g7, 0, none⟩) (LL + 1) k7 over qa := ⟨X9, Y7.turn T9 (by omega), R9, fun x hx => by have := hq9 x hx; have := hB2.size; exact ⟨by omega, by omega, by omega, .inr (by omega)⟩, B9⟩
          have m5 := X9.c0
          have f72 := X8.f0
          have c72 := X8.c0
          replace P9 := Lib.hid P9
          clear X8 X9 T9 O9 B7 B9 R9 hq9
          go_wp2_with fail
          go_roundw
          case rel => exact ⟨r1, 0, _, _, _, _, P9.out, hb3, hP2.out⟩
          case measure => rw [m4, m5]; simp [strLen, ba_size]; omega
end Go.Proofs.YtdmpopdacbdnlaaDoor
