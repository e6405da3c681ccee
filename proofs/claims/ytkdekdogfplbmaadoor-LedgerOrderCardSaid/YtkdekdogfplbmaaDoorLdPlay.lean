/- The laws' play, plain and awake. -/
import Derived.Test.YtkdekdogfplbmaaDoorLdEnd
import Derived.Test.YtkdekdogfplbmaaDoorOpenG
namespace Go.Proofs.YtkdekdogfplbmaaDoor
open Go.RowKit
set_option linter.unusedVariables false
set_option linter.unusedSimpArgs false
set_option maxRecDepth 20000
set_option maxHeartbeats 2000000

theorem OwnC.lower {base base' : Nat} {w : World} {v : Value} {l : List Rc} (h : OwnC base w v l) (hb : base' ≤ base) : OwnC base' w v l := by
  refine ⟨⟨h.owns.1, ?_⟩, h.small, h.wide⟩
  rcases h.owns.2 with hn | ⟨g, cap, cur, hv, hbb, rest⟩
  · exact .inl hn
  · exact .inr ⟨g, cap, cur, hv, Nat.le_trans hb hbb, rest⟩
def RowC (w : World) (q : Option Addr) (n : Nat) (l : List Rc) : Prop := RowG 8 w q n (l.map rcV)
def rcD : Rc := ⟨0, 0, 0, false⟩
theorem OwnC.rows {base : Nat} {w : World} {v : Value} {l : List Rc} (h : OwnC base w v l) : ∃ q cap, v = .slice q l.length cap ∧ RowC w q l.length l ∧ l.length ≤ cap ∧ ∀ x, q = some x → base ≤ x.block ∧ x.off = 0 := by
  obtain ⟨q, cap, e, hr, hc, hx⟩ := OwnG.row h
  rw [List.length_map] at e hc
  unfold RowC
  rw [List.length_map] at hr
  exact ⟨q, cap, e, hr, hc, fun x e => ⟨(hx x e).1, (hx x e).2.1⟩⟩
/-- one record's cells -/
structure RcAt (w : World) (b o : Nat) (r : Rc) : Prop where
  c0 : w.cell? ⟨b, o, none⟩ = some (.int .u8 (r.kind : Int))
  c1 : w.cell? ⟨b, o + 1, none⟩ = some (.int .i64 0)
  c2 : w.cell? ⟨b, o + 2, none⟩ = some (.int .u64 0)
  c3 : w.cell? ⟨b, o + 3, none⟩ = some (.int .i64 r.at_)
  c4 : w.cell? ⟨b, o + 4, none⟩ = some (.int .i64 r.num)
  c5 : w.cell? ⟨b, o + 5, none⟩ = some (.int .i64 0)
  c6 : w.cell? ⟨b, o + 6, none⟩ = some (.bool r.yes)
  c7 : w.cell? ⟨b, o + 7, none⟩ = some (.string ⟨#[]⟩)
theorem RcAt.turn {S : Nat → Prop} {w w' : World} {b o : Nat} {r : Rc} (h : RcAt w b o r) (t : Turn S w w') (hb : b < w.heap.size) (hn : ¬ S b) : RcAt w' b o r :=
  ⟨(t.cell (p := ⟨b, o, none⟩) hb hn).trans h.c0, (t.cell (p := ⟨b, o + 1, none⟩) hb hn).trans h.c1, (t.cell (p := ⟨b, o + 2, none⟩) hb hn).trans h.c2, (t.cell (p := ⟨b, o + 3, none⟩) hb hn).trans h.c3, (t.cell (p := ⟨b, o + 4, none⟩) hb hn).trans h.c4, (t.cell (p := ⟨b, o + 5, none⟩) hb hn).trans h.c5, (t.cell (p := ⟨b, o + 6, none⟩) hb hn).trans h.c6, (t.cell (p := ⟨b, o + 7, none⟩) hb hn).trans h.c7⟩
theorem RowC.at_ {w : World} {q : Option Addr} {n : Nat} {l : List Rc} (h : RowC w q n l) (h0 : 0 < n) : ∃ b off, q = some ⟨b, off, none⟩ ∧ b < w.heap.size ∧ ∀ i, i < n → RcAt w b (off + i * 8) (l.getD i rcD) := by
  have hl := h.length
  rw [List.length_map] at hl
  obtain ⟨b, off, e, hb, hc⟩ := h.get h0
  refine ⟨b, off, e, hb, fun i hi => ?_⟩
  have hg : (l.map rcV).getD i [] = rcV (l.getD i rcD) := by
    simp [List.getD, List.getElem?_map, List.getElem?_eq_getElem (show i < l.length by omega)]
  have hc' := hc i hi
  rw [hg] at hc'
  exact ⟨hc' 0 _ rfl, hc' 1 _ rfl, hc' 2 _ rfl, hc' 3 _ rfl, hc' 4 _ rfl, hc' 5 _ rfl, hc' 6 _ rfl, hc' 7 _ rfl⟩
theorem RowC.turn {S : Nat → Prop} {w w' : World} {q : Option Addr} {n : Nat} {l : List Rc} (h : RowC w q n l) (t : Turn S w w') (ho : Off S q) : RowC w' q n l := RowG.turn h t ho
/-- an act's cells -/
def acD : Ac := ⟨0, 0, 0, false, false⟩
def RowA (w : World) (q : Option Addr) (n : Nat) (l : List Ac) : Prop := RowG 5 w q n (l.map acV)
structure AcAt (w : World) (b o : Nat) (a : Ac) : Prop where
  c0 : w.cell? ⟨b, o, none⟩ = some (.int .i64 a.at_)
  c1 : w.cell? ⟨b, o + 1, none⟩ = some (.int .i64 a.since)
  c2 : w.cell? ⟨b, o + 2, none⟩ = some (.int .i64 a.now)
  c3 : w.cell? ⟨b, o + 3, none⟩ = some (.bool a.yes)
  c4 : w.cell? ⟨b, o + 4, none⟩ = some (.bool a.fin)
theorem AcAt.turn {S : Nat → Prop} {w w' : World} {b o : Nat} {r : Ac} (h : AcAt w b o r) (t : Turn S w w') (hb : b < w.heap.size) (hn : ¬ S b) : AcAt w' b o r :=
  ⟨(t.cell (p := ⟨b, o, none⟩) hb hn).trans h.c0, (t.cell (p := ⟨b, o + 1, none⟩) hb hn).trans h.c1, (t.cell (p := ⟨b, o + 2, none⟩) hb hn).trans h.c2, (t.cell (p := ⟨b, o + 3, none⟩) hb hn).trans h.c3, (t.cell (p := ⟨b, o + 4, none⟩) hb hn).trans h.c4⟩
theorem RowA.at_ {w : World} {q : Option Addr} {n : Nat} {l : List Ac} (h : RowA w q n l) (h0 : 0 < n) : ∃ b off, q = some ⟨b, off, none⟩ ∧ b < w.heap.size ∧ ∀ i, i < n → AcAt w b (off + i * 5) (l.getD i acD) := by
  have hl := h.length
  rw [List.length_map] at hl
  obtain ⟨b, off, e, hb, hc⟩ := h.get h0
  refine ⟨b, off, e, hb, fun i hi => ?_⟩
  have hg : (l.map acV).getD i [] = acV (l.getD i acD) := by
    simp [List.getD, List.getElem?_map, List.getElem?_eq_getElem (show i < l.length by omega)]
  have hc' := hc i hi
  rw [hg] at hc'
  exact ⟨hc' 0 _ rfl, hc' 1 _ rfl, hc' 2 _ rfl, hc' 3 _ rfl, hc' 4 _ rfl⟩
/-- what the frame hands over -/
theorem acts_of {w : World} {q : Option Addr} {n : Nat} {cs : List (List Value)} (h : RowG 5 w q n cs) (hc : ∀ c ∈ cs, OkAll [.int .i64, .int .i64, .int .i64, .bool, .bool] c) : ∃ l : List Ac, RowA w q n l ∧ ∀ a ∈ l, a.ok := by
  refine h.list acV Ac.ok (fun c hm => ?_)
  have h5 := hc c hm
  have hlen := h5.len
  match c, hlen with
  | [v0, v1, v2, v3, v4], _ =>
    simp only [OkAll, Sh.ok, and_true] at h5
    obtain ⟨⟨n0, rfl, w0⟩, ⟨n1, rfl, w1⟩, ⟨n2, rfl, w2⟩, ⟨b3, rfl⟩, b4, rfl⟩ := h5
    exact ⟨⟨n0, n1, n2, b3, b4⟩, rfl, bounds_i64 w0, bounds_i64 w1, bounds_i64 w2⟩
theorem ok_getD {l : List Ac} (h : ∀ a ∈ l, a.ok) {i : Nat} (hi : i < l.length) : (l.getD i acD).ok := by
  have e : l.getD i acD = l[i] := by simp [List.getD, hi]
  rw [e]
  exact h _ (List.getElem_mem hi)
theorem play_any (g b n : Nat) (s : LS) (a : Ac) (ha : a.ok) (w : World) (h : Led w g b n s) (hn : n < 100000) :
    Calls Tryd.prog 6 #[.pointer (some ⟨g, 0, none⟩), .agg #[.int .i64 a.at_, .int .i64 a.since, .int .i64 a.now, .bool a.yes, .bool a.fin]] w (Steps w g b (n + 1) (s.playS a) (s.playR a)) := by
  obtain ⟨h0, h1, h2⟩ := ha
  obtain ⟨a0, a1, a2, a3, a4⟩ := a
  simp only at h0 h1 h2
  unfold LS.playS LS.playR
  have hL := fun X t => h.below ((Below.refl w.heap.size w).alloc (Nat.le_refl _) (.cells #[.int .i64 a0, .int .i64 a1, .int .i64 a2, .bool a3, X] t))
  have hlt := h.lt
  have hlb := MapB.lt h.m
  clear h
  cases a4 with
  | false =>
    simp only [Bool.false_eq_true, if_false]
    have HL := Lib.hid (hL (.bool false) 29)
    clear hL
    go_enter Tryd.func6, Tryd.ntmps6
    go_wp2_with fail
    refine (tell_any g b n s a0 a1 a2 a3 h0 h1 h2 _ HL.out hn).mono ?_; rintro e w1 ⟨v, rfl, hO, hS, hT⟩
    go_wp2_with fail
    go_ret
    exact ⟨v, rfl, hO.lower (by simp), hS, (Turn.ofBelow ((Below.refl w.heap.size w).alloc (Nat.le_refl _) _) rfl).trans hT (fun _ _ h => h)⟩
  | true =>
    simp only [if_true]
    have HL := Lib.hid (hL (.bool true) 29)
    clear hL
    go_enter Tryd.func6, Tryd.ntmps6
    go_wp2_with fail
    refine (end_any g b n s a0 a1 a2 a3 h0 h1 h2 _ HL.out).mono ?_; rintro e w1 ⟨v, rfl, hO, hS, hT⟩
    go_wp2_with fail
    go_ret
    exact ⟨v, rfl, hO.lower (by simp), hS.mono (by omega), (Turn.ofBelow ((Below.refl w.heap.size w).alloc (Nat.le_refl _) _) rfl).trans hT (fun _ _ h => h)⟩
theorem play_none (a : Ac) (w : World) :
    Calls Tryd.prog 6 #[.pointer none, .agg #[.int .i64 a.at_, .int .i64 a.since, .int .i64 a.now, .bool a.yes, .bool a.fin]] w fun e w' => e = .returned (.slice none 0 0) ∧ Below w.heap.size w w' := by
  obtain ⟨a0, a1, a2, a3, a4⟩ := a
  cases a4 with
  | false =>
    go_enter Tryd.func6, Tryd.ntmps6
    go_wp2_with fail
    refine (ledger_tell_none _ _ _ _ _).mono ?_; rintro e w1 ⟨rfl, rfl⟩
    go_wp2_with fail
    go_ret
    exact ⟨rfl, (by repeat (first | with_reducible exact Below.refl _ _ | with_reducible refine Below.drew ?_ | with_reducible refine Below.alloc ?_ (by (try simp) <;> omega) _ | with_reducible refine Below.setCell ?_ (by (try simp) <;> omega) _))⟩
  | true =>
    go_enter Tryd.func6, Tryd.ntmps6
    go_wp2_with fail
    refine (ledger_end_none _ _ _ _ _).mono ?_; rintro e w1 ⟨rfl, rfl⟩
    go_wp2_with fail
    go_ret
    exact ⟨rfl, (by repeat (first | with_reducible exact Below.refl _ _ | with_reducible refine Below.drew ?_ | with_reducible refine Below.alloc ?_ (by (try simp) <;> omega) _ | with_reducible refine Below.setCell ?_ (by (try simp) <;> omega) _))⟩
/-- what a step of the ledger's gives -/
theorem Steps.done {w w' : World} {g b n : Nat} {s' : LS} {l : List Rc} {e : Ending} (h : Steps w g b n s' l e w') : ∃ q cap, e = .returned (.slice q l.length cap) ∧ RowC w' q l.length l ∧ (∀ x, q = some x → w.heap.size ≤ x.block ∧ x.off = 0) ∧ Led w' g b n s' ∧ Turn (fun k => k = g ∨ k = b) w w' ∧ l.length ≤ cap := by
  obtain ⟨v, rfl, hO, hL, hT⟩ := h
  obtain ⟨q, cap, rfl, hr, hc, hx⟩ := hO.rows
  exact ⟨q, cap, rfl, hr, hx, hL, hT, hc⟩
theorem ld_awake (w : World) : Calls Tryd.prog 4 #[] w fun e w' => e = .returned (.bool true) ∧ Below w.heap.size w w' := by
  go_enter Tryd.func4, Tryd.ntmps4
  go_wp2_with fail
  refine (ledger_new 2 (by omega) _).mono ?_; rintro e w0 ⟨rfl, hL0, hb0, hz0⟩
  have HL0 := Lib.hid hL0; clear hL0
  go_wp2_with fail
  refine (tell_any _ _ _ _ 5 10 11 true (by omega) (by omega) (by omega) _ HL0.out (by omega)).mono ?_; rintro e w1 hs
  obtain ⟨q1, c1, rfl, hR1, hx1, hL1, hT1, _⟩ := hs.done
  rw [show (LS.new 2).tellR 5 10 11 true = [] from rfl] at *
  clear hs hR1 hx1
  have HL1 := Lib.hid hL1; clear hL1
  go_wp2_with fail
  refine (tell_any _ _ _ _ 5 10 12 true (by omega) (by omega) (by omega) _ HL1.out (by omega)).mono ?_; rintro e w2 hs
  obtain ⟨q2, c2, rfl, hR2, hx2, hL2, hT2, _⟩ := hs.done
  rw [show ((LS.new 2).tellS 5 10 11 true).tellR 5 10 12 true = [⟨28, 5, 0, true⟩] from rfl] at *
  obtain ⟨b2, o2, rfl, hb2, hat2⟩ := hR2.at_ (by decide)
  obtain rfl : o2 = 0 := (hx2 _ rfl).2
  have y2 := (hx2 _ rfl).1
  have p2 : RcAt w2 b2 0 ⟨28, 5, 0, true⟩ := hat2 0 (by decide)
  clear hs hR2 hx2 hat2
  have HL2 := Lib.hid hL2; clear hL2
  go_wp2_with fail
  refine (tell_any _ _ _ _ 5 10 13 false (by omega) (by omega) (by omega) _ HL2.out (by omega)).mono ?_; rintro e w3 hs
  obtain ⟨q3, c3, rfl, hR3, hx3, hL3, hT3, _⟩ := hs.done
  rw [show (((LS.new 2).tellS 5 10 11 true).tellS 5 10 12 true).tellR 5 10 13 false = [⟨29, 5, 0, true⟩, ⟨28, 5, 0, false⟩] from rfl] at *
  obtain ⟨b3, o3, rfl, hb3, hat3⟩ := hR3.at_ (by decide)
  obtain rfl : o3 = 0 := (hx3 _ rfl).2
  have y3 := (hx3 _ rfl).1
  have p3 : RcAt w3 b3 0 ⟨29, 5, 0, true⟩ := hat3 0 (by decide)
  have p3' : RcAt w3 b3 8 ⟨28, 5, 0, false⟩ := hat3 1 (by decide)
  clear hs hR3 hx3 hat3
  have HL3 := Lib.hid hL3; clear hL3
  go_wp2_with fail
  refine (end_any _ _ _ _ 5 10 14 false (by omega) (by omega) (by omega) _ HL3.out).mono ?_; rintro e w4 hs
  obtain ⟨q4, c4, rfl, hR4, hx4, hL4, hT4, _⟩ := hs.done
  rw [show ((((LS.new 2).tellS 5 10 11 true).tellS 5 10 12 true).tellS 5 10 13 false).finR 5 10 14 false = [⟨30, 5, 0, false⟩, ⟨31, 5, 4, false⟩] from rfl] at *
  obtain ⟨b4, o4, rfl, hb4, hat4⟩ := hR4.at_ (by decide)
  obtain rfl : o4 = 0 := (hx4 _ rfl).2
  have p4 : RcAt w4 b4 0 ⟨30, 5, 0, false⟩ := hat4 0 (by decide)
  have p4' : RcAt w4 b4 8 ⟨31, 5, 4, false⟩ := hat4 1 (by decide)
  clear hs hR4 hx4 hat4
  have z1 := hT1.size
  have z2 := hT2.size
  have z3 := hT3.size
  have z4 := hT4.size
  have n2 : ¬ (b2 = w.heap.size + 1 ∨ b2 = w.heap.size) := by omega
  have n3 : ¬ (b3 = w.heap.size + 1 ∨ b3 = w.heap.size) := by omega
  replace p2 := (p2.turn hT3 hb2 n2).turn hT4 (Nat.lt_of_lt_of_le hb2 z3) n2
  replace p3 := p3.turn hT4 hb3 n3
  replace p3' := p3'.turn hT4 hb3 n3
  have d1 := p2.c0
  have d2 := p2.c6
  have d3 := p3.c0
  have d4 := p3.c6
  have d5 : w4.cell? ⟨b3, 14, none⟩ = some (.bool false) := p3'.c6
  have d6 := p4.c0
  have d7 : w4.cell? ⟨b4, 12, none⟩ = some (.int .i64 4) := p4'.c4
  simp only [Nat.zero_add] at d1 d2 d3 d4 d6
  clear p2 p3 p3' p4 p4'
  have HL4 := Lib.hid hL4; clear hL4
  go_wp2_with fail
  refine (ledger_done _ _ _ _ _ HL4.out).mono ?_; rintro e w' ⟨rfl, rfl⟩
  rw [show (((((LS.new 2).tellS 5 10 11 true).tellS 5 10 12 true).tellS 5 10 13 false).finS 5).done = 5 from rfl]
  go_wp2_with fail
  go_ret
  refine ⟨rfl, hb0.trans (Turn.below (S := fun k => k = w.heap.size + 1 ∨ k = w.heap.size) ?_ (by omega) (fun k hk e => by omega))⟩
  exact ((hT1.trans hT2 (fun _ _ h => h)).trans hT3 (fun _ _ h => h)).trans hT4 (fun _ _ h => h)
end Go.Proofs.YtkdekdogfplbmaaDoor
