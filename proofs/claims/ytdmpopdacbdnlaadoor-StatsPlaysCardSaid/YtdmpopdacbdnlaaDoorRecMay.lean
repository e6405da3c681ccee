/- The contracts of package record: formOf, copy, May. -/
import Derived.Test.YtdmpopdacbdnlaaDoorRows
import Derived.Test.YtdmpopdacbdnlaaDoorRecMath
import Derived.BigQuiet
import Derived.Deep.QuietTactic
import Derived.WalkLawsBesides
import Derived.WalkSpells
import Derived.OrdersHeld
import Derived.Deep.RegionHeld3
import Derived.Laws.StructEq
namespace Go.Proofs.YtdmpopdacbdnlaaDoor
open Go.RowKit
set_option linter.unusedVariables false
set_option linter.unusedSimpArgs false
set_option maxRecDepth 20000
set_option maxHeartbeats 4000000

def formA (k : UInt8) : Value := .agg #[strV (wordOf k), strV (fieldsOf k)]
theorem formOf_no (k : UInt8) (h : kindB k = false) (w : World) : Calls Tryd.prog 81 #[.int .u8 (k.toNat : Int)] w fun e w' => e = .returned (.tuple #[.agg #[.string ⟨#[]⟩, .string ⟨#[]⟩], .bool false]) ∧ Below w.heap.size w w' := by
  have hk := k.toNat_lt
  unfold kindB at h
  by_cases h1 : k.toNat < 17
  · clear h
    go_enter Tryd.func81, Tryd.ntmps81
    go_wp2_with fail
    exact bodyPost_ret (v := .tuple #[.agg #[.string ⟨#[]⟩, .string ⟨#[]⟩], .bool false]) (by simp [results, Tryd.results81, go_sem]) rfl ⟨rfl, (by repeat (first | with_reducible exact Below.refl _ _ | with_reducible refine Below.drew ?_ | with_reducible refine Below.alloc ?_ (by (try simp) <;> omega) _ | with_reducible refine Below.setCell ?_ (by (try simp) <;> omega) _))⟩
  · have h2 : 32 < k.toNat := by simp at h; omega
    clear h
    go_enter Tryd.func81, Tryd.ntmps81
    go_wp2_with fail
    exact bodyPost_ret (v := .tuple #[.agg #[.string ⟨#[]⟩, .string ⟨#[]⟩], .bool false]) (by simp [results, Tryd.results81, go_sem]) rfl ⟨rfl, (by repeat (first | with_reducible exact Below.refl _ _ | with_reducible refine Below.drew ?_ | with_reducible refine Below.alloc ?_ (by (try simp) <;> omega) _ | with_reducible refine Below.setCell ?_ (by (try simp) <;> omega) _))⟩
theorem formOf_yes (k : UInt8) (h : kindB k = true) (w : World) (hT : Forms 0 w) : Calls Tryd.prog 81 #[.int .u8 (k.toNat : Int)] w fun e w' => e = .returned (.tuple #[formA k, .bool true]) ∧ Below w.heap.size w w' := by
  unfold kindB at h
  simp at h
  obtain ⟨n, hn⟩ : ∃ n, k.toNat = n + 17 := ⟨k.toNat - 17, by omega⟩
  have hn16 : n < 16 := by omega
  obtain ⟨c0, c1⟩ := hT.cells n hn16
  have hlt := hT.lt
  have e1 : wordOf k = (formsT.getD n ([], [])).1 := by unfold wordOf; rw [hn, Nat.add_sub_cancel]
  have e2 : fieldsOf k = (formsT.getD n ([], [])).2 := by unfold fieldsOf; rw [hn, Nat.add_sub_cancel]
  unfold formA
  rw [e1, e2]
  generalize formsT.getD n ([], []) = f at *
  obtain ⟨f1, f2⟩ := f
  simp only [strV] at c0 c1 ⊢
  clear e1 e2 hT
  rw [hn]
  have HN := Lib.hid hn
  clear hn h
  go_enter Tryd.func81, Tryd.ntmps81
  go_wp2_with fail
  exact bodyPost_ret (v := .tuple #[.agg #[.string ⟨f1.toArray⟩, .string ⟨f2.toArray⟩], .bool true]) (by simp [results, Tryd.results81, go_sem]) rfl ⟨rfl, (by repeat (first | with_reducible exact Below.refl _ _ | with_reducible refine Below.drew ?_ | with_reducible refine Below.alloc ?_ (by (try simp) <;> omega) _ | with_reducible refine Below.setCell ?_ (by (try simp) <;> omega) _))⟩
/-- a record's cells at a place -/
structure RecAt (w : World) (b o : Nat) (r : Rec) : Prop where
  c0 : w.cell? ⟨b, o, none⟩ = some (.int .u8 (r.kind.toNat : Int))
  c1 : w.cell? ⟨b, o + 1, none⟩ = some (.int .i64 r.source)
  c2 : w.cell? ⟨b, o + 2, none⟩ = some (.int .u64 (r.seq : Int))
  c3 : w.cell? ⟨b, o + 3, none⟩ = some (.int .i64 r.at_)
  c4 : w.cell? ⟨b, o + 4, none⟩ = some (.int .i64 r.num)
  c5 : w.cell? ⟨b, o + 5, none⟩ = some (.int .i64 r.code)
  c6 : w.cell? ⟨b, o + 6, none⟩ = some (.bool r.yes)
  c7 : w.cell? ⟨b, o + 7, none⟩ = some (.string ⟨r.text.toArray⟩)
theorem RecAt.turn {S : Nat → Prop} {w w' : World} {b o : Nat} {r : Rec} (h : RecAt w b o r) (t : Turn S w w') (hb : b < w.heap.size) (hn : ¬ S b) : RecAt w' b o r :=
  ⟨(t.cell (p := ⟨b, o, none⟩) hb hn).trans h.c0, (t.cell (p := ⟨b, o + 1, none⟩) hb hn).trans h.c1, (t.cell (p := ⟨b, o + 2, none⟩) hb hn).trans h.c2, (t.cell (p := ⟨b, o + 3, none⟩) hb hn).trans h.c3, (t.cell (p := ⟨b, o + 4, none⟩) hb hn).trans h.c4, (t.cell (p := ⟨b, o + 5, none⟩) hb hn).trans h.c5, (t.cell (p := ⟨b, o + 6, none⟩) hb hn).trans h.c6, (t.cell (p := ⟨b, o + 7, none⟩) hb hn).trans h.c7⟩
/-- a record in a block of its own that may be written -/
structure RecBox (w : World) (b : Nat) (r : Rec) : Prop where
  lt : b < w.heap.size
  rec_ : RecAt w b 0 r
  f1 : w.frozen? ⟨b, 1, none⟩ = false
  f2 : w.frozen? ⟨b, 2, none⟩ = false
  f3 : w.frozen? ⟨b, 3, none⟩ = false
  f4 : w.frozen? ⟨b, 4, none⟩ = false
  f5 : w.frozen? ⟨b, 5, none⟩ = false
  f6 : w.frozen? ⟨b, 6, none⟩ = false
  f7 : w.frozen? ⟨b, 7, none⟩ = false
theorem RecBox.turn {S : Nat → Prop} {w w' : World} {b : Nat} {r : Rec} (h : RecBox w b r) (t : Turn S w w') (hn : ¬ S b) : RecBox w' b r :=
  ⟨Nat.lt_of_lt_of_le h.lt t.size, h.rec_.turn t h.lt hn, (t.frozen (p := ⟨b, 1, none⟩) h.lt hn).trans h.f1, (t.frozen (p := ⟨b, 2, none⟩) h.lt hn).trans h.f2, (t.frozen (p := ⟨b, 3, none⟩) h.lt hn).trans h.f3, (t.frozen (p := ⟨b, 4, none⟩) h.lt hn).trans h.f4, (t.frozen (p := ⟨b, 5, none⟩) h.lt hn).trans h.f5, (t.frozen (p := ⟨b, 6, none⟩) h.lt hn).trans h.f6, (t.frozen (p := ⟨b, 7, none⟩) h.lt hn).trans h.f7⟩
def recA (r : Rec) : Value := .agg #[.int .u8 (r.kind.toNat : Int), .int .i64 r.source, .int .u64 (r.seq : Int), .int .i64 r.at_, .int .i64 r.num, .int .i64 r.code, .bool r.yes, .string ⟨r.text.toArray⟩]
theorem u8_ne {a b : UInt8} (h : a ≠ b) : ((a.toNat : Int) == (b.toNat : Int)) = false := by
  rw [beq_eq_false_iff_ne]; intro e; exact h (UInt8.toNat_inj.1 (by omega))
theorem copy_any (b : Nat) (o r : Rec) (c : UInt8) (w : World) (h : RecBox w b o) :
    Calls Tryd.prog 82 #[.pointer (some ⟨b, 0, none⟩), recA r, .int .u8 (c.toNat : Int)] w fun e w' => e = .returned (.tuple #[]) ∧ RecBox w' b (copy1 r o c) ∧ Turn (fun k => k = b) w w' := by
  obtain ⟨hlt, ⟨c0, c1, c2, c3, c4, c5, c6, c7⟩, f1, f2, f3, f4, f5, f6, f7⟩ := h
  simp only [Nat.zero_add] at c0 c1 c2 c3 c4 c5 c6 c7
  unfold copy1 recA
  by_cases h1 : c = 115
  · subst h1
    rw [if_pos rfl]
    go_enter Tryd.func82, Tryd.ntmps82; go_wp2_with fail; go_end0; refine ⟨rfl, ⟨by simp [World.setCell]; omega, ⟨by simp [go_sem, c0, hlt], by simp [go_sem, c1, hlt], by simp [go_sem, c2, hlt], by simp [go_sem, c3, hlt], by simp [go_sem, c4, hlt], by simp [go_sem, c5, hlt], by simp [go_sem, c6, hlt], by simp [go_sem, c7, hlt]⟩, by simp [go_sem, f1, hlt], by simp [go_sem, f2, hlt], by simp [go_sem, f3, hlt], by simp [go_sem, f4, hlt], by simp [go_sem, f5, hlt], by simp [go_sem, f6, hlt], by simp [go_sem, f7, hlt]⟩, (by repeat (first | with_reducible refine Turn.alloc ?_ _ | exact (Turn.refl (fun k => k = b) w).setCell ⟨b, 1, none⟩ (fun _ => rfl) _))⟩
  have e1 : ((c.toNat : Int) == 115) = false := u8_ne h1
  rw [if_neg h1]
  by_cases h2 : c = 113
  · subst h2
    rw [if_pos rfl]
    go_enter Tryd.func82, Tryd.ntmps82; go_wp2_with fail; go_end0; refine ⟨rfl, ⟨by simp [World.setCell]; omega, ⟨by simp [go_sem, c0, hlt], by simp [go_sem, c1, hlt], by simp [go_sem, c2, hlt], by simp [go_sem, c3, hlt], by simp [go_sem, c4, hlt], by simp [go_sem, c5, hlt], by simp [go_sem, c6, hlt], by simp [go_sem, c7, hlt]⟩, by simp [go_sem, f1, hlt], by simp [go_sem, f2, hlt], by simp [go_sem, f3, hlt], by simp [go_sem, f4, hlt], by simp [go_sem, f5, hlt], by simp [go_sem, f6, hlt], by simp [go_sem, f7, hlt]⟩, (by repeat (first | with_reducible refine Turn.alloc ?_ _ | exact (Turn.refl (fun k => k = b) w).setCell ⟨b, 2, none⟩ (fun _ => rfl) _))⟩
  have e2 : ((c.toNat : Int) == 113) = false := u8_ne h2
  rw [if_neg h2]
  by_cases h3 : c = 97
  · subst h3
    rw [if_pos rfl]
    go_enter Tryd.func82, Tryd.ntmps82; go_wp2_with fail; go_end0; refine ⟨rfl, ⟨by simp [World.setCell]; omega, ⟨by simp [go_sem, c0, hlt], by simp [go_sem, c1, hlt], by simp [go_sem, c2, hlt], by simp [go_sem, c3, hlt], by simp [go_sem, c4, hlt], by simp [go_sem, c5, hlt], by simp [go_sem, c6, hlt], by simp [go_sem, c7, hlt]⟩, by simp [go_sem, f1, hlt], by simp [go_sem, f2, hlt], by simp [go_sem, f3, hlt], by simp [go_sem, f4, hlt], by simp [go_sem, f5, hlt], by simp [go_sem, f6, hlt], by simp [go_sem, f7, hlt]⟩, (by repeat (first | with_reducible refine Turn.alloc ?_ _ | exact (Turn.refl (fun k => k = b) w).setCell ⟨b, 3, none⟩ (fun _ => rfl) _))⟩
  have e3 : ((c.toNat : Int) == 97) = false := u8_ne h3
  rw [if_neg h3]
  by_cases h4 : c = 110
  · subst h4
    rw [if_pos rfl]
    go_enter Tryd.func82, Tryd.ntmps82; go_wp2_with fail; go_end0; refine ⟨rfl, ⟨by simp [World.setCell]; omega, ⟨by simp [go_sem, c0, hlt], by simp [go_sem, c1, hlt], by simp [go_sem, c2, hlt], by simp [go_sem, c3, hlt], by simp [go_sem, c4, hlt], by simp [go_sem, c5, hlt], by simp [go_sem, c6, hlt], by simp [go_sem, c7, hlt]⟩, by simp [go_sem, f1, hlt], by simp [go_sem, f2, hlt], by simp [go_sem, f3, hlt], by simp [go_sem, f4, hlt], by simp [go_sem, f5, hlt], by simp [go_sem, f6, hlt], by simp [go_sem, f7, hlt]⟩, (by repeat (first | with_reducible refine Turn.alloc ?_ _ | exact (Turn.refl (fun k => k = b) w).setCell ⟨b, 4, none⟩ (fun _ => rfl) _))⟩
  have e4 : ((c.toNat : Int) == 110) = false := u8_ne h4
  rw [if_neg h4]
  by_cases h5 : c = 99
  · subst h5
    rw [if_pos rfl]
    go_enter Tryd.func82, Tryd.ntmps82; go_wp2_with fail; go_end0; refine ⟨rfl, ⟨by simp [World.setCell]; omega, ⟨by simp [go_sem, c0, hlt], by simp [go_sem, c1, hlt], by simp [go_sem, c2, hlt], by simp [go_sem, c3, hlt], by simp [go_sem, c4, hlt], by simp [go_sem, c5, hlt], by simp [go_sem, c6, hlt], by simp [go_sem, c7, hlt]⟩, by simp [go_sem, f1, hlt], by simp [go_sem, f2, hlt], by simp [go_sem, f3, hlt], by simp [go_sem, f4, hlt], by simp [go_sem, f5, hlt], by simp [go_sem, f6, hlt], by simp [go_sem, f7, hlt]⟩, (by repeat (first | with_reducible refine Turn.alloc ?_ _ | exact (Turn.refl (fun k => k = b) w).setCell ⟨b, 5, none⟩ (fun _ => rfl) _))⟩
  have e5 : ((c.toNat : Int) == 99) = false := u8_ne h5
  rw [if_neg h5]
  by_cases h6 : c = 121
  · subst h6
    rw [if_pos rfl]
    go_enter Tryd.func82, Tryd.ntmps82; go_wp2_with fail; go_end0; refine ⟨rfl, ⟨by simp [World.setCell]; omega, ⟨by simp [go_sem, c0, hlt], by simp [go_sem, c1, hlt], by simp [go_sem, c2, hlt], by simp [go_sem, c3, hlt], by simp [go_sem, c4, hlt], by simp [go_sem, c5, hlt], by simp [go_sem, c6, hlt], by simp [go_sem, c7, hlt]⟩, by simp [go_sem, f1, hlt], by simp [go_sem, f2, hlt], by simp [go_sem, f3, hlt], by simp [go_sem, f4, hlt], by simp [go_sem, f5, hlt], by simp [go_sem, f6, hlt], by simp [go_sem, f7, hlt]⟩, (by repeat (first | with_reducible refine Turn.alloc ?_ _ | exact (Turn.refl (fun k => k = b) w).setCell ⟨b, 6, none⟩ (fun _ => rfl) _))⟩
  have e6 : ((c.toNat : Int) == 121) = false := u8_ne h6
  rw [if_neg h6]
  by_cases h7 : c = 116
  · subst h7
    rw [if_pos rfl]
    go_enter Tryd.func82, Tryd.ntmps82; go_wp2_with fail; go_end0; refine ⟨rfl, ⟨by simp [World.setCell]; omega, ⟨by simp [go_sem, c0, hlt], by simp [go_sem, c1, hlt], by simp [go_sem, c2, hlt], by simp [go_sem, c3, hlt], by simp [go_sem, c4, hlt], by simp [go_sem, c5, hlt], by simp [go_sem, c6, hlt], by simp [go_sem, c7, hlt]⟩, by simp [go_sem, f1, hlt], by simp [go_sem, f2, hlt], by simp [go_sem, f3, hlt], by simp [go_sem, f4, hlt], by simp [go_sem, f5, hlt], by simp [go_sem, f6, hlt], by simp [go_sem, f7, hlt]⟩, (by repeat (first | with_reducible refine Turn.alloc ?_ _ | exact (Turn.refl (fun k => k = b) w).setCell ⟨b, 7, none⟩ (fun _ => rfl) _))⟩
  have e7 : ((c.toNat : Int) == 116) = false := u8_ne h7
  rw [if_neg h7]
  clear h1 h2 h3 h4 h5 h6 h7
  go_enter Tryd.func82, Tryd.ntmps82
  go_wp2_with fail
  go_end0
  have T := (Turn.refl (fun k => k = b) w).alloc (.cells #[.int .u8 (r.kind.toNat : Int), .int .i64 r.source, .int .u64 (r.seq : Int), .int .i64 r.at_, .int .i64 r.num, .int .i64 r.code, .bool r.yes, .string ⟨r.text.toArray⟩] 69)
  exact ⟨rfl, (RecBox.turn ⟨hlt, ⟨c0, c1, c2, c3, c4, c5, c6, c7⟩, f1, f2, f3, f4, f5, f6, f7⟩ (S := fun _ => False) ((Turn.refl _ w).alloc _) (fun h => h)), T⟩
theorem eqlRec (W : World) (a b : Rec) : (binOp .eql 69 (recA a) (recA b)).run Tryd.prog W = .ok (.bool (eqRec a b)) W := by
  obtain ⟨a0, a1, a2, a3, a4, a5, a6, a7⟩ := a
  obtain ⟨b0, b1, b2, b3, b4, b5, b6, b7⟩ := b
  unfold recA eqRec
  rw [run_eql_struct]
  simp only
  have e0 : ((a0.toNat : Int) == (b0.toNat : Int)) = decide (a0 = b0) := by
    rw [Bool.eq_iff_iff, beq_iff_eq, decide_eq_true_iff]
    exact ⟨fun h => UInt8.toNat_inj.1 (by omega), fun h => by rw [h]⟩
  have e2 : ((a2 : Int) == (b2 : Int)) = decide (a2 = b2) := by
    rw [Bool.eq_iff_iff, beq_iff_eq, decide_eq_true_iff]; omega
  have e7 : ((⟨a7.toArray⟩ : ByteArray).toList == (⟨b7.toArray⟩ : ByteArray).toList) = decide (a7 = b7) := by
    rw [ByteArray.toList_eq, ByteArray.toList_eq, Bool.eq_iff_iff, beq_iff_eq, decide_eq_true_iff]
  simp [go_sem, Op.eqFields, e0, e2, e7]
  by_cases h0 : a0 = b0
  rotate_left
  · simp [h0]
  by_cases h1 : a1 = b1
  rotate_left
  · simp [h0, h1]
  by_cases h2 : a2 = b2
  rotate_left
  · simp [h0, h1, h2]
  by_cases h3 : a3 = b3
  rotate_left
  · simp [h0, h1, h2, h3]
  by_cases h4 : a4 = b4
  rotate_left
  · simp [h0, h1, h2, h3, h4]
  by_cases h5 : a5 = b5
  rotate_left
  · simp [h0, h1, h2, h3, h4, h5]
  by_cases h6 : a6 = b6
  rotate_left
  · simp [h0, h1, h2, h3, h4, h5, h6]
  by_cases h7 : a7 = b7
  rotate_left
  · simp [h0, h1, h2, h3, h4, h5, h6, h7]
  simp [h0, h1, h2, h3, h4, h5, h6, h7]
/-- a form's two cells -/
structure FormBox (w : World) (b : Nat) (u v : List UInt8) : Prop where
  lt : b < w.heap.size
  c0 : w.cell? ⟨b, 0, none⟩ = some (.string ⟨u.toArray⟩)
  c1 : w.cell? ⟨b, 1, none⟩ = some (.string ⟨v.toArray⟩)
theorem FormBox.turn {S : Nat → Prop} {w w' : World} {b : Nat} {u v : List UInt8} (h : FormBox w b u v) (t : Turn S w w') (hn : ¬ S b) : FormBox w' b u v :=
  ⟨Nat.lt_of_lt_of_le h.lt t.size, (t.cell (p := ⟨b, 0, none⟩) h.lt hn).trans h.c0, (t.cell (p := ⟨b, 1, none⟩) h.lt hn).trans h.c1⟩
theorem may_no (r : Rec) (h : kindB r.kind = false) (w : World) : Calls Tryd.prog 52 #[recA r] w fun e w' => e = .returned (.bool (mayB r)) ∧ Below w.heap.size w w' := by
  have hm : mayB r = false := by unfold mayB; rw [h]; rfl
  rw [hm]
  have HK := Lib.hid h
  clear h hm
  unfold recA
  go_enter Tryd.func52, Tryd.ntmps52
  go_wp2_with fail
  refine (formOf_no r.kind HK.out _).mono ?_; rintro e w1 ⟨rfl, hb1⟩
  have z1 := hb1.size
  simp at z1
  go_wp2_with fail
  go_ret
  exact ⟨rfl, by refine Below.alloc ((Below.trans ?_ (hb1.mono (by simp))) : Below w.heap.size w w1) (by omega) _; exact (by repeat (first | with_reducible exact Below.refl _ _ | with_reducible refine Below.drew ?_ | with_reducible refine Below.alloc ?_ (by (try simp) <;> omega) _ | with_reducible refine Below.setCell ?_ (by (try simp) <;> omega) _))⟩
theorem may_yes (r : Rec) (h : kindB r.kind = true) (w : World) (hT : Forms 0 w) (hs : r.text.length ≤ maxLen) : Calls Tryd.prog 52 #[recA r] w fun e w' => e = .returned (.bool (mayB r)) ∧ Below w.heap.size w w' := by
  have hm : mayB r = (eqRec (onlyOf r) r && decide (0 ≤ r.source ∧ r.source < 8 ∧ 0 ≤ r.at_ ∧ 0 ≤ r.num ∧ 0 ≤ r.code ∧ r.code ≤ 255 ∧ r.text.length ≤ 240)) := by unfold mayB; rw [h]; rfl
  rw [hm]
  have HK := Lib.hid h
  have HT := Lib.hid (hT.below ((Below.refl w.heap.size w).alloc (Nat.le_refl _) (.cells #[.int .u8 (r.kind.toNat : Int), .int .i64 r.source, .int .u64 (r.seq : Int), .int .i64 r.at_, .int .i64 r.num, .int .i64 r.code, .bool r.yes, .string ⟨r.text.toArray⟩] 69)))
  have hB1 := (Below.refl w.heap.size w).alloc (Nat.le_refl _) (.cells #[.int .u8 (r.kind.toNat : Int), .int .i64 r.source, .int .u64 (r.seq : Int), .int .i64 r.at_, .int .i64 r.num, .int .i64 r.code, .bool r.yes, .string ⟨r.text.toArray⟩] 69)
  have hR1 : RecAt (w.alloc (.cells #[.int .u8 (r.kind.toNat : Int), .int .i64 r.source, .int .u64 (r.seq : Int), .int .i64 r.at_, .int .i64 r.num, .int .i64 r.code, .bool r.yes, .string ⟨r.text.toArray⟩] 69)) w.heap.size 0 r := ⟨by simp [go_sem], by simp [go_sem], by simp [go_sem], by simp [go_sem], by simp [go_sem], by simp [go_sem], by simp [go_sem], by simp [go_sem]⟩
  have HR1 := Lib.hid hR1
  have hfl : (fieldsOf r.kind).length ≤ 4 := by
    unfold fieldsOf
    by_cases h : r.kind.toNat - 17 < 16
    · have : ∀ i : Fin 16, (formsT.getD i.val ([], [])).2.length ≤ 4 := by decide
      exact this ⟨_, h⟩
    · rw [List.getD_eq_getElem?_getD, List.getElem?_eq_none (by have : formsT.length = 16 := rfl; omega)]; simp
  have hon : onlyOf r = (fieldsOf r.kind).foldl (copy1 r) (Rec.zero r.kind) := rfl
  have hfo := fun W hh => formOf_yes r.kind HK.out W hh
  unfold formA strV at hfo
  have HFO := Lib.hid hfo
  have HON := Lib.hid hon
  clear hfo hon h hT hm hR1
  generalize wordOf r.kind = wo at *
  generalize fieldsOf r.kind = fs at *
  unfold recA
  go_enter Tryd.func52, Tryd.ntmps52
  go_wp2_with fail
  refine (HFO.out _ HT.out).mono ?_; rintro e w1 ⟨rfl, hb1⟩
  have z1 := hb1.size
  simp at z1
  have R1 := HR1.out.turn (Turn.ofBelow (S := fun _ => False) hb1 rfl) (by simp) (fun h => h)
  have B1 := hB1.trans (hb1.mono hB1.size)
  have HRR := Lib.hid R1
  obtain ⟨c0, c1, c2, c3, c4, c5, c6, c7⟩ := R1
  simp only [Nat.zero_add] at c0 c1 c2 c3 c4 c5 c6 c7
  clear HR1 HT HFO hB1
  have : w.heap.size < w1.heap.size := (by omega)
  go_wp2_with fail
  have t2 := ((Turn.refl (fun _ => False) w1).alloc (.cells #[.string ⟨wo.toArray⟩, .string ⟨fs.toArray⟩] 132)).alloc (.cells #[.int .u8 (r.kind.toNat : Int), .int .i64 0, .int .u64 0, .int .i64 0, .int .i64 0, .int .i64 0, .bool false, .string ⟨#[]⟩] 69)
  have R2 := HRR.out.turn t2 (by omega) (fun h => h)
  have F2 : FormBox ((w1.alloc (.cells #[.string ⟨wo.toArray⟩, .string ⟨fs.toArray⟩] 132)).alloc (.cells #[.int .u8 (r.kind.toNat : Int), .int .i64 0, .int .u64 0, .int .i64 0, .int .i64 0, .int .i64 0, .bool false, .string ⟨#[]⟩] 69)) w1.heap.size wo fs := ⟨by simp; omega, by simp [go_sem], by simp [go_sem]⟩
  have O2 : RecBox ((w1.alloc (.cells #[.string ⟨wo.toArray⟩, .string ⟨fs.toArray⟩] 132)).alloc (.cells #[.int .u8 (r.kind.toNat : Int), .int .i64 0, .int .u64 0, .int .i64 0, .int .i64 0, .int .i64 0, .bool false, .string ⟨#[]⟩] 69)) (w1.heap.size + 1) (Rec.zero r.kind) := ⟨by simp, ⟨by simp [go_sem, Rec.zero], by simp [go_sem, Rec.zero], by simp [go_sem, Rec.zero], by simp [go_sem, Rec.zero], by simp [go_sem, Rec.zero], by simp [go_sem, Rec.zero], by simp [go_sem, Rec.zero], by simp [go_sem, Rec.zero]⟩, by simp [go_sem], by simp [go_sem], by simp [go_sem], by simp [go_sem], by simp [go_sem], by simp [go_sem], by simp [go_sem]⟩
  have B2 := B1.trans (t2.below B1.size (fun _ _ h => h))
  go_loopw [21] (fun i wr => ∃ k : Nat, k ≤ fs.length ∧ i = .int .i64 k ∧ RecBox wr (w1.heap.size + 1) ((fs.take k).foldl (copy1 r) (Rec.zero r.kind)) ∧ RecAt wr w.heap.size 0 r ∧ FormBox wr w1.heap.size wo fs ∧ Below w.heap.size w wr) (fun i wr => fs.length - (intOf i).toNat)
  case atStart => exact ⟨0, Nat.zero_le _, rfl, O2, R2, F2, B2⟩
  case round =>
    obtain ⟨k, hk, rfl, hO, hR, hF, hB⟩ := hrel
    clear O2 R2 F2 B2 t2 c0 c1 c2 c3 c4 c5 c6 c7
    have hlO := hO.lt
    have hlF := hF.lt
    have HO := Lib.hid hO
    have HR := Lib.hid hR
    have HF := Lib.hid hF
    clear hO hR hF
    by_cases hlt : k < fs.length
    · have hix : ∀ W, (Instr.index 9 (.string ⟨fs.toArray⟩) (.int .i64 (k : Int))).run Tryd.prog W = .ok (.int .u8 ((fs[k]'hlt).toNat : Int)) W := fun W => by
        rw [run_index_string W 9 _ _ _ Tryd.underlying9, dif_pos ⟨by omega, by show (k : Int) < ((fs.toArray.size : Nat) : Int); simp; omega⟩]
        rfl
      have hft : (fs.take (k + 1)).foldl (copy1 r) (Rec.zero r.kind) = copy1 r ((fs.take k).foldl (copy1 r) (Rec.zero r.kind)) fs[k] := by
        rw [List.take_succ_eq_append_getElem hlt, List.foldl_append]; rfl
      have HFT := Lib.hid hft
      clear hft
      generalize fs[k] = ch at *
      go_wp2_with fail
      have D0 := Turn.ofBelow (S := fun _ => False) ((Below.refl wr.heap.size wr).drew) rfl
      refine wp_region_noPanic ?_
      refine wp_region_held_drew (S := fun W => RecAt W w.heap.size 0 r ∧ W.cell? ⟨w1.heap.size, 1, none⟩ = some (.string ⟨fs.toArray⟩)) (by kernel_rfl) ⟨HR.out.turn D0 (by omega) (fun h => h), (HF.out.turn D0 (fun h => h)).c1⟩ (fun hHeld => ?_)
      refine wpAnyH_take (i := 0) (oi := ⟨some 24, _, _, _, _, _⟩) (v := ?_) rfl (by kernel_rfl) (by kernel_rfl) (by kernel_rfl) (fun _ _ _ h => h) (Or.inl ⟨by rfl, ?hyt0⟩) (by assumption) ?_; (case hyt0 => ((intro W hSW; (try dsimp only at hSW); obtain ⟨⟨s0, s1, s2, s3, s4, s5, s6, s7⟩, u0⟩ := hSW; (try simp only [Nat.zero_add] at s0 s1 s2 s3 s4 s5 s6 s7); go_simp); (all_goals with_reducible rfl))); (try simp only [Act.put, List.setIfInBounds_toArray, List.set_cons_zero, List.set_cons_succ])
      refine wpAnyH_take (i := 1) (oi := ⟨some 25, _, _, _, _, _⟩) (v := ?_) rfl (by kernel_rfl) (by kernel_rfl) (by kernel_rfl) (fun _ _ _ h => h) (Or.inl ⟨by rfl, ?hyt1⟩) (by assumption) ?_; (case hyt1 => ((intro W hSW; (try dsimp only at hSW); obtain ⟨⟨s0, s1, s2, s3, s4, s5, s6, s7⟩, u0⟩ := hSW; (try simp only [Nat.zero_add] at s0 s1 s2 s3 s4 s5 s6 s7); go_simp); (all_goals with_reducible rfl))); (try simp only [Act.put, List.setIfInBounds_toArray, List.set_cons_zero, List.set_cons_succ])
      refine wpAnyH_take (i := 2) (oi := ⟨some 26, _, _, _, _, _⟩) (v := ?_) rfl (by kernel_rfl) (by kernel_rfl) (by kernel_rfl) (fun _ _ _ h => h) (Or.inl ⟨by rfl, ?hyt2⟩) (by assumption) ?_; (case hyt2 => ((intro W hSW; (try dsimp only at hSW); obtain ⟨⟨s0, s1, s2, s3, s4, s5, s6, s7⟩, u0⟩ := hSW; (try simp only [Nat.zero_add] at s0 s1 s2 s3 s4 s5 s6 s7); go_simp); (all_goals with_reducible rfl))); (try simp only [Act.put, List.setIfInBounds_toArray, List.set_cons_zero, List.set_cons_succ])
      refine wpAnyH_take (i := 3) (oi := ⟨some 27, _, _, _, _, _⟩) (v := ?_) rfl (by kernel_rfl) (by kernel_rfl) (by kernel_rfl) (fun _ _ _ h => h) (Or.inl ⟨by rfl, ?hyt3⟩) (by assumption) ?_; (case hyt3 => ((intro W hSW; (try dsimp only at hSW); obtain ⟨⟨s0, s1, s2, s3, s4, s5, s6, s7⟩, u0⟩ := hSW; (try simp only [Nat.zero_add] at s0 s1 s2 s3 s4 s5 s6 s7); go_simp); (all_goals with_reducible rfl))); (try simp only [Act.put, List.setIfInBounds_toArray, List.set_cons_zero, List.set_cons_succ])
      refine wpAnyH_take (i := 4) (oi := ⟨some 28, _, _, _, _, _⟩) (v := ?_) rfl (by kernel_rfl) (by kernel_rfl) (by kernel_rfl) (fun _ _ _ h => h) (Or.inl ⟨by rfl, ?hyt4⟩) (by assumption) ?_; (case hyt4 => ((intro W hSW; (try dsimp only at hSW); obtain ⟨⟨s0, s1, s2, s3, s4, s5, s6, s7⟩, u0⟩ := hSW; (try simp only [Nat.zero_add] at s0 s1 s2 s3 s4 s5 s6 s7); go_simp); (all_goals with_reducible rfl))); (try simp only [Act.put, List.setIfInBounds_toArray, List.set_cons_zero, List.set_cons_succ])
      refine wpAnyH_ready (rs := [5]) (by kernel_rfl) (by simp) ?_; refine AllReadyH.cons (o := ⟨some 29, _, _, _, _, _⟩) rfl (fun K hK => ?_) AllReadyH.nil; go_simp
      go_at_call 82
      refine (copy_any (w1.heap.size + 1) _ r ch _ (HO.out.turn D0 (fun h => h))).mono ?_; rintro e w3 ⟨rfl, hO3, hT3⟩
      have T3 := (D0.mono (T := fun k => k = w1.heap.size + 1) (fun _ _ h => h.elim)).trans hT3 (fun _ _ h => h)
      have R3 := HR.out.turn T3 (by omega) (by omega)
      have F3 := HF.out.turn T3 (by omega)
      have B3 := hB.trans (T3.below hB.size (fun k hk e => by omega))
      (try go_simp)
      refine hK.out _ _ ⟨R3, F3.c1⟩ (fun hHeld2 => ?_)
      clear hK K hHeld
      (try simp only [Act.put, List.setIfInBounds_toArray, List.set_cons_zero, List.set_cons_succ])
      refine wpAnyH_done (by kernel_rfl) ?_ _
      refine NoPanic.normal ?_
      clear hHeld2
      rw [← HFT.out] at hO3
      go_wp2_with fail
      go_roundw
      case rel => exact ⟨k + 1, by omega, by go_num, hO3, R3, F3, B3⟩
      case measure => simp [intOf]; omega
    · have e : fs.take k = fs := List.take_of_length_le (by omega)
      have hO := HO.out
      rw [e, ← HON.out] at hO
      clear e HO
      obtain ⟨d0, d1, d2, d3, d4, d5, d6, d7⟩ := HR.out
      obtain ⟨o0, o1, o2, o3, o4, o5, o6, o7⟩ := hO.rec_
      simp only [Nat.zero_add] at d0 d1 d2 d3 d4 d5 d6 d7 o0 o1 o2 o3 o4 o5 o6 o7
      have heq := fun W => eqlRec W (onlyOf r) r
      unfold recA at heq
      clear hO HR HF HON HRR
      unfold maxLen at hs
      cases hq : eqRec (onlyOf r) r with
      | true =>
        have HQ := Lib.hid hq
        simp only [hq] at heq
        clear hq
        go_wp2_with fail
        all_goals (go_ret; exact ⟨ret_bool (by first | rfl | (rw [HQ.out]; simp; done) | (rw [HQ.out]; simp; omega) | (rw [HQ.out]; simp; intros; omega) | (rw [HQ.out, Bool.eq_iff_iff]; simp; omega)), hB⟩)
      | false =>
        have HQ := Lib.hid hq
        simp only [hq] at heq
        clear hq
        go_wp2_with fail
        all_goals (go_ret; exact ⟨ret_bool (by first | rfl | (rw [HQ.out]; simp; done) | (rw [HQ.out]; simp; omega) | (rw [HQ.out]; simp; intros; omega) | (rw [HQ.out, Bool.eq_iff_iff]; simp; omega)), hB⟩)
/-- May. -/
theorem may_any (r : Rec) (w : World) (hT : Forms 0 w) (hs : r.text.length ≤ maxLen) : Calls Tryd.prog 52 #[recA r] w fun e w' => e = .returned (.bool (mayB r)) ∧ Below w.heap.size w w' := by
  cases h : kindB r.kind with
  | true => exact may_yes r h w hT hs
  | false => exact may_no r h w
end Go.Proofs.YtdmpopdacbdnlaaDoor
