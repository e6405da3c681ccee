/- record.Take: contract. -/
import Derived.Test.YtdmpopdacbdnlaaDoorRecNum
import Derived.Test.YtdmpopdacbdnlaaDoorRecUse
namespace Go.Proofs.YtdmpopdacbdnlaaDoor
open Go.RowKit
set_option linter.unusedVariables false
set_option linter.unusedSimpArgs false
set_option maxHeartbeats 2000000
set_option maxRecDepth 20000
/-- what is read so far: the record, whether its numbers may be, what is left, the error -/
structure TS where
  r : Rec
  ok : Bool
  bs : List UInt8
  e : Int
def TS.step (s : TS) (c : UInt8) : TS :=
  if c = 116 then ⟨{ s.r with text := (Oct.rText s.bs s.e 240).1 }, s.ok, (Oct.rText s.bs s.e 240).2.1, (Oct.rText s.bs s.e 240).2.2⟩
  else ⟨set1 s.r c (Oct.rNum s.bs s.e).1, s.ok && okU c (Oct.rNum s.bs s.e).1, (Oct.rNum s.bs s.e).2.1, (Oct.rNum s.bs s.e).2.2⟩
def TS.all (k : UInt8) (bs : List UInt8) : TS := (fieldsOf k).foldl TS.step ⟨Rec.zero k, true, bs, 0⟩
def TS.fin (s : TS) : Rec × Int := if Oct.endOf s.bs s.e ≠ 0 then (Rec.zero 0, Oct.endOf s.bs s.e) else if s.ok = false then (Rec.zero 0, 11) else (s.r, 0)
def takeR (k : UInt8) (bs : List UInt8) : Rec × Int := if kindB k = true then (TS.all k bs).fin else (Rec.zero 0, 1)
theorem set1_kind (r : Rec) (c : UInt8) (u : Nat) : (set1 r c u).kind = r.kind := by
  unfold set1
  repeat' split
  all_goals rfl
theorem RecBox.setText {w : World} {b : Nat} {r : Rec} (h : RecBox w b r) (t : List UInt8) : RecBox (w.setCell ⟨b, 7, none⟩ (.string ⟨t.toArray⟩)) b { r with text := t } := by
  obtain ⟨hlt, ⟨c0, c1, c2, c3, c4, c5, c6, c7⟩, f1, f2, f3, f4, f5, f6, f7⟩ := h
  simp only [Nat.zero_add] at c0 c1 c2 c3 c4 c5 c6 c7
  exact ⟨by simp [World.setCell]; omega, ⟨by simp [go_sem, c0, hlt], by simp [go_sem, c1, hlt], by simp [go_sem, c2, hlt], by simp [go_sem, c3, hlt], by simp [go_sem, c4, hlt], by simp [go_sem, c5, hlt], by simp [go_sem, c6, hlt], by simp [go_sem, c7, hlt]⟩, by simp [go_sem, f1, hlt], by simp [go_sem, f2, hlt], by simp [go_sem, f3, hlt], by simp [go_sem, f4, hlt], by simp [go_sem, f5, hlt], by simp [go_sem, f6, hlt], by simp [go_sem, f7, hlt]⟩
def zeroRV : List Value := [.int .u8 0, .int .i64 0, .int .u64 0, .int .i64 0, .int .i64 0, .int .i64 0, .bool false, .string ⟨#[]⟩]
def TookR (w : World) (x : Rec × Int) (e : Ending) (w' : World) : Prop := e = .returned (.tuple #[recA x.1, .int .i64 x.2]) ∧ Below w.heap.size w w'
theorem tookr_zero {w w' : World} {z : Int} (hb : Below w.heap.size w w') : TookR w (Rec.zero 0, z) (.returned (.tuple #[.agg #[.int .u8 0, .int .i64 0, .int .u64 0, .int .i64 0, .int .i64 0, .int .i64 0, .bool false, .string ⟨#[]⟩], .int .i64 z])) w' := ⟨rfl, hb⟩
theorem tookr_end {w w' : World} {s : TS} {z : Int} (hz : Oct.endOf s.bs s.e = z) (h0 : z ≠ 0) (hb : Below w.heap.size w w') : TookR w s.fin (.returned (.tuple #[.agg #[.int .u8 0, .int .i64 0, .int .u64 0, .int .i64 0, .int .i64 0, .int .i64 0, .bool false, .string ⟨#[]⟩], .int .i64 z])) w' := by
  unfold TS.fin
  rw [hz, if_pos h0]
  exact ⟨rfl, hb⟩
theorem tookr_form {w w' : World} {s : TS} (hz : Oct.endOf s.bs s.e = 0) (h0 : s.ok = false) (hb : Below w.heap.size w w') : TookR w s.fin (.returned (.tuple #[.agg #[.int .u8 0, .int .i64 0, .int .u64 0, .int .i64 0, .int .i64 0, .int .i64 0, .bool false, .string ⟨#[]⟩], .int .i64 11])) w' := by
  unfold TS.fin
  rw [hz, if_neg (by simp), if_pos h0]
  exact ⟨rfl, hb⟩
theorem tookr_ok {w w' : World} {s : TS} (hz : Oct.endOf s.bs s.e = 0) (h0 : s.ok = true) (hb : Below w.heap.size w w') : TookR w s.fin (.returned (.tuple #[recA s.r, .int .i64 0])) w' := by
  unfold TS.fin
  rw [hz, if_neg (by simp), if_neg (by simp [h0])]
  exact ⟨rfl, hb⟩
theorem rtake_no (k : UInt8) (q : Option Addr) (n c : Nat) (w : World) (hk : kindB k = false) :
    Calls Tryd.prog 60 #[.int .u8 (k.toNat : Int), .slice q n c] w (TookR w (Rec.zero 0, 1)) := by
  have HF := Lib.hid (fun W => formOf_no k hk W)
  clear hk
  have X1 : Hid (Box (w.alloc (.cells #[.int .u8 0, .int .i64 0, .int .u64 0, .int .i64 0, .int .i64 0, .int .i64 0, .bool false, .string ⟨#[]⟩] 69)) w.heap.size zeroRV) := Lib.hid (Box.new w _ _ _ rfl _ rfl)
  go_enter Tryd.func60, Tryd.ntmps60
  go_wp2_with fail
  refine (HF.out _).mono ?_; rintro e w2 ⟨rfl, hb2⟩
  have B2 : Below w.heap.size w w2 := Below.trans (by repeat (first | with_reducible exact Below.refl _ _ | with_reducible refine Below.drew ?_ | with_reducible refine Below.alloc ?_ (by (try simp) <;> omega) _ | with_reducible refine Below.setCell ?_ (by (try simp) <;> omega) _)) (hb2.mono (by simp))
  have X2 := X1.out.below hb2
  have r0 := X2.cell 0 _ rfl; have r1 := X2.cell 1 _ rfl; have r2 := X2.cell 2 _ rfl; have r3 := X2.cell 3 _ rfl; have r4 := X2.cell 4 _ rfl; have r5 := X2.cell 5 _ rfl; have r6 := X2.cell 6 _ rfl; have r7 := X2.cell 7 _ rfl; have k0 := X2.free 0 (by decide); have k1 := X2.free 1 (by decide); have k2 := X2.free 2 (by decide); have k3 := X2.free 3 (by decide); have k4 := X2.free 4 (by decide); have k5 := X2.free 5 (by decide); have k6 := X2.free 6 (by decide); have k7 := X2.free 7 (by decide); have zX2 := X2.lt
  go_wp2_with fail
  exact bodyPost_ret (v := .tuple #[.agg #[.int .u8 0, .int .i64 0, .int .u64 0, .int .i64 0, .int .i64 0, .int .i64 0, .bool false, .string ⟨#[]⟩], .int .i64 1]) (by simp [results, Tryd.results60, go_sem, r0, r1, r2, r3, r4, r5, r6, r7, X2.lt]) rfl (tookr_zero (by repeat (first | with_reducible exact B2 | with_reducible refine Below.setCell ?_ (by simp) _ | with_reducible refine Below.alloc ?_ (by (try simp) <;> first | omega | exact B2.size) _)))
theorem Turn.set8 (w : World) (b : Nat) (u0 u1 u2 u3 u4 u5 u6 u7 : Value) : Turn (fun k => k = b) w ((((((((w.setCell ⟨b, 0, none⟩ u0).setCell ⟨b, 1, none⟩ u1).setCell ⟨b, 2, none⟩ u2).setCell ⟨b, 3, none⟩ u3).setCell ⟨b, 4, none⟩ u4).setCell ⟨b, 5, none⟩ u5).setCell ⟨b, 6, none⟩ u6).setCell ⟨b, 7, none⟩ u7) :=
  ((((((((Turn.refl (fun k => k = b) w).setCell _ (fun _ => rfl) _).setCell _ (fun _ => rfl) _).setCell _ (fun _ => rfl) _).setCell _ (fun _ => rfl) _).setCell _ (fun _ => rfl) _).setCell _ (fun _ => rfl) _).setCell _ (fun _ => rfl) _).setCell _ (fun _ => rfl) _
theorem RecBox.new0 (w : World) (kk : UInt8) (t : TypeId) (n : Nat) (hn : n = w.heap.size) : RecBox (w.alloc (.cells #[.int .u8 (kk.toNat : Int), .int .i64 0, .int .u64 0, .int .i64 0, .int .i64 0, .int .i64 0, .bool false, .string ⟨#[]⟩] t)) n (Rec.zero kk) := by
  subst hn
  exact ⟨by simp, ⟨by simp [go_sem, Rec.zero], by simp [go_sem, Rec.zero], by simp [go_sem, Rec.zero], by simp [go_sem, Rec.zero], by simp [go_sem, Rec.zero], by simp [go_sem, Rec.zero], by simp [go_sem, Rec.zero], by simp [go_sem, Rec.zero]⟩, by simp [go_sem], by simp [go_sem], by simp [go_sem], by simp [go_sem], by simp [go_sem], by simp [go_sem], by simp [go_sem]⟩
theorem foldl_succ {f : TS → UInt8 → TS} {s0 : TS} (l : List UInt8) (k : Nat) (h : k < l.length) : (l.take (k + 1)).foldl f s0 = f ((l.take k).foldl f s0) (l[k]'h) := by
  rw [List.take_succ_eq_append_getElem h, List.foldl_append]; rfl
theorem rtake_yes (kk : UInt8) (q : Option Addr) (n c : Nat) (bs : List UInt8) (w : World) (hk : kindB kk = true) (h : RowB w q n c bs) (hl : n ≤ 1000000000) (hT : Forms 0 w) :
    Calls Tryd.prog 60 #[.int .u8 (kk.toNat : Int), .slice q n c] w (TookR w (TS.all kk bs).fin) := by
  have HFO := fun W hh => formOf_yes kk hk W hh
  have hfl := fields_len kk
  have hlet : ∀ x ∈ fieldsOf kk, letter x := by
    unfold kindB at hk
    rw [Bool.and_eq_true, decide_eq_true_iff, decide_eq_true_iff] at hk
    exact fields_letter kk hk.1 hk.2
  have hall : TS.all kk bs = (fieldsOf kk).foldl TS.step ⟨Rec.zero kk, true, bs, 0⟩ := rfl
  unfold formA strV at HFO
  generalize TS.all kk bs = sF at *
  generalize wordOf kk = wo at *
  generalize fieldsOf kk = fs at *
  replace HFO := Lib.hid HFO
  replace hall := Lib.hid hall
  replace hlet := Lib.hid hlet
  replace hT := Lib.hid hT
  replace h := Lib.hid h
  clear hk
  have A1 : Below w.heap.size w (w.alloc (.cells #[.int .u8 0, .int .i64 0, .int .u64 0, .int .i64 0, .int .i64 0, .int .i64 0, .bool false, .string ⟨#[]⟩] 69)) := (Below.refl _ _).alloc (Nat.le_refl _) _
  have XR : Hid (Box (w.alloc (.cells #[.int .u8 0, .int .i64 0, .int .u64 0, .int .i64 0, .int .i64 0, .int .i64 0, .bool false, .string ⟨#[]⟩] 69)) w.heap.size zeroRV) := Lib.hid (Box.new w _ _ _ rfl _ rfl)
  go_enter Tryd.func60, Tryd.ntmps60
  go_wp2_with fail
  refine (HFO.out _ (hT.out.below A1)).mono ?_; rintro e w2 ⟨rfl, hb2⟩
  have B2 := A1.trans (hb2.mono A1.size)
  have A2 : Below w2.heap.size w2 (w2.alloc (.cells #[.string ⟨wo.toArray⟩, .string ⟨fs.toArray⟩] 132)) := (Below.refl _ _).alloc (Nat.le_refl _) _
  have F2 : Hid (FormBox (w2.alloc (.cells #[.string ⟨wo.toArray⟩, .string ⟨fs.toArray⟩] 132)) w2.heap.size wo fs) := Lib.hid ⟨by simp, by simp [go_sem], by simp [go_sem]⟩
  replace XR := Lib.hid ((XR.out.below hb2).below A2)
  have B3 := B2.trans (A2.mono B2.size)
  have zR2 : w.heap.size < w2.heap.size := by have := hb2.size; simp at this; omega
  clear A1 hb2 A2 B2
  go_wp2_with fail
  refine (Oct.open_any q n c bs _ (h.out.below B3) hl).mono ?_; rintro e w3 ⟨g, rfl, hgg, hRd, hb3⟩
  simp at hgg
  have B4 := B3.trans (hb3.mono B3.size)
  replace XR := Lib.hid (XR.out.below hb3)
  replace F2 := Lib.hid (F2.out.turn (Turn.ofBelow (S := fun _ => False) hb3 rfl) (fun h => h))
  have zF := F2.out.lt
  have zg := hRd.lt
  clear hb3 B3
  have f1 := F2.out.c1
  go_wp2_with fail
  clear f1
  have A4 : Below w3.heap.size w3 (w3.alloc (.cells #[.int .u8 (kk.toNat : Int), .int .i64 0, .int .u64 0, .int .i64 0, .int .i64 0, .int .i64 0, .bool false, .string ⟨#[]⟩] 69)) := (Below.refl _ _).alloc (Nat.le_refl _) _
  have M4 : Hid (RecBox (w3.alloc (.cells #[.int .u8 (kk.toNat : Int), .int .i64 0, .int .u64 0, .int .i64 0, .int .i64 0, .int .i64 0, .bool false, .string ⟨#[]⟩] 69)) w3.heap.size (Rec.zero kk)) := Lib.hid (RecBox.new0 w3 kk _ _ rfl)
  replace XR := Lib.hid (XR.out.below A4)
  replace F2 := Lib.hid (F2.out.turn (Turn.ofBelow (S := fun _ => False) A4 rfl) (fun h => h))
  replace hRd := Lib.hid (Rd.turnM hRd (Turn.ofBelow (S := fun _ => False) A4 rfl) (fun _ _ h => h))
  have B5 := B4.trans (A4.mono B4.size)
  clear A4 B4
  generalize w3.alloc (.cells #[.int .u8 (kk.toNat : Int), .int .i64 0, .int .u64 0, .int .i64 0, .int .i64 0, .int .i64 0, .bool false, .string ⟨#[]⟩] 69) = w4 at *
  go_loopw [10, 28] (fun rt i wr => ∃ k : Nat, k ≤ fs.length ∧ i = .int .i64 k ∧ rt = .bool ((fs.take k).foldl TS.step ⟨Rec.zero kk, true, bs, 0⟩).ok ∧ Hid (RecBox wr w3.heap.size ((fs.take k).foldl TS.step ⟨Rec.zero kk, true, bs, 0⟩).r) ∧ Hid (Oct.Rd wr g ((fs.take k).foldl TS.step ⟨Rec.zero kk, true, bs, 0⟩).bs ((fs.take k).foldl TS.step ⟨Rec.zero kk, true, bs, 0⟩).e) ∧ Hid (Box wr w.heap.size zeroRV) ∧ Hid (FormBox wr w2.heap.size wo fs) ∧ Below w.heap.size w wr) (fun rt i wr => fs.length - (intOf i).toNat)
  case atStart => exact ⟨0, Nat.zero_le _, rfl, rfl, M4, hRd, XR, F2, B5⟩
  case round =>
    clear M4 hRd XR F2 B5
    obtain ⟨k, hkl, rfl, rfl, hM, hRd, XR, hF, BT⟩ := hrel
    by_cases hlt : k < fs.length
    · have hix : ∀ W, (Instr.index 9 (.string ⟨fs.toArray⟩) (.int .i64 (k : Int))).run Tryd.prog W = .ok (.int .u8 ((fs[k]'hlt).toNat : Int)) W := fun W => by
        rw [run_index_string W 9 _ _ _ Tryd.underlying9, dif_pos ⟨by omega, by show (k : Int) < ((fs.toArray.size : Nat) : Int); simp; omega⟩]
        rfl
      have hst := foldl_succ (f := TS.step) (s0 := ⟨Rec.zero kk, true, bs, 0⟩) fs k hlt
      have hle := hlet.out (fs[k]'hlt) (List.getElem_mem hlt)
      generalize (fs.take k).foldl TS.step ⟨Rec.zero kk, true, bs, 0⟩ = s0 at *
      generalize fs[k] = ch at *
      have hdef : s0.step ch = if ch = 116 then ⟨{ s0.r with text := (Oct.rText s0.bs s0.e 240).1 }, s0.ok, (Oct.rText s0.bs s0.e 240).2.1, (Oct.rText s0.bs s0.e 240).2.2⟩ else ⟨set1 s0.r ch (Oct.rNum s0.bs s0.e).1, s0.ok && okU ch (Oct.rNum s0.bs s0.e).1, (Oct.rNum s0.bs s0.e).2.1, (Oct.rNum s0.bs s0.e).2.2⟩ := rfl
      rw [hdef] at hst
      clear hdef
      obtain ⟨r0, ok0, b0, e0⟩ := s0
      simp only at hst hM hRd ⊢
      have f1 := hF.out.c1
      have zRr := XR.out.lt
      have zFr := hF.out.lt
      have zMr := hM.out.lt
      have zgr := hRd.out.lt
      by_cases hch : ch = 116
      · subst hch
        rw [if_pos rfl] at hst
        have HTX := Lib.hid (Oct.text_any g b0 e0 240 (by omega) wr hRd.out)
        generalize Oct.rText b0 e0 240 = tx at *
        obtain ⟨t, b1, e1⟩ := tx
        simp only at hst HTX
        replace hst := Lib.hid hst
        go_wp2_with fail
        refine HTX.out.mono ?_; rintro e w5 ⟨rfl, hR5, hg5⟩
        have T5 := Turn.ofGrownS hg5
        replace hM := Lib.hid (hM.out.turn T5 (by omega))
        replace XR := Lib.hid (XR.out.turn T5 (by omega))
        replace hF := Lib.hid (hF.out.turn T5 (by omega))
        replace BT := BT.trans (T5.below BT.size (fun k hk e => by omega))
        have m7 := hM.out.rec_.c7
        have m7f := hM.out.f7
        simp only [Nat.zero_add] at m7
        have zM := hM.out.lt
        clear HTX hRd hg5 T5 f1
        go_wp2_with fail
        have TS7 := Box.setTurn w5 w3.heap.size 7 (.string ⟨t.toArray⟩)
        go_roundw
        case rel => first | exact ⟨k + 1, by omega, by go_num, by rw [hst.out], by rw [hst.out]; exact Lib.hid (hM.out.setText t), by rw [hst.out]; exact Lib.hid (Rd.turnM hR5 TS7 (fun j hj e => by omega)), Lib.hid (XR.out.turn TS7 (by omega)), Lib.hid (hF.out.turn TS7 (by omega)), BT.trans (TS7.below BT.size (fun k hk e => by omega))⟩ | exact ⟨k + 1, by omega, by omega, by rw [hst.out], by rw [hst.out]; exact Lib.hid (hM.out.setText t), by rw [hst.out]; exact Lib.hid (Rd.turnM hR5 TS7 (fun j hj e => by omega)), Lib.hid (XR.out.turn TS7 (by omega)), Lib.hid (hF.out.turn TS7 (by omega)), BT.trans (TS7.below BT.size (fun k hk e => by omega))⟩ | exact ⟨k + 1, by omega, by omega, by rw [hst.out]; exact Lib.hid (hM.out.setText t), by rw [hst.out]; exact Lib.hid (Rd.turnM hR5 TS7 (fun j hj e => by omega)), Lib.hid (XR.out.turn TS7 (by omega)), Lib.hid (hF.out.turn TS7 (by omega)), BT.trans (TS7.below BT.size (fun k hk e => by omega))⟩
        case measure => simp [intOf] <;> omega
      · have hch' : ((ch.toNat : Int) == 116) = false := u8_ne hch
        rw [if_neg hch] at hst
        have hc6 : ch = 115 ∨ ch = 113 ∨ ch = 97 ∨ ch = 110 ∨ ch = 99 ∨ ch = 121 := by
          unfold letter at hle
          rcases hle with h | h | h | h | h | h | h
          · exact .inl h
          · exact .inr (.inl h)
          · exact .inr (.inr (.inl h))
          · exact .inr (.inr (.inr (.inl h)))
          · exact .inr (.inr (.inr (.inr (.inl h))))
          · exact .inr (.inr (.inr (.inr (.inr h))))
          · exact absurd h hch
        have hnl := Oct.rNum_lt b0 e0
        have HN := Lib.hid (fun W hr => Oct.num_any g b0 e0 W hr)
        generalize Oct.rNum b0 e0 = rn at *
        obtain ⟨u, b1, e1⟩ := rn
        simp only at hst HN hnl
        have HS := Lib.hid (fun W hb => set_any w3.heap.size r0 ch u (by omega) hc6 W hb)
        generalize okU ch u = okk at *
        generalize set1 r0 ch u = r1 at *
        replace hst := Lib.hid hst
        clear hle hc6
        go_wp2_with fail
        have D0 := Turn.ofBelow (S := fun _ => False) ((Below.refl wr.heap.size wr).drew) rfl
        refine wp_region_noPanic ?_
        refine wp_region_held_drew (S := fun W => W.cell? ⟨w2.heap.size, 1, none⟩ = some (.string ⟨fs.toArray⟩)) (by kernel_rfl) ((hF.out.turn D0 (fun h => h)).c1) (fun hHeld => ?_)
        refine wpAnyH_take (i := 0) (oi := ⟨some 39, _, _, _, _, _⟩) (v := ?_) rfl (by kernel_rfl) (by kernel_rfl) (by kernel_rfl) (fun _ _ _ h => h) (Or.inl ⟨by rfl, ?hyt0⟩) (by assumption) ?_; (case hyt0 => ((intro W hSW; (try dsimp only at hSW); go_simp); (all_goals with_reducible rfl))); (try simp only [Act.put, List.setIfInBounds_toArray, List.set_cons_zero, List.set_cons_succ])
        refine wpAnyH_take (i := 1) (oi := ⟨some 40, _, _, _, _, _⟩) (v := ?_) rfl (by kernel_rfl) (by kernel_rfl) (by kernel_rfl) (fun _ _ _ h => h) (Or.inl ⟨by rfl, ?hyt1⟩) (by assumption) ?_; (case hyt1 => ((intro W hSW; (try dsimp only at hSW); go_simp); (all_goals with_reducible rfl))); (try simp only [Act.put, List.setIfInBounds_toArray, List.set_cons_zero, List.set_cons_succ])
        refine wpAnyH_take (i := 2) (oi := ⟨some 41, _, _, _, _, _⟩) (v := ?_) rfl (by kernel_rfl) (by kernel_rfl) (by kernel_rfl) (fun _ _ _ h => h) (Or.inl ⟨by rfl, ?hyt2⟩) (by assumption) ?_; (case hyt2 => ((intro W hSW; (try dsimp only at hSW); go_simp); (all_goals with_reducible rfl))); (try simp only [Act.put, List.setIfInBounds_toArray, List.set_cons_zero, List.set_cons_succ])
        refine wpAnyH_take (i := 3) (oi := ⟨some 42, _, _, _, _, _⟩) (v := ?_) rfl (by kernel_rfl) (by kernel_rfl) (by kernel_rfl) (fun _ _ _ h => h) (Or.inl ⟨by rfl, ?hyt3⟩) (by assumption) ?_; (case hyt3 => ((intro W hSW; (try dsimp only at hSW); go_simp); (all_goals with_reducible rfl))); (try simp only [Act.put, List.setIfInBounds_toArray, List.set_cons_zero, List.set_cons_succ])
        refine wpAnyH_take (i := 4) (oi := ⟨some 43, _, _, _, _, _⟩) (v := ?_) rfl (by kernel_rfl) (by kernel_rfl) (by kernel_rfl) (fun _ _ _ h => h) (Or.inl ⟨by rfl, ?hyt4⟩) (by assumption) ?_; (case hyt4 => ((intro W hSW; (try dsimp only at hSW); go_simp); (all_goals with_reducible rfl))); (try simp only [Act.put, List.setIfInBounds_toArray, List.set_cons_zero, List.set_cons_succ])
        refine wpAnyH_ready (rs := [5]) (by kernel_rfl) (by simp) ?_; refine AllReadyH.cons (o := ⟨some 44, _, _, _, _, _⟩) rfl (fun K hK => ?_) AllReadyH.nil; go_simp
        go_at_call 97
        refine (HN.out _ (Rd.turnM hRd.out D0 (fun _ _ h => h))).mono ?_; rintro e w5 ⟨rfl, hR5, hg5⟩
        have T5 : Turn (fun k => k = g) wr w5 := (D0.mono (T := fun k => k = g) (fun _ _ h => h.elim)).trans (Turn.ofGrownS hg5) (fun _ _ h => h)
        have hF5 := Lib.hid (hF.out.turn T5 (by omega))
        (try go_simp); refine hK.out _ _ hF5.out.c1 (fun hHeld2 => ?_); clear hK K hHeld; (try simp only [Act.put, List.setIfInBounds_toArray, List.set_cons_zero, List.set_cons_succ])
        refine wpAnyH_ready (rs := [6]) (by kernel_rfl) (by simp) ?_; refine AllReadyH.cons (o := ⟨some 45, _, _, _, _, _⟩) rfl (fun K hK => ?_) AllReadyH.nil; go_simp
        go_at_call 96
        refine (HS.out _ (hM.out.turn T5 (by omega))).mono ?_; rintro e w6 ⟨rfl, hM6, hT6⟩
        have hF6 := Lib.hid (hF5.out.turn hT6 (by omega))
        (try go_simp); refine hK.out _ _ hF6.out.c1 (fun hHeld3 => ?_); clear hK K hHeld2; (try simp only [Act.put, List.setIfInBounds_toArray, List.set_cons_zero, List.set_cons_succ])
        refine wpAnyH_take (i := 7) (oi := ⟨some 46, _, _, _, _, _⟩) (v := ?_) rfl (by kernel_rfl) (by kernel_rfl) (by kernel_rfl) (fun _ _ _ h => h) (Or.inl ⟨by rfl, ?hyt7⟩) (by assumption) ?_; (case hyt7 => ((intro W hSW; (try dsimp only at hSW); go_simp); (all_goals with_reducible rfl))); (try simp only [Act.put, List.setIfInBounds_toArray, List.set_cons_zero, List.set_cons_succ])
        refine wpAnyH_done (by kernel_rfl) ?_ _
        refine NoPanic.normal ?_
        clear hHeld3
        have z6 := T5.size
        have XR6 := Lib.hid ((XR.out.turn T5 (by omega)).turn hT6 (by omega))
        have hR6 := Lib.hid (Rd.turnM hR5 hT6 (fun j hj e => by omega))
        have BT6 := (BT.trans (T5.below BT.size (fun k hk e => by omega))).trans (hT6.below (BT.trans (T5.below BT.size (fun k hk e => by omega))).size (fun k hk e => by omega))
        replace hM6 := Lib.hid hM6
        clear hF hM hRd XR BT hR5 hg5 T5 hT6 hF5 f1 HN HS
        cases okk with
        | true =>
          go_wp2_with fail
          go_roundw
          case rel => first | exact ⟨k + 1, by omega, by go_num, by rw [hst.out]; simp, by rw [hst.out]; exact hM6, by rw [hst.out]; exact hR6, XR6, hF6, BT6⟩ | exact ⟨k + 1, by omega, by omega, by rw [hst.out]; simp, by rw [hst.out]; exact hM6, by rw [hst.out]; exact hR6, XR6, hF6, BT6⟩
          case measure => simp [intOf] <;> omega
        | false =>
          go_wp2_with fail
          go_roundw
          case rel => first | exact ⟨k + 1, by omega, by go_num, by rw [hst.out]; simp, by rw [hst.out]; exact hM6, by rw [hst.out]; exact hR6, XR6, hF6, BT6⟩ | exact ⟨k + 1, by omega, by omega, by rw [hst.out]; simp, by rw [hst.out]; exact hM6, by rw [hst.out]; exact hR6, XR6, hF6, BT6⟩
          case measure => simp [intOf] <;> omega
    · obtain rfl : k = fs.length := by omega
      rw [List.take_length] at hM hRd ⊢
      rw [← hall.out] at hM hRd ⊢
      have HE := Lib.hid (Oct.end_any g sF.bs sF.e wr hRd.out)
      generalize hze : Oct.endOf sF.bs sF.e = z at HE
      replace hze := Lib.hid hze
      have hokb : ∃ bo, sF.ok = bo := ⟨_, rfl⟩
      obtain ⟨bo, hbo⟩ := hokb
      rw [hbo]
      replace hbo := Lib.hid hbo
      have X2 := XR.out
      have zMr := hM.out.lt
      obtain ⟨m0, m1, m2, m3, m4, m5, m6, m7⟩ := hM.out.rec_
      simp only [Nat.zero_add] at m1 m2 m3 m4 m5 m6 m7
      clear hRd hF hM hall
      have r0 := X2.cell 0 _ rfl; have r1 := X2.cell 1 _ rfl; have r2 := X2.cell 2 _ rfl; have r3 := X2.cell 3 _ rfl; have r4 := X2.cell 4 _ rfl; have r5 := X2.cell 5 _ rfl; have r6 := X2.cell 6 _ rfl; have r7 := X2.cell 7 _ rfl; have k0 := X2.free 0 (by decide); have k1 := X2.free 1 (by decide); have k2 := X2.free 2 (by decide); have k3 := X2.free 3 (by decide); have k4 := X2.free 4 (by decide); have k5 := X2.free 5 (by decide); have k6 := X2.free 6 (by decide); have k7 := X2.free 7 (by decide); have zX2 := X2.lt
      have zlt := X2.lt
      go_wp2_with fail
      refine HE.out.mono ?_; rintro e w' ⟨rfl, rfl⟩
      clear HE
      by_cases z0 : z = 0
      · subst z0
        cases bo with
        | true =>
          go_wp2_with fail
          exact bodyPost_ret (v := .tuple #[.agg #[.int .u8 (sF.r.kind.toNat : Int), .int .i64 sF.r.source, .int .u64 (sF.r.seq : Int), .int .i64 sF.r.at_, .int .i64 sF.r.num, .int .i64 sF.r.code, .bool sF.r.yes, .string ⟨sF.r.text.toArray⟩], .int .i64 0]) (by simp [results, Tryd.results60, go_sem, r0, r1, r2, r3, r4, r5, r6, r7]) rfl (tookr_ok hze.out hbo.out (by repeat (first | with_reducible exact BT | with_reducible refine Below.setCell ?_ (by simp) _)))
        | false =>
          go_wp2_with fail
          exact bodyPost_ret (v := .tuple #[.agg #[.int .u8 0, .int .i64 0, .int .u64 0, .int .i64 0, .int .i64 0, .int .i64 0, .bool false, .string ⟨#[]⟩], .int .i64 11]) (by simp [results, Tryd.results60, go_sem, r0, r1, r2, r3, r4, r5, r6, r7]) rfl (tookr_form hze.out hbo.out (by repeat (first | with_reducible exact BT | with_reducible refine Below.setCell ?_ (by simp) _)))
      · have z1 : (z == 0) = false := by rw [beq_eq_false_iff_ne]; exact z0
        go_wp2_with fail
        exact bodyPost_ret (v := .tuple #[.agg #[.int .u8 0, .int .i64 0, .int .u64 0, .int .i64 0, .int .i64 0, .int .i64 0, .bool false, .string ⟨#[]⟩], .int .i64 z]) (by simp [results, Tryd.results60, go_sem, r0, r1, r2, r3, r4, r5, r6, r7]) rfl (tookr_end hze.out z0 (by repeat (first | with_reducible exact BT | with_reducible refine Below.setCell ?_ (by simp) _)))
theorem rectake_any (k : UInt8) (q : Option Addr) (n c : Nat) (bs : List UInt8) (w : World) (h : RowB w q n c bs) (hl : n ≤ 1000000000) (hT : Forms 0 w) :
    Calls Tryd.prog 60 #[.int .u8 (k.toNat : Int), .slice q n c] w (TookR w (takeR k bs)) := by
  unfold takeR
  cases hk : kindB k with
  | true =>
    rw [if_pos rfl]
    exact rtake_yes k q n c bs w hk h hl hT
  | false =>
    rw [if_neg (by simp)]
    exact rtake_no k q n c w hk
end Go.Proofs.YtdmpopdacbdnlaaDoor
