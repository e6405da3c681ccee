/- lookoutref07.Take: contract. -/
import Derived.Test.YtdmpopdacbdnlaaDoorRecRPut
import Derived.Test.YtdmpopdacbdnlaaDoorRecTake
import Derived.Test.YtdmpopdacbdnlaaDoorOctG
namespace Go.Proofs.YtdmpopdacbdnlaaDoor
open Go.RowKit
set_option linter.unusedVariables false
set_option linter.unusedSimpArgs false
set_option maxHeartbeats 4000000
set_option maxRecDepth 20000
theorem rText_leR (bs : List UInt8) (e most : Int) : (Oct.rText bs e most).2.1.length ≤ bs.length := by
  have := Oct.rNum_le bs e
  unfold Oct.rText
  split
  · exact this
  · split
    · simp
    · split
      · simp
      · simp only [List.length_drop]; omega
theorem TS.step_le (s : TS) (c : UInt8) : (s.step c).bs.length ≤ s.bs.length := by
  unfold TS.step
  split
  · exact rText_leR _ _ _
  · exact Oct.rNum_le _ _
theorem TS.fold_le (l : List UInt8) : ∀ s : TS, (l.foldl TS.step s).bs.length ≤ s.bs.length := by
  induction l with
  | nil => intro s; exact Nat.le_refl _
  | cons c l ih => intro s; exact Nat.le_trans (ih _) (TS.step_le s c)
/-- the order of a kind's fields, in the reference's hand -/
def OrdC (w : World) (lo : Nat) (q : Option Addr) (fs : List UInt8) : Prop :=
  ∀ (i : Nat) (hi : i < fs.length), ∃ b off, q = some ⟨b, off, none⟩ ∧ lo ≤ b ∧ b < w.heap.size ∧ w.cell? ⟨b, off + i, none⟩ = some (.int .i64 (numOf (fs[i]'hi) : Int))
theorem OrdC.turn {S : Nat → Prop} {w w' : World} {lo : Nat} {q : Option Addr} {fs : List UInt8} (h : OrdC w lo q fs) (t : Turn S w w') (hS : ∀ k, lo ≤ k → ¬ S k) : OrdC w' lo q fs := by
  intro i hi
  obtain ⟨b, off, e, hlo, hlt, hc⟩ := h i hi
  exact ⟨b, off, e, hlo, Nat.lt_of_lt_of_le hlt t.size, (t.cell (p := ⟨b, off + i, none⟩) hlt (hS b hlo)).trans hc⟩
theorem OrdC.below {w w' : World} {lo : Nat} {q : Option Addr} {fs : List UInt8} (h : OrdC w lo q fs) (hb : Below w.heap.size w w') : OrdC w' lo q fs := h.turn (S := fun _ => False) (Turn.ofBelow hb rfl) (fun _ _ h => h)
theorem OrdC.of {w : World} {lo : Nat} {q : Option Addr} {fs : List UInt8} {n c : Nat} (h : RowI .i64 w q n c ((fs.map numOf).map fun x : Nat => (x : Int))) (hq : ∀ x : Addr, q = some x → lo ≤ x.block) (hn : n = fs.length) : OrdC w lo q fs := by
  subst hn
  intro i hi
  rcases h.at_ with h0 | ⟨b, off, rfl, hbl, hcc⟩
  · omega
  · refine ⟨b, off, rfl, hq _ rfl, hbl, ?_⟩
    rw [hcc i hi]
    simp [List.getD, hi]
theorem rrtake_no (k : UInt8) (bs : List UInt8) (w : World) (hk : kindB k = false) :
    Calls Tryd.prog 61 #[.int .u8 (k.toNat : Int), .string ⟨bs.toArray⟩] w (TookR w (Rec.zero 0, 1)) := by
  have hk2 : k.toNat < 17 ∨ 32 < k.toNat := by
    unfold kindB at hk
    simp only [Bool.and_eq_false_iff, decide_eq_false_iff_not] at hk
    omega
  clear hk
  rcases hk2 with hk | hk
  · have h1 : (k.toNat : Int) < 17 := by omega
    generalize (k.toNat : Int) = kk at *
    go_enter Tryd.func61, Tryd.ntmps61
    go_wp2_with fail
    exact bodyPost_ret (v := .tuple #[.agg #[.int .u8 0, .int .i64 0, .int .u64 0, .int .i64 0, .int .i64 0, .int .i64 0, .bool false, .string ⟨#[]⟩], .int .i64 1]) (by simp [results, Tryd.results61, go_sem]) rfl (tookr_zero (by repeat (first | with_reducible exact Below.refl _ _ | with_reducible refine Below.drew ?_ | with_reducible refine Below.alloc ?_ (by (try simp) <;> omega) _ | with_reducible refine Below.setCell ?_ (by (try simp) <;> omega) _)))
  · have h1 : ¬ (k.toNat : Int) < 17 := by omega
    have h2 : (32 : Int) < (k.toNat : Int) := by omega
    generalize (k.toNat : Int) = kk at *
    go_enter Tryd.func61, Tryd.ntmps61
    go_wp2_with fail
    exact bodyPost_ret (v := .tuple #[.agg #[.int .u8 0, .int .i64 0, .int .u64 0, .int .i64 0, .int .i64 0, .int .i64 0, .bool false, .string ⟨#[]⟩], .int .i64 1]) (by simp [results, Tryd.results61, go_sem]) rfl (tookr_zero (by repeat (first | with_reducible exact Below.refl _ _ | with_reducible refine Below.drew ?_ | with_reducible refine Below.alloc ?_ (by (try simp) <;> omega) _ | with_reducible refine Below.setCell ?_ (by (try simp) <;> omega) _)))
theorem recVs_text (r : Rec) (t : List UInt8) : (recVs r).set 7 (.string ⟨t.toArray⟩) = recVs { r with text := t } := rfl
theorem Box.set8 {w : World} {b : Nat} {r : Rec} (h : Box w b (recVs r)) (r' : Rec) : Box ((((((((w.setCell ⟨b, 0, none⟩ (.int .u8 (r'.kind.toNat : Int))).setCell ⟨b, 1, none⟩ (.int .i64 r'.source)).setCell ⟨b, 2, none⟩ (.int .u64 (r'.seq : Int))).setCell ⟨b, 3, none⟩ (.int .i64 r'.at_)).setCell ⟨b, 4, none⟩ (.int .i64 r'.num)).setCell ⟨b, 5, none⟩ (.int .i64 r'.code)).setCell ⟨b, 6, none⟩ (.bool r'.yes)).setCell ⟨b, 7, none⟩ (.string ⟨r'.text.toArray⟩)) b (recVs r') :=
  (((((((h.set 0 (.int .u8 (r'.kind.toNat : Int)) (by simp [recVs])).set 1 (.int .i64 r'.source) (by simp [recVs])).set 2 (.int .u64 (r'.seq : Int)) (by simp [recVs])).set 3 (.int .i64 r'.at_) (by simp [recVs])).set 4 (.int .i64 r'.num) (by simp [recVs])).set 5 (.int .i64 r'.code) (by simp [recVs])).set 6 (.bool r'.yes) (by simp [recVs])).set 7 (.string ⟨r'.text.toArray⟩) (by simp [recVs])
theorem rrtake_yes (kk : UInt8) (bs : List UInt8) (w : World) (hk : kindB kk = true) (hl : bs.length ≤ 1000000) :
    Calls Tryd.prog 61 #[.int .u8 (kk.toNat : Int), .string ⟨bs.toArray⟩] w (TookR w (TS.all kk bs).fin) := by
  have hk2 := hk
  unfold kindB at hk2
  rw [Bool.and_eq_true, decide_eq_true_iff, decide_eq_true_iff] at hk2
  have HO := fun W => rorder_any kk hk2.1 hk2.2 W
  rw [order_eq kk hk2.1 hk2.2] at HO
  replace HO := Lib.hid HO
  have hfl := fields_len kk
  have hlet := Lib.hid (fields_letter kk hk2.1 hk2.2)
  have hall : TS.all kk bs = (fieldsOf kk).foldl TS.step ⟨Rec.zero kk, true, bs, 0⟩ := rfl
  have hk3 : ¬ (kk.toNat : Int) < 17 := by omega
  have hk4 : ¬ (32 : Int) < (kk.toNat : Int) := by omega
  have hfle := Lib.hid (fun l => TS.fold_le l ⟨Rec.zero kk, true, bs, 0⟩)
  generalize TS.all kk bs = sF at *
  generalize fieldsOf kk = fs at *
  replace hall := Lib.hid hall
  clear hk hk2
  go_enter Tryd.func61, Tryd.ntmps61
  go_wp2_with fail
  obtain ⟨W3, eW3⟩ : ∃ W, ((w.alloc (.cells #[.int .u8 0, .int .i64 0, .int .u64 0, .int .i64 0, .int .i64 0, .int .i64 0, .bool false, .string ⟨#[]⟩] 71)).alloc (.cells #[.int .u8 (kk.toNat : Int), .int .i64 0, .int .u64 0, .int .i64 0, .int .i64 0, .int .i64 0, .bool false, .string ⟨#[]⟩] 71)).alloc (.cells #[.string ⟨bs.toArray⟩, .int .i64 0] 153) = W := ⟨_, rfl⟩
  rw [eW3]
  have BT : Below w.heap.size w W3 := by rw [← eW3]; exact (((Below.refl _ _).alloc (Nat.le_refl _) _).alloc (by simp) _).alloc (by simp; omega) _
  have XR : Hid (Box W3 w.heap.size zeroRV) := Lib.hid (by rw [← eW3]; exact ((Box.new w _ _ _ rfl _ rfl).below ((Below.refl _ _).alloc (Nat.le_refl _) _)).below ((Below.refl _ _).alloc (Nat.le_refl _) _))
  have XM : Hid (Box W3 (w.heap.size + 1) (recVs (Rec.zero kk))) := Lib.hid (by rw [← eW3]; exact (Box.new _ _ _ _ rfl _ (by simp)).below ((Below.refl _ _).alloc (Nat.le_refl _) _))
  have XB : Hid (Box W3 (w.heap.size + 1 + 1) [.string ⟨bs.toArray⟩, .int .i64 0]) := Lib.hid (by rw [← eW3]; exact Box.new _ _ _ _ rfl _ (by simp))
  have z3 : W3.heap.size = w.heap.size + 3 := by rw [← eW3]; simp
  clear eW3
  refine (HO.out _).mono ?_; rintro e w4 ⟨q2, n2, c2, rfl, hR2, hb2, hq2⟩
  replace XM := Lib.hid (XM.out.below hb2); replace XR := Lib.hid (XR.out.below hb2); replace XB := Lib.hid (XB.out.below hb2); replace BT := BT.trans ((hb2).mono BT.size)
  have hl2 : n2 = fs.length := by have := hR2.length; simpa using this.symm
  have hO := Lib.hid (OrdC.of (lo := w.heap.size + 3) hR2 (fun x e => by have := hq2 x e; omega) hl2)
  subst hl2
  have z4 := hb2.size
  clear hR2 hq2 hb2 HO
  go_wp2_with fail
  go_loopw [8, 10] (fun rt i wr => ∃ (k : Nat) (r1 : Rec), k ≤ fs.length ∧ i = .int .i64 k ∧ rt = .bool ((fs.take k).foldl TS.step ⟨Rec.zero kk, true, bs, 0⟩).ok ∧ (((fs.take k).foldl TS.step ⟨Rec.zero kk, true, bs, 0⟩).ok = true → r1 = ((fs.take k).foldl TS.step ⟨Rec.zero kk, true, bs, 0⟩).r) ∧ Hid (Box wr (w.heap.size + 1) (recVs r1)) ∧ Hid (Box wr (w.heap.size + 1 + 1) [.string ⟨((fs.take k).foldl TS.step ⟨Rec.zero kk, true, bs, 0⟩).bs.toArray⟩, .int .i64 ((fs.take k).foldl TS.step ⟨Rec.zero kk, true, bs, 0⟩).e]) ∧ Hid (Box wr w.heap.size zeroRV) ∧ Hid (OrdC wr (w.heap.size + 3) q2 fs) ∧ w.heap.size + 3 ≤ wr.heap.size ∧ Below w.heap.size w wr) (fun rt i wr => fs.length - (intOf i).toNat)
  case atStart => exact ⟨0, _, Nat.zero_le _, rfl, rfl, fun _ => rfl, XM, XB, XR, hO, by omega, BT⟩
  case round =>
    clear XM XB XR hO BT z3 z4
    obtain ⟨k, r1, hkl, rfl, rfl, hrr, XM, XB, XR, hO, zz, BT⟩ := hrel
    by_cases hlt : k < fs.length
    · have hst := foldl_succ (f := TS.step) (s0 := ⟨Rec.zero kk, true, bs, 0⟩) fs k hlt
      have hle := hlet.out (fs[k]'hlt) (List.getElem_mem hlt)
      obtain ⟨b, off, rfl, hbo, hbl, y0⟩ := hO.out k hlt
      have hbs := hfle.out (fs.take k)
      generalize (fs.take k).foldl TS.step ⟨Rec.zero kk, true, bs, 0⟩ = s0 at *
      generalize fs[k] = ch at *
      have hdef : s0.step ch = if ch = 116 then ⟨{ s0.r with text := (Oct.rText s0.bs s0.e 240).1 }, s0.ok, (Oct.rText s0.bs s0.e 240).2.1, (Oct.rText s0.bs s0.e 240).2.2⟩ else ⟨set1 s0.r ch (Oct.rNum s0.bs s0.e).1, s0.ok && okU ch (Oct.rNum s0.bs s0.e).1, (Oct.rNum s0.bs s0.e).2.1, (Oct.rNum s0.bs s0.e).2.2⟩ := rfl
      rw [hdef] at hst
      clear hdef
      obtain ⟨r0, ok0, b0, e0⟩ := s0
      simp only at hst hrr XB hbs ⊢
      have hk0 : (0 : Int) ≤ (k : Int) := by omega
      have hk1 : (k : Int) < (fs.length : Int) := by omega
      have hkk : IntKind.i64.wrap (k : Int) = (k : Int) := IntWalk.i64_in _ (by omega)
      by_cases hch : ch = 116
      · subst hch
        rw [if_pos rfl] at hst
        have HTX := fun W => Oct.rtext_any b0 e0 240 (by omega) (by omega) W
        unfold Oct.rV at HTX
        generalize Oct.rText b0 e0 240 = tx at *
        obtain ⟨t, b1, e1⟩ := tx
        simp only at hst HTX
        replace HTX := Lib.hid HTX
        replace hst := Lib.hid hst
        have y0' : wr.cell? ⟨b, off + k, none⟩ = some (.int .i64 7) := y0
        have d0 := XB.out.cell 0 _ rfl
        have d1 := XB.out.cell 1 _ rfl
        clear y0
        go_wp2_with fail
        refine (HTX.out _).mono ?_; rintro e w10 ⟨rfl, hb10⟩
        clear d0 d1 HTX
        replace XM := Lib.hid (XM.out.below hb10); replace XR := Lib.hid (XR.out.below hb10); replace XB := Lib.hid (XB.out.below hb10); replace BT := BT.trans ((hb10).mono BT.size)
        replace hO := Lib.hid (OrdC.below hO.out hb10)
        have zz10 := hb10.size
        have zB := XB.out.lt
        have zM := XM.out.lt
        have zR := XR.out.lt
        have c9 := XM.out.cell 7 _ rfl
        have k9 := XM.out.free 7 (by simp [recVs])
        have d0 := XB.out.cell 0 _ rfl
        have d1 := XB.out.cell 1 _ rfl
        have l0 := XB.out.free 0 (by simp)
        have l1 := XB.out.free 1 (by simp)
        clear y0'
        go_wp2_with fail
        obtain ⟨w11, e11⟩ : ∃ W, ((((w10.setCell ⟨w.heap.size + 1, 7, none⟩ (.string ⟨t.toArray⟩)).setCell ⟨w.heap.size + 1 + 1, 0, none⟩ (.string ⟨b1.toArray⟩)).setCell ⟨w.heap.size + 1 + 1, 1, none⟩ (.int .i64 e1)).alloc (.cells #[.string ⟨b1.toArray⟩, .int .i64 e1] 153)) = W := ⟨_, rfl⟩
        rw [e11]
        have T11 : Turn (fun j => j = w.heap.size + 1 ∨ j = w.heap.size + 1 + 1) w10 w11 := by
          rw [← e11]
          exact ((((Turn.refl _ w10).setCell _ (fun _ => .inl rfl) _).setCell _ (fun _ => .inr rfl) _).setCell _ (fun _ => .inr rfl) _).alloc _
        have XM11 : Hid (Box w11 (w.heap.size + 1) (recVs { r1 with text := t })) := Lib.hid (by
          rw [← e11, ← recVs_text]
          exact (((XM.out.set 7 (.string ⟨t.toArray⟩) (by simp [recVs])).turn (Box.setTurn _ (w.heap.size + 1 + 1) 0 _) (by omega)).turn (Box.setTurn _ (w.heap.size + 1 + 1) 1 _) (by omega)).below ((Below.refl _ _).alloc (Nat.le_refl _) _))
        have XB11 : Hid (Box w11 (w.heap.size + 1 + 1) [.string ⟨b1.toArray⟩, .int .i64 e1]) := Lib.hid (by
          rw [← e11]
          exact (((XB.out.turn (Box.setTurn _ (w.heap.size + 1) 7 _) (by omega)).set 0 (.string ⟨b1.toArray⟩) (by simp)).set 1 (.int .i64 e1) (by simp)).below ((Below.refl _ _).alloc (Nat.le_refl _) _))
        have XR11 := Lib.hid (XR.out.turn T11 (by omega))
        have hO11 := Lib.hid (OrdC.turn hO.out T11 (fun j hj e => by omega))
        have BT11 := BT.trans (T11.below BT.size (fun j hj e => by omega))
        have zz11 := T11.size
        have hrr' : ok0 = true → ({ r1 with text := t } : Rec) = { r0 with text := t } := fun h => by rw [hrr h]
        clear c9 k9 d0 d1 l0 l1 e11 T11 XM XB XR hO BT
        go_roundw
        case rel => first | exact ⟨k + 1, { r1 with text := t }, by omega, by go_num, by rw [hst.out], by rw [hst.out]; exact hrr', XM11, by rw [hst.out]; exact XB11, XR11, hO11, by omega, BT11⟩ | exact ⟨k + 1, { r1 with text := t }, by omega, by omega, by rw [hst.out], by rw [hst.out]; exact hrr', XM11, by rw [hst.out]; exact XB11, XR11, hO11, by omega, BT11⟩
        case measure => simp [intOf] <;> omega
      · rw [if_neg hch] at hst
        have hl6 := letter6 hle hch
        have hn7 := numOf_7 hl6
        have hnl := Oct.rNum_lt b0 e0
        have HN := fun W => Oct.rread_any b0 e0 (by omega) W
        unfold Oct.rV at HN
        generalize Oct.rNum b0 e0 = rn at *
        obtain ⟨u, b1, e1⟩ := rn
        simp only at hst HN hnl
        replace HN := Lib.hid HN
        have HMO := Lib.hid (fun W => rmost_any ch hl6 W)
        have hok := okU_most ch u (by omega) hl6
        have HW : u ≤ mostR ch → Hid (∀ W, Calls Tryd.prog 102 #[recA r1, .int .i64 (numOf ch : Int), .int .u64 (u : Int)] W fun e w' => e = .returned (recA (set1 r1 ch u)) ∧ Below W.heap.size W w') := fun h => Lib.hid (fun W => rwith_any r1 ch hl6 u h W)
        replace HW := Lib.hid HW
        replace hst := Lib.hid hst
        replace hok := Lib.hid hok
        generalize mostR ch = mo at *
        clear hle hl6
        have d0 := XB.out.cell 0 _ rfl
        have d1 := XB.out.cell 1 _ rfl
        go_wp2_with fail
        refine (HN.out _).mono ?_; rintro e w10 ⟨rfl, hb10⟩
        clear d0 d1 HN
        replace XM := Lib.hid (XM.out.below hb10); replace XR := Lib.hid (XR.out.below hb10); replace XB := Lib.hid (XB.out.below hb10); replace BT := BT.trans ((hb10).mono BT.size)
        replace hO := Lib.hid (OrdC.below hO.out hb10)
        have y10 := (hb10.cell (p := ⟨b, off + k, none⟩) hbl).trans y0
        have zz10 := hb10.size
        have zB := XB.out.lt
        have zM := XM.out.lt
        have zR := XR.out.lt
        have d0 := XB.out.cell 0 _ rfl
        have d1 := XB.out.cell 1 _ rfl
        have l0 := XB.out.free 0 (by simp)
        have l1 := XB.out.free 1 (by simp)
        have TQ : Turn (fun j => j = w.heap.size + 1 + 1) w10 (((w10.setCell ⟨w.heap.size + 1 + 1, 0, none⟩ (.string ⟨b1.toArray⟩)).setCell ⟨w.heap.size + 1 + 1, 1, none⟩ (.int .i64 e1)).alloc (.cells #[.string ⟨b1.toArray⟩, .int .i64 e1] 153)) := ((Box.setTurn w10 (w.heap.size + 1 + 1) 0 (.string ⟨b1.toArray⟩)).trans (Box.setTurn _ (w.heap.size + 1 + 1) 1 (.int .i64 e1)) (fun _ _ h => h)).alloc _
        have y11 := (TQ.cell (p := ⟨b, off + k, none⟩) (Nat.lt_of_lt_of_le hbl zz10) (by show ¬ b = _; omega)).trans y10
        clear y0 hb10
        go_wp2_with fail
        refine (HMO.out _).mono ?_; rintro e w' ⟨rfl, rfl⟩
        obtain ⟨w11, e11⟩ : ∃ W, (((w10.setCell ⟨w.heap.size + 1 + 1, 0, none⟩ (.string ⟨b1.toArray⟩)).setCell ⟨w.heap.size + 1 + 1, 1, none⟩ (.int .i64 e1)).alloc (.cells #[.string ⟨b1.toArray⟩, .int .i64 e1] 153)) = W := ⟨_, rfl⟩
        rw [e11] at TQ y11 ⊢
        have XM11 := Lib.hid (XM.out.turn TQ (by omega))
        have XB11 : Hid (Box w11 (w.heap.size + 1 + 1) [.string ⟨b1.toArray⟩, .int .i64 e1]) := Lib.hid (by
          rw [← e11]
          exact ((XB.out.set 0 (.string ⟨b1.toArray⟩) (by simp)).set 1 (.int .i64 e1) (by simp)).below ((Below.refl _ _).alloc (Nat.le_refl _) _))
        have XR11 := Lib.hid (XR.out.turn TQ (by omega))
        have hO11 := Lib.hid (OrdC.turn hO.out TQ (fun j hj e => by omega))
        have BT11 := BT.trans (TQ.below BT.size (fun j hj e => by omega))
        have zz11 := TQ.size
        have zb11 : b < w11.heap.size := by omega
        clear d0 d1 l0 l1 e11 XM XB XR hO BT y10 TQ HMO
        by_cases hum : u ≤ mo
        · have h8 : ¬ (mo : Int) < (u : Int) := by omega
          have hokb : okU ch u = true := by rw [hok.out]; exact decide_eq_true hum
          have HW2 := (HW.out hum)
          unfold recA at HW2
          have hst' := hst.out
          rw [hokb, Bool.and_true] at hst'
          replace hst' := Lib.hid hst'
          clear hst HW hok hokb
          have x0 := XM11.out.cell 0 _ rfl
          have x1 := XM11.out.cell 1 _ rfl
          have x2 := XM11.out.cell 2 _ rfl
          have x3 := XM11.out.cell 3 _ rfl
          have x4 := XM11.out.cell 4 _ rfl
          have x5 := XM11.out.cell 5 _ rfl
          have x6 := XM11.out.cell 6 _ rfl
          have x7 := XM11.out.cell 7 _ rfl
          have zM11 := XM11.out.lt
          go_wp2_with fail
          refine wp_region_noPanic ?_
          refine wp_region_held_drew (S := fun W => W.cell? ⟨b, off + k, none⟩ = some (.int .i64 (numOf ch : Int))) (by kernel_rfl) y11 (fun hHeld => ?_)
          refine wpAnyH_take (i := 1) (oi := ⟨some 62, _, _, _, _, _⟩) (v := ?_) rfl (by kernel_rfl) (by kernel_rfl) (by kernel_rfl) (fun _ _ _ h => h) (Or.inl ⟨by rfl, ?hyt1⟩) (by assumption) ?_; (case hyt1 => ((intro W hSW; (try dsimp only at hSW); go_simp); (all_goals with_reducible rfl))); (try simp only [Act.put, List.setIfInBounds_toArray, List.set_cons_zero, List.set_cons_succ])
          refine wpAnyH_take (i := 2) (oi := ⟨some 63, _, _, _, _, _⟩) (v := ?_) rfl (by kernel_rfl) (by kernel_rfl) (by kernel_rfl) (fun _ _ _ h => h) (Or.inl ⟨by rfl, ?hyt2⟩) (by assumption) ?_; (case hyt2 => ((intro W hSW; (try dsimp only at hSW); go_simp); (all_goals with_reducible rfl))); (try simp only [Act.put, List.setIfInBounds_toArray, List.set_cons_zero, List.set_cons_succ])
          refine wpAnyH_take (i := 3) (oi := ⟨some 64, _, _, _, _, _⟩) (v := ?_) rfl (by kernel_rfl) (by kernel_rfl) (by kernel_rfl) (fun _ _ _ h => h) (Or.inl ⟨by rfl, ?hyt3⟩) (by assumption) ?_; (case hyt3 => ((intro W hSW; (try dsimp only at hSW); go_simp); (all_goals with_reducible rfl))); (try simp only [Act.put, List.setIfInBounds_toArray, List.set_cons_zero, List.set_cons_succ])
          refine wpAnyH_take (i := 4) (oi := ⟨some 65, _, _, _, _, _⟩) (v := ?_) rfl (by kernel_rfl) (by kernel_rfl) (by kernel_rfl) (fun _ _ _ h => h) (Or.inl ⟨by rfl, ?hyt4⟩) (by assumption) ?_; (case hyt4 => ((intro W hSW; (try dsimp only at hSW); go_simp); (all_goals with_reducible rfl))); (try simp only [Act.put, List.setIfInBounds_toArray, List.set_cons_zero, List.set_cons_succ])
          refine wpAnyH_take (i := 5) (oi := ⟨some 66, _, _, _, _, _⟩) (v := ?_) rfl (by kernel_rfl) (by kernel_rfl) (by kernel_rfl) (fun _ _ _ h => h) (Or.inl ⟨by rfl, ?hyt5⟩) (by assumption) ?_; (case hyt5 => ((intro W hSW; (try dsimp only at hSW); go_simp); (all_goals with_reducible rfl))); (try simp only [Act.put, List.setIfInBounds_toArray, List.set_cons_zero, List.set_cons_succ])
          refine wpAnyH_ready (rs := [0]) (by kernel_rfl) (by simp) ?_; refine AllReadyH.cons (o := ⟨some 61, _, _, _, _, _⟩) rfl (fun K hK => ?_) AllReadyH.nil; go_simp
          refine hK.out _ _ y11 (fun hHeld1 => ?_)
          clear hK K hHeld
          (try simp only [Act.put, List.setIfInBounds_toArray, List.set_cons_zero, List.set_cons_succ])
          refine wpAnyH_ready (rs := [6]) (by kernel_rfl) (by simp) ?_; refine AllReadyH.cons (o := ⟨some 67, _, _, _, _, _⟩) rfl (fun K hK => ?_) AllReadyH.nil; go_simp
          go_at_call 102
          refine (HW2.out _).mono ?_; rintro e w12 ⟨rfl, hb12⟩
          have D12 : Below w11.heap.size w11 w12 := ((Below.refl w11.heap.size w11).drew).trans (hb12.mono ((Below.refl w11.heap.size w11).drew).size)
          have y12 := (D12.cell (p := ⟨b, off + k, none⟩) zb11).trans y11
          have zz12 := D12.size
          (try unfold recA)
          (try go_simp); refine hK.out _ _ y12 (fun hHeld2 => ?_); clear hK K hHeld1; (try simp only [Act.put, List.setIfInBounds_toArray, List.set_cons_zero, List.set_cons_succ])
          have XM12 := Lib.hid (XM11.out.below D12)
          have XB12 := Lib.hid (XB11.out.below D12)
          have XR12 := Lib.hid (XR11.out.below D12)
          have hO12 := Lib.hid (OrdC.below hO11.out D12)
          have BT12 := BT11.trans (D12.mono BT11.size)
          have zM12 := XM12.out.lt
          have g0 := XM12.out.free 0 (by simp [recVs])
          have g1 := XM12.out.free 1 (by simp [recVs])
          have g2 := XM12.out.free 2 (by simp [recVs])
          have g3 := XM12.out.free 3 (by simp [recVs])
          have g4 := XM12.out.free 4 (by simp [recVs])
          have g5 := XM12.out.free 5 (by simp [recVs])
          have g6 := XM12.out.free 6 (by simp [recVs])
          have g7 := XM12.out.free 7 (by simp [recVs])
          have m0 := XM12.out.cell 0 _ rfl
          have m1 := XM12.out.cell 1 _ rfl
          have m2 := XM12.out.cell 2 _ rfl
          have m3 := XM12.out.cell 3 _ rfl
          have m4 := XM12.out.cell 4 _ rfl
          have m5 := XM12.out.cell 5 _ rfl
          have m6 := XM12.out.cell 6 _ rfl
          have m7 := XM12.out.cell 7 _ rfl
          refine wpAnyH_ready (rs := [7]) (by kernel_rfl) (by simp) ?_; refine AllReadyH.cons (o := ⟨none, _, _, _, _, _⟩) rfl (fun K hK => ?_) AllReadyH.nil; go_simp
          have X13 := Box.set8 XM12.out (set1 r1 ch u)
          have T13 := Turn.set8 w12 (w.heap.size + 1) (.int .u8 ((set1 r1 ch u).kind.toNat : Int)) (.int .i64 (set1 r1 ch u).source) (.int .u64 ((set1 r1 ch u).seq : Int)) (.int .i64 (set1 r1 ch u).at_) (.int .i64 (set1 r1 ch u).num) (.int .i64 (set1 r1 ch u).code) (.bool (set1 r1 ch u).yes) (.string ⟨(set1 r1 ch u).text.toArray⟩)
          obtain ⟨w13, e13⟩ : ∃ W, ((((((((w12.setCell ⟨w.heap.size + 1, 0, none⟩ (.int .u8 ((set1 r1 ch u).kind.toNat : Int))).setCell ⟨w.heap.size + 1, 1, none⟩ (.int .i64 (set1 r1 ch u).source)).setCell ⟨w.heap.size + 1, 2, none⟩ (.int .u64 ((set1 r1 ch u).seq : Int))).setCell ⟨w.heap.size + 1, 3, none⟩ (.int .i64 (set1 r1 ch u).at_)).setCell ⟨w.heap.size + 1, 4, none⟩ (.int .i64 (set1 r1 ch u).num)).setCell ⟨w.heap.size + 1, 5, none⟩ (.int .i64 (set1 r1 ch u).code)).setCell ⟨w.heap.size + 1, 6, none⟩ (.bool (set1 r1 ch u).yes)).setCell ⟨w.heap.size + 1, 7, none⟩ (.string ⟨(set1 r1 ch u).text.toArray⟩)) = W := ⟨_, rfl⟩
          rw [e13] at X13 T13 ⊢
          have y13 := (T13.cell (p := ⟨b, off + k, none⟩) (Nat.lt_of_lt_of_le zb11 zz12) (by show ¬ b = _; omega)).trans y12
          have XB13 := Lib.hid (XB12.out.turn T13 (by omega))
          have XR13 := Lib.hid (XR12.out.turn T13 (by omega))
          have hO13 := Lib.hid (OrdC.turn hO12.out T13 (fun j hj e => by omega))
          have BT13 := BT12.trans (T13.below BT12.size (fun j hj e => by omega))
          have zz13 := T13.size
          replace X13 := Lib.hid X13
          clear e13 T13 g0 g1 g2 g3 g4 g5 g6 g7 m0 m1 m2 m3 m4 m5 m6 m7 x0 x1 x2 x3 x4 x5 x6 x7 XM11 XM12 XB11 XB12 XR11 XR12 hO11 hO12 BT11 BT12 D12 hb12
          refine hK.out _ _ y13 (fun hHeld3 => ?_)
          clear hK K hHeld2
          (try simp only [Act.put, List.setIfInBounds_toArray, List.set_cons_zero, List.set_cons_succ])
          refine wpAnyH_done (by kernel_rfl) ?_ _
          refine NoPanic.normal ?_
          clear hHeld3 y11 y12 y13 HW2
          have hrr' : ok0 = true → set1 r1 ch u = set1 r0 ch u := fun h => by rw [hrr h]
          go_wp2_with fail
          go_roundw
          case rel => first | exact ⟨k + 1, set1 r1 ch u, by omega, by go_num, by rw [hst'.out], by rw [hst'.out]; exact hrr', X13, by rw [hst'.out]; exact XB13, XR13, hO13, by omega, BT13⟩ | exact ⟨k + 1, set1 r1 ch u, by omega, by omega, by rw [hst'.out], by rw [hst'.out]; exact hrr', X13, by rw [hst'.out]; exact XB13, XR13, hO13, by omega, BT13⟩
          case measure => simp [intOf] <;> omega
        · have h8 : (mo : Int) < (u : Int) := by omega
          have hokb : okU ch u = false := by rw [hok.out]; exact decide_eq_false hum
          have hst' := hst.out
          rw [hokb, Bool.and_false] at hst'
          replace hst' := Lib.hid hst'
          clear hst HW hok hokb
          go_wp2_with fail
          go_roundw
          case rel => first | exact ⟨k + 1, r1, by omega, by go_num, by rw [hst'.out], by rw [hst'.out]; exact (fun h => nomatch h), XM11, by rw [hst'.out]; exact XB11, XR11, hO11, by omega, BT11⟩ | exact ⟨k + 1, r1, by omega, by omega, by rw [hst'.out], by rw [hst'.out]; exact (fun h => nomatch h), XM11, by rw [hst'.out]; exact XB11, XR11, hO11, by omega, BT11⟩
          case measure => simp [intOf] <;> omega
    · obtain rfl : k = fs.length := by omega
      rw [List.take_length] at hrr XB ⊢
      rw [← hall.out] at hrr XB ⊢
      have hbs : sF.bs.length ≤ bs.length := by rw [hall.out]; exact hfle.out fs
      have HE := fun W => Oct.rend_any sF.bs sF.e W
      unfold Oct.rV at HE
      generalize hze : Oct.endOf sF.bs sF.e = z at HE
      replace hze := Lib.hid hze
      replace HE := Lib.hid HE
      have hokb : ∃ bo, sF.ok = bo := ⟨_, rfl⟩
      obtain ⟨bo, hbo⟩ := hokb
      rw [hbo] at hrr ⊢
      replace hbo := Lib.hid hbo
      have d0 := XB.out.cell 0 _ rfl
      have d1 := XB.out.cell 1 _ rfl
      clear hO hall
      go_wp2_with fail
      refine (HE.out _).mono ?_; rintro e w6 ⟨rfl, hb6⟩
      clear HE d0 d1
      replace XM := Lib.hid (XM.out.below hb6); replace XR := Lib.hid (XR.out.below hb6); replace XB := Lib.hid (XB.out.below hb6); replace BT := BT.trans ((hb6).mono BT.size)
      clear hb6
      have X2 := XR.out
      have r0 := X2.cell 0 _ rfl; have r1 := X2.cell 1 _ rfl; have r2 := X2.cell 2 _ rfl; have r3 := X2.cell 3 _ rfl; have r4 := X2.cell 4 _ rfl; have r5 := X2.cell 5 _ rfl; have r6 := X2.cell 6 _ rfl; have r7 := X2.cell 7 _ rfl; have k0 := X2.free 0 (by decide); have k1 := X2.free 1 (by decide); have k2 := X2.free 2 (by decide); have k3 := X2.free 3 (by decide); have k4 := X2.free 4 (by decide); have k5 := X2.free 5 (by decide); have k6 := X2.free 6 (by decide); have k7 := X2.free 7 (by decide); have zX2 := X2.lt
      have zlt := X2.lt
      have zMr := XM.out.lt
      by_cases z0 : z = 0
      · subst z0
        cases bo with
        | true =>
          obtain rfl := hrr rfl
          have m0 := XM.out.cell 0 _ rfl
          have m1 := XM.out.cell 1 _ rfl
          have m2 := XM.out.cell 2 _ rfl
          have m3 := XM.out.cell 3 _ rfl
          have m4 := XM.out.cell 4 _ rfl
          have m5 := XM.out.cell 5 _ rfl
          have m6 := XM.out.cell 6 _ rfl
          have m7 := XM.out.cell 7 _ rfl
          go_wp2_with fail
          exact bodyPost_ret (v := .tuple #[.agg #[.int .u8 (sF.r.kind.toNat : Int), .int .i64 sF.r.source, .int .u64 (sF.r.seq : Int), .int .i64 sF.r.at_, .int .i64 sF.r.num, .int .i64 sF.r.code, .bool sF.r.yes, .string ⟨sF.r.text.toArray⟩], .int .i64 0]) (by simp [results, Tryd.results61, go_sem, r0, r1, r2, r3, r4, r5, r6, r7]) rfl (tookr_ok hze.out hbo.out (by repeat (first | with_reducible exact BT | with_reducible refine Below.setCell ?_ (by simp) _)))
        | false =>
          go_wp2_with fail
          exact bodyPost_ret (v := .tuple #[.agg #[.int .u8 0, .int .i64 0, .int .u64 0, .int .i64 0, .int .i64 0, .int .i64 0, .bool false, .string ⟨#[]⟩], .int .i64 11]) (by simp [results, Tryd.results61, go_sem, r0, r1, r2, r3, r4, r5, r6, r7]) rfl (tookr_form hze.out hbo.out (by repeat (first | with_reducible exact BT | with_reducible refine Below.setCell ?_ (by simp) _)))
      · have z1 : (z == 0) = false := by rw [beq_eq_false_iff_ne]; exact z0
        go_wp2_with fail
        exact bodyPost_ret (v := .tuple #[.agg #[.int .u8 0, .int .i64 0, .int .u64 0, .int .i64 0, .int .i64 0, .int .i64 0, .bool false, .string ⟨#[]⟩], .int .i64 z]) (by simp [results, Tryd.results61, go_sem, r0, r1, r2, r3, r4, r5, r6, r7]) rfl (tookr_end hze.out z0 (by repeat (first | with_reducible exact BT | with_reducible refine Below.setCell ?_ (by simp) _)))
theorem rrectake_any (k : UInt8) (bs : List UInt8) (w : World) (hl : bs.length ≤ 1000000) :
    Calls Tryd.prog 61 #[.int .u8 (k.toNat : Int), .string ⟨bs.toArray⟩] w (TookR w (takeR k bs)) := by
  unfold takeR
  cases hk : kindB k with
  | true => rw [if_pos rfl]; exact rrtake_yes k bs w hk hl
  | false => rw [if_neg (by simp)]; exact rrtake_no k bs w hk
end Go.Proofs.YtdmpopdacbdnlaaDoor
