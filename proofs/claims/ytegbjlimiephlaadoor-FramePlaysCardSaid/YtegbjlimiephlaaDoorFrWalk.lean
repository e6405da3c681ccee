/- (*frame.Decoder).walk's contract. -/
import Derived.Test.YtegbjlimiephlaaDoorFrLook
import Derived.WalkMore
namespace Go.Proofs.YtegbjlimiephlaaDoor
open Go.RowKit
set_option linter.unusedVariables false
set_option linter.unusedSimpArgs false
set_option maxHeartbeats 4000000
set_option maxRecDepth 20000
theorem OwnB.rowS {t : TypeId} {base : Nat} {w : World} {q : Option Addr} {n c : Nat} {l : List UInt8} (h : OwnB t base w (.slice q n c) l) : n = l.length ∧ RowB w q n c l := by
  obtain ⟨q', cap, hv, hR, _⟩ := h.row
  simp only [Value.slice.injEq] at hv
  obtain ⟨rfl, rfl, rfl⟩ := hv
  exact ⟨rfl, hR⟩
theorem RowB.drop {w : World} {b off len cap n : Nat} {bs : List UInt8} (h : RowB w (some ⟨b, off, none⟩) len cap bs) (hn : n ≤ len) : RowB w (some ⟨b, off + n, none⟩) (len - n) (cap - n) (bs.drop n) := by
  have := h.slice hn (Nat.le_refl len)
  rwa [List.take_of_length_le (by rw [h.length]; exact Nat.le_refl _)] at this
theorem Tab.turn {S : Nat → Prop} {w w' : World} (h : Tab w) (t : Turn S w w') (hS : ¬ S 0) : Tab w' :=
  ⟨Nat.lt_of_lt_of_le h.lt t.size, fun i hi => (t.cell (p := ⟨0, i, none⟩) h.lt hS).trans (h.cell i hi)⟩
theorem Fr.tell_le (s : Nat) (f : List It) : (Fr.tell s f).length ≤ f.length + s := by
  unfold Fr.tell
  split
  · simp; omega
  · omega
/-- A decoder, its two slices named. -/
structure DecM (w : World) (g : Nat) (S : Nat → Prop) (d : St) (rq : Option Addr) (rn rc : Nat) (fq : Option Addr) (fn fc : Nat) : Prop where
  sg : S g
  lt : ∀ k, S k → k < w.heap.size
  c0 : w.cell? ⟨g, 0, none⟩ = some (.slice rq rn rc)
  own : OwnB 5 0 w (.slice rq rn rc) d.rest
  c2 : w.cell? ⟨g, 2, none⟩ = some (.slice fq fn fc)
  fnd : Fnd w fq fn fc d.found S (fun k => ¬ S k)
  hr : ∀ x, rq = some x → S x.block ∧ x.block ≠ g
  hf : ∀ x, fq = some x → S x.block ∧ x.block ≠ g ∧ ∀ y, rq = some y → x.block ≠ y.block
  c1 : w.cell? ⟨g, 1, none⟩ = some (.int .i64 (d.skips : Int))
  c3 : w.cell? ⟨g, 3, none⟩ = some (.bool d.over)
  f0 : w.frozen? ⟨g, 0, none⟩ = false
  f1 : w.frozen? ⟨g, 1, none⟩ = false
  f2 : w.frozen? ⟨g, 2, none⟩ = false
  f3 : w.frozen? ⟨g, 3, none⟩ = false
theorem Dec.m {w : World} {g : Nat} {S : Nat → Prop} {d : St} (h : Dec w g S d) : ∃ rq rn rc fq fn fc, DecM w g S d rq rn rc fq fn fc := by
  obtain ⟨hsg, hlt, ⟨rq, rn, rc, fq, fn, fc, c0, hO, c2, hF, hr, hf⟩, c1, c3, f0, f1, f2, f3⟩ := h
  exact ⟨rq, rn, rc, fq, fn, fc, hsg, hlt, c0, hO, c2, hF, hr, hf, c1, c3, f0, f1, f2, f3⟩
section
variable {w : World} {g : Nat} {S : Nat → Prop} {d : St} {rq : Option Addr} {rn rc : Nat} {fq : Option Addr} {fn fc : Nat}
theorem DecM.dec (h : DecM w g S d rq rn rc fq fn fc) : Dec w g S d := ⟨h.sg, h.lt, ⟨rq, rn, rc, fq, fn, fc, h.c0, h.own, h.c2, h.fnd, h.hr, h.hf⟩, h.c1, h.c3, h.f0, h.f1, h.f2, h.f3⟩
theorem DecM.turn {T : Nat → Prop} {w' : World} (h : DecM w g S d rq rn rc fq fn fc) (t : Turn T w w') (hT : ∀ k, k < w.heap.size → ¬ T k) : DecM w' g S d rq rn rc fq fn fc := by
  have hg := h.lt g h.sg
  have ng := hT g hg
  exact ⟨h.sg, fun k hk => Nat.lt_of_lt_of_le (h.lt k hk) t.size, (t.cell (p := ⟨g, 0, none⟩) hg ng).trans h.c0, h.own.turn t (fun x hx => hT _ (h.lt _ (h.hr x hx).1)), (t.cell (p := ⟨g, 2, none⟩) hg ng).trans h.c2,
    h.fnd.turn t (fun x hx _ => hT _ (h.lt _ (h.hf x hx).1)) (fun k hk _ => hT k hk), h.hr, h.hf, (t.cell (p := ⟨g, 1, none⟩) hg ng).trans h.c1, (t.cell (p := ⟨g, 3, none⟩) hg ng).trans h.c3,
    (t.frozen (p := ⟨g, 0, none⟩) hg ng).trans h.f0, (t.frozen (p := ⟨g, 1, none⟩) hg ng).trans h.f1, (t.frozen (p := ⟨g, 2, none⟩) hg ng).trans h.f2, (t.frozen (p := ⟨g, 3, none⟩) hg ng).trans h.f3⟩
theorem DecM.below {w' : World} (h : DecM w g S d rq rn rc fq fn fc) (hb : Below w.heap.size w w') : DecM w' g S d rq rn rc fq fn fc :=
  h.turn (Turn.ofBelow (S := fun _ => False) hb rfl) (fun _ _ h => h)
theorem DecM.setRest {w3 : World} {n' c' : Nat} {q' : Option Addr} {l' : List UInt8} (h : DecM w g S d rq rn rc fq fn fc) (T3 : Turn (qblk rq) w w3) (hO3 : OwnB 5 0 w3 (.slice q' n' c') l') (hq3 : ∀ y, q' = some y → qblk rq y.block ∨ w.heap.size ≤ y.block) :
    DecTo w (w3.setCell ⟨g, 0, none⟩ (.slice q' n' c')) g S ⟨l', d.skips, d.found, d.over⟩ :=
  Dec.setRest h.sg h.lt h.c0 h.c2 h.fnd h.hr h.hf h.c1 h.c3 h.f0 h.f1 h.f2 h.f3 T3 hO3 hq3
theorem DecM.setFound {w3 : World} {n' c' N : Nat} {q' : Option Addr} {its : List It} (h : DecM w g S d rq rn rc fq fn fc) (T3 : Turn (qblk fq) w w3) (hF3 : Fnd w3 q' n' c' its (fun k => S k ∨ k = N) (fun k => ¬ S k ∧ k < N)) (hq3 : ∀ y, q' = some y → qblk fq y.block ∨ y.block = N) (hN : w.heap.size ≤ N) (hc' : 0 < c') :
    DecTo w (w3.setCell ⟨g, 2, none⟩ (.slice q' n' c')) g S ⟨d.rest, d.skips, its, d.over⟩ :=
  Dec.setFound h.sg h.lt h.c0 h.own h.c2 h.hr h.hf h.c1 h.c3 h.f0 h.f1 h.f2 h.f3 T3 hF3 hq3 hN hc'
end
theorem DecTo.after {w w1 w2 : World} {g : Nat} {S S1 : Nat → Prop} {d2 : St} (t1 : Turn S w w1) (n1 : ∀ k, S1 k → S k ∨ w.heap.size ≤ k) (k : DecTo w1 w2 g S1 d2) : DecTo w w2 g S d2 := by
  obtain ⟨S2, h2, t2, n2⟩ := k
  refine ⟨S2, h2, t1.trans t2 (fun x hx hs => (n1 x hs).elim id (fun h => by omega)), fun x hx => ?_⟩
  rcases n2 x hx with h | h
  · exact n1 x h
  · exact .inr (Nat.le_trans t1.size h)
theorem OwnB.mono {t : TypeId} {base : Nat} {w : World} {v : Value} {l : List UInt8} (h : OwnB t base w v l) : OwnB t 0 w v l :=
  ⟨⟨h.owns.1, h.owns.2.imp id (fun ⟨g, c, u, h1, _, h3⟩ => ⟨g, c, u, h1, Nat.zero_le _, h3⟩)⟩, h.small⟩
theorem OwnB.form {t : TypeId} {base : Nat} {w : World} {q : Option Addr} {n c : Nat} {l : List UInt8} (h : OwnB t base w (.slice q n c) l) : (q = none ∧ n = 0 ∧ c = 0) ∨ ∃ b off, q = some ⟨b, off, none⟩ := by
  rcases h.owns.2 with ⟨e, _⟩ | ⟨g, cap, cur, e, _⟩
  · simp only [Value.slice.injEq] at e; exact .inl e
  · simp only [Value.slice.injEq] at e; exact .inr ⟨g, 0, e.1⟩
theorem OwnB.fresh {t : TypeId} {base : Nat} {w : World} {q : Option Addr} {n c : Nat} {l : List UInt8} (h : OwnB t base w (.slice q n c) l) : ∀ y, q = some y → base ≤ y.block ∧ y.block < w.heap.size :=
  fun y hy => h.owns.lt y.block (by rw [hy]; rfl)
theorem walk_any (g : Nat) (S : Nat → Prop) (d : St) (w : World) (h : Dec w g S d) (hT : Tab w) (hTS : ¬ S 0) (hb : d.found.length + d.skips + 2 * d.rest.length ≤ 1000000) :
    Calls Tryd.prog 31 #[.pointer (some ⟨g, 0, none⟩)] w fun e w' => e = .returned (.tuple #[]) ∧ DecTo w w' g S ⟨(Fr.pass d.over d.rest d.skips d.found).1, (Fr.pass d.over d.rest d.skips d.found).2.1, (Fr.pass d.over d.rest d.skips d.found).2.2, d.over⟩ := by
  obtain ⟨Z, hZ⟩ : ∃ Z, Fr.pass d.over d.rest d.skips d.found = Z := ⟨_, rfl⟩
  rw [hZ]
  obtain ⟨rest, skips, found, over⟩ := d
  simp only at hZ hb ⊢
  have hD := DecTo.refl h
  go_enter Tryd.func31, Tryd.ntmps31
  go_wp2_with fail
  go_step3
  go_wp2_with fail
  go_step3
  go_wp2_with fail
  go_loopw [2] (fun i wr => ∃ k : Nat, k ≤ rest.length ∧ i = .int .i64 k ∧ ∃ s f, f.length + s + 2 * (rest.length - k) ≤ 1000000 ∧ DecTo w wr g S ⟨rest, s, f, over⟩ ∧ Fr.pass over (rest.drop k) s f = Z) (fun i wr => rest.length - (intOf i).toNat)
  case atStart => exact ⟨0, Nat.zero_le _, rfl, skips, found, by omega, hD, hZ⟩
  case round =>
    clear hZ hD h hb
    obtain ⟨k, hk, rfl, s, f, hb, hD, hZ⟩ := hrel
    have hD0 := hD
    obtain ⟨S1, h1, t1, n1⟩ := hD
    obtain ⟨rq, rn, rc, fq, fn, fc, hM⟩ := h1.m
    have hg := hM.lt g hM.sg
    obtain ⟨hn, hR⟩ := hM.own.rowS
    simp only at hn hR
    have hm := hR.small
    unfold maxLen at hm
    have hle := hR.le
    have hT1 := hT.turn t1 hTS
    have hkn : k ≤ rn := by omega
    have hk0 : (0 : Int) ≤ (k : Int) := by omega
    have hk1 : (k : Int) ≤ (rn : Int) := by omega
    have hk2 : (k : Int) ≤ (rc : Int) := by omega
    replace hZ := Lib.hid hZ
    have c0 := hM.c0
    have f0 := hM.f0
    rcases hM.own.form with ⟨rfl, rfl, rfl⟩ | ⟨b, off, rfl⟩
    · obtain rfl : k = 0 := by omega
      have hr0 : rest.drop 0 = [] := List.drop_eq_nil_of_le (by omega)
      replace hn := Lib.hid hn
      go_wp2_with fail
      rw [Exit.noGoto_normal]; go_end0; have hz := hZ.out; rw [hr0, Fr.pass_nil] at hz; rw [← hz]; exact ⟨rfl, DecTo.after t1 n1 (hM.setRest (w3 := wr) (Turn.refl _ _) (OwnB.nil _ _ _) (fun y e => by cases e))⟩
    · by_cases hlt' : k < rn
      · replace hn := Lib.hid hn
        go_wp2_with fail
        refine (look_any _ _ _ (rest.drop k) wr (hR.drop hkn) (by omega) hT1).mono ?_; rintro e w2 ⟨rfl, hb2⟩
        have hM2 := hM.below hb2
        have t2 : Turn S w w2 := t1.trans (Turn.ofBelow (S := fun _ => False) hb2 rfl) (fun _ _ h => h.elim)
        have hg2 : g < w2.heap.size := hM2.lt g hM2.sg
        have hne : rest.drop k ≠ [] := by
          intro e
          have := congrArg List.length e
          rw [List.length_drop] at this
          have h2 := hn.out
          simp at this; omega
        have hSk := hM2.dec.setSkips (s + 1)
        rw [show (((s + 1 : Nat)) : Int) = (s : Int) + 1 from by omega] at hSk
        simp only at hSk
        have hSk2 := DecTo.after t2 n1 hSk
        clear hSk
        replace hSk2 := Lib.hid hSk2
        have c1 := hM2.c1
        have f1 := hM2.f1
        have c3 := hM2.c3
        simp only at c1 c3
        have hs0 : (0 : Int) ≤ (s : Int) := by omega
        have hs1 : (s : Int) ≤ 1000000 := by omega
        replace hb2 := Lib.hid hb2
        have hnn := hn.out
        have hkr : k + 1 ≤ rest.length := by omega
        have hbd : f.length + (s + 1) + 2 * (rest.length - (k + 1)) ≤ 1000000 := by omega
        have hrn : rn - k ≤ 1000000 := by omega
        clear hnn
        rcases Fr.look_cases (rest.drop k) with hL | hL | ⟨n, hL, hn7, hn8, hn9⟩
        · rw [hL]
          have hP : Fr.pass over (rest.drop (k + 1)) (s + 1) f = Z := by
            rw [← hZ.out, Fr.pass_skip hne (by omega) (fun h => by omega), List.drop_drop]
          replace hP := Lib.hid hP
          replace hL := Lib.hid hL
          have c0' := hM2.c0
          clear c0
          go_wp2_with fail
          go_roundw
          case rel => exact ⟨k + 1, hkr, by go_num, s + 1, f, hbd, hSk2.out, hP.out⟩
          case measure => simp [intOf] <;> omega
        · cases over
          · have hZ2 := hZ.out
            rw [Fr.pass_wait hL] at hZ2
            replace hZ2 := Lib.hid hZ2
            rw [hL]
            replace hL := Lib.hid hL
            have c0 := hM2.c0
            have f0 := hM2.f0
            have hR2 := (hR.below hb2.out).drop hkn
            have tok1 : True := trivial
            go_wp2_with (at_builtin; have _t := tok1; refine append_bytes 22 5 info8 Tryd.underlying22 rfl _ _ rfl w2.heap.size (.slice none 0 0) [] 0 rfl rfl (OwnB.nil _ _ _) (some ⟨b, off + k, none⟩) (rn - k) (rc - k) _ rfl hR2 (by omega) (Nat.le_refl _) ?_; intro q' c' w3 hO3 hR3 hG3; clear tok1; have T3 : Turn (fun _ => False) w2 w3 := Turn.ofGrown hG3 (fun k e => by cases e); have b0 := (T3.cell (p := ⟨g, 0, none⟩) hg2 (fun h => h)).trans c0; have e0 := (T3.frozen (p := ⟨g, 0, none⟩) hg2 (fun h => h)).trans f0)
            rw [Exit.noGoto_normal]
            go_end0
            have hz := hZ2.out
            rw [← hz]
            rw [Nat.zero_add] at hO3
            exact ⟨rfl, DecTo.after t2 n1 (hM2.setRest (T3.mono (fun _ _ h => h.elim)) hO3.mono (fun y hy => .inr (hO3.fresh y hy).1))⟩
          · have hP : Fr.pass true (rest.drop (k + 1)) (s + 1) f = Z := by
              rw [← hZ.out, Fr.pass_skip hne (by omega) (fun h => by simp at h), List.drop_drop]
            replace hP := Lib.hid hP
            rw [hL]
            replace hL := Lib.hid hL
            have c0' := hM2.c0
            clear c0
            go_wp2_with fail
            go_roundw
            case rel => exact ⟨k + 1, hkr, by go_num, s + 1, f, hbd, hSk2.out, hP.out⟩
            case measure => simp [intOf] <;> omega
        · have hP : Fr.pass over (rest.drop (k + n)) 0 (Fr.tell s f ++ [Fr.item (rest.drop k) n]) = Z := by
            rw [← hZ.out, Fr.pass_frame hL (by omega), List.drop_drop]
          replace hP := Lib.hid hP
          have htl := Fr.tell_le s f
          have hdl : (rest.drop k).length = rn - k := by rw [List.length_drop, hn.out]
          have hbd2 : (Fr.tell s f ++ [Fr.item (rest.drop k) n]).length + 0 + 2 * (rest.length - (k + n)) ≤ 1000000 := by
            rw [List.length_append]
            rw [hdl] at hn9
            have := hn.out
            simp only [List.length_cons, List.length_nil]
            omega
          have hkn3 : k + n ≤ rest.length := by rw [hdl] at hn9; have := hn.out; omega
          rw [hdl] at hn9
          rw [hL]
          replace hL := Lib.hid hL
          replace htl := Lib.hid htl
          replace hdl := Lib.hid hdl
          clear hSk2 hbd c1 f1 c3
          have hn0 : (0 : Int) < (n : Int) := by omega
          go_wp2_with fail
          refine (tell_any g S1 ⟨rest, s, f, over⟩ w2 hM2.dec (by simp only; omega) (by simp only; omega)).mono ?_; rintro e w3 ⟨rfl, S2, h3, t3, n3⟩
          simp only at h3
          obtain ⟨rq3, rn3, rc3, fq3, fn3, fc3, hM3⟩ := h3.m
          obtain ⟨hn3', hR3⟩ := hM3.own.rowS
          simp only at hn3' hR3
          obtain rfl : rn3 = rn := by rw [hn3', hn.out]
          clear hn3'
          have hg3 := hM3.lt g hM3.sg
          rcases hM3.own.form with ⟨_, h0, _⟩ | ⟨b3, off3, rfl⟩
          · omega
          have hle3 := hR3.le
          have i1 : (0 : Int) ≤ (k : Int) + (n : Int) := by omega
          have i2 : (k : Int) + (n : Int) ≤ (rc3 : Int) := by omega
          have i3 : (k : Int) ≤ (k : Int) + (n : Int) := by omega
          have i4 : (0 : Int) ≤ (n : Int) - 3 := by omega
          have i5 : (4 : Int) ≤ (n : Int) - 3 := by omega
          have hRD := hR3.drop hkn
          have hRB := hRD.slice (i := 4) (j := n - 3) (by omega) (by omega)
          have c03 := hM3.c0
          have c23 := hM3.c2
          have tok1 : True := trivial
          have x1 : (1 : Int) < (n : Int) := by omega
          have hkind : w3.cell? ⟨b3, off3 + k + 1, none⟩ = some (.int .u8 (((rest.drop k).getD 1 0).toNat : Int)) := by
            rcases hRD.at_ with h0 | ⟨b', off', e, _, hc⟩
            · omega
            · cases e; exact hc 1 (by omega)
          obtain ⟨kd, hkd⟩ : ∃ kd, (rest.drop k).getD 1 0 = kd := ⟨_, rfl⟩
          rw [hkd] at hkind
          obtain ⟨bd, hbdy⟩ : ∃ bd, ((rest.drop k).take (n - 3)).drop 4 = bd := ⟨_, rfl⟩
          rw [hbdy] at hRB
          have hit : Fr.item (rest.drop k) n = ⟨0, kd, bd⟩ := by unfold Fr.item; rw [hkd, hbdy]
          replace hit := Lib.hid hit
          replace hkd := Lib.hid hkd
          replace hbdy := Lib.hid hbdy
          go_wp2_with (at_builtin; have _t := tok1; refine append_bytes 22 5 info8 Tryd.underlying22 rfl _ _ rfl w3.heap.size (.slice none 0 0) [] 0 rfl rfl (OwnB.nil _ _ _) (some ⟨b3, off3 + k + 4, none⟩) (n - 3 - 4) (rc3 - k - 4) bd rfl hRB (by omega) (Nat.le_refl _) ?_; intro q5 c5 w5 hO5 hR5 hG5; clear tok1; have T5 : Turn (fun _ => False) w3 w5 := Turn.ofGrown hG5 (fun k e => by cases e))
          have hM5 := hM3.turn T5 (fun _ _ h => h)
          have hg5 := hM5.lt g hM5.sg
          have hkind5 : w5.cell? ⟨b3, off3 + k + 1, none⟩ = some (.int .u8 (kd.toNat : Int)) := (T5.cell (p := ⟨b3, off3 + k + 1, none⟩) (hM3.lt _ (hM3.hr _ rfl).1) (fun h => h)).trans hkind
          have c05 := hM5.c0
          have c25 := hM5.c2
          have f25 := hM5.f2
          have hfr := hO5.fresh
          clear c03 c23 hkind
          rw [Nat.zero_add] at hO5 hR5
          have T6 : Turn (fun _ => False) w5 ((w5.alloc (.cells #[.int .i64 0, .int .u8 (kd.toNat : Int), .slice q5 (n - 3 - 4) c5] 42)).drew) := ((Turn.refl _ w5).alloc _).drew
          have F6 := (hM5.fnd.turn T6 (fun _ _ _ h => h) (fun _ _ _ h => h)).mono (fun _ _ h => h) (body' := fun k => ¬ S2 k ∧ k < w5.heap.size + 1) (fun k hk h => ⟨h, by simpa using hk⟩)
          have R6 := hR5.turn T6 (fun _ _ h => h)
          have hng : ¬ qblk fq3 g := fun ⟨x, e, e2⟩ => (hM5.hf x e).2.1 e2
          have hfl := hM5.fnd.length
          have hfl2 : fn3 ≤ 1000000 := by have := htl.out; simp only at hfl; omega
          have hq5 : ∀ y, q5 = some y → (¬ S2 y.block ∧ y.block < w5.heap.size + 1) ∧ y.block < w5.heap.size + 1 := fun y hy => by
            obtain ⟨z1, z2⟩ := hfr y hy
            exact ⟨⟨fun hs => by have := hM3.lt _ hs; omega, by omega⟩, by omega⟩
          have hbN : (fn3 + 1) * 40 ≤ 140737488355328 := by omega
          have hbM : fn3 + 1 ≤ maxLen := by unfold maxLen; omega
          clear hfl hfr hle3 i1 i2 i3 i4 i5 hRD hRB
          have t5 : Turn S w w5 := (t2.trans t3 (fun x hx hs => (n1 x hs).elim id (fun h => by omega))).trans T5 (fun _ _ h => h.elim)
          have n5 : ∀ k, S2 k → S k ∨ w.heap.size ≤ k := fun k hk => (n3 k hk).elim (n1 k) (fun h => .inr (Nat.le_trans t2.size h))
          refine wp_region_noPanic ?_
          go_region_law (refine step_append_fnd 55 42 _ 40 infoIt rfl Tryd.underlying55 rfl (.tmp 52) (.tmp 59) rfl rfl F6 (fun k hk hn => hn.1 hk) w5.heap.size 1 rfl ⟨0, kd, bd⟩ ⟨by simp [go_sem], by simp [go_sem], q5, n - 3 - 4, c5, by simp [go_sem], R6, fun y hy => ⟨(hq5 y hy).1, by simpa using (hq5 y hy).2⟩⟩ hbN hbM ?_; intro q7 c7 w7 hF7 hT7 hq7; have T7 : Turn (qblk fq3) w5 w7 := (T6.mono (fun _ _ h => h.elim)).trans hT7 (fun _ _ h => h); have b72 := (T7.cell (p := ⟨g, 2, none⟩) hg5 hng).trans c25; have e72 := (T7.frozen (p := ⟨g, 2, none⟩) hg5 hng).trans f25)
          all_goals refine NoPanic.normal ?_
          all_goals
            have E7 : DecTo w5 (w7.setCell ⟨g, 2, none⟩ (.slice q7 (fn3 + 1) c7)) g S2 ⟨rest, 0, Fr.tell s f ++ [Fr.item (rest.drop k) n], over⟩ := by
              rw [hit.out]
              exact hM5.setFound T7 (N := w5.heap.size + 1) (by simpa using hF7) (fun y hy => (hq7 y hy).imp (fun h => h.1) (fun h => by simpa using h)) (by omega) (by have := hF7.le; omega)
            have E8 := DecTo.after t5 n5 E7
            clear E7 T7 hF7 hT7 hq7 F6 R6 T6 hq5 hR5 hO5 hG5
            replace E8 := Lib.hid E8
            go_wp2_with fail
            go_roundw
            case rel => exact ⟨k + n, hkn3, by go_num, 0, _, hbd2, E8.out, hP.out⟩
            case measure => simp [intOf] <;> omega
      · obtain rfl : k = rn := by omega
        have hr0 : rest.drop k = [] := List.drop_eq_nil_of_le (by omega)
        replace hn := Lib.hid hn
        by_cases hkc : k = rc
        · subst hkc
          go_wp2_with fail
          rw [Exit.noGoto_normal]; go_end0; have hz := hZ.out; rw [hr0, Fr.pass_nil] at hz; rw [← hz]; exact ⟨rfl, DecTo.after t1 n1 (hM.setRest (w3 := wr) (Turn.refl _ _) (OwnB.nil _ _ _) (fun y e => by cases e))⟩
        · go_wp2_with fail
          rw [Exit.noGoto_normal]; go_end0; have hz := hZ.out; rw [hr0, Fr.pass_nil] at hz; rw [← hz]; exact ⟨rfl, DecTo.after t1 n1 (hM.setRest (w3 := wr) (Turn.refl _ _) (OwnB.nil _ _ _) (fun y e => by cases e))⟩
end Go.Proofs.YtegbjlimiephlaaDoor
