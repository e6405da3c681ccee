/- The walk of MessageFrames. -/
import Derived.Test.YtfphffkgacajdaaDoorMsgAG
import Derived.Test.YtfphffkgacajdaaDoorMsgTG
import Derived.Test.YtfphffkgacajdaaDoorMsgOpen
import Derived.Test.YtfphffkgacajdaaDoorFrPG
import Derived.Test.YtfphffkgacajdaaDoorChecked
import Derived.Test.YtfphffkgacajdaaDoorRows
namespace Go.Proofs.YtfphffkgacajdaaDoor
open Go.RowKit
set_option linter.unusedVariables false
set_option linter.unusedSimpArgs false
set_option maxHeartbeats 1600000
set_option maxRecDepth 20000
def itsOf (m : Msg) : List It := if mayM m = true then [⟨0, m.kind, putM m⟩] else []
def itsAll (l : List MB) : List It := l.flatMap fun x => itsOf x.m
def mb0 : MB := ⟨msg0, none, 0, 0⟩
theorem itsAll_succ {l : List MB} {k : Nat} (h : k < l.length) : itsAll (l.take (k + 1)) = itsAll (l.take k) ++ itsOf (l.getD k mb0).m := by
  unfold itsAll
  rw [List.take_succ_eq_append_getElem h, List.flatMap_append]
  simp [List.getD, h]
theorem itsAll_drop {l : List MB} {k : Nat} (h : k < l.length) : itsAll (l.drop k) = itsOf (l.getD k mb0).m ++ itsAll (l.drop (k + 1)) := by
  unfold itsAll
  rw [List.drop_eq_getElem_cons h, List.flatMap_cons]
  simp [List.getD, h]
theorem itsOf_le (m : Msg) : (itsOf m).length ≤ 1 := by unfold itsOf; split <;> simp
theorem itsAll_le : ∀ (l : List MB), (itsAll l).length ≤ l.length
  | [] => by simp [itsAll]
  | x :: l => by
    have h1 := itsAll_le l
    have h2 := itsOf_le x.m
    have e : itsAll (x :: l) = itsOf x.m ++ itsAll l := by simp [itsAll]
    rw [e, List.length_append, List.length_cons]; omega
theorem give_frame (m : Msg) (f : List It) : St.give ⟨[], 0, f, false⟩ (frameC m) = ⟨[], 0, f ++ itsOf m, false⟩ := by
  unfold St.give
  rw [if_neg (by simp)]
  simp only [List.nil_append]
  unfold frameC itsOf
  by_cases hm : mayM m = true
  · rw [if_pos hm, if_pos hm]
    have := Fr.pass_put false m.kind (putM m) [] 0 f (putM_le hm)
    rw [List.append_nil] at this
    rw [this, Fr.pass_nil]
    rfl
  · rw [if_neg hm, if_neg hm, Fr.pass_nil, List.append_nil]
theorem fin_frame (f : List It) : St.fin ⟨[], 0, f, false⟩ = ⟨[], 0, f, true⟩ := by
  unfold St.fin
  rw [if_neg (by simp)]
  simp only
  rw [Fr.pass_nil]
  rfl
theorem frameC_le (m : Msg) : (frameC m).length ≤ 263 := by
  unfold frameC
  split
  · rename_i h
    rw [Fr.put_length]
    have := putM_le h
    omega
  · simp
theorem RowM.len {w : World} {a : Option Addr} {len : Nat} {l : List MB} (h : RowM w a len l) : l.length = len := by have := RowG.length h.1; simpa using this
theorem RowM.below {w w' : World} {a : Option Addr} {len : Nat} {l : List MB} (h : RowM w a len l) (hb : Below w.heap.size w w') : RowM w' a len l := ⟨RowG.below h.1 hb, fun x hx => ⟨RowG.below (h.2 x hx).1 hb, (h.2 x hx).2⟩⟩
theorem RowM.at_ {w : World} {a : Option Addr} {len : Nat} {l : List MB} (h : RowM w a len l) {k : Nat} (hk : k < len) : ∃ b off, a = some ⟨b, off, none⟩ ∧ b < w.heap.size ∧ (w.cell? ⟨b, off + k * 4, none⟩ = some (.int .u8 ((l.getD k mb0).m.kind.toNat : Int)) ∧ w.cell? ⟨b, off + k * 4 + 1, none⟩ = some (.int .u64 ((l.getD k mb0).m.seq : Int)) ∧ w.cell? ⟨b, off + k * 4 + 2, none⟩ = some (.int .i64 (l.getD k mb0).m.at_) ∧ w.cell? ⟨b, off + k * 4 + 3, none⟩ = some (.slice (l.getD k mb0).q (l.getD k mb0).n (l.getD k mb0).c)) ∧
    RowQ w (l.getD k mb0).q (l.getD k mb0).n (l.getD k mb0).m.props ∧ (l.getD k mb0).m.okW := by
  have hl := h.len
  obtain ⟨b, off, rfl, hb, hc⟩ := RowG.get h.1 (by omega)
  have hkl : k < l.length := by omega
  have hg : (l.map mbV).getD k [] = mbV (l.getD k mb0) := by simp [List.getD, hkl]
  have hk0 := hc k hk
  rw [hg] at hk0
  have hm : l.getD k mb0 ∈ l := by rw [show l.getD k mb0 = l[k] by simp [List.getD, hkl]]; exact List.getElem_mem hkl
  exact ⟨b, off, rfl, hb, ⟨hk0 0 _ rfl, hk0 1 _ rfl, hk0 2 _ rfl, hk0 3 _ rfl⟩, h.2 _ hm⟩
theorem messageFrames_walk (a : Option Addr) (len cap : Nat) (l : List MB) (w : World) (hM : RowM w a len l) (hT : Tab w) :
    Calls Tryd.prog 7 #[.slice a len cap] w fun e w' => e = .returned (.bool true) ∧ Below w.heap.size w w' := by
  have LL := Lib.hid hM.len
  have hsm := RowG.small hM.1
  unfold maxLen at hsm
  have hTl := hT.lt
  replace hT := Lib.hid hT
  replace hM := Lib.hid hM
  go_enter Tryd.func7, Tryd.ntmps7
  go_wp2_with fail
  refine (mawake_any _ hT.out).mono ?_; rintro e w1 ⟨rfl, hb1⟩
  have hz1 := hb1.size
  by_cases hl : 20 < len
  · have hl' : (20 : Int) < (len : Int) := by omega
    go_wp2_with fail
    go_ret
    exact ⟨rfl, hb1⟩
  have hl' : ¬ (20 : Int) < (len : Int) := by omega
  go_wp2_with fail
  refine (new_any w1).mono ?_; rintro e w2 ⟨g, rfl, hg, ⟨S0, hD0, hS0⟩, hb2⟩
  have hTS : ¬ S0 3 := fun h => by have := hS0 _ h; omega
  have hi0 : itsAll (l.take 0) = [] := by simp [itsAll]
  replace hi0 := Lib.hid hi0
  go_wp2_with fail
  go_loopw [5] (fun i wr => ∃ (k : Nat) (S : Nat → Prop), k ≤ len ∧ i = .int .i64 k ∧ Hid (∀ j, j < k → fewB (l.getD j mb0).m.props = true) ∧ Hid (Dec wr g S ⟨[], 0, itsAll (l.take k), false⟩) ∧ Hid (∀ b, S b → w1.heap.size ≤ b) ∧ Below w1.heap.size w1 wr) (fun i wr => len - (intOf i).toNat)
  case atStart => exact ⟨0, S0, Nat.zero_le _, rfl, Lib.hid (fun j hj => by omega), Lib.hid (by rw [hi0.out]; exact hD0), Lib.hid hS0, hb2⟩
  case round =>
    clear hD0 hS0 hTS hb2
    obtain ⟨k, S, hk, rfl, hall, hD, hS, hB⟩ := hrel
    by_cases hlt : k < len
    · have hkl : k < l.length := by have := LL.out; omega
      have hBw := hb1.trans (hB.mono hz1)
      obtain ⟨b, off, rfl, hbl, ⟨c0, c1, c2, c3⟩, hQ, hokW⟩ := (hM.out.below hBw).at_ hlt
      have hsu := itsAll_succ hkl
      have hil := itsAll_le (l.take k)
      rw [List.length_take] at hil
      have hxk : ∃ x, l.getD k mb0 = x := ⟨_, rfl⟩
      have hallk := fun (h : fewB (l.getD k mb0).m.props = true) j (hj : j < k + 1) => (show fewB (l.getD j mb0).m.props = true from by
        by_cases e : j = k
        · rw [e]; exact h
        · exact hall.out j (by omega))
      generalize l.getD k mb0 = x at *
      obtain ⟨m, q, n, c⟩ := x
      simp only at *
      replace hsu := Lib.hid hsu
      replace hallk := Lib.hid hallk
      have HW := Lib.hid (fun W h => few_any m q n c W h hokW.names)
      have hk0 : (0 : Int) ≤ (k : Int) := by omega
      have hk1 : (k : Int) < (len : Int) := by omega
      unfold msgV at HW
      generalize hfw : fewB m.props = fw at *
      replace hfw := Lib.hid hfw
      clear hxk
      have d0 := c0
      have d1 := c1
      have d2 := c2
      have d3 := c3
      replace hQ := Lib.hid hQ
      go_wp2_with fail
      refine (HW.out _ hQ.out).mono ?_; rintro e w3 ⟨rfl, hb3⟩
      clear c0 c1 c2 c3
      have hB3 := hB.trans (hb3.mono hB.size)
      have hBw3 := hb1.trans (hB3.mono hz1)
      cases fw with
      | false =>
        go_wp2_with fail
        go_ret
        exact ⟨rfl, hBw3⟩
      | true =>
        have hok := hokW.ok hfw.out
        have hfc := frameC_le m
        have HF := fun W h hT => mframe_any m q n c W hok h hT
        have HG := fun f => give_frame m f
        unfold msgV at HF
        generalize frameC m = fb at *
        replace HF := Lib.hid HF
        replace HG := Lib.hid HG
        have c0 := (hb3.cell (p := ⟨b, off + k * 4, none⟩) hbl).trans d0
        have c1 := (hb3.cell (p := ⟨b, off + k * 4 + 1, none⟩) hbl).trans d1
        have c2 := (hb3.cell (p := ⟨b, off + k * 4 + 2, none⟩) hbl).trans d2
        have c3 := (hb3.cell (p := ⟨b, off + k * 4 + 3, none⟩) hbl).trans d3
        go_wp2_with fail
        refine (HF.out _ (RowG.below hQ.out hb3) (hT.out.below hBw3)).mono ?_; rintro e w4 ⟨v4, rfl, hO4, hb4⟩
        have hB4 := hB3.trans (hb4.mono hB3.size)
        have hBw4 := hb1.trans (hB4.mono hz1)
        obtain ⟨q4, c4, rfl, hR4, _⟩ := hO4.row
        have hD4 := (hD.out.below hb3).below hb4
        have hTS : ¬ S 3 := fun h => by have := hS.out _ h; omega
        have HGV := Lib.hid (give_any g S _ w4 hD4 (hT.out.below hBw4) hTS q4 _ c4 fb hR4 (by simp only [List.length_nil]; omega))
        clear c0 c1 c2 c3 hO4 hR4 hD4 hTS hD
        go_wp2_with fail
        refine HGV.out.mono ?_; rintro e w5 ⟨rfl, S5, hD5, hT5, hS5⟩
        have hB5 := hB4.trans (hT5.below hB4.size (fun j hj hs => by have := hS.out _ hs; omega))
        have hS6 : Hid (∀ b, S5 b → w1.heap.size ≤ b) := Lib.hid (fun b hb => by
          rcases hS5 b hb with h | h
          · exact hS.out _ h
          · have := hB4.size; omega)
        rw [HG.out, ← hsu.out] at hD5
        replace hD5 := Lib.hid hD5
        clear hT5 hS5 HGV
        go_wp2_with fail
        go_roundw
        case rel => first | exact ⟨k + 1, S5, by omega, by go_num, Lib.hid (hallk.out (by first | rfl | trivial)), hD5, hS6, hB5⟩ | exact ⟨k + 1, S5, by omega, by omega, Lib.hid (hallk.out (by first | rfl | trivial)), hD5, hS6, hB5⟩
        case measure => simp [intOf] <;> omega
    · obtain rfl : k = len := by omega
      have hBw := hb1.trans (hB.mono hz1)
      have hTS : ¬ S 3 := fun h => by have := hS.out _ h; omega
      have hle := itsAll_le l
      rw [LL.out] at hle
      have hD1 := hD.out
      rw [List.take_of_length_le (by rw [LL.out]; exact Nat.le_refl _)] at hD1
      have HE := Lib.hid (end_any g S _ wr hD1 (hT.out.below hBw) hTS (by simp only [List.length_nil]; omega))
      have hfin := Lib.hid (fin_frame (itsAll l))
      clear hD hD1 hTS
      go_wp2_with fail
      refine HE.out.mono ?_; rintro e w5 ⟨rfl, S5, hD5, hT5, hS5⟩
      have hB5 := hB.trans (hT5.below hB.size (fun j hj hs => by have := hS.out _ hs; omega))
      have hS6 : Hid (∀ b, S5 b → w1.heap.size ≤ b) := Lib.hid (fun b hb => by
        rcases hS5 b hb with h | h
        · exact hS.out _ h
        · have := hB.size; omega)
      rw [hfin.out] at hD5
      replace hD5 := Lib.hid hD5
      clear hT5 hS5 HE hfin hS hB hBw hle
      go_wp2_with fail
      go_loopw [7] (fun i wr => ∃ (j : Nat) (S : Nat → Prop), j ≤ k ∧ i = .int .i64 j ∧ Hid (Dec wr g S ⟨[], 0, itsAll (l.drop j), true⟩) ∧ Hid (∀ b, S b → w1.heap.size ≤ b) ∧ Below w1.heap.size w1 wr) (fun i wr => k - (intOf i).toNat)
      case atStart => exact ⟨0, S5, Nat.zero_le _, rfl, hD5, hS6, hB5⟩
      case round =>
        clear hD5 hS6 hB5
        obtain ⟨j, S, hj, rfl, hD, hS, hB⟩ := hrel
        have hBw := hb1.trans (hB.mono hz1)
        by_cases hlt : j < k
        · have hjl : j < l.length := by have := LL.out; omega
          have hmj := hall.out j hlt
          obtain ⟨b, off, rfl, hbl, ⟨e0, e1, e2, e3⟩, hQ, hokW⟩ := hM.out.at_ hlt
          have hsd := itsAll_drop hjl
          generalize l.getD j mb0 = x at *
          obtain ⟨m, q, n, c⟩ := x
          simp only at *
          have hok := hokW.ok hmj
          have EB : ∀ W, Below w.heap.size w W → W.cell? ⟨b, off + j * 4, none⟩ = some (.int .u8 (m.kind.toNat : Int)) ∧ W.cell? ⟨b, off + j * 4 + 1, none⟩ = some (.int .u64 (m.seq : Int)) ∧ W.cell? ⟨b, off + j * 4 + 2, none⟩ = some (.int .i64 m.at_) ∧ W.cell? ⟨b, off + j * 4 + 3, none⟩ = some (.slice q n c) := fun W hW => ⟨(hW.cell (p := ⟨b, off + j * 4, none⟩) hbl).trans e0, (hW.cell (p := ⟨b, off + j * 4 + 1, none⟩) hbl).trans e1, (hW.cell (p := ⟨b, off + j * 4 + 2, none⟩) hbl).trans e2, (hW.cell (p := ⟨b, off + j * 4 + 3, none⟩) hbl).trans e3⟩
          replace EB := Lib.hid EB
          clear e0 e1 e2 e3
          obtain ⟨c0, c1, c2, c3⟩ := EB.out _ hBw
          have HMY := fun W h => mmay_any m q n c W hok h
          have HPL := Lib.hid (fun W => mplain_any m q n c W)
          have HPL2 := Lib.hid (fun W q n c => mplain_any m q n c W)
          have HSM := Lib.hid (fun W q1 n1 c1 h1 h2 => rmsame_any m q1 n1 c1 m q n c W h1 h2)
          have hdt : decide (m.kind = m.kind ∧ m.seq = m.seq ∧ m.at_ = m.at_ ∧ m.props = m.props) = true := by simp
          rw [hdt] at HSM
          clear hdt hmj hokW
          have HTK : mayM m = true → ∀ W q n c (h : RowB W q n c (putM m)), n ≤ 1000 → Calls Tryd.prog 23 #[.int .u8 (m.kind.toNat : Int), .slice q n c] W (TookM W (m, 0)) := fun hm W q n c h hn => by
            have := mtake_any m.kind q n c (putM m) W h (by omega)
            have e2 := take_putM m hok hm []
            rw [List.append_nil, if_pos rfl] at e2
            rwa [e2] at this
          have hio : itsOf m = if mayM m = true then [⟨0, m.kind, putM m⟩] else [] := rfl
          have hle := fun h : mayM m = true => putM_le h
          unfold msgV at HMY HPL HSM
          generalize putM m = pm at *
          generalize mayM m = bm at *
          replace HMY := Lib.hid HMY
          replace hQ := Lib.hid hQ
          have hk0 : (0 : Int) ≤ (j : Int) := by omega
          have hk1 : (j : Int) < (k : Int) := by omega
          have hkk : IntKind.i64.wrap (j : Int) = (j : Int) := IntWalk.i64_in _ (by omega)
          replace hio := Lib.hid hio
          replace hle := Lib.hid hle
          replace hsd := Lib.hid hsd
          replace HTK := Lib.hid HTK
          clear hok
          go_wp2_with fail
          refine (HMY.out _ (RowG.below hQ.out hBw)).mono ?_; rintro e w5' ⟨rfl, hb5⟩
          clear c0 c1 c2 c3
          have hB5 := hB.trans (hb5.mono hB.size)
          cases bm with
          | false =>
            have hi := hio.out
            rw [if_neg (by simp)] at hi
            have hs := hsd.out
            rw [hi, List.nil_append] at hs
            have hD5 := hD.out.below hb5
            rw [hs] at hD5
            replace hD5 := Lib.hid hD5
            clear hs hi
            go_wp2_with fail
            go_roundw
            case rel => first | exact ⟨j + 1, S, by omega, by go_num, hD5, hS, hB5⟩ | exact ⟨j + 1, S, by omega, by omega, hD5, hS, hB5⟩
            case measure => simp [intOf] <;> omega
          | true =>
            have hi := hio.out
            rw [if_pos rfl] at hi
            have hs := hsd.out
            rw [hi] at hs
            have hD5 := hD.out.below hb5
            rw [hs] at hD5
            have HNX := Lib.hid (next_some g S _ w5' hD5 ⟨0, m.kind, pm⟩ (itsAll (l.drop (j + 1))) rfl)
            have hle' := hle.out rfl
            have HTK2 := Lib.hid (HTK.out rfl)
            clear hs hi hD5 HTK hle hio hsd hD
            go_wp2_with fail
            refine HNX.out.mono ?_; rintro e w6 ⟨q6, n6, c6, rfl, hR6, hq6, S6, hD6, hT6, hS6⟩
            have hB6 := hB5.trans (hT6.below hB5.size (fun i hi hs => by have := hS.out _ hs; omega))
            have hln := hR6.length
            have hSS : Hid (∀ b, S6 b → w1.heap.size ≤ b) := Lib.hid (fun b hb => by
              rcases hS6 b hb with h | h
              · exact hS.out _ h
              · have := hB5.size; omega)
            simp only [St.next, List.drop_succ_cons, List.drop_zero] at hD6
            have A6 : Below w6.heap.size w6 (w6.alloc (.cells #[.int .i64 0, .int .u8 (m.kind.toNat : Int), .slice q6 n6 c6] 53)) := (Below.refl _ _).alloc (Nat.le_refl _) _
            have XT : Hid (Box (w6.alloc (.cells #[.int .i64 0, .int .u8 (m.kind.toNat : Int), .slice q6 n6 c6] 53)) w6.heap.size [.int .i64 0, .int .u8 (m.kind.toNat : Int), .slice q6 n6 c6]) := Lib.hid (Box.new _ _ _ _ rfl _ rfl)
            replace hR6 := Lib.hid (hR6.below A6)
            replace hD6 := Lib.hid (hD6.below A6)
            have hB7 := hB6.trans (A6.mono hB6.size)
            clear hT6 hS6 HNX hq6
            go_wp2_with fail
            refine (HTK2.out _ _ _ _ hR6.out (by omega)).mono ?_; rintro e w8 ⟨q8, n8, c8, rfl, hR8, hb8⟩
            unfold msgV
            simp only at hR8 ⊢
            have zT := (XT.out.below hb8).lt
            have A8 : Below w8.heap.size w8 (w8.alloc (.cells #[.int .u8 (m.kind.toNat : Int), .int .u64 (m.seq : Int), .int .i64 m.at_, .slice q8 n8 c8] 25)) := (Below.refl _ _).alloc (Nat.le_refl _) _
            have XA : Hid (Box (w8.alloc (.cells #[.int .u8 (m.kind.toNat : Int), .int .u64 (m.seq : Int), .int .i64 m.at_, .slice q8 n8 c8] 25)) w8.heap.size [.int .u8 (m.kind.toNat : Int), .int .u64 (m.seq : Int), .int .i64 m.at_, .slice q8 n8 c8]) := Lib.hid (Box.new _ _ _ _ rfl _ rfl)
            replace XT := Lib.hid ((XT.out.below hb8).below A8)
            replace hR8 := Lib.hid (RowG.below hR8 A8)
            replace hD6 := Lib.hid ((hD6.out.below hb8).below A8)
            have hB9 := (hB7.trans (hb8.mono hB7.size)).trans (A8.mono ((hB7.trans (hb8.mono hB7.size)).size))
            obtain ⟨d0, d1, d2, d3⟩ := EB.out _ (hb1.trans (hB9.mono hz1))
            clear hB7 hb8 A8 A6 hR6 hB6 hln
            go_wp2_with fail
            generalize w8.alloc (.cells #[.int .u8 (m.kind.toNat : Int), .int .u64 (m.seq : Int), .int .i64 m.at_, .slice q8 n8 c8] 25) = w9 at *
            have hBw9 := hb1.trans (hB9.mono hz1)
            have E : ∀ W, Below w9.heap.size w9 W → W.cell? ⟨w6.heap.size, 0, none⟩ = some (.int .i64 0) ∧ W.cell? ⟨w8.heap.size, 0, none⟩ = some (.int .u8 (m.kind.toNat : Int)) ∧ W.cell? ⟨w8.heap.size, 1, none⟩ = some (.int .u64 (m.seq : Int)) ∧ W.cell? ⟨w8.heap.size, 2, none⟩ = some (.int .i64 m.at_) ∧ W.cell? ⟨w8.heap.size, 3, none⟩ = some (.slice q8 n8 c8) ∧ W.cell? ⟨b, off + j * 4, none⟩ = some (.int .u8 (m.kind.toNat : Int)) ∧ W.cell? ⟨b, off + j * 4 + 1, none⟩ = some (.int .u64 (m.seq : Int)) ∧ W.cell? ⟨b, off + j * 4 + 2, none⟩ = some (.int .i64 m.at_) ∧ W.cell? ⟨b, off + j * 4 + 3, none⟩ = some (.slice q n c) := fun W hW => by
              obtain ⟨f0, f1, f2, f3⟩ := EB.out _ (hBw9.trans (hW.mono hBw9.size))
              exact ⟨(XT.out.below hW).cell 0 _ rfl, (XA.out.below hW).cell 0 _ rfl, (XA.out.below hW).cell 1 _ rfl, (XA.out.below hW).cell 2 _ rfl, (XA.out.below hW).cell 3 _ rfl, f0, f1, f2, f3⟩
            replace E := Lib.hid E
            have D := (Below.refl w9.heap.size w9).drew
            have HPL3 := Lib.hid (fun W => HPL2.out W q8 n8 c8)
            unfold msgV at HPL3
            clear d0 d1 d2 d3
            refine wp_region_noPanic ?_
            refine wp_region_held_drew (S := fun W => W.cell? ⟨w6.heap.size, 0, none⟩ = some (.int .i64 0) ∧ W.cell? ⟨w8.heap.size, 0, none⟩ = some (.int .u8 (m.kind.toNat : Int)) ∧ W.cell? ⟨w8.heap.size, 1, none⟩ = some (.int .u64 (m.seq : Int)) ∧ W.cell? ⟨w8.heap.size, 2, none⟩ = some (.int .i64 m.at_) ∧ W.cell? ⟨w8.heap.size, 3, none⟩ = some (.slice q8 n8 c8) ∧ W.cell? ⟨b, off + j * 4, none⟩ = some (.int .u8 (m.kind.toNat : Int)) ∧ W.cell? ⟨b, off + j * 4 + 1, none⟩ = some (.int .u64 (m.seq : Int)) ∧ W.cell? ⟨b, off + j * 4 + 2, none⟩ = some (.int .i64 m.at_) ∧ W.cell? ⟨b, off + j * 4 + 3, none⟩ = some (.slice q n c)) (by kernel_rfl) (E.out _ D) (fun hHeld => ?_)
            refine wpAnyH_take (i := 0) (oi := ⟨some 70, _, _, _, _, _⟩) (v := ?_) rfl (by kernel_rfl) (by kernel_rfl) (by kernel_rfl) (fun _ _ _ h => h) (Or.inl ⟨by rfl, ?hyt0⟩) (by assumption) ?_; (case hyt0 => ((intro W hSW; (try dsimp only at hSW); obtain ⟨s1, s2, s3, s4, s5, s6, s7, s8, s9⟩ := hSW; go_simp); (all_goals with_reducible rfl))); (try simp only [Act.put, List.setIfInBounds_toArray, List.set_cons_zero, List.set_cons_succ])
            refine wpAnyH_take (i := 1) (oi := ⟨some 71, _, _, _, _, _⟩) (v := ?_) rfl (by kernel_rfl) (by kernel_rfl) (by kernel_rfl) (fun _ _ _ h => h) (Or.inl ⟨by rfl, ?hyt1⟩) (by assumption) ?_; (case hyt1 => ((intro W hSW; (try dsimp only at hSW); obtain ⟨s1, s2, s3, s4, s5, s6, s7, s8, s9⟩ := hSW; go_simp); (all_goals with_reducible rfl))); (try simp only [Act.put, List.setIfInBounds_toArray, List.set_cons_zero, List.set_cons_succ])
            refine wpAnyH_take (i := 2) (oi := ⟨some 72, _, _, _, _, _⟩) (v := ?_) rfl (by kernel_rfl) (by kernel_rfl) (by kernel_rfl) (fun _ _ _ h => h) (Or.inl ⟨by rfl, ?hyt2⟩) (by assumption) ?_; (case hyt2 => ((intro W hSW; (try dsimp only at hSW); obtain ⟨s1, s2, s3, s4, s5, s6, s7, s8, s9⟩ := hSW; go_simp); (all_goals with_reducible rfl))); (try simp only [Act.put, List.setIfInBounds_toArray, List.set_cons_zero, List.set_cons_succ])
            refine wpAnyH_take (i := 3) (oi := ⟨some 73, _, _, _, _, _⟩) (v := ?_) rfl (by kernel_rfl) (by kernel_rfl) (by kernel_rfl) (fun _ _ _ h => h) (Or.inl ⟨by rfl, ?hyt3⟩) (by assumption) ?_; (case hyt3 => ((intro W hSW; (try dsimp only at hSW); obtain ⟨s1, s2, s3, s4, s5, s6, s7, s8, s9⟩ := hSW; go_simp); (all_goals with_reducible rfl))); (try simp only [Act.put, List.setIfInBounds_toArray, List.set_cons_zero, List.set_cons_succ])
            refine wpAnyH_take (i := 4) (oi := ⟨some 74, _, _, _, _, _⟩) (v := ?_) rfl (by kernel_rfl) (by kernel_rfl) (by kernel_rfl) (fun _ _ _ h => h) (Or.inl ⟨by rfl, ?hyt4⟩) (by assumption) ?_; (case hyt4 => ((intro W hSW; (try dsimp only at hSW); obtain ⟨s1, s2, s3, s4, s5, s6, s7, s8, s9⟩ := hSW; go_simp); (all_goals with_reducible rfl))); (try simp only [Act.put, List.setIfInBounds_toArray, List.set_cons_zero, List.set_cons_succ])
            refine wpAnyH_take (i := 5) (oi := ⟨some 75, _, _, _, _, _⟩) (v := ?_) rfl (by kernel_rfl) (by kernel_rfl) (by kernel_rfl) (fun _ _ _ h => h) (Or.inl ⟨by rfl, ?hyt5⟩) (by assumption) ?_; (case hyt5 => ((intro W hSW; (try dsimp only at hSW); obtain ⟨s1, s2, s3, s4, s5, s6, s7, s8, s9⟩ := hSW; go_simp); (all_goals with_reducible rfl))); (try simp only [Act.put, List.setIfInBounds_toArray, List.set_cons_zero, List.set_cons_succ])
            refine wpAnyH_take (i := 6) (oi := ⟨some 76, _, _, _, _, _⟩) (v := ?_) rfl (by kernel_rfl) (by kernel_rfl) (by kernel_rfl) (fun _ _ _ h => h) (Or.inl ⟨by rfl, ?hyt6⟩) (by assumption) ?_; (case hyt6 => ((intro W hSW; (try dsimp only at hSW); obtain ⟨s1, s2, s3, s4, s5, s6, s7, s8, s9⟩ := hSW; go_simp); (all_goals with_reducible rfl))); (try simp only [Act.put, List.setIfInBounds_toArray, List.set_cons_zero, List.set_cons_succ])
            refine wpAnyH_take (i := 7) (oi := ⟨some 77, _, _, _, _, _⟩) (v := ?_) rfl (by kernel_rfl) (by kernel_rfl) (by kernel_rfl) (fun _ _ _ h => h) (Or.inl ⟨by rfl, ?hyt7⟩) (by assumption) ?_; (case hyt7 => ((intro W hSW; (try dsimp only at hSW); obtain ⟨s1, s2, s3, s4, s5, s6, s7, s8, s9⟩ := hSW; go_simp); (all_goals with_reducible rfl))); (try simp only [Act.put, List.setIfInBounds_toArray, List.set_cons_zero, List.set_cons_succ])
            refine wpAnyH_take (i := 8) (oi := ⟨some 78, _, _, _, _, _⟩) (v := ?_) rfl (by kernel_rfl) (by kernel_rfl) (by kernel_rfl) (fun _ _ _ h => h) (Or.inl ⟨by rfl, ?hyt8⟩) (by assumption) ?_; (case hyt8 => ((intro W hSW; (try dsimp only at hSW); obtain ⟨s1, s2, s3, s4, s5, s6, s7, s8, s9⟩ := hSW; go_simp); (all_goals with_reducible rfl))); (try simp only [Act.put, List.setIfInBounds_toArray, List.set_cons_zero, List.set_cons_succ])
            refine wpAnyH_take (i := 9) (oi := ⟨some 79, _, _, _, _, _⟩) (v := ?_) rfl (by kernel_rfl) (by kernel_rfl) (by kernel_rfl) (fun _ _ _ h => h) (Or.inl ⟨by rfl, ?hyt9⟩) (by assumption) ?_; (case hyt9 => ((intro W hSW; (try dsimp only at hSW); obtain ⟨s1, s2, s3, s4, s5, s6, s7, s8, s9⟩ := hSW; go_simp); (all_goals with_reducible rfl))); (try simp only [Act.put, List.setIfInBounds_toArray, List.set_cons_zero, List.set_cons_succ])
            refine wpAnyH_take (i := 10) (oi := ⟨some 80, _, _, _, _, _⟩) (v := ?_) rfl (by kernel_rfl) (by kernel_rfl) (by kernel_rfl) (fun _ _ _ h => h) (Or.inl ⟨by rfl, ?hyt10⟩) (by assumption) ?_; (case hyt10 => ((intro W hSW; (try dsimp only at hSW); obtain ⟨s1, s2, s3, s4, s5, s6, s7, s8, s9⟩ := hSW; go_simp); (all_goals with_reducible rfl))); (try simp only [Act.put, List.setIfInBounds_toArray, List.set_cons_zero, List.set_cons_succ])
            refine wpAnyH_take (i := 11) (oi := ⟨some 81, _, _, _, _, _⟩) (v := ?_) rfl (by kernel_rfl) (by kernel_rfl) (by kernel_rfl) (fun _ _ _ h => h) (Or.inl ⟨by rfl, ?hyt11⟩) (by assumption) ?_; (case hyt11 => ((intro W hSW; (try dsimp only at hSW); obtain ⟨s1, s2, s3, s4, s5, s6, s7, s8, s9⟩ := hSW; go_simp); (all_goals with_reducible rfl))); (try simp only [Act.put, List.setIfInBounds_toArray, List.set_cons_zero, List.set_cons_succ])
            refine wpAnyH_take (i := 12) (oi := ⟨some 82, _, _, _, _, _⟩) (v := ?_) rfl (by kernel_rfl) (by kernel_rfl) (by kernel_rfl) (fun _ _ _ h => h) (Or.inl ⟨by rfl, ?hyt12⟩) (by assumption) ?_; (case hyt12 => ((intro W hSW; (try dsimp only at hSW); obtain ⟨s1, s2, s3, s4, s5, s6, s7, s8, s9⟩ := hSW; go_simp); (all_goals with_reducible rfl))); (try simp only [Act.put, List.setIfInBounds_toArray, List.set_cons_zero, List.set_cons_succ])
            refine wpAnyH_take (i := 14) (oi := ⟨some 84, _, _, _, _, _⟩) (v := ?_) rfl (by kernel_rfl) (by kernel_rfl) (by kernel_rfl) (fun _ _ _ h => h) (Or.inl ⟨by rfl, ?hyt14⟩) (by assumption) ?_; (case hyt14 => ((intro W hSW; (try dsimp only at hSW); obtain ⟨s1, s2, s3, s4, s5, s6, s7, s8, s9⟩ := hSW; go_simp); (all_goals with_reducible rfl))); (try simp only [Act.put, List.setIfInBounds_toArray, List.set_cons_zero, List.set_cons_succ])
            refine wpAnyH_take (i := 15) (oi := ⟨some 85, _, _, _, _, _⟩) (v := ?_) rfl (by kernel_rfl) (by kernel_rfl) (by kernel_rfl) (fun _ _ _ h => h) (Or.inl ⟨by rfl, ?hyt15⟩) (by assumption) ?_; (case hyt15 => ((intro W hSW; (try dsimp only at hSW); obtain ⟨s1, s2, s3, s4, s5, s6, s7, s8, s9⟩ := hSW; go_simp); (all_goals with_reducible rfl))); (try simp only [Act.put, List.setIfInBounds_toArray, List.set_cons_zero, List.set_cons_succ])
            refine wpAnyH_take (i := 16) (oi := ⟨some 86, _, _, _, _, _⟩) (v := ?_) rfl (by kernel_rfl) (by kernel_rfl) (by kernel_rfl) (fun _ _ _ h => h) (Or.inl ⟨by rfl, ?hyt16⟩) (by assumption) ?_; (case hyt16 => ((intro W hSW; (try dsimp only at hSW); obtain ⟨s1, s2, s3, s4, s5, s6, s7, s8, s9⟩ := hSW; go_simp); (all_goals with_reducible rfl))); (try simp only [Act.put, List.setIfInBounds_toArray, List.set_cons_zero, List.set_cons_succ])
            refine wpAnyH_take (i := 17) (oi := ⟨some 87, _, _, _, _, _⟩) (v := ?_) rfl (by kernel_rfl) (by kernel_rfl) (by kernel_rfl) (fun _ _ _ h => h) (Or.inl ⟨by rfl, ?hyt17⟩) (by assumption) ?_; (case hyt17 => ((intro W hSW; (try dsimp only at hSW); obtain ⟨s1, s2, s3, s4, s5, s6, s7, s8, s9⟩ := hSW; go_simp); (all_goals with_reducible rfl))); (try simp only [Act.put, List.setIfInBounds_toArray, List.set_cons_zero, List.set_cons_succ])
            refine wpAnyH_ready (rs := [13]) (by kernel_rfl) (by simp) ?_; refine AllReadyH.cons (o := ⟨some 83, _, _, _, _, _⟩) rfl (fun K hK => ?_) AllReadyH.nil; go_simp
            go_at_call 16
            refine (HPL3.out _).mono ?_; rintro e w10 ⟨rfl, hb10⟩
            have D10 : Below w9.heap.size w9 w10 := D.trans (hb10.mono D.size)
            (try go_simp); refine hK.out _ _ (E.out _ D10) (fun hHeld2 => ?_); clear hK K hHeld; (try simp only [Act.put, List.setIfInBounds_toArray, List.set_cons_zero, List.set_cons_succ])
            refine wpAnyH_ready (rs := [18]) (by kernel_rfl) (by simp) ?_; refine AllReadyH.cons (o := ⟨some 88, _, _, _, _, _⟩) rfl (fun K hK => ?_) AllReadyH.nil; go_simp
            go_at_call 16
            refine (HPL.out _).mono ?_; rintro e w11 ⟨rfl, hb11⟩
            have D11 : Below w9.heap.size w9 w11 := D10.trans (hb11.mono D10.size)
            (try go_simp); refine hK.out _ _ (E.out _ D11) (fun hHeld3 => ?_); clear hK K hHeld2; (try simp only [Act.put, List.setIfInBounds_toArray, List.set_cons_zero, List.set_cons_succ])
            refine wpAnyH_ready (rs := [19]) (by kernel_rfl) (by simp) ?_; refine AllReadyH.cons (o := ⟨some 89, _, _, _, _, _⟩) rfl (fun K hK => ?_) AllReadyH.nil; go_simp
            go_at_call 25
            refine (HSM.out _ _ _ _ (RowG.below hR8.out D11) (RowG.below hQ.out (hBw9.trans (D11.mono hBw9.size)))).mono ?_; rintro e w12 ⟨rfl, hb12⟩
            have D12 : Below w9.heap.size w9 w12 := D11.trans (hb12.mono D11.size)
            (try go_simp); refine hK.out _ _ (E.out _ D12) (fun hHeld4 => ?_); clear hK K hHeld3; (try simp only [Act.put, List.setIfInBounds_toArray, List.set_cons_zero, List.set_cons_succ])
            refine wpAnyH_take (i := 20) (oi := ⟨some 90, _, _, _, _, _⟩) (v := ?_) rfl (by kernel_rfl) (by kernel_rfl) (by kernel_rfl) (fun _ _ _ h => h) (Or.inl ⟨by rfl, ?hyt20⟩) (by assumption) ?_; (case hyt20 => ((intro W hSW; (try dsimp only at hSW); obtain ⟨s1, s2, s3, s4, s5, s6, s7, s8, s9⟩ := hSW; go_simp); (all_goals with_reducible rfl))); (try simp only [Act.put, List.setIfInBounds_toArray, List.set_cons_zero, List.set_cons_succ])
            refine wpAnyH_take (i := 21) (oi := ⟨some 91, _, _, _, _, _⟩) (v := ?_) rfl (by kernel_rfl) (by kernel_rfl) (by kernel_rfl) (fun _ _ _ h => h) (Or.inl ⟨by rfl, ?hyt21⟩) (by assumption) ?_; (case hyt21 => ((intro W hSW; (try dsimp only at hSW); obtain ⟨s1, s2, s3, s4, s5, s6, s7, s8, s9⟩ := hSW; go_simp); (all_goals with_reducible rfl))); (try simp only [Act.put, List.setIfInBounds_toArray, List.set_cons_zero, List.set_cons_succ])
            refine wpAnyH_done (by kernel_rfl) ?_ _
            refine NoPanic.normal ?_
            clear hHeld4
            have hD12 := Lib.hid (hD6.out.below D12)
            have hB12 := hB9.trans (D12.mono hB9.size)
            clear hD6 hB9 E EB D D10 D11 D12 XT XA hR8
            go_wp2_with fail
            go_roundw
            case rel => first | exact ⟨j + 1, S6, by omega, by go_num, hD12, hSS, hB12⟩ | exact ⟨j + 1, S6, by omega, by omega, hD12, hSS, hB12⟩
            case measure => simp [intOf] <;> omega
        · obtain rfl : j = k := by omega
          have hD1 := hD.out
          rw [List.drop_of_length_le (by rw [LL.out]; exact Nat.le_refl _)] at hD1
          have HE := Lib.hid (next_empty g S _ wr hD1 (by simp [itsAll]))
          clear hD hD1
          go_wp2_with fail
          refine HE.out.mono ?_; rintro e w9 ⟨rfl, hb9⟩
          go_wp2_with fail
          go_ret
          exact ⟨rfl, (hBw.trans (hb9.mono hBw.size)).alloc (by have := (hBw.trans (hb9.mono hBw.size)).size; omega) _⟩
end Go.Proofs.YtfphffkgacajdaaDoor
