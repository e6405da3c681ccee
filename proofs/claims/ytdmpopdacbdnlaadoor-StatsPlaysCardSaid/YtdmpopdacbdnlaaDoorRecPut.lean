/- record.Put: contract. -/
import Derived.Test.YtdmpopdacbdnlaaDoorRecNum
import Derived.Test.YtdmpopdacbdnlaaDoorRecUse
import Derived.Test.YtdmpopdacbdnlaaDoorFrPG
namespace Go.Proofs.YtdmpopdacbdnlaaDoor
open Go.RowKit
set_option linter.unusedVariables false
set_option linter.unusedSimpArgs false
set_option maxHeartbeats 2000000
set_option maxRecDepth 20000
/-- a field's bytes, a record's body, its frame -/
def recF (r : Rec) (c : UInt8) : List UInt8 := if c = 116 then Oct.encText ⟨r.text.toArray⟩ else Oct.enc (numU r c)
def recBody (r : Rec) : List UInt8 := (fieldsOf r.kind).flatMap (recF r)
def recC (r : Rec) : List UInt8 := if mayB r = true then Fr.put r.kind (recBody r) else []
theorem may_facts {r : Rec} (h : mayB r = true) (hok : r.ok) : kindB r.kind = true ∧ r.pos ∧ r.text.length ≤ 240 := by
  unfold mayB at h
  rw [Bool.and_eq_true, Bool.and_eq_true, decide_eq_true_iff] at h
  obtain ⟨h1, _, h3⟩ := h
  have ha := hok.at_
  have hn := hok.num
  unfold i64B at ha hn
  exact ⟨h1, ⟨by omega, hok.seq, by omega, by omega, by omega⟩, by omega⟩
theorem flat_le {f : UInt8 → List UInt8} {m : Nat} : ∀ (l : List UInt8), (∀ c ∈ l, (f c).length ≤ m) → (l.flatMap f).length ≤ l.length * m
  | [], _ => by simp
  | c :: l, h => by
    have h1 := h c (by simp)
    have h2 := flat_le l (fun d hd => h d (by simp [hd]))
    rw [List.flatMap_cons, List.length_append, List.length_cons, Nat.succ_mul]
    omega
theorem recBody_le {r : Rec} (hk : kindB r.kind = true) (ht : r.text.length ≤ 240) : (recBody r).length ≤ 256 := by
  unfold kindB at hk
  rw [Bool.and_eq_true, decide_eq_true_iff, decide_eq_true_iff] at hk
  have hz := ba_sizeP r.text
  have htx : (Oct.encText ⟨r.text.toArray⟩).length ≤ 241 := by
    have h2 : (Oct.enc (⟨r.text.toArray⟩ : ByteArray).size).length = 1 := by unfold Oct.enc; rw [if_pos (by omega)]; rfl
    unfold Oct.encText
    rw [List.length_append, h2]
    simp only [List.toList_toArray]
    omega
  by_cases h32 : r.kind = 32
  · unfold recBody
    rw [h32]
    show (List.flatMap (recF r) [116]).length ≤ 256
    simp only [List.flatMap_cons, List.flatMap_nil, List.append_nil]
    show (Oct.encText ⟨r.text.toArray⟩).length ≤ 256
    omega
  · have hno : ∀ c ∈ fieldsOf r.kind, c ≠ 116 := by
      rcases kind_split r.kind hk.1 hk.2 with h | h | h | h | h | h | h | h | h | h | h | h | h | h | h | h
      all_goals first | exact absurd h h32 | (rw [h]; decide)
    have hl := fields_len r.kind
    have := flat_le (f := recF r) (m := 9) (fieldsOf r.kind) (fun c hc => by unfold recF; rw [if_neg (hno c hc)]; exact Oct.enc_le _)
    unfold recBody
    omega
theorem rput_no (r : Rec) (w : World) (hm : mayB r = false) (hT : Forms 0 w) (hs : r.text.length ≤ maxLen) :
    Calls Tryd.prog 56 #[recA r] w fun e w' => e = .returned (.slice none 0 0) ∧ Below w.heap.size w w' := by
  have HM := fun W h => may_any r W h hs
  rw [hm] at HM
  unfold recA at HM ⊢
  replace HM := Lib.hid HM
  go_enter Tryd.func56, Tryd.ntmps56
  go_wp2_with fail
  refine (HM.out _ (hT.below (by repeat (first | with_reducible exact Below.refl _ _ | with_reducible refine Below.drew ?_ | with_reducible refine Below.alloc ?_ (by (try simp) <;> omega) _ | with_reducible refine Below.setCell ?_ (by (try simp) <;> omega) _)))).mono ?_; rintro e w1 ⟨rfl, hb1⟩
  go_wp2_with fail
  go_ret
  exact ⟨rfl, Below.trans (by repeat (first | with_reducible exact Below.refl _ _ | with_reducible refine Below.drew ?_ | with_reducible refine Below.alloc ?_ (by (try simp) <;> omega) _ | with_reducible refine Below.setCell ?_ (by (try simp) <;> omega) _)) (hb1.mono (by simp))⟩
theorem flat_succ {f : UInt8 → List UInt8} (l : List UInt8) (k : Nat) (h : k < l.length) : (l.take (k + 1)).flatMap f = (l.take k).flatMap f ++ f (l[k]'h) := by
  rw [List.take_succ_eq_append_getElem h, List.flatMap_append]; simp
theorem rput_yes (r : Rec) (w : World) (hm : mayB r = true) (hok : r.ok) (hT : Forms 0 w) (hTab : Tab w) :
    Calls Tryd.prog 56 #[recA r] w fun e w' => ∃ v', e = .returned v' ∧ OwnB 5 w.heap.size w' v' (Fr.put r.kind (recBody r)) ∧ Below w.heap.size w w' := by
  obtain ⟨hk, hpos, htx⟩ := may_facts hm hok
  have hbl := recBody_le hk htx
  have HM := fun W h => may_any r W h hok.text
  rw [hm] at HM
  have HFO := fun W hh => formOf_yes r.kind hk W hh
  have hfl := fields_len r.kind
  have hbd : recBody r = (fieldsOf r.kind).flatMap (recF r) := rfl
  have HPF := fun W q n c b (h : RowB W q n c b) (hn : n ≤ 256) (hT : Tab W) => put_any r.kind q n c b W h hn hT
  unfold formA strV at HFO
  unfold recA at HM ⊢
  generalize recBody r = bd at *
  generalize wordOf r.kind = wo at *
  generalize fieldsOf r.kind = fs at *
  replace HM := Lib.hid HM
  replace HFO := Lib.hid HFO
  replace HPF := Lib.hid HPF
  replace hbd := Lib.hid hbd
  replace hpos := Lib.hid hpos
  replace hT := Lib.hid hT
  replace hTab := Lib.hid hTab
  have A1 : Below w.heap.size w (w.alloc (.cells #[.int .u8 (r.kind.toNat : Int), .int .i64 r.source, .int .u64 (r.seq : Int), .int .i64 r.at_, .int .i64 r.num, .int .i64 r.code, .bool r.yes, .string ⟨r.text.toArray⟩] 69)) := (Below.refl _ _).alloc (Nat.le_refl _) _
  have R1 : Hid (RecAt (w.alloc (.cells #[.int .u8 (r.kind.toNat : Int), .int .i64 r.source, .int .u64 (r.seq : Int), .int .i64 r.at_, .int .i64 r.num, .int .i64 r.code, .bool r.yes, .string ⟨r.text.toArray⟩] 69)) w.heap.size 0 r) := Lib.hid ⟨by simp [go_sem], by simp [go_sem], by simp [go_sem], by simp [go_sem], by simp [go_sem], by simp [go_sem], by simp [go_sem], by simp [go_sem]⟩
  clear hm hk hok
  go_enter Tryd.func56, Tryd.ntmps56
  go_wp2_with fail
  refine (HM.out _ (hT.out.below A1)).mono ?_; rintro e w1 ⟨rfl, hb1⟩
  have B1 := A1.trans (hb1.mono A1.size)
  have z1 : w.heap.size < w1.heap.size := by have := hb1.size; simp at this; omega
  replace R1 := Lib.hid (R1.out.turn (Turn.ofBelow (S := fun _ => False) hb1 rfl) (by simp) (fun h => h))
  have r0 := R1.out.c0
  clear A1 hb1
  go_wp2_with fail
  refine (HFO.out _ (hT.out.below B1)).mono ?_; rintro e w2 ⟨rfl, hb2⟩
  have A2 : Below w1.heap.size w1 (w2.alloc (.cells #[.string ⟨wo.toArray⟩, .string ⟨fs.toArray⟩] 132)) := hb2.alloc hb2.size _
  have F2 : Hid (FormBox (w2.alloc (.cells #[.string ⟨wo.toArray⟩, .string ⟨fs.toArray⟩] 132)) w2.heap.size wo fs) := Lib.hid ⟨by simp, by simp [go_sem], by simp [go_sem]⟩
  replace R1 := Lib.hid (R1.out.turn (Turn.ofBelow (S := fun _ => False) A2 rfl) z1 (fun h => h))
  have B2 := B1.trans (A2.mono B1.size)
  have z2 := hb2.size
  clear r0 hb2 A2
  go_wp2_with fail
  obtain ⟨w3, e3⟩ : ∃ W, w2.alloc (.cells #[.string ⟨wo.toArray⟩, .string ⟨fs.toArray⟩] 132) = W := ⟨_, rfl⟩
  have z3 : w3.heap.size = w2.heap.size + 1 := by rw [← e3]; simp
  rw [e3] at F2 R1 B2 ⊢
  clear e3
  go_loopw [5, 21] (fun v i wr => ∃ k : Nat, k ≤ fs.length ∧ i = .int .i64 k ∧ Hid (OwnB 5 (w2.heap.size + 1) wr v ((fs.take k).flatMap (recF r))) ∧ ((fs.take k).flatMap (recF r)).length ≤ 1009 * k ∧ Below w3.heap.size w3 wr) (fun v i wr => fs.length - (intOf i).toNat)
  case atStart => exact ⟨0, Nat.zero_le _, rfl, Lib.hid (OwnB.nil _ _ _), by simp, Below.refl _ _⟩
  case round =>
    obtain ⟨k, hk, rfl, hO, hsz, hB⟩ := hrel
    have hzr := hB.size
    have FR := Lib.hid (F2.out.turn (Turn.ofBelow (S := fun _ => False) hB rfl) (fun h => h))
    have RR := Lib.hid (R1.out.turn (Turn.ofBelow (S := fun _ => False) hB rfl) (by omega) (fun h => h))
    by_cases hlt : k < fs.length
    · have hix : ∀ W, (Instr.index 9 (.string ⟨fs.toArray⟩) (.int .i64 (k : Int))).run Tryd.prog W = .ok (.int .u8 ((fs[k]'hlt).toNat : Int)) W := fun W => by
        rw [run_index_string W 9 _ _ _ Tryd.underlying9, dif_pos ⟨by omega, by show (k : Int) < ((fs.toArray.size : Nat) : Int); simp; omega⟩]
        rfl
      have hft := flat_succ (f := recF r) fs k hlt
      have hrf : recF r (fs[k]'hlt) = if fs[k]'hlt = 116 then Oct.encText ⟨r.text.toArray⟩ else Oct.enc (numU r (fs[k]'hlt)) := rfl
      have hnl := numU_le r (fs[k]'hlt) hpos.out
      have HNM := Lib.hid (fun W h => number_any w.heap.size r (fs[k]'hlt) W h hpos.out)
      generalize fs[k] = ch at *
      generalize (fs.take k).flatMap (recF r) = ee at *
      have f1 := FR.out.c1
      obtain ⟨nl, hnl2⟩ : ∃ nl, ee.length = nl := ⟨_, rfl⟩
      rw [hnl2] at hsz
      have hroom : nl ≤ 5000 := by omega
      replace hnl2 := Lib.hid hnl2
      by_cases hch : ch = 116
      · subst hch
        rw [if_pos rfl] at hrf
        have HTX := Lib.hid (fun W g hg hc => text_one r.text (by omega) W g hg hc)
        have htl : (Oct.encText ⟨r.text.toArray⟩).length ≤ 1009 := by
          have h1 := Oct.enc_le (⟨r.text.toArray⟩ : ByteArray).size
          unfold Oct.encText
          rw [List.length_append]
          simp only [List.toList_toArray]
          omega
        generalize Oct.encText ⟨r.text.toArray⟩ = e5 at *
        rw [hrf] at hft
        replace hft := Lib.hid hft
        have r7 := RR.out.c7
        simp only [Nat.zero_add] at r7
        clear hrf HNM hnl
        go_wp2_with fail
        refine (HTX.out _ wr.heap.size (by simp) (by simp [go_sem])).mono ?_; rintro e w8 ⟨q8, m8, c8, rfl, hm8, ln8, hO8, hR8, hb8⟩
        have b8 : Below wr.heap.size wr w8 := ((Below.refl _ _).alloc (Nat.le_refl _) _).trans (hb8.mono (by simp))
        have B8 := hB.trans (b8.mono hB.size)
        replace hO := Lib.hid (hO.out.below b8)
        replace ln8 := Lib.hid ln8
        clear hO8 hb8 r7 f1 b8
        have hz8 := B8.size
        go_wp2_with (at_builtin; refine append_bytes 22 5 Oct.info8 Tryd.underlying22 rfl _ _ rfl (w2.heap.size + 1) u5 ee nl hnl2.out rfl hO.out q8 m8 c8 e5 rfl hR8 (by omega) (by omega) ?_; intro q9 c9 w9 hO9 hR9 hG9; have B9 : Below w3.heap.size w3 w9 := B8.grown hG9 hz8 (fun k hk => by have := (hO.out.owns.lt k hk).1; omega); replace hO9 := Lib.hid hO9; clear hR9 hG9)
        go_roundw
        case rel => first | exact ⟨k + 1, by omega, by go_num, by rw [hft.out]; exact hO9, by rw [hft.out, List.length_append]; have := hnl2.out; omega, B9⟩ | exact ⟨k + 1, by omega, by omega, by rw [hft.out]; exact hO9, by rw [hft.out, List.length_append]; have := hnl2.out; omega⟩ | exact ⟨k + 1, by omega, by omega, by rw [hft.out]; exact hO9, by rw [hft.out, List.length_append]; have := hnl2.out; omega, B9⟩
        case measure => simp [intOf] <;> omega
      · have hch' : ((ch.toNat : Int) == 116) = false := u8_ne hch
        rw [if_neg hch] at hrf
        have HP := Lib.hid (fun W g hg hc => put_one (numU r ch) (by omega) W g hg hc)
        have hel := Oct.enc_le (numU r ch)
        generalize numU r ch = nu at *
        generalize Oct.enc nu = e5 at *
        rw [hrf] at hft
        replace hft := Lib.hid hft
        clear hrf
        go_wp2_with fail
        refine (HNM.out _ RR.out).mono ?_; rintro e w' ⟨rfl, rfl⟩
        go_wp2_with fail
        refine (HP.out _ wr.heap.size (by simp) (by simp [go_sem])).mono ?_; rintro e w8 ⟨q8, m8, c8, rfl, hm8, ln8, hO8, hR8, hb8⟩
        have b8 : Below wr.heap.size wr w8 := ((Below.refl _ _).alloc (Nat.le_refl _) _).trans (hb8.mono (by simp))
        have B8 := hB.trans (b8.mono hB.size)
        replace hO := Lib.hid (hO.out.below b8)
        replace ln8 := Lib.hid ln8
        clear hO8 hb8 f1 b8
        have hz8 := B8.size
        go_wp2_with (at_builtin; refine append_bytes 22 5 Oct.info8 Tryd.underlying22 rfl _ _ rfl (w2.heap.size + 1) u5 ee nl hnl2.out rfl hO.out q8 m8 c8 e5 rfl hR8 (by omega) (by omega) ?_; intro q9 c9 w9 hO9 hR9 hG9; have B9 : Below w3.heap.size w3 w9 := B8.grown hG9 hz8 (fun k hk => by have := (hO.out.owns.lt k hk).1; omega); replace hO9 := Lib.hid hO9; clear hR9 hG9)
        go_roundw
        case rel => first | exact ⟨k + 1, by omega, by go_num, by rw [hft.out]; exact hO9, by rw [hft.out, List.length_append]; have := hnl2.out; omega, B9⟩ | exact ⟨k + 1, by omega, by omega, by rw [hft.out]; exact hO9, by rw [hft.out, List.length_append]; have := hnl2.out; omega⟩ | exact ⟨k + 1, by omega, by omega, by rw [hft.out]; exact hO9, by rw [hft.out, List.length_append]; have := hnl2.out; omega, B9⟩
        case measure => simp [intOf] <;> omega
    · have e : fs.take k = fs := List.take_of_length_le (by omega)
      have hO2 := hO.out
      rw [e, ← hbd.out] at hO2
      obtain ⟨q5, c5, rfl, hR5, _⟩ := hO2.row
      have r0 := RR.out.c0
      have B5 := B2.trans (hB.mono B2.size)
      clear hO hO2 e hsz
      replace hR5 := Lib.hid hR5
      go_wp2_with fail
      refine (HPF.out _ _ _ _ _ hR5.out hbl (hTab.out.below B5)).mono ?_; rintro e w9 ⟨v9, rfl, hO9, hb9⟩
      go_wp2_with fail
      go_ret
      exact ⟨_, rfl, hO9.lower B5.size, B5.trans (hb9.mono B5.size)⟩
theorem recput_any (r : Rec) (w : World) (hok : r.ok) (hT : Forms 0 w) (hTab : Tab w) :
    Calls Tryd.prog 56 #[recA r] w fun e w' => ∃ v', e = .returned v' ∧ OwnB 5 w.heap.size w' v' (recC r) ∧ Below w.heap.size w w' := by
  unfold recC
  cases hm : mayB r with
  | true =>
    rw [if_pos rfl]
    exact rput_yes r w hm hok hT hTab
  | false =>
    rw [if_neg (by simp)]
    exact (rput_no r w hm hT hok.text).mono (by rintro e w' ⟨rfl, hb⟩; exact ⟨_, rfl, OwnB.nil _ _ _, hb⟩)
end Go.Proofs.YtdmpopdacbdnlaaDoor
