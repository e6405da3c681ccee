/- record.Show: contract. -/
import Derived.Test.YtdmpopdacbdnlaaDoorRecDig
import Derived.Test.YtdmpopdacbdnlaaDoorRecPut
namespace Go.Proofs.YtdmpopdacbdnlaaDoor
open Go.RowKit
set_option linter.unusedVariables false
set_option linter.unusedSimpArgs false
set_option maxHeartbeats 4000000
set_option maxRecDepth 20000
/-- a field's text; a record's -/
def yesT (b : Bool) : List UInt8 := if b = true then [121, 101, 115] else [110, 111]
def textF (r : Rec) (c : UInt8) : List UInt8 := if c = 116 then r.text else if c = 121 then yesT r.yes else Lib.decDigits (numU r c)
def spF (r : Rec) (c : UInt8) : List UInt8 := 32 :: textF r c
def showR (r : Rec) : List UInt8 := if mayB r = true then wordOf r.kind ++ (fieldsOf r.kind).flatMap (spF r) else []
theorem word_len (k : UInt8) : (wordOf k).length ≤ 30 := by
  unfold wordOf
  by_cases h : k.toNat - 17 < 16
  · have : ∀ i : Fin 16, (formsT.getD i.val ([], [])).1.length ≤ 30 := by decide
    exact this ⟨_, h⟩
  · rw [List.getD_eq_getElem?_getD, List.getElem?_eq_none (by have : formsT.length = 16 := rfl; omega)]; simp
theorem textF_le (r : Rec) (c : UInt8) (hp : r.pos) (ht : r.text.length ≤ 240) : (textF r c).length ≤ 240 := by
  unfold textF
  split
  · exact ht
  · split
    · unfold yesT; split <;> simp
    · have := dec_le (numU r c) (by have := numU_le r c hp; omega); omega
theorem show_app (ee x : List UInt8) (e1 e2 : List UInt8) (h1 : ee ++ [32] = e1) (h2 : e1 ++ x = e2) : ((⟨ee.toArray⟩ : ByteArray) ++ (⟨#[32]⟩ : ByteArray)) = ⟨e1.toArray⟩ ∧ ((⟨e1.toArray⟩ : ByteArray) ++ (⟨x.toArray⟩ : ByteArray)) = ⟨e2.toArray⟩ := by
  subst h1; subst h2
  constructor
  · apply ByteArray.ext; simp [ByteArray.data_append]
  · apply ByteArray.ext; simp [ByteArray.data_append]
theorem rshow_no (r : Rec) (w : World) (hm : mayB r = false) (hT : Forms 0 w) (hs : r.text.length ≤ maxLen) :
    Calls Tryd.prog 58 #[recA r] w fun e w' => e = .returned (.string ⟨#[]⟩) ∧ Below w.heap.size w w' := by
  have HM := fun W h => may_any r W h hs
  rw [hm] at HM
  unfold recA at HM ⊢
  replace HM := Lib.hid HM
  go_enter Tryd.func58, Tryd.ntmps58
  go_wp2_with fail
  refine (HM.out _ (hT.below (by repeat (first | with_reducible exact Below.refl _ _ | with_reducible refine Below.drew ?_ | with_reducible refine Below.alloc ?_ (by (try simp) <;> omega) _ | with_reducible refine Below.setCell ?_ (by (try simp) <;> omega) _)))).mono ?_; rintro e w1 ⟨rfl, hb1⟩
  go_wp2_with fail
  go_ret
  exact ⟨rfl, Below.trans (by repeat (first | with_reducible exact Below.refl _ _ | with_reducible refine Below.drew ?_ | with_reducible refine Below.alloc ?_ (by (try simp) <;> omega) _ | with_reducible refine Below.setCell ?_ (by (try simp) <;> omega) _)) (hb1.mono (by simp))⟩
theorem rshow_yes (r : Rec) (w : World) (hm : mayB r = true) (hok : r.ok) (hT : Forms 0 w) (hP : PowT w) :
    Calls Tryd.prog 58 #[recA r] w fun e w' => e = .returned (.string ⟨(wordOf r.kind ++ (fieldsOf r.kind).flatMap (spF r)).toArray⟩) ∧ Below w.heap.size w w' := by
  obtain ⟨hk, hpos, htx⟩ := may_facts hm hok
  have HM := fun W h => may_any r W h hok.text
  rw [hm] at HM
  have HFO := fun W hh => formOf_yes r.kind hk W hh
  have hfl := fields_len r.kind
  have hwl := word_len r.kind
  unfold formA strV at HFO
  unfold recA at HM ⊢
  generalize wordOf r.kind = wo at *
  generalize fieldsOf r.kind = fs at *
  replace HM := Lib.hid HM
  replace HFO := Lib.hid HFO
  replace hpos := Lib.hid hpos
  replace hT := Lib.hid hT
  replace hP := Lib.hid hP
  have A1 : Below w.heap.size w (w.alloc (.cells #[.int .u8 (r.kind.toNat : Int), .int .i64 r.source, .int .u64 (r.seq : Int), .int .i64 r.at_, .int .i64 r.num, .int .i64 r.code, .bool r.yes, .string ⟨r.text.toArray⟩] 69)) := (Below.refl _ _).alloc (Nat.le_refl _) _
  have R1 : Hid (RecAt (w.alloc (.cells #[.int .u8 (r.kind.toNat : Int), .int .i64 r.source, .int .u64 (r.seq : Int), .int .i64 r.at_, .int .i64 r.num, .int .i64 r.code, .bool r.yes, .string ⟨r.text.toArray⟩] 69)) w.heap.size 0 r) := Lib.hid ⟨by simp [go_sem], by simp [go_sem], by simp [go_sem], by simp [go_sem], by simp [go_sem], by simp [go_sem], by simp [go_sem], by simp [go_sem]⟩
  clear hm hk hok
  go_enter Tryd.func58, Tryd.ntmps58
  go_wp2_with fail
  refine (HM.out _ (hT.out.below A1)).mono ?_; rintro e w1 ⟨rfl, hb1⟩
  have B1 := A1.trans (hb1.mono A1.size)
  have z1 : w.heap.size < w1.heap.size := by have := hb1.size; simp at this; omega
  replace R1 := Lib.hid (R1.out.turn (Turn.ofBelow (S := fun _ => False) hb1 rfl) (by simp) (fun h => h))
  have r0 := R1.out.c0
  clear A1 hb1
  go_wp2_with fail
  refine (HFO.out _ (hT.out.below B1)).mono ?_; rintro e w2 ⟨rfl, hb2⟩
  have A2 : Below w1.heap.size w1 (w2.alloc (.cells #[.string ⟨wo.toArray⟩, .string ⟨fs.toArray⟩] 132)) := hb2.alloc hb2.size _
  have F2 : Hid (FormBox (w2.alloc (.cells #[.string ⟨wo.toArray⟩, .string ⟨fs.toArray⟩] 132)) w2.heap.size wo fs) := Lib.hid ⟨by simp, by simp [go_sem], by simp [go_sem]⟩
  replace R1 := Lib.hid (R1.out.turn (Turn.ofBelow (S := fun _ => False) A2 rfl) z1 (fun h => h))
  have B2 := B1.trans (A2.mono B1.size)
  have z2 := hb2.size
  clear r0 hb2 A2
  have f0 := F2.out.c0
  have f1 := F2.out.c1
  go_wp2_with fail
  clear f0 f1
  obtain ⟨w3, e3⟩ : ∃ W, w2.alloc (.cells #[.string ⟨wo.toArray⟩, .string ⟨fs.toArray⟩] 132) = W := ⟨_, rfl⟩
  have z3 : w3.heap.size = w2.heap.size + 1 := by rw [← e3]; simp
  rw [e3] at F2 R1 B2 ⊢
  clear e3
  go_loopw [5, 21] (fun v i wr => ∃ k : Nat, k ≤ fs.length ∧ i = .int .i64 k ∧ v = .string ⟨(wo ++ (fs.take k).flatMap (spF r)).toArray⟩ ∧ (wo ++ (fs.take k).flatMap (spF r)).length ≤ 30 + 241 * k ∧ Below w3.heap.size w3 wr) (fun v i wr => fs.length - (intOf i).toNat)
  case atStart => exact ⟨0, Nat.zero_le _, rfl, by simp, by simp; omega, Below.refl _ _⟩
  case round =>
    obtain ⟨k, hk, rfl, rfl, hsz, hB⟩ := hrel
    have hzr := hB.size
    have FR := Lib.hid (F2.out.turn (Turn.ofBelow (S := fun _ => False) hB rfl) (fun h => h))
    have RR := Lib.hid (R1.out.turn (Turn.ofBelow (S := fun _ => False) hB rfl) (by omega) (fun h => h))
    by_cases hlt : k < fs.length
    · have hix : ∀ W, (Instr.index 9 (.string ⟨fs.toArray⟩) (.int .i64 (k : Int))).run Tryd.prog W = .ok (.int .u8 ((fs[k]'hlt).toNat : Int)) W := fun W => by
        rw [run_index_string W 9 _ _ _ Tryd.underlying9, dif_pos ⟨by omega, by show (k : Int) < ((fs.toArray.size : Nat) : Int); simp; omega⟩]
        rfl
      have hft := flat_succ (f := spF r) fs k hlt
      have hrf : spF r (fs[k]'hlt) = 32 :: textF r (fs[k]'hlt) := rfl
      have htl := textF_le r (fs[k]'hlt) hpos.out htx
      have hrt : textF r (fs[k]'hlt) = if fs[k]'hlt = 116 then r.text else if fs[k]'hlt = 121 then yesT r.yes else Lib.decDigits (numU r (fs[k]'hlt)) := rfl
      have hnl := numU_le r (fs[k]'hlt) hpos.out
      have HNM := Lib.hid (fun W h => number_any w.heap.size r (fs[k]'hlt) W h hpos.out)
      generalize fs[k] = ch at *
      generalize textF r ch = tx at *
      generalize hee : wo ++ (fs.take k).flatMap (spF r) = ee at *
      obtain ⟨e1, he1⟩ : ∃ e1, ee ++ [32] = e1 := ⟨_, rfl⟩
      obtain ⟨e2, he2⟩ : ∃ e2, e1 ++ tx = e2 := ⟨_, rfl⟩
      have hft2 : wo ++ (fs.take (k + 1)).flatMap (spF r) = e2 := by
        rw [hft, hrf, ← he2, ← he1, ← hee]; simp
      have hl1 : e1.length = ee.length + 1 := by rw [← he1]; simp
      have hl2 : e2.length = e1.length + tx.length := by rw [← he2]; simp
      obtain ⟨hc1, hc2⟩ := show_app ee tx e1 e2 he1 he2
      have hs0 := ba_sizeP ee
      have hs1 := ba_sizeP e1
      have hs3 : (⟨#[32]⟩ : ByteArray).size = 1 := rfl
      have hA1 : ¬ 9223372036854775807 < ee.length + 1 := by omega
      have hA2 : ¬ 9223372036854775807 < e1.length + tx.length := by omega
      replace hft2 := Lib.hid hft2
      clear hft hrf hee he1 he2
      have f1 := FR.out.c1
      by_cases hch : ch = 116
      · subst hch
        rw [if_pos rfl] at hrt
        subst hrt
        have r7 := RR.out.c7
        simp only [Nat.zero_add] at r7
        have hs2 := ba_sizeP r.text
        clear HNM hnl
        go_wp2_with fail
        go_roundw
        case rel => exact ⟨k + 1, by omega, by first | rfl | (go_num; done) | (congr 1; omega), by rw [hft2.out], by rw [hft2.out]; omega, hB⟩
        case measure => simp [intOf] <;> omega
      · have hch' : ((ch.toNat : Int) == 116) = false := u8_ne hch
        rw [if_neg hch] at hrt
        by_cases hcy : ch = 121
        · subst hcy
          rw [if_pos rfl] at hrt
          have r6 := RR.out.c6
          simp only [Nat.zero_add] at r6
          clear HNM hnl
          cases hy : r.yes with
          | true =>
            rw [hy] at hrt r6
            have hrt2 : tx = [121, 101, 115] := hrt
            subst hrt2
            have hs2 : (⟨#[121, 101, 115]⟩ : ByteArray).size = 3 := rfl
            clear hrt
            go_wp2_with fail
            go_roundw
            case rel => exact ⟨k + 1, by omega, by first | rfl | (go_num; done) | (congr 1; omega), by rw [hft2.out], by rw [hft2.out]; omega, hB⟩
            case measure => simp [intOf] <;> omega
          | false =>
            rw [hy] at hrt r6
            have hrt2 : tx = [110, 111] := hrt
            subst hrt2
            have hs2 : (⟨#[110, 111]⟩ : ByteArray).size = 2 := rfl
            clear hrt
            go_wp2_with fail
            go_roundw
            case rel => exact ⟨k + 1, by omega, by first | rfl | (go_num; done) | (congr 1; omega), by rw [hft2.out], by rw [hft2.out]; omega, hB⟩
            case measure => simp [intOf] <;> omega
        · have hcy' : ((ch.toNat : Int) == 121) = false := u8_ne hcy
          rw [if_neg hcy] at hrt
          have HF := Lib.hid (fun W h => fmtu_any (numU r ch) (by omega) W h)
          generalize numU r ch = nu at *
          rw [← hrt] at HF
          have hs2 := ba_sizeP tx
          clear hrt
          go_wp2_with fail
          refine (HNM.out _ RR.out).mono ?_; rintro e w' ⟨rfl, rfl⟩
          go_wp2_with fail
          refine (HF.out _ (hP.out.below (B2.trans (hB.mono B2.size)))).mono ?_; rintro e w8 ⟨rfl, hb8⟩
          have B8 := hB.trans (hb8.mono hB.size)
          go_wp2_with fail
          go_roundw
          case rel => exact ⟨k + 1, by omega, by first | rfl | (go_num; done) | (congr 1; omega), by rw [hft2.out], by rw [hft2.out]; omega, B8⟩
          case measure => simp [intOf] <;> omega
    · have e : fs.take k = fs := List.take_of_length_le (by omega)
      rw [e]
      have B5 := B2.trans (hB.mono B2.size)
      generalize hres : wo ++ fs.flatMap (spF r) = res at *
      replace hres := Lib.hid hres
      clear e hsz
      go_wp2_with fail
      exact bodyPost_ret (v := .string ⟨res.toArray⟩) (by simp [results, Tryd.results58, go_sem]) rfl ⟨by rw [hres.out], B5⟩
theorem show_any (r : Rec) (w : World) (hok : r.ok) (hT : Forms 0 w) (hP : PowT w) :
    Calls Tryd.prog 58 #[recA r] w fun e w' => e = .returned (.string ⟨(showR r).toArray⟩) ∧ Below w.heap.size w w' := by
  unfold showR
  cases hm : mayB r with
  | true =>
    rw [if_pos rfl]
    exact rshow_yes r w hm hok hT hP
  | false =>
    rw [if_neg (by simp)]
    exact rshow_no r w hm hT hok.text
end Go.Proofs.YtdmpopdacbdnlaaDoor
