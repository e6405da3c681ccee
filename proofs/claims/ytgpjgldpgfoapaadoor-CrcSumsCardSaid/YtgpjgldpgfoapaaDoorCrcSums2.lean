/- The walk of package crc's law that all sums are the document's: the second way; both. -/
import Derived.Test.YtgpjgldpgfoapaaDoorCrcConv
namespace Go.Proofs.YtgpjgldpgfoapaaDoor
open Go.RowKit
set_option linter.unusedVariables false
set_option linter.unusedSimpArgs false

set_option maxHeartbeats 40000000 in
theorem crcSums_true (s : Int) (ws : 0 ≤ s ∧ s ≤ 4294967295) (b : Option Addr) (lb cb : Nat) (zb : List Int) (w : World) (hb : IsRow .u8 w b lb cb zb) (hT : Tab w) :
    Calls Tryd.prog 3 #[.int .u32 s, .slice b lb cb, .bool true] w fun e w' => e = .returned (.bool true) ∧ Below w.heap.size w w' := by
  obtain ⟨N, rfl⟩ := Int.eq_ofNat_of_zero_le ws.1
  have hN : N < 4294967296 := by omega
  have hB := hb.bytes
  generalize bytesOf (zb.take lb) = xs at *
  clear hb ws
  by_cases h1 : 400 < lb
  · go_enter Tryd.func3, Tryd.ntmps3
    go_wp2_with fail
    refine (crc_awake _ hT).mono ?_; rintro e w1 ⟨rfl, hb1⟩
    go_wp2_with fail
    go_ret
    exact ⟨rfl, (by repeat (first | with_reducible exact Below.refl _ _ | with_reducible refine Below.trans ?_ (Below.mono hb9 (by (try simp) <;> omega)) | with_reducible refine Below.trans ?_ (Below.mono hb8 (by (try simp) <;> omega)) | with_reducible refine Below.trans ?_ (Below.mono hb7 (by (try simp) <;> omega)) | with_reducible refine Below.trans ?_ (Below.mono hb6 (by (try simp) <;> omega)) | with_reducible refine Below.trans ?_ (Below.mono hb5 (by (try simp) <;> omega)) | with_reducible refine Below.trans ?_ (Below.mono hb4 (by (try simp) <;> omega)) | with_reducible refine Below.trans ?_ (Below.mono hb3 (by (try simp) <;> omega)) | with_reducible refine Below.trans ?_ (Below.mono hb2 (by (try simp) <;> omega)) | with_reducible refine Below.trans ?_ (Below.mono hb1 (by (try simp) <;> omega)) | with_reducible refine Below.drew ?_ | with_reducible refine Below.alloc ?_ (by (try simp) <;> omega) _ | with_reducible refine Below.setCell ?_ (by (try simp) <;> omega) _))⟩
  have l1 := (Crc.sum xs).isLt
  have LB := Lib.hid hB.length
  have conv := fun (W : World) (hW : Below w.heap.size w W) => (hB.below hW).conv (P := Tryd.prog) 23 9 5 Tryd.underlying23 Tryd.underlying5 Tryd.underlying9
  have CV := Lib.hid conv; clear conv
  have hx : (⟨xs.toArray⟩ : ByteArray).data.toList = xs := rfl
  have hxs : (⟨xs.toArray⟩ : ByteArray).size ≤ maxLen := by
    have := hB.small; have h2 := hB.length
    show xs.toArray.size ≤ maxLen
    simp; omega
  have RS := Lib.hid (fun W => ref_sum03 ⟨xs.toArray⟩ W hxs)
  have RM := Lib.hid (fun W => ref_more N hN ⟨xs.toArray⟩ W hxs)
  rw [hx] at RS RM
  have tb := fun (W : World) (T : ByteArray) => run_bytes_of_string (P := Tryd.prog) W 9 23 5 T Tryd.underlying9 Tryd.underlying23 Tryd.underlying5
  clear hx
  have hn0 : xs.length = ByteArray.size ⟨xs.toArray⟩ := by simp [ByteArray.size]
  have HN0 := Lib.hid hn0; clear hn0
  have hsz : ¬ 9223372036854775807 < xs.length + (Crc.put (Crc.sum xs).toNat).length := by rw [Crc.put_length, LB.out]; omega
  go_enter Tryd.func3, Tryd.ntmps3
  go_wp2_with fail
  refine (crc_awake _ hT).mono ?_; rintro e w9 ⟨rfl, hb9⟩
  have hc9 := CV.out w9 hb9
  go_wp2_with fail
  refine (RS.out _).mono ?_; rintro e w' ⟨rfl, rfl⟩
  go_wp2_with fail
  refine (ref_put _ (by omega) _).mono ?_; rintro e w1 ⟨rfl, hb0⟩
  have hb1 : Below w.heap.size w w1 := hb9.trans (hb0.mono hb9.size)
  have hc1 := CV.out w1 hb1
  have hcd := CV.out w1.drew hb1.drew
  have hTd := hT.below hb1.drew
  have hBd := hB.below hb1.drew
  go_wp2_with fail
  have hts : (ByteArray.mk xs.toArray ++ ByteArray.mk (Crc.put (Crc.sum xs).toNat).toArray).size ≤ maxLen := by
    have h1 := Crc.put_length (Crc.sum xs).toNat
    have h2 := LB.out
    rw [ByteArray.size_append]
    show xs.toArray.size + (Crc.put (Crc.sum xs).toNat).toArray.size ≤ maxLen
    unfold maxLen
    simp; omega
  have HTS := Lib.hid hts; clear hts
  generalize (ByteArray.mk xs.toArray ++ ByteArray.mk (Crc.put (Crc.sum xs).toNat).toArray) = T at *
  clear hc1 hc9 CV LB l1 hT hB hsz hb9 hb0 HN0
  go_region_with (first | (go_at_call 12; refine (crc_sum _ _ _ xs _ hTd hBd).mono ?_; rintro e w' ⟨rfl, rfl⟩) | (go_at_call 11; refine (RS.out _).mono ?_; rintro e w' ⟨rfl, rfl⟩) | (go_at_call 13; refine (crc_more N hN _ _ _ xs _ hTd hBd).mono ?_; rintro e w' ⟨rfl, rfl⟩) | (go_at_call 14; refine (RM.out _).mono ?_; rintro e w' ⟨rfl, rfl⟩) | (go_at_call 15; refine (crc_put N hN _).mono ?_; rintro e w2 ⟨rfl, hr2, hb2, hz2⟩; have hcp2 : (convert 23 9 (.slice (some ⟨w1.heap.size, 0, none⟩) 3 3)).run Tryd.prog w2 = .ok (.string ⟨(Crc.put N).toArray⟩) w2 := hr2.conv 23 9 5 Tryd.underlying23 Tryd.underlying5 Tryd.underlying9; have HR2 := Lib.hid hr2; clear hr2; have hT2 := hTd.below hb2; have HB2 : Below w.heap.size w w2 := (hb1.drew).trans (hb2.mono hb1.size)) | (go_at_call 10; refine (ref_put N hN _).mono ?_; rintro e w3 ⟨rfl, hb3⟩; have hcp3 : (convert 23 9 (.slice (some ⟨w1.heap.size, 0, none⟩) 3 3)).run Tryd.prog w3 = .ok (.string ⟨(Crc.put N).toArray⟩) w3 := (HR2.out.below hb3).conv 23 9 5 Tryd.underlying23 Tryd.underlying5 Tryd.underlying9; have hT3 := hT2.below hb3; have HB3 : Below w.heap.size w w3 := HB2.trans (hb3.mono HB2.size)) | (go_at_call 16; (refine (fits_conv w3 T _ _ rfl HTS.out hT3).mono ?_; rintro e w4 ⟨rfl, hb4⟩; have HB4 : Below w.heap.size w w4 := HB3.trans (hb4.mono HB3.size))) | (go_at_call 17; refine (ref_fits T _ HTS.out).mono ?_; rintro e w5 ⟨rfl, hb5⟩; have HB5 : Below w.heap.size w w5 := HB4.trans (hb5.mono HB4.size)))
  all_goals go_wp2
  all_goals (go_ret; exact ⟨by (first | rfl | (simp [Act.put]; done)), HB5⟩)
end Go.Proofs.YtgpjgldpgfoapaaDoor
