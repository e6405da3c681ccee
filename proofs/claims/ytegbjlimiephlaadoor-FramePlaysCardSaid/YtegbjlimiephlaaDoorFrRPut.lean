/- lookoutref04.Put's contract. -/
import Derived.Test.YtegbjlimiephlaaDoorFrPut
import Derived.Deep.RegionWith
namespace Go.Proofs.YtegbjlimiephlaaDoor
open Go.RowKit
set_option linter.unusedVariables false
set_option linter.unusedSimpArgs false
set_option maxHeartbeats 4000000
set_option maxRecDepth 20000
theorem ba_app2 (a b : List UInt8) : ((⟨a.toArray⟩ : ByteArray) ++ (⟨b.toArray⟩ : ByteArray)) = ⟨(a ++ b).toArray⟩ := by
  apply ByteArray.ext
  simp [ByteArray.data_append]
theorem ret_string {a b : ByteArray} (h : a = b) : Ending.returned (.string a) = .returned (.string b) := by rw [h]
theorem rput_any (k : UInt8) (b : List UInt8) (w : World) (hn : b.length ≤ 256) :
    Calls Tryd.prog 13 #[.int .u8 (k.toNat : Int), .string ⟨b.toArray⟩] w fun e w' => e = .returned (.string ⟨(Fr.put k b).toArray⟩) ∧ Below w.heap.size w w' := by
  obtain ⟨n, LN⟩ : ∃ n, b.length = n := ⟨_, rfl⟩
  have hsz : (⟨b.toArray⟩ : ByteArray).size = n := by rw [← LN]; simp [ByteArray.size]
  have R1 : RowB (w.alloc (.cells #[.int .u8 (k.toNat : Int), .int .u8 ((n : Int) / 256), .int .u8 ((n : Int) % 256)] 5)) (some ⟨w.heap.size, 0, none⟩) 3 3 [k, UInt8.ofNat (n / 256), UInt8.ofNat (n % 256)] := by
    have e1 : ((UInt8.ofNat (n / 256)).toNat : Int) = (n : Int) / 256 := by rw [UInt8.toNat_ofNat']; omega
    have e2 : ((UInt8.ofNat (n % 256)).toNat : Int) = (n : Int) % 256 := by rw [UInt8.toNat_ofNat']; omega
    exact RowB.newM w [k, UInt8.ofNat (n / 256), UInt8.ofNat (n % 256)] _ _ _ (by show #[_, _, _] = #[_, _, _]; simp only [e1, e2]) (by unfold maxLen; simp) 3 rfl
  have cv1 := R1.conv (P := Tryd.prog) 22 9 5 Tryd.underlying22 Tryd.underlying5 Tryd.underlying9
  clear R1
  have hb : [k, UInt8.ofNat (n / 256), UInt8.ofNat (n % 256)] ++ b = Fr.body k b := by unfold Fr.body; rw [LN]; rfl
  have hsum := ref_sum03 ⟨(Fr.body k b).toArray⟩ (ht := by
    have : (Fr.body k b).length ≤ 300 := by rw [← hb, List.length_append]; simp; omega
    unfold maxLen
    show (Fr.body k b).toArray.size ≤ _
    simp; omega)
  rw [show (⟨(Fr.body k b).toArray⟩ : ByteArray).data.toList = Fr.body k b from rfl] at hsum
  have hLs := (Crc.sum (Fr.body k b)).isLt
  have hFl : (Fr.body k b).length = n + 3 := by rw [← hb, List.length_append, LN]; simp; omega
  have hput : Fr.put k b = [165] ++ Fr.body k b ++ Crc.put (Crc.sum (Fr.body k b)).toNat := rfl
  generalize (Crc.sum (Fr.body k b)).toNat = N at *
  rw [hput]
  have RPT := Lib.hid (fun W => ref_put N (by omega) W)
  replace hb := Lib.hid hb
  replace hsum := Lib.hid hsum
  clear hput
  have cat1 : ((⟨[k, UInt8.ofNat (n / 256), UInt8.ofNat (n % 256)].toArray⟩ : ByteArray) ++ ⟨b.toArray⟩) = ⟨(Fr.body k b).toArray⟩ := by rw [ba_app2, hb.out]
  generalize Fr.body k b = F at *
  have hn9 : n ≤ 256 := by omega
  clear hn
  replace LN := Lib.hid LN
  go_enter Tryd.func13, Tryd.ntmps13
  go_wp2_with fail
  have B1 : Below w.heap.size w (w.alloc (.cells #[.int .u8 (k.toNat : Int), .int .u8 ((n : Int) / 256), .int .u8 ((n : Int) % 256)] 5)) := (Below.refl _ _).alloc (Nat.le_refl _) _
  clear cv1
  generalize w.alloc (.cells #[.int .u8 (k.toNat : Int), .int .u8 ((n : Int) / 256), .int .u8 ((n : Int) % 256)] 5) = w1 at *
  have one : ∀ W : World, RowB (W.alloc (.cells #[.int .u8 165] 5)) (some ⟨W.heap.size, 0, none⟩) 1 1 [165] := fun W => RowB.newM W [165] _ _ _ rfl (by decide) 1 rfl
  have cvt : ∀ (W : World) (q : Nat), RowB W (some ⟨q, 0, none⟩) 1 1 [165] → (convert 22 9 (.slice (some ⟨q, 0, none⟩) 1 1)).run Tryd.prog W = .ok (.string ⟨[165].toArray⟩) W := fun W q h => h.conv (P := Tryd.prog) 22 9 5 Tryd.underlying22 Tryd.underlying5 Tryd.underlying9
  have D : ∀ W : World, RowB W.drew (some ⟨W.heap.size, 0, none⟩) 1 1 [165] → True := fun _ _ => trivial
  have cvA := cvt _ _ ((one w1).below ((Below.refl _ _).drew))
  have cat2 : ((⟨[165].toArray⟩ : ByteArray) ++ ⟨F.toArray⟩) = ⟨([165] ++ F).toArray⟩ := ba_app2 _ _
  have cat3 : ((⟨([165] ++ F).toArray⟩ : ByteArray) ++ ⟨(Crc.put N).toArray⟩) = ⟨([165] ++ F ++ Crc.put N).toArray⟩ := ba_app2 _ _
  have hC : (Crc.put N).length = 3 := rfl
  have ONE := Lib.hid one
  have CVT := Lib.hid cvt
  clear one cvt D
  have zF : (⟨F.toArray⟩ : ByteArray).size = n + 3 := by show F.toArray.size = _; simp [hFl]
  have zC : (⟨(Crc.put N).toArray⟩ : ByteArray).size = 3 := rfl
  generalize hCN : Crc.put N = C at *
  replace hCN := Lib.hid hCN
  go_region_with (first
    | (go_at_call 30; refine (hsum.out _).mono ?_; rintro e w' ⟨rfl, rfl⟩)
    | (go_at_call 29; refine (RPT.out _).mono ?_; rintro e w4 ⟨rfl, hb4⟩; first
        | (have B4 : Below w.heap.size w w4 := B1.trans (Below.trans (((Below.refl w1.heap.size w1).alloc (Nat.le_refl _) _).drew) (hb4.mono (by simp)) |>.mono B1.size); have cvB := CVT.out w4 w1.heap.size (((ONE.out w1).below ((Below.refl _ _).drew)).below hb4))
        | (have B4 : Below w.heap.size w w4 := B1.trans (Below.trans ((Below.refl w1.heap.size w1).drew) hb4 |>.mono B1.size); have cvC := CVT.out _ _ (ONE.out w4)))
    )
  all_goals
    go_wp2_with fail
    go_ret
    refine ⟨ret_string ?_, ?_⟩
    · first | exact (ba_app2 (165 :: F) C).trans (by simp [hCN.out]) | (simp [ba_app2]; done) | (rw [ba_app2]; rfl)
    · first | exact B4 | exact B4.alloc B4.size _ | exact (B4.alloc B4.size _).drew | exact B4.drew
end Go.Proofs.YtegbjlimiephlaaDoor
