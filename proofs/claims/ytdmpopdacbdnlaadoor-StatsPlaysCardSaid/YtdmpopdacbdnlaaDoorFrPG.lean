/- FrPut, FrRPut, FrTab. -/
import Derived.Test.YtdmpopdacbdnlaaDoorFrG
import Derived.Laws.MakeOwn
import Derived.Deep.RegionWith
import Derived.Test.YtdmpopdacbdnlaaDoorCrcG
import Derived.Lib.LaidTab
/- frame.Put's contract. -/
namespace Go.Proofs.YtdmpopdacbdnlaaDoor
open Go.RowKit
set_option linter.unusedVariables false
set_option linter.unusedSimpArgs false
set_option maxHeartbeats 4000000
set_option maxRecDepth 20000
theorem put_long (k : UInt8) (q : Option Addr) (n c : Nat) (w : World) (hn : 256 < n) (hm : n ≤ maxLen) :
    Calls Tryd.prog 64 #[.int .u8 (k.toNat : Int), .slice q n c] w fun e w' => e = .returned (.tuple #[.slice none 0 0, .int .i64 13]) ∧ w = w' := by
  unfold maxLen at hm
  go_enter Tryd.func64, Tryd.ntmps64
  go_wp2_with fail
  go_ret2
  exact ⟨rfl, rfl⟩
theorem put_any (k : UInt8) (q : Option Addr) (n c : Nat) (b : List UInt8) (w : World) (h : RowB w q n c b) (hn : n ≤ 256) (hT : Tab w) :
    Calls Tryd.prog 64 #[.int .u8 (k.toNat : Int), .slice q n c] w fun e w' => ∃ v, e = .returned (.tuple #[v, .int .i64 0]) ∧ OwnB 5 w.heap.size w' v (Fr.put k b) ∧ Below w.heap.size w w' := by
  have LL := Lib.hid h.length
  have tok1 : True := trivial
  have tok2 : True := trivial
  have tok3 : True := trivial
  obtain ⟨i, hi, hz, hsz, hby⟩ := info_parts info8
  obtain ⟨w1, hr1, hO1, hG1⟩ := run_make_own (P := Tryd.prog) w w.heap.size 22 5 i _ 1 Tryd.underlying22 hi hz hsz .i64 .i64 (n + 7) (by rw [hby]; omega) (by unfold maxLen; omega) (Nat.le_refl _)
  rw [show ((n + 7 : Nat) : Int) = 4 + (n : Int) + 3 from by omega] at hr1
  have hW1 : OwnB 5 w.heap.size w1 (.slice (some ⟨w.heap.size, 0, none⟩) 0 (n + 7)) [] := ⟨hO1, Nat.zero_le _⟩
  have B1 : Below w.heap.size w w1 := (Below.refl _ _).grown hG1 (Nat.le_refl _) (fun k e => by cases e)
  clear hi hz hsz hby i hO1 hG1
  have hW1' := Lib.hid hW1
  have hz1 := B1.size
  have R1 : RowB (w1.alloc (.cells #[.int .u8 165, .int .u8 (k.toNat : Int), .int .u8 ((n : Int) / 256), .int .u8 ((n : Int) % 256)] 5)) (some ⟨w1.heap.size, 0, none⟩) 4 4 [165, k, UInt8.ofNat (n / 256), UInt8.ofNat (n % 256)] := by
    have e1 : ((UInt8.ofNat (n / 256)).toNat : Int) = (n : Int) / 256 := by rw [UInt8.toNat_ofNat']; omega
    have e2 : ((UInt8.ofNat (n % 256)).toNat : Int) = (n : Int) % 256 := by rw [UInt8.toNat_ofNat']; omega
    exact RowB.newM w1 [165, k, UInt8.ofNat (n / 256), UInt8.ofNat (n % 256)] _ _ _ (by show #[_, _, _, _] = #[_, _, _, _]; simp only [e1, e2]; rfl) (by unfold maxLen; simp) 4 rfl
  have R1' := Lib.hid R1
  clear R1 hW1
  go_enter Tryd.func64, Tryd.ntmps64
  go_wp2_with (first
    | (at_builtin; have _t := tok1; refine append_bytes 22 5 info8 Tryd.underlying22 rfl _ _ rfl w.heap.size (.slice (some ⟨w.heap.size, 0, none⟩) 0 (n + 7)) [] 0 rfl rfl (hW1'.out.below ((Below.refl _ _).alloc (Nat.le_refl _) _)) (some ⟨w1.heap.size, 0, none⟩) 4 4 _ rfl R1'.out (by omega) (by simp; omega) ?_; intro q2 c2 w2 hO2 hR2 hG2; clear tok1; have B2 : Below w.heap.size w w2 := (B1.alloc hz1 _).grown hG2 (by simp; omega) (fun k hk => by simp [Value.ownBlock] at hk; omega); have lt2 := Lib.hid hO2.owns.lt)
    | (at_builtin; have _t := tok2; refine append_bytes 22 5 info8 Tryd.underlying22 rfl _ _ rfl w.heap.size (.slice q2 (0 + 4) c2) ([] ++ [165, k, UInt8.ofNat (n / 256), UInt8.ofNat (n % 256)]) 4 rfl rfl hO2 q n c b rfl (h.below B2) (by omega) B2.size ?_; intro q3 c3 w3 hO3 hR3 hG3; clear tok2; have B3 : Below w.heap.size w w3 := B2.grown hG3 B2.size (fun k hk => (lt2.out k hk).1); obtain ⟨b3, off3, rfl⟩ : (∃ b3 off3, q3 = some ⟨b3, off3, none⟩) := (by rcases hR3.at_ with h0 | ⟨b3, off3, e, _⟩; (omega); (exact ⟨b3, off3, e⟩)); have hle3 := hR3.le; have j1 : (1 : Int) < (c3 : Int) := (by omega); have hc3 : ¬ c3 = 1 := (by omega)))
  have hRS : RowB w3 (some ⟨b3, off3 + 1, none⟩) (3 + n) (c3 - 1) (Fr.body k b) := by
    have := hR3.drop (n := 1) (by omega)
    rw [show 0 + 4 + n - 1 = 3 + n from by omega] at this
    have e : (([] ++ [165, k, UInt8.ofNat (n / 256), UInt8.ofNat (n % 256)]) ++ b).drop 1 = Fr.body k b := by unfold Fr.body; rw [LL.out]; rfl
    rwa [e] at this
  have hLs := (Crc.sum (Fr.body k b)).isLt
  refine (crc_sum _ _ _ (Fr.body k b) w3 (hT.below B3) hRS).mono ?_; rintro e w' ⟨rfl, rfl⟩
  have hput : Fr.put k b = ([] ++ [165, k, UInt8.ofNat (n / 256), UInt8.ofNat (n % 256)]) ++ b ++ Crc.put (Crc.sum (Fr.body k b)).toNat := by unfold Fr.put; unfold Fr.body; rw [LL.out]; rfl
  generalize (Crc.sum (Fr.body k b)).toNat = N at *
  replace hput := Lib.hid hput
  have O3 := Lib.hid hO3
  have lt3 := Lib.hid hO3.owns.lt
  clear hO3 hR3 hG3 hO2 hR2 hG2 hRS lt2
  go_wp2_with fail
  refine (crc_put N (by omega) w3).mono ?_; rintro e w4 ⟨rfl, hR4, hB4, hz4⟩
  have B4 : Below w.heap.size w w4 := B3.trans (hB4.mono B3.size)
  go_wp2_with (at_builtin; have _t := tok3; refine append_bytes 22 5 info8 Tryd.underlying22 rfl _ _ rfl w.heap.size (.slice (some ⟨b3, off3, none⟩) (0 + 4 + n) c3) _ (0 + 4 + n) (by simp; have := LL.out; omega) rfl (O3.out.below hB4) (some ⟨w3.heap.size, 0, none⟩) 3 3 _ rfl hR4 (by omega) B4.size ?_; intro q5 c5 w5 hO5 hR5 hG5; clear tok3)
  go_ret2
  refine ⟨_, rfl, ?_, B4.grown hG5 B4.size (fun k hk => (lt3.out k hk).1)⟩
  rw [hput.out]
  exact hO5
end Go.Proofs.YtdmpopdacbdnlaaDoor
/- lookoutref04.Put's contract. -/
namespace Go.Proofs.YtdmpopdacbdnlaaDoor
open Go.RowKit
set_option linter.unusedVariables false
set_option linter.unusedSimpArgs false
set_option maxHeartbeats 4000000
set_option maxRecDepth 20000
theorem ba_app2 (a b : List UInt8) : ((⟨a.toArray⟩ : ByteArray) ++ (⟨b.toArray⟩ : ByteArray)) = ⟨(a ++ b).toArray⟩ := by
  apply ByteArray.ext
  simp [ByteArray.data_append]
theorem ret_string {a b : ByteArray} (h : a = b) : Ending.returned (.string a) = .returned (.string b) := by rw [h]
theorem rput_any (k : UInt8) (b : List UInt8) (w : World) (hn : b.length ≤ 256) :
    Calls Tryd.prog 87 #[.int .u8 (k.toNat : Int), .string ⟨b.toArray⟩] w fun e w' => e = .returned (.string ⟨(Fr.put k b).toArray⟩) ∧ Below w.heap.size w w' := by
  obtain ⟨n, LN⟩ : ∃ n, b.length = n := ⟨_, rfl⟩
  have hsz : (⟨b.toArray⟩ : ByteArray).size = n := by rw [← LN]; simp [ByteArray.size]
  have R1 : RowB (w.alloc (.cells #[.int .u8 (k.toNat : Int), .int .u8 ((n : Int) / 256), .int .u8 ((n : Int) % 256)] 5)) (some ⟨w.heap.size, 0, none⟩) 3 3 [k, UInt8.ofNat (n / 256), UInt8.ofNat (n % 256)] := by
    have e1 : ((UInt8.ofNat (n / 256)).toNat : Int) = (n : Int) / 256 := by rw [UInt8.toNat_ofNat']; omega
    have e2 : ((UInt8.ofNat (n % 256)).toNat : Int) = (n : Int) % 256 := by rw [UInt8.toNat_ofNat']; omega
    exact RowB.newM w [k, UInt8.ofNat (n / 256), UInt8.ofNat (n % 256)] _ _ _ (by show #[_, _, _] = #[_, _, _]; simp only [e1, e2]) (by unfold maxLen; simp) 3 rfl
  have cv1 := R1.conv (P := Tryd.prog) 22 9 5 Tryd.underlying22 Tryd.underlying5 Tryd.underlying9
  clear R1
  have hb : [k, UInt8.ofNat (n / 256), UInt8.ofNat (n % 256)] ++ b = Fr.body k b := by unfold Fr.body; rw [LN]; rfl
  have hsum := ref_sum03 ⟨(Fr.body k b).toArray⟩ (ht := by
    have : (Fr.body k b).length ≤ 300 := by rw [← hb, List.length_append]; simp; omega
    unfold maxLen
    show (Fr.body k b).toArray.size ≤ _
    simp; omega)
  rw [show (⟨(Fr.body k b).toArray⟩ : ByteArray).data.toList = Fr.body k b from rfl] at hsum
  have hLs := (Crc.sum (Fr.body k b)).isLt
  have hFl : (Fr.body k b).length = n + 3 := by rw [← hb, List.length_append, LN]; simp; omega
  have hput : Fr.put k b = [165] ++ Fr.body k b ++ Crc.put (Crc.sum (Fr.body k b)).toNat := rfl
  generalize (Crc.sum (Fr.body k b)).toNat = N at *
  rw [hput]
  have RPT := Lib.hid (fun W => ref_put N (by omega) W)
  replace hb := Lib.hid hb
  replace hsum := Lib.hid hsum
  clear hput
  have cat1 : ((⟨[k, UInt8.ofNat (n / 256), UInt8.ofNat (n % 256)].toArray⟩ : ByteArray) ++ ⟨b.toArray⟩) = ⟨(Fr.body k b).toArray⟩ := by rw [ba_app2, hb.out]
  generalize Fr.body k b = F at *
  have hn9 : n ≤ 256 := by omega
  clear hn
  replace LN := Lib.hid LN
  go_enter Tryd.func87, Tryd.ntmps87
  go_wp2_with fail
  have B1 : Below w.heap.size w (w.alloc (.cells #[.int .u8 (k.toNat : Int), .int .u8 ((n : Int) / 256), .int .u8 ((n : Int) % 256)] 5)) := (Below.refl _ _).alloc (Nat.le_refl _) _
  clear cv1
  generalize w.alloc (.cells #[.int .u8 (k.toNat : Int), .int .u8 ((n : Int) / 256), .int .u8 ((n : Int) % 256)] 5) = w1 at *
  have one : ∀ W : World, RowB (W.alloc (.cells #[.int .u8 165] 5)) (some ⟨W.heap.size, 0, none⟩) 1 1 [165] := fun W => RowB.newM W [165] _ _ _ rfl (by decide) 1 rfl
  have cvt : ∀ (W : World) (q : Nat), RowB W (some ⟨q, 0, none⟩) 1 1 [165] → (convert 22 9 (.slice (some ⟨q, 0, none⟩) 1 1)).run Tryd.prog W = .ok (.string ⟨[165].toArray⟩) W := fun W q h => h.conv (P := Tryd.prog) 22 9 5 Tryd.underlying22 Tryd.underlying5 Tryd.underlying9
  have D : ∀ W : World, RowB W.drew (some ⟨W.heap.size, 0, none⟩) 1 1 [165] → True := fun _ _ => trivial
  have cvA := cvt _ _ ((one w1).below ((Below.refl _ _).drew))
  have cat2 : ((⟨[165].toArray⟩ : ByteArray) ++ ⟨F.toArray⟩) = ⟨([165] ++ F).toArray⟩ := ba_app2 _ _
  have cat3 : ((⟨([165] ++ F).toArray⟩ : ByteArray) ++ ⟨(Crc.put N).toArray⟩) = ⟨([165] ++ F ++ Crc.put N).toArray⟩ := ba_app2 _ _
  have hC : (Crc.put N).length = 3 := rfl
  have ONE := Lib.hid one
  have CVT := Lib.hid cvt
  clear one cvt D
  have zF : (⟨F.toArray⟩ : ByteArray).size = n + 3 := by show F.toArray.size = _; simp [hFl]
  have zC : (⟨(Crc.put N).toArray⟩ : ByteArray).size = 3 := rfl
  generalize hCN : Crc.put N = C at *
  replace hCN := Lib.hid hCN
  go_region_with (first
    | (go_at_call 115; refine (hsum.out _).mono ?_; rintro e w' ⟨rfl, rfl⟩)
    | (go_at_call 114; refine (RPT.out _).mono ?_; rintro e w4 ⟨rfl, hb4⟩; first
        | (have B4 : Below w.heap.size w w4 := B1.trans (Below.trans (((Below.refl w1.heap.size w1).alloc (Nat.le_refl _) _).drew) (hb4.mono (by simp)) |>.mono B1.size); have cvB := CVT.out w4 w1.heap.size (((ONE.out w1).below ((Below.refl _ _).drew)).below hb4))
        | (have B4 : Below w.heap.size w w4 := B1.trans (Below.trans ((Below.refl w1.heap.size w1).drew) hb4 |>.mono B1.size); have cvC := CVT.out _ _ (ONE.out w4)))
    )
  all_goals
    go_wp2_with fail
    go_ret
    refine ⟨ret_string ?_, ?_⟩
    · first | exact (ba_app2 (165 :: F) C).trans (by simp [hCN.out]) | (simp [ba_app2]; done) | (rw [ba_app2]; rfl)
    · first | exact B4 | exact B4.alloc B4.size _ | exact (B4.alloc B4.size _).drew | exact B4.drew
end Go.Proofs.YtdmpopdacbdnlaaDoor
/- The table of package crc, out of what the row lays. -/
namespace Go.Proofs.YtdmpopdacbdnlaaDoor
open Go.RowKit
def turnsI : List Int := [0, 8801531, 9098509, 825846, 9692897, 1419802, 1651692, 10452759, 10584377, 2608578, 2839604, 11344079, 3303384, 11807523, 12104405, 4128302]
theorem turnsI_eq : ∀ i : Fin 16, turnsI.getD i.val 0 = ((Crc.turns.getD i.val 0 : Nat) : Int) := by decide
theorem Tab.of {w : World} (hT : Lib.TabIs Tryd.prog w "lookout/crc.turns" .u32 turnsI) (hg : Tryd.prog.globalNamed "lookout/crc.turns" = some 2) : Tab w :=
  ⟨World.block_lt_of_cell? w ⟨2, 0, none⟩ (hT.cell hg 0 (by decide)), fun i hi => by rw [hT.cell hg i hi, turnsI_eq ⟨i, hi⟩]⟩
end Go.Proofs.YtdmpopdacbdnlaaDoor
