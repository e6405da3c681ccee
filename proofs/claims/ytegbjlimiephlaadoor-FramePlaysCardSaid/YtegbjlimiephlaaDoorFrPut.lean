/- frame.Put's contract. -/
import Derived.Test.YtegbjlimiephlaaDoorFrActs
import Derived.Test.YtegbjlimiephlaaDoorFrLaw
import Derived.Laws.MakeOwn
namespace Go.Proofs.YtegbjlimiephlaaDoor
open Go.RowKit
set_option linter.unusedVariables false
set_option linter.unusedSimpArgs false
set_option maxHeartbeats 4000000
set_option maxRecDepth 20000
theorem put_long (k : UInt8) (q : Option Addr) (n c : Nat) (w : World) (hn : 256 < n) (hm : n ≤ maxLen) :
    Calls Tryd.prog 12 #[.int .u8 (k.toNat : Int), .slice q n c] w fun e w' => e = .returned (.tuple #[.slice none 0 0, .int .i64 13]) ∧ w = w' := by
  unfold maxLen at hm
  go_enter Tryd.func12, Tryd.ntmps12
  go_wp2_with fail
  go_ret2
  exact ⟨rfl, rfl⟩
theorem put_any (k : UInt8) (q : Option Addr) (n c : Nat) (b : List UInt8) (w : World) (h : RowB w q n c b) (hn : n ≤ 256) (hT : Tab w) :
    Calls Tryd.prog 12 #[.int .u8 (k.toNat : Int), .slice q n c] w fun e w' => ∃ v, e = .returned (.tuple #[v, .int .i64 0]) ∧ OwnB 5 w.heap.size w' v (Fr.put k b) ∧ Below w.heap.size w w' := by
  have LL := Lib.hid h.length
  have tok1 : True := trivial
  have tok2 : True := trivial
  have tok3 : True := trivial
  obtain ⟨i, hi, hz, hsz, hby⟩ := info_parts info8
  obtain ⟨w1, hr1, hO1, hG1⟩ := run_make_own (P := Tryd.prog) w w.heap.size 22 5 i _ 1 Tryd.underlying22 hi hz hsz .i64 .i64 (n + 7) (by rw [hby]; omega) (by unfold maxLen; omega) (Nat.le_refl _)
  rw [show ((n + 7 : Nat) : Int) = 4 + (n : Int) + 3 from by omega] at hr1
  have hW1 : OwnB 5 w.heap.size w1 (.slice (some ⟨w.heap.size, 0, none⟩) 0 (n + 7)) [] := ⟨hO1, Nat.zero_le _⟩
  have B1 : Below w.heap.size w w1 := (Below.refl _ _).grown hG1 (Nat.le_refl _) (fun k e => by cases e)
  clear hi hz hsz hby i hO1 hG1
  have hW1' := Lib.hid hW1
  have hz1 := B1.size
  have R1 : RowB (w1.alloc (.cells #[.int .u8 165, .int .u8 (k.toNat : Int), .int .u8 ((n : Int) / 256), .int .u8 ((n : Int) % 256)] 5)) (some ⟨w1.heap.size, 0, none⟩) 4 4 [165, k, UInt8.ofNat (n / 256), UInt8.ofNat (n % 256)] := by
    have e1 : ((UInt8.ofNat (n / 256)).toNat : Int) = (n : Int) / 256 := by rw [UInt8.toNat_ofNat']; omega
    have e2 : ((UInt8.ofNat (n % 256)).toNat : Int) = (n : Int) % 256 := by rw [UInt8.toNat_ofNat']; omega
    exact RowB.newM w1 [165, k, UInt8.ofNat (n / 256), UInt8.ofNat (n % 256)] _ _ _ (by show #[_, _, _, _] = #[_, _, _, _]; simp only [e1, e2]; rfl) (by unfold maxLen; simp) 4 rfl
  have R1' := Lib.hid R1
  clear R1 hW1
  go_enter Tryd.func12, Tryd.ntmps12
  go_wp2_with (first
    | (at_builtin; have _t := tok1; refine append_bytes 22 5 info8 Tryd.underlying22 rfl _ _ rfl w.heap.size (.slice (some ⟨w.heap.size, 0, none⟩) 0 (n + 7)) [] 0 rfl rfl (hW1'.out.below ((Below.refl _ _).alloc (Nat.le_refl _) _)) (some ⟨w1.heap.size, 0, none⟩) 4 4 _ rfl R1'.out (by omega) (by simp; omega) ?_; intro q2 c2 w2 hO2 hR2 hG2; clear tok1; have B2 : Below w.heap.size w w2 := (B1.alloc hz1 _).grown hG2 (by simp; omega) (fun k hk => by simp [Value.ownBlock] at hk; omega); have lt2 := Lib.hid hO2.owns.lt)
    | (at_builtin; have _t := tok2; refine append_bytes 22 5 info8 Tryd.underlying22 rfl _ _ rfl w.heap.size (.slice q2 (0 + 4) c2) ([] ++ [165, k, UInt8.ofNat (n / 256), UInt8.ofNat (n % 256)]) 4 rfl rfl hO2 q n c b rfl (h.below B2) (by omega) B2.size ?_; intro q3 c3 w3 hO3 hR3 hG3; clear tok2; have B3 : Below w.heap.size w w3 := B2.grown hG3 B2.size (fun k hk => (lt2.out k hk).1); obtain ⟨b3, off3, rfl⟩ : (∃ b3 off3, q3 = some ⟨b3, off3, none⟩) := (by rcases hR3.at_ with h0 | ⟨b3, off3, e, _⟩; (omega); (exact ⟨b3, off3, e⟩)); have hle3 := hR3.le; have j1 : (1 : Int) < (c3 : Int) := (by omega); have hc3 : ¬ c3 = 1 := (by omega)))
  have hRS : RowB w3 (some ⟨b3, off3 + 1, none⟩) (3 + n) (c3 - 1) (Fr.body k b) := by
    have := hR3.drop (n := 1) (by omega)
    rw [show 0 + 4 + n - 1 = 3 + n from by omega] at this
    have e : (([] ++ [165, k, UInt8.ofNat (n / 256), UInt8.ofNat (n % 256)]) ++ b).drop 1 = Fr.body k b := by unfold Fr.body; rw [LL.out]; rfl
    rwa [e] at this
  have hLs := (Crc.sum (Fr.body k b)).isLt
  refine (crc_sum _ _ _ (Fr.body k b) w3 (hT.below B3) hRS).mono ?_; rintro e w' ⟨rfl, rfl⟩
  have hput : Fr.put k b = ([] ++ [165, k, UInt8.ofNat (n / 256), UInt8.ofNat (n % 256)]) ++ b ++ Crc.put (Crc.sum (Fr.body k b)).toNat := by unfold Fr.put; unfold Fr.body; rw [LL.out]; rfl
  generalize (Crc.sum (Fr.body k b)).toNat = N at *
  replace hput := Lib.hid hput
  have O3 := Lib.hid hO3
  have lt3 := Lib.hid hO3.owns.lt
  clear hO3 hR3 hG3 hO2 hR2 hG2 hRS lt2
  go_wp2_with fail
  refine (crc_put N (by omega) w3).mono ?_; rintro e w4 ⟨rfl, hR4, hB4, hz4⟩
  have B4 : Below w.heap.size w w4 := B3.trans (hB4.mono B3.size)
  go_wp2_with (at_builtin; have _t := tok3; refine append_bytes 22 5 info8 Tryd.underlying22 rfl _ _ rfl w.heap.size (.slice (some ⟨b3, off3, none⟩) (0 + 4 + n) c3) _ (0 + 4 + n) (by simp; have := LL.out; omega) rfl (O3.out.below hB4) (some ⟨w3.heap.size, 0, none⟩) 3 3 _ rfl hR4 (by omega) B4.size ?_; intro q5 c5 w5 hO5 hR5 hG5; clear tok3)
  go_ret2
  refine ⟨_, rfl, ?_, B4.grown hG5 B4.size (fun k hk => (lt3.out k hk).1)⟩
  rw [hput.out]
  exact hO5
end Go.Proofs.YtegbjlimiephlaaDoor
