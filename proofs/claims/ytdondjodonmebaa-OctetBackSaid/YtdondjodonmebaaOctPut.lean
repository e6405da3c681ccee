/- octet.put: contract. -/
import Derived.Test.YtdondjodonmebaaOctMath
import Derived.Test.YtdondjodonmebaaOctBits
namespace Go.Proofs.Ytdondjodonmebaa
open Go.RowKit
set_option linter.unusedVariables false
set_option linter.unusedSimpArgs false
set_option maxHeartbeats 2000000
set_option maxRecDepth 20000
theorem info8 : (Try.prog.info? 5).map (fun i => (i.zero, i.size, i.bytes)) = some (some (.int .u8 0), 1, 1) := by kernel_rfl

theorem ofNat_cast {n : Nat} (h : n < 256) : ((UInt8.ofNat n).toNat : Int) = (n : Int) := by
  rw [UInt8.toNat_ofNat', Nat.mod_eq_of_lt h]
theorem Grew.byte {t : TypeId} {base : Nat} {w w1 w2 : World} {v : Value} {l : List UInt8} {y : UInt8} {g n cap : Nat} (hO : OwnB t base w v l) (hb : Below w.heap.size w w1) (h2 : OwnB t base w2 (.slice (some ⟨g, 0, none⟩) n cap) (l ++ [y])) (hg : w1.grownBy w2 v.ownBlock) (hp : v.ownBlock = some g ∨ g = w1.heap.size) : Grew t base w v w2 (.slice (some ⟨g, 0, none⟩) n cap) (l ++ [y]) :=
  ⟨h2, ((Grew.refl hO).below hb).gr.trans hg, fun j e => by
    have : g = j := by simpa [Value.ownBlock] using e
    subst this
    rcases hp with h | h
    · exact .inr h
    · exact .inl (by rw [h]; exact hb.size)⟩

theorem put_any (base : Nat) (v : Value) (l : List UInt8) (u : Nat) (hu : u < 18446744073709551616) (w : World) (hO : OwnB 5 base w v l) (hroom : l.length ≤ 1000000000) (hbase : base ≤ w.heap.size) :
    Calls Try.prog 32 #[v, .int .u64 (u : Int)] w fun e w' => ∃ v', e = .returned v' ∧ Grew 5 base w v w' v' (l ++ enc u) := by
  have tok1 : True := trivial
  replace hO := Lib.hid hO
  by_cases h248 : u < 248
  · have en : enc u = [UInt8.ofNat u] := by unfold enc; rw [if_pos h248]
    rw [en]
    have ec := ofNat_cast (n := u) (by omega)
    go_enter Try.func32, Try.ntmps32
    go_wp2_with (at_builtin; have _t := tok1; refine append_byte 27 5 info8 Try.underlying27 rfl _ _ rfl base v l l.length rfl rfl (hO.out.below (by repeat (first | with_reducible exact Below.refl _ _ | with_reducible refine Below.drew ?_ | with_reducible refine Below.alloc ?_ (by (try simp) <;> omega) _ | with_reducible refine Below.setCell ?_ (by (try simp) <;> omega) _))) w.heap.size 1 (UInt8.ofNat u) rfl (by rw [ec]; simp [go_sem]) (by omega) (by simp; omega) ?_; intro g2 c2 w2 hO2 hG2 hp2 hl2; clear tok1)
    go_ret
    exact ⟨_, rfl, Grew.byte hO.out (by repeat (first | with_reducible exact Below.refl _ _ | with_reducible refine Below.drew ?_ | with_reducible refine Below.alloc ?_ (by (try simp) <;> omega) _ | with_reducible refine Below.setCell ?_ (by (try simp) <;> omega) _)) hO2 hG2 hp2⟩
  · have h1 : Calls Try.prog 34 #[.int .u64 (u : Int)] w fun e w' => e = .returned (.int .i64 (Lib.bitLen u)) ∧ w' = w := by
      have := Try.bits_Len64 (u : Int) w (by omega) (by omega)
      simpa using this
    obtain ⟨n1, n2, n3, n4⟩ := nb_spec (u := u) (by omega) hu
    have hB := Lib.bitLen_le u 64 (by omega) (by omega)
    have en : enc u = UInt8.ofNat (247 + nb u) :: be u (nb u) (nb u) := by unfold enc; rw [if_neg h248]
    have q2 : ((Lib.bitLen u : Int) + 7).tdiv 8 = (nb u : Int) := by
      rw [Int.tdiv_eq_ediv_of_nonneg (by omega)]; unfold nb; omega
    rw [en]
    clear en
    generalize Lib.bitLen u = B at *
    generalize nb u = k at *
    have ec := ofNat_cast (n := 247 + k) (by omega)
    have q5 : (247 + (k : Int)) % 256 = ((247 + k : Nat) : Int) := by omega
    go_enter Try.func32, Try.ntmps32
    go_wp2_with fail
    refine h1.mono ?_; rintro e w' ⟨rfl, rfl⟩
    go_wp2_with (at_builtin; have _t := tok1; refine append_byte 27 5 info8 Try.underlying27 rfl _ _ rfl base v l l.length rfl rfl (hO.out.below (by repeat (first | with_reducible exact Below.refl _ _ | with_reducible refine Below.drew ?_ | with_reducible refine Below.alloc ?_ (by (try simp) <;> omega) _ | with_reducible refine Below.setCell ?_ (by (try simp) <;> omega) _))) w'.heap.size 1 (UInt8.ofNat (247 + k)) rfl (by rw [ec]; simp [go_sem]) (by omega) (by simp; omega) ?_; intro g2 c2 w2 hO2 hG2 hp2 hl2; clear tok1; have GR := Grew.byte hO.out (by repeat (first | with_reducible exact Below.refl _ _ | with_reducible refine Below.drew ?_ | with_reducible refine Below.alloc ?_ (by (try simp) <;> omega) _ | with_reducible refine Below.setCell ?_ (by (try simp) <;> omega) _)) hO2 hG2 hp2)
    clear hO2 hG2 hp2 hl2
    go_loopw [0, 25] (fun v2 i wr => ∃ j : Nat, j ≤ k ∧ i = .int .i64 j ∧ Grew 5 base w' v wr v2 (l ++ (UInt8.ofNat (247 + k) :: be u k j))) (fun v i wr => k - (intOf i).toNat)
    case atStart => exact ⟨0, Nat.zero_le _, rfl, GR⟩
    case round =>
      obtain ⟨j, hj, rfl, hG⟩ := hrel
      have z1 := hG.gr.size
      have hlen : (l ++ (UInt8.ofNat (247 + k) :: be u k j)).length = l.length + 1 + j := by simp [be]; omega
      by_cases hlt : j < k
      · have H1 : Hid (l ++ (UInt8.ofNat (247 + k) :: be u k (j + 1)) = (l ++ (UInt8.ofNat (247 + k) :: be u k j)) ++ [byteAt u k j]) := Lib.hid (by rw [be_succ]; simp)
        generalize l ++ (UInt8.ofNat (247 + k) :: be u k j) = l2 at *
        have tok2 : True := trivial
        replace hG := Lib.hid hG
        obtain ⟨s, hs⟩ : ∃ s : Nat, 8 * ((k : Int) - 1 - (j : Int)) = s := ⟨8 * (k - 1 - j), by omega⟩
        have eb : ((byteAt u k j).toNat : Int) = (u : Int) / 2 ^ s % 256 := by
          unfold byteAt
          rw [UInt8.toNat_ofNat', show (256 : Nat) ^ (k - 1 - j) = 2 ^ s from by rw [show (256 : Nat) = 2 ^ 8 from rfl, ← Nat.pow_mul]; congr 1; omega]
          simp
        go_wp2_with (at_builtin; have _t := tok2; refine append_byte 27 5 info8 Try.underlying27 rfl _ _ rfl base u0 l2 (l.length + 1 + j) hlen rfl (hG.out.own.below (by repeat (first | with_reducible exact Below.refl _ _ | with_reducible refine Below.drew ?_ | with_reducible refine Below.alloc ?_ (by (try simp) <;> omega) _ | with_reducible refine Below.setCell ?_ (by (try simp) <;> omega) _))) wr.heap.size 1 (byteAt u k j) rfl (by rw [eb]; simp [go_sem]) (by omega) (by simp; omega) ?_; intro g3 c3 w3 hO3 hG3 hp3 hl3; clear tok2; have GR3 := hG.out.trans (Grew.byte hG.out.own (by repeat (first | with_reducible exact Below.refl _ _ | with_reducible refine Below.drew ?_ | with_reducible refine Below.alloc ?_ (by (try simp) <;> omega) _ | with_reducible refine Below.setCell ?_ (by (try simp) <;> omega) _)) hO3 hG3 hp3))
        go_roundw
        case rel => first | exact ⟨j + 1, by omega, by go_num, by rw [H1.out]; exact GR3⟩ | exact ⟨j + 1, by omega, by omega, by rw [H1.out]; exact GR3⟩
        case measure => simp [intOf] <;> omega
      · obtain rfl : j = k := by omega
        go_wp2_with fail
        go_ret
        exact ⟨_, rfl, hG⟩
end Go.Proofs.Ytdondjodonmebaa
