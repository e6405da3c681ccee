/- strconv.FormatUint at base 10, and lookoutref07.Digits: contracts. -/
import Derived.Test.YtdmpopdacbdnlaaDoorRecNum
import Derived.Test.YtdmpopdacbdnlaaDoorOctG
import Derived.Lib.ItoaMem
import Derived.Lib.Walk
import Derived.Lib.ItoaWalk
namespace Go.Proofs.YtdmpopdacbdnlaaDoor
open Go.RowKit
set_option linter.unusedVariables false
set_option linter.unusedSimpArgs false
set_option maxHeartbeats 6400000
set_option maxRecDepth 100000
/-- the table of powers of ten lies in the world -/
def PowT (w : World) : Prop := Lib.TabIs Tryd.prog w "internal/strconv.uint64pow10" .u64 Lib.pow10Tab
theorem PowT.below {w w' : World} (h : PowT w) (hb : Below w.heap.size w w') : PowT w' := by
  unfold PowT Lib.TabIs World.var? at *
  cases hg : (Tryd.prog).globalNamed "internal/strconv.uint64pow10" with
  | none => simp [hg] at h
  | some g =>
    simp only [hg, Option.bind_some] at h ⊢
    have hlt : g < w.heap.size := by
      rcases Nat.lt_or_ge g w.heap.size with h' | h'
      · exact h'
      · rw [Array.getElem?_eq_none h'] at h; simp at h
    rw [hb.block g hlt]
    exact h
theorem below_grow (w : World) (k : Nat) (os : Array Obj) : Below w.heap.size w (Sort.grow (w.drewN k) os) := by
  refine ⟨rfl, rfl, rfl, by simp [World.drewN], fun j hj => ?_⟩
  show (w.heap ++ os)[j]? = w.heap[j]?
  rw [Array.getElem?_append_left hj]
theorem fin0 (w : World) (o : Obj) (dk : Array UInt8) (k : Nat) : Below w.heap.size w ((Sort.putRow (fun (b : UInt8) => Value.int .u8 (b.toNat : Int)) (w.alloc o) w.heap.size 0 dk).drewN k) := by
  rw [Sort.alloc_eq_grow]
  obtain ⟨os', _, e⟩ := Sort.putRow_grow_new (fun (b : UInt8) => Value.int .u8 (b.toNat : Int)) w #[o] w.heap.size 0 dk (Nat.le_refl _)
  rw [e]
  exact below_grow w k os'
theorem holds0 (w : World) (T : TypeId) (nd : Nat) (hs : nd ≤ 24) : Sort.Holds (fun (b : UInt8) => Value.int .u8 (b.toNat : Int)) (w.alloc (.cells Lib.zeros24 T)) w.heap.size 0 (Array.replicate nd (0 : UInt8)) := fun j hj => by
  have hj' : j < nd := by simpa using hj
  refine ⟨?_, World.frozen?_alloc_new _ _ _ _⟩
  rw [World.cell?_alloc_new, Lib.zeros24_at _ (by omega), getElem!_pos _ j hj]
  simp
theorem fmtu_inner (u : Nat) (hu : u < 18446744073709551616) (w : World) (hT : PowT w) :
    Calls Tryd.prog 118 #[.int .u64 (u : Int), .int .i64 10] w fun e w' => e = .returned (.string ⟨(Lib.decDigits u).toArray⟩) ∧ Below w.heap.size w w' := by
  by_cases h100 : u < 100
  · have hi : (u : Int) < 100 := by omega
    have hwr : IntKind.i64.wrap (u : Int) = (u : Int) := IntWalk.i64_in _ (by omega)
    have HS := Lib.hid (fun W => Tryd.internal_strconv_small u h100 W)
    go_enter Tryd.func118, Tryd.ntmps118
    go_wp2_with fail
    refine (HS.out _).mono ?_; rintro e w' ⟨rfl, rfl⟩
    go_wp2_with fail
    go_ret
    exact ⟨rfl, Below.refl _ _⟩
  · have hu1 : 1 ≤ u := by omega
    have hi : ¬ (u : Int) < 100 := by omega
    have hnd20 : Lib.nDigits u ≤ 20 := by have := Lib.numDigits_eq u hu1 hu; split at this <;> omega
    have HN := Lib.hid (fun W hh => Tryd.internal_strconv_numDigits u hu1 hu W hh)
    have hT2 : PowT (w.alloc (.cells Lib.zeros24 184)) := hT.below ((Below.refl _ _).alloc (Nat.le_refl _) _)
    have hal : (Tryd.prog).arrayLen 184 = 24 := by simp [Program.arrayLen, Tryd.underlying184]
    have hsl1 : ∀ W, (Instr.sliceAt 184 (.pointer (some ⟨w.heap.size, 0, none⟩)) none (some (.int .i64 (Lib.nDigits u : Int))) none).run Tryd.prog W = .ok (.slice (some ⟨w.heap.size, 0, none⟩) (Lib.nDigits u) 24) W := fun W => by
      rw [run_sliceAt_array_h W 184 ⟨w.heap.size, 0, none⟩ (by simp [Program.arrayLen, Program.elem, Tryd.underlying184]) .i64 (Lib.nDigits u : Int) (by omega) (by rw [hal]; omega)]
      go_simp
      try omega
    have hH0 := holds0 w 184 (Lib.nDigits u) (by omega)
    have hfmt := Tryd.internal_strconv_formatBase10 w.heap.size 0 24 u (Array.replicate (Lib.nDigits u) 0) (w.alloc (.cells Lib.zeros24 184)) hH0 (by rw [Array.size_replicate]; exact Lib.lt_pow_nDigits u) hu (by rw [Array.size_replicate]; omega)
    rw [Array.size_replicate] at hfmt
    have HF := Lib.hid hfmt
    have HH0 := Lib.hid hH0
    have HT2 := Lib.hid hT2
    clear hH0 hfmt hT2 hal
    go_enter Tryd.func118, Tryd.ntmps118
    go_wp2_with fail
    refine (HN.out _ HT2.out).mono ?_; rintro e w' ⟨rfl, rfl⟩
    go_wp2_with fail
    refine HF.out.mono ?_
    rintro e w' ⟨rfl, k, v', dk, rfl, hF⟩
    have hcv : (convert 22 9 (.slice (some ⟨w.heap.size, 0, none⟩) (Lib.nDigits u) 24)).run Tryd.prog ((Sort.putRow (fun (b : UInt8) => Value.int .u8 (b.toNat : Int)) (w.alloc (.cells Lib.zeros24 184)) w.heap.size 0 dk).drewN k) = .ok (.string ⟨(Lib.decDigits u).toArray⟩) ((Sort.putRow (fun (b : UInt8) => Value.int .u8 (b.toNat : Int)) (w.alloc (.cells Lib.zeros24 184)) w.heap.size 0 dk).drewN k) := by
      have h := run_convert_bytes_back (P := Tryd.prog) ((Sort.putRow (fun (b : UInt8) => Value.int .u8 (b.toNat : Int)) (w.alloc (.cells Lib.zeros24 184)) w.heap.size 0 dk).drewN k) 22 9 5 ⟨w.heap.size, 0, none⟩ 24 (Lib.decDigits u) Tryd.underlying22 Tryd.underlying5 Tryd.underlying9 (fun j hj => by
        rw [Lib.row_is_numeral hF j hj, Lib.add_plain, World.cell?_drewN]
        exact Sort.cell?_putRow (fun (b : UInt8) => Value.int .u8 (b.toNat : Int)) _ w.heap.size 0 _ dk HH0.out (by rw [hF.size, Array.size_replicate]) j (by rw [hF.size]; rw [Lib.decDigits_length] at hj; exact hj))
      rw [Lib.decDigits_length] at h
      exact h
    go_wp2_with fail
    go_ret
    exact ⟨rfl, fin0 w _ dk k⟩
theorem fmtu_any (u : Nat) (hu : u < 18446744073709551616) (w : World) (hT : PowT w) :
    Calls Tryd.prog 89 #[.int .u64 (u : Int), .int .i64 10] w fun e w' => e = .returned (.string ⟨(Lib.decDigits u).toArray⟩) ∧ Below w.heap.size w w' := by
  have HF := Lib.hid (fmtu_inner u hu w hT)
  go_enter Tryd.func89, Tryd.ntmps89
  go_wp2_with fail
  refine HF.out.mono ?_; rintro e w' ⟨rfl, hb⟩
  go_wp2_with fail
  go_ret
  exact ⟨rfl, hb⟩
def digB (n : Nat) : UInt8 := UInt8.ofNat (48 + n % 10)
theorem dec_small (n : Nat) (h : n < 10) : Lib.decDigits n = [digB n] := by
  rw [Lib.decDigits, dif_pos h, digB, Nat.mod_eq_of_lt h]
theorem dec_step (n : Nat) (h : 10 ≤ n) : Lib.decDigits n = Lib.decDigits (n / 10) ++ [digB n] := by
  rw [Lib.decDigits, dif_neg (by omega), digB]
theorem dig_nat (n : Nat) : ((digB n).toNat : Int) = 48 + (n : Int) % 10 := by
  rw [digB, UInt8.toNat_ofNat']
  omega
theorem dec_le (u : Nat) (hu : u < 18446744073709551616) : (Lib.decDigits u).length ≤ 20 := by
  rw [Lib.decDigits_length]
  rcases Nat.eq_zero_or_pos u with h0 | h0
  · subst h0; rw [Lib.nDigits_small (by omega)]; omega
  · have := Lib.numDigits_eq u h0 hu; split at this <;> omega
theorem rdigits_any (u : Nat) (hu : u < 18446744073709551616) (w : World) :
    Calls Tryd.prog 92 #[.int .u64 (u : Int)] w fun e w' => e = .returned (.string ⟨(Lib.decDigits u).toArray⟩) ∧ Below w.heap.size w w' := by
  have cv := Oct.conv_one w (digB u) (48 + (u : Int) % 10) (dig_nat u)
  have hle := dec_le u hu
  have hw1 : IntKind.u64.wrap (48 + (u : Int) % 10) = 48 + (u : Int) % 10 := IntWalk.u64_in _ (by omega)
  have hw2 : IntKind.u8.wrap (48 + (u : Int) % 10) = 48 + (u : Int) % 10 := by
    rw [IntKind.wrap_u8]; omega
  generalize hdd : Lib.decDigits u = dd at *
  replace hdd := Lib.hid hdd
  go_enter Tryd.func92, Tryd.ntmps92
  go_wp2_with fail
  go_loopw [0, 3] (fun n s wr => ∃ (m : Nat) (tl : List UInt8), m ≤ u ∧ n = .int .u64 (m : Int) ∧ s = .string ⟨(digB m :: tl).toArray⟩ ∧ Lib.decDigits m ++ tl = dd ∧ Below w.heap.size w wr) (fun n s wr => (intOf n).toNat)
  case atStart => exact ⟨u, [], Nat.le_refl _, rfl, rfl, by rw [hdd.out, List.append_nil], (by repeat (first | with_reducible exact Below.refl _ _ | with_reducible refine Below.drew ?_ | with_reducible refine Below.alloc ?_ (by (try simp) <;> omega) _ | with_reducible refine Below.setCell ?_ (by (try simp) <;> omega) _))⟩
  case round =>
    clear cv hw1 hw2
    obtain ⟨m, tl, hm, rfl, rfl, hd, hB⟩ := hrel
    have zr := hB.size
    by_cases h10 : 10 ≤ m
    · have h10' : (10 : Int) ≤ (m : Int) := by omega
      rw [dec_step m h10, List.append_assoc] at hd
      have hd2 : Lib.decDigits (m / 10) ++ (digB m :: tl) = dd := hd
      have htl : tl.length + 1 ≤ 20 := by
        have := congrArg List.length hd2
        simp only [List.length_append, List.length_cons] at this
        omega
      have e1 : ((m : Int) / 10) = ((m / 10 : Nat) : Int) := by omega
      have cv := Oct.conv_one wr (digB (m / 10)) (48 + ((m / 10 : Nat) : Int) % 10) (dig_nat (m / 10))
      have hw1 : IntKind.u64.wrap (48 + ((m / 10 : Nat) : Int) % 10) = 48 + ((m / 10 : Nat) : Int) % 10 := IntWalk.u64_in _ (by omega)
      have hw2 : IntKind.u8.wrap (48 + ((m / 10 : Nat) : Int) % 10) = 48 + ((m / 10 : Nat) : Int) % 10 := by
        rw [IntKind.wrap_u8]; omega
      have htd : (m : Int).tdiv 10 = ((m / 10 : Nat) : Int) := by rw [Int.tdiv_eq_ediv_of_nonneg (by omega)]; omega
      have hwq : IntKind.u64.wrap ((m / 10 : Nat) : Int) = ((m / 10 : Nat) : Int) := IntWalk.u64_in _ (by omega)
      have hm1 : m / 10 < m := by omega
      have hba := Oct.ba_cons (digB (m / 10)) (digB m :: tl)
      have hs1 : (⟨(digB m :: tl).toArray⟩ : ByteArray).size = tl.length + 1 := by simp [ByteArray.size]
      replace hd2 := Lib.hid hd2
      clear hd e1
      generalize m / 10 = mq at *
      go_wp2_with fail
      go_roundw
      case rel => exact ⟨mq, digB m :: tl, by omega, by first | rfl | (go_num; done) | (rw [hwq]; done) | (congr 1; omega), rfl, hd2.out, hB.trans (((by repeat (first | with_reducible exact Below.refl _ _ | with_reducible refine Below.drew ?_ | with_reducible refine Below.alloc ?_ (by (try simp) <;> omega) _ | with_reducible refine Below.setCell ?_ (by (try simp) <;> omega) _)) : Below wr.heap.size wr _).mono zr)⟩
      case measure => simp [intOf] <;> omega
    · rw [dec_small m (by omega)] at hd
      have hd2 : digB m :: tl = dd := hd
      rw [hd2]
      clear hd hd2
      go_wp2_with fail
      go_ret
      exact ⟨rfl, hB⟩
end Go.Proofs.YtdmpopdacbdnlaaDoor
