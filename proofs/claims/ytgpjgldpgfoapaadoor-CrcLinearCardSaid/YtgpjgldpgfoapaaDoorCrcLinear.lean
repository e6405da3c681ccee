/- The walk of package crc's law that sums are linear. -/
import Derived.Test.YtgpjgldpgfoapaaDoorCrcMath2
import Derived.Test.YtgpjgldpgfoapaaDoorCrcLaws
import Derived.Test.YtgpjgldpgfoapaaDoorKit2
import Derived.Deep.RegionHeld3
import Derived.Deep.AppendLies
import Derived.BigQuiet
namespace Go.Proofs.YtgpjgldpgfoapaaDoor
open Go.RowKit
set_option linter.unusedVariables false
set_option linter.unusedSimpArgs false

theorem madeCells_one (x : Value) (n : Nat) : (madeCells #[x] (n * 1)).toList = List.replicate n x := by
  apply List.ext_getElem
  · simp [madeCells]
  · intro i h1 h2
    simp [madeCells, Nat.mod_one]

def fA (ps : List (UInt8 × UInt8)) (k : Nat) : List UInt8 := (ps.take k).map (·.1)
def fB (ps : List (UInt8 × UInt8)) (k : Nat) : List UInt8 := (ps.take k).map (·.2)
def fC (ps : List (UInt8 × UInt8)) (k : Nat) : List UInt8 := (ps.take k).map fun p => p.1 ^^^ p.2
theorem takeP {ps : List (UInt8 × UInt8)} {k : Nat} (h : k < ps.length) : ps.take (k + 1) = ps.take k ++ [ps.getD k (0, 0)] := by
  rw [List.take_succ_eq_append_getElem h]; simp [List.getD, h]

theorem fA_snoc {ps : List (UInt8 × UInt8)} {k : Nat} (h : k < ps.length) : fA ps (k + 1) = fA ps k ++ [(ps.getD k (0, 0)).1] := by unfold fA; rw [takeP h]; simp
theorem fB_snoc {ps : List (UInt8 × UInt8)} {k : Nat} (h : k < ps.length) : fB ps (k + 1) = fB ps k ++ [(ps.getD k (0, 0)).2] := by unfold fB; rw [takeP h]; simp
theorem fC_snoc {ps : List (UInt8 × UInt8)} {k : Nat} (h : k < ps.length) : fC ps (k + 1) = fC ps k ++ [(ps.getD k (0, 0)).1 ^^^ (ps.getD k (0, 0)).2] := by unfold fC; rw [takeP h]; simp

theorem lin (ps : List (UInt8 × UInt8)) : Crc.sum (ps.map fun p => p.1 ^^^ p.2) = (Crc.sum (ps.map (·.1)) ^^^ Crc.sum (ps.map (·.2))) ^^^ Crc.sum (List.replicate ps.length 0) := by
  unfold Crc.sum
  have h1 := Crc.more_xor ps Crc.start Crc.start
  have h2 := Crc.more_xor ((ps.map fun p => p.1 ^^^ p.2).map fun c => (c, (0 : UInt8))) (Crc.start ^^^ Crc.start) Crc.start
  simp only [List.map_map, Function.comp_def, UInt8.xor_zero] at h2
  rw [h1] at h2
  rw [BitVec.xor_self, BitVec.zero_xor] at h2
  rw [h2]
  congr 2
  simp [List.map_const']

theorem crcLinear_walk (a : Option Addr) (la ca : Nat) (ps : List (UInt8 × UInt8)) (w : World) (hP : RowP w a la ca ps) (hT : Tab w) :
    Calls Tryd.prog 5 #[.slice a la ca] w fun e w' => e = .returned (.bool true) ∧ Below w.heap.size w w' := by
  by_cases h1 : 300 < la
  · go_enter Tryd.func5, Tryd.ntmps5
    go_wp2_with fail
    refine (crc_awake _ hT).mono ?_; rintro e w1 ⟨rfl, hb1⟩
    go_wp2_with fail
    go_ret
    exact ⟨rfl, (by repeat (first | with_reducible exact Below.refl _ _ | with_reducible refine Below.trans ?_ (Below.mono hb9 (by (try simp) <;> omega)) | with_reducible refine Below.trans ?_ (Below.mono hb8 (by (try simp) <;> omega)) | with_reducible refine Below.trans ?_ (Below.mono hb7 (by (try simp) <;> omega)) | with_reducible refine Below.trans ?_ (Below.mono hb6 (by (try simp) <;> omega)) | with_reducible refine Below.trans ?_ (Below.mono hb5 (by (try simp) <;> omega)) | with_reducible refine Below.trans ?_ (Below.mono hb4 (by (try simp) <;> omega)) | with_reducible refine Below.trans ?_ (Below.mono hb3 (by (try simp) <;> omega)) | with_reducible refine Below.trans ?_ (Below.mono hb2 (by (try simp) <;> omega)) | with_reducible refine Below.trans ?_ (Below.mono hb1 (by (try simp) <;> omega)) | with_reducible refine Below.drew ?_ | with_reducible refine Below.alloc ?_ (by (try simp) <;> omega) _ | with_reducible refine Below.setCell ?_ (by (try simp) <;> omega) _))⟩
  obtain ⟨i0, hi0, hz0, hz1, hz2⟩ := info_parts info8
  have LP := Lib.hid hP.length
  go_enter Tryd.func5, Tryd.ntmps5
  go_wp2_with fail
  refine (crc_awake _ hT).mono ?_; rintro e w1 ⟨rfl, hb1⟩
  go_wp2_with (refine wpList_make_full _ rfl _ _ 23 rfl w.heap.size 5 i0 _ 1 Tryd.underlying23 hi0 hz0 hz1 .i64 .i64 _ _ la rfl rfl rfl rfl (by rw [hz2]; omega) (by unfold maxLen; omega) hb1.size ?_; intro w2 hZ hG2)
  have hO : OwnB 5 w.heap.size w2 (.slice (some ⟨w1.heap.size, 0, none⟩) la la) (List.replicate la 0) := ⟨by
      rw [List.length_replicate, show bv (List.replicate la 0) = (madeCells (Value.cells (.int .u8 0)) (la * 1)).toList from by rw [show Value.cells (.int .u8 0) = #[.int .u8 0] from rfl, madeCells_one]; simp [bv]]
      exact hZ, by rw [List.length_replicate]; unfold maxLen; omega⟩
  have hR : RowB w2 (some ⟨w1.heap.size, 0, none⟩) la la (List.replicate la 0) := by
    obtain ⟨q, cap, hq, hrow, hat⟩ := hO.row
    rw [List.length_replicate] at hq hrow
    simp only [Value.slice.injEq] at hq
    obtain ⟨rfl, _, rfl⟩ := hq
    exact hrow
  have HB2 : Below w.heap.size w w2 := hb1.grown hG2 hb1.size (fun k e => by cases e)
  clear hO hZ hG2
  go_loopw [4, 5, 6, 8] (fun va vb vc i wr => ∃ k : Nat, k ≤ la ∧ i = .int .i64 k ∧ OwnB 5 w2.heap.size wr va (fA ps k) ∧ OwnB 5 w2.heap.size wr vb (fB ps k) ∧ OwnB 5 w2.heap.size wr vc (fC ps k) ∧ Ap va vb ∧ Ap va vc ∧ Ap vb vc ∧ Below w2.heap.size w2 wr) (fun _ _ _ i wr => la - (intOf i).toNat)
  case atStart => exact ⟨0, Nat.zero_le _, rfl, OwnB.nil _ _ _, OwnB.nil _ _ _, OwnB.nil _ _ _, Ap.nil_left _, Ap.nil_left _, Ap.nil_left _, Below.refl _ _⟩
  case round =>
    obtain ⟨k, hk, rfl, hA, hB, hC, pab, pac, pbc, hbr⟩ := hrel
    by_cases hlt : k < la
    · have hP2 := hP.below HB2
      rcases hP2.at_ with h0 | ⟨b, off, rfl, hl, hcell⟩
      · omega
      obtain ⟨c0, c1⟩ := hcell k hlt
      clear hcell
      have nA := fA_snoc (ps := ps) (k := k) (by rw [LP.out]; exact hlt)
      have nB := fB_snoc (ps := ps) (k := k) (by rw [LP.out]; exact hlt)
      have nC := fC_snoc (ps := ps) (k := k) (by rw [LP.out]; exact hlt)
      have lA : (fA ps k).length = k := by have := LP.out; simp [fA]; omega
      have lB : (fB ps k).length = k := by have := LP.out; simp [fB]; omega
      have lC : (fC ps k).length = k := by have := LP.out; simp [fC]; omega
      generalize ps.getD k (0, 0) = pr at *
      obtain ⟨x, y⟩ := pr
      simp only at c0 c1 nA nB nC
      have hx : bits .xor .u8 (x.toNat : Int) (y.toNat : Int) = ((x ^^^ y).toNat : Int) := by
        rw [u8_xor_nat _ _ x.toNat_lt y.toNat_lt, UInt8.toNat_xor]
      generalize x ^^^ y = z at *
      have NA := Lib.hid nA; have NB := Lib.hid nB; have NC := Lib.hid nC
      have LA := Lib.hid lA; have LB := Lib.hid lB; have LC := Lib.hid lC
      clear nA nB nC lA lB lC
      have C0 := Lib.hid c0; have C1 := Lib.hid c1; clear c0 c1
      have d0 := (hbr.cell (p := ⟨b, off + k * 2, none⟩) hl).trans C0.out
      have tok1 : True := trivial
      have tok2 : True := trivial
      go_wp2_with (first
        | (at_builtin; have _t := tok1; refine append_byte 23 5 info8 Tryd.underlying23 rfl _ _ rfl w2.heap.size u4 (fA ps k) k LA.out rfl (hA.below ((Below.refl _ _).alloc (Nat.le_refl _) _)) wr.heap.size 1 x rfl (by simp) (by omega) (by have := hbr.size; simp; omega) ?_; intro g1 cp1 w3 hA3 hG3 hg3 hlt3; clear tok1 d0
           have hbr3 : Below w2.heap.size w2 w3 := (hbr.alloc hbr.size _).grown hG3 (by have := hbr.size; simp; omega) (fun k hk => (hA.owns.lt k hk).1)
           have hB3 := (hB.below ((Below.refl _ _).alloc (Nat.le_refl _) (.cells #[.int .u8 (x.toNat : Int)] 5))).kept hG3 pab.symm.kept
           have hC3 := (hC.below ((Below.refl _ _).alloc (Nat.le_refl _) (.cells #[.int .u8 (x.toNat : Int)] 5))).kept hG3 pac.symm.kept
           have pab3 := (Ap.next (n := k + 1) (cap := cp1) pab.symm hB hg3 (by simp)).symm
           have pac3 := (Ap.next (n := k + 1) (cap := cp1) pac.symm hC hg3 (by simp)).symm
           have d1 := (hbr3.cell (p := ⟨b, off + k * 2 + 1, none⟩) hl).trans C1.out
           clear pab pac)
        | (at_builtin; have _t := tok2; refine append_byte 23 5 info8 Tryd.underlying23 rfl _ _ rfl w2.heap.size u5 (fB ps k) k LB.out rfl (hB3.below ((Below.refl _ _).alloc (Nat.le_refl _) _)) w3.heap.size 1 y rfl (by simp) (by omega) (by have := hbr3.size; simp; omega) ?_; intro g2 cp2 w4 hB4 hG4 hg4 hlt4; clear tok2 d1
           have hbr4 : Below w2.heap.size w2 w4 := (hbr3.alloc hbr3.size _).grown hG4 (by have := hbr3.size; simp; omega) (fun k hk => (hB3.owns.lt k hk).1)
           have hA4 := (hA3.below ((Below.refl _ _).alloc (Nat.le_refl _) (.cells #[.int .u8 (y.toNat : Int)] 5))).kept hG4 pab3.kept
           have hC4 := (hC3.below ((Below.refl _ _).alloc (Nat.le_refl _) (.cells #[.int .u8 (y.toNat : Int)] 5))).kept hG4 pbc.symm.kept
           have pab4 := Ap.next (n := k + 1) (cap := cp2) pab3 hA3 hg4 (by simp)
           have pbc4 := (Ap.next (n := k + 1) (cap := cp2) pbc.symm hC3 hg4 (by simp)).symm
           clear pab3 pbc))
      have d0 := (hbr4.cell (p := ⟨b, off + k * 2, none⟩) hl).trans C0.out
      have d1 := (hbr4.cell (p := ⟨b, off + k * 2 + 1, none⟩) hl).trans C1.out
      have j0 : (0 : Int) ≤ (k : Int) := by omega
      have j1 : (k : Int) < (la : Int) := by omega
      have hC4' : w4.ownsRow w2.heap.size 5 1 u6 k (bv (fC ps k)) := by have := hC4.owns; rw [LC.out] at this; exact this
      have s4 := hbr4.size
      clear d0 d1
      have hb4 : b < w4.heap.size := by omega
      have hb5 : b < w4.heap.size + 1 := by omega
      have F0 : some b ≠ u6.ownBlock := fun e => by have := (hC4.owns.lt b e.symm).1; omega
      have D0 : w4.drew.cell? ⟨b, off + k * 2, none⟩ = some (.int .u8 (x.toNat : Int)) := (hbr4.cell (p := ⟨b, off + k * 2, none⟩) hl).trans C0.out
      have D1 : w4.drew.cell? ⟨b, off + k * 2 + 1, none⟩ = some (.int .u8 (y.toNat : Int)) := (hbr4.cell (p := ⟨b, off + k * 2 + 1, none⟩) hl).trans C1.out
      go_region_held3 (fun W => W.cell? ⟨b, off + k * 2, none⟩ = some (.int .u8 (x.toNat : Int)) ∧ W.cell? ⟨b, off + k * 2 + 1, none⟩ = some (.int .u8 (y.toNat : Int)))
        (first | exact ⟨D0, D1⟩ | exact ⟨(((Below.refl w4.heap.size w4).alloc (Nat.le_refl _) _).drew.cell (p := ⟨b, off + k * 2, none⟩) hb4).trans D0, (((Below.refl w4.heap.size w4).alloc (Nat.le_refl _) _).drew.cell (p := ⟨b, off + k * 2 + 1, none⟩) hb4).trans D1⟩ | exact ⟨(World.grownBy.cell_far hG5 ⟨b, off + k * 2, none⟩ (by simp; omega) F0).trans ((((Below.refl w4.heap.size w4).alloc (Nat.le_refl _) _).drew.cell (p := ⟨b, off + k * 2, none⟩) hb4).trans D0), (World.grownBy.cell_far hG5 ⟨b, off + k * 2 + 1, none⟩ (by simp; omega) F0).trans ((((Below.refl w4.heap.size w4).alloc (Nat.le_refl _) _).drew.cell (p := ⟨b, off + k * 2 + 1, none⟩) hb4).trans D1)⟩)
        ((refine step_append_lies _ (by rfl) _ _ _ (by rfl) w2.heap.size 5 i0 _ 1 1 Tryd.underlying23 hi0 hz0 (by assumption) hz2 rfl (by omega) u6 k (bv (fC ps k)) (by rfl) ((hC4'.alloc _).drew)
            ⟨w4.heap.size, 0, none⟩ 1 1 [.int .u8 (z.toNat : Int)] (by rfl) (by rfl) (World.news_of_block (cs := #[.int .u8 (z.toNat : Int)]) (t := 5) (fr := (0, 0)) (heap_alloc_new w4 _)) (by simp [Value.oneCell'])
            (by omega) (by unfold maxLen; omega) (by omega) (by simp; omega) (w4.heap.size + 1) (by simp) ?_; intro g3 cp3 w5 hC5 hG5 hg5 hlt5))
      go_wp2
      go_roundw
      case rel =>
        have bA : Below w4.heap.size w4 (w4.alloc (.cells #[.int .u8 (z.toNat : Int)] 5)).drew := ((Below.refl w4.heap.size w4).alloc (Nat.le_refl _) _).drew
        have hA5 := (hA4.below bA).kept hG5 pac3.kept
        have hB5 := (hB4.below bA).kept hG5 pbc4.kept
        have pac5 := Ap.next (n := k + 1) (cap := cp3) pac3 hA4 hg5 (by omega)
        have pbc5 := Ap.next (n := k + 1) (cap := cp3) pbc4 hB4 hg5 (by omega)
        have hbr5 : Below w2.heap.size w2 w5 := ((hbr4.alloc hbr4.size _).drew).grown hG5 (by simp; omega) (fun k hk => (hC4.owns.lt k hk).1)
        have hC6 : OwnB 5 w2.heap.size w5 (.slice (some ⟨g3, 0, none⟩) (k + 1) cp3) (fC ps k ++ [z]) := ⟨by
          have l5 : (fC ps k ++ [z]).length = k + 1 := by rw [List.length_append, LC.out]; rfl
          rw [l5, bv_append]; exact hC5, by rw [List.length_append, LC.out]; unfold maxLen; simp; omega⟩
        exact ⟨k + 1, by omega, by go_num, by rw [NA.out]; exact hA5, by rw [NB.out]; exact hB5, by rw [NC.out]; exact hC6, pab4, pac5, pbc5, hbr5⟩
      case measure => simp [intOf]; omega
    · obtain rfl : k = la := by omega
      obtain ⟨qa, cca, rfl, rA, _⟩ := hA.row
      obtain ⟨qb, ccb, rfl, rB, _⟩ := hB.row
      obtain ⟨qc, ccc, rfl, rC, _⟩ := hC.row
      have hlin := lin ps
      rw [LP.out] at hlin
      have eA : fA ps k = ps.map (·.1) := by unfold fA; rw [List.take_of_length_le (by rw [LP.out]; exact Nat.le_refl _)]
      have eB : fB ps k = ps.map (·.2) := by unfold fB; rw [List.take_of_length_le (by rw [LP.out]; exact Nat.le_refl _)]
      have eC : fC ps k = ps.map fun p => p.1 ^^^ p.2 := by unfold fC; rw [List.take_of_length_le (by rw [LP.out]; exact Nat.le_refl _)]
      rw [← eA, ← eB, ← eC] at hlin
      have HBr : Below w.heap.size w wr := HB2.trans (hbr.mono HB2.size)
      have hTr := hT.below HBr
      have rZ := hR.below hbr
      clear eA eB eC hA hB hC hlt hk pab pac pbc hR hP hb1
      generalize fA ps k = xs at *
      generalize fB ps k = ys at *
      generalize fC ps k = zs at *
      have x1 : bits .xor .u32 ((Crc.sum xs).toNat : Int) ((Crc.sum ys).toNat : Int) = ((Crc.sum xs ^^^ Crc.sum ys).toNat : Int) := by
        rw [u32_xor_nat _ _ (by have := (Crc.sum xs).isLt; omega) (by have := (Crc.sum ys).isLt; omega), BitVec.toNat_xor]
      have x2 : bits .xor .u32 ((Crc.sum xs ^^^ Crc.sum ys).toNat : Int) ((Crc.sum (List.replicate k 0)).toNat : Int) = ((Crc.sum zs).toNat : Int) := by
        rw [u32_xor_nat _ _ (by have := (Crc.sum xs ^^^ Crc.sum ys).isLt; omega) (by have := (Crc.sum (List.replicate k 0)).isLt; omega), hlin, BitVec.toNat_xor (_ ^^^ _)]
      generalize hq : Crc.sum xs ^^^ Crc.sum ys = q at *
      have X1 := Lib.hid x1; have X2 := Lib.hid x2; clear x1 x2 hlin hq
      go_wp2_with fail
      refine (crc_sum _ _ _ xs _ hTr rA).mono ?_; rintro e w' ⟨rfl, rfl⟩
      go_wp2_with fail
      refine (crc_sum _ _ _ ys _ hTr rB).mono ?_; rintro e w' ⟨rfl, rfl⟩
      go_wp2_with fail
      refine (crc_sum _ _ _ (List.replicate k 0) _ hTr rZ).mono ?_; rintro e w' ⟨rfl, rfl⟩
      go_wp2_with fail
      refine (crc_sum _ _ _ zs _ hTr rC).mono ?_; rintro e w' ⟨rfl, rfl⟩
      go_wp2_with fail
      go_ret
      refine ⟨ret_bool ?_, HBr⟩
      rw [X1.out, X2.out]; simp
end Go.Proofs.YtgpjgldpgfoapaaDoor
