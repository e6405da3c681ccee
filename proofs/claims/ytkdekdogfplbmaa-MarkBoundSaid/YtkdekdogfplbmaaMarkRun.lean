/- The contract of mark.Bound. -/
import Derived.Test.YtkdekdogfplbmaaMarkBound
namespace Go.Proofs.Ytkdekdogfplbmaa
open Go.RowKit
set_option linter.unusedVariables false
set_option linter.unusedSimpArgs false

/-- what is known of a source -/
structure Src where
  active : Bool
  low : Int
  has : Bool
  head : Int
instance : Inhabited Src := ⟨⟨false, 0, false, 0⟩⟩
def Src.ok (s : Src) : Prop := -9223372036854775808 ≤ s.low ∧ s.low ≤ 9223372036854775807 ∧ -9223372036854775808 ≤ s.head ∧ s.head ≤ 9223372036854775807
/-- a slice of sources that may be read -/
structure RowS (w : World) (a : Option Addr) (len : Nat) (l : List Src) : Prop where
  length : l.length = len
  small : len ≤ maxLen
  ok : ∀ s ∈ l, s.ok
  at_ : len = 0 ∨ ∃ b off, a = some ⟨b, off, none⟩ ∧ b < w.heap.size ∧ ∀ i, i < len →
    w.cell? ⟨b, off + i * 4, none⟩ = some (.bool (l.getD i default).active) ∧ w.cell? ⟨b, off + i * 4 + 1, none⟩ = some (.int .i64 (l.getD i default).low) ∧
    w.cell? ⟨b, off + i * 4 + 2, none⟩ = some (.bool (l.getD i default).has) ∧ w.cell? ⟨b, off + i * 4 + 3, none⟩ = some (.int .i64 (l.getD i default).head)
theorem RowS.below {w w' : World} {a : Option Addr} {len : Nat} {l : List Src} (h : RowS w a len l) (hb : Below w.heap.size w w') : RowS w' a len l :=
  ⟨h.length, h.small, h.ok, by
    rcases h.at_ with h0 | ⟨b, off, rfl, hl, hc⟩
    · exact .inl h0
    · exact .inr ⟨b, off, rfl, Nat.lt_of_lt_of_le hl hb.size, fun i hi => by rw [(bcell hb).1 _ _ hl, (bcell hb).1 _ _ hl, (bcell hb).1 _ _ hl, (bcell hb).1 _ _ hl]; exact hc i hi⟩⟩

def step (o : Option Int) (s : Src) : Option Int := if s.has then least o (cut (s.head - 1)) else if s.active then least o s.low else o
def leasts (l : List Src) : Option Int := l.foldl step none
def idled (o : Option Int) (is : Bool) (since now top : Int) : Option Int := if is && decide (0 ≤ top) then least o (cut (top + cut (now - since))) else o
def markOf (o : Option Int) : Int := match o with | none => -1 | some m => if m ≤ -1 then -1 else m
def boundOf (l : List Src) (is : Bool) (since now top : Int) : Int := markOf (idled (leasts l) is since now top)
theorem leasts_snoc (l : List Src) (s : Src) : leasts (l ++ [s]) = step (leasts l) s := by simp [leasts]

theorem Kept.below {w w' : World} {B C : Nat} {o : Option Int} (h : Kept w B C o) (hb : Below w.heap.size w w') (hB : B < w.heap.size) (hC : C < w.heap.size) : Kept w' B C o :=
  ⟨(hb.cell (p := ⟨B, 0, none⟩) hB).trans h.k0, (hb.cell (p := ⟨B, 1, none⟩) hB).trans h.k1, (hb.frozen (p := ⟨B, 0, none⟩) hB).trans h.f0, (hb.frozen (p := ⟨B, 1, none⟩) hB).trans h.f1, (hb.cell (p := ⟨C, 0, none⟩) hC).trans h.n0, (hb.cell (p := ⟨C, 1, none⟩) hC).trans h.n1⟩
theorem take_succS {l : List Src} {k : Nat} (h : k < l.length) : l.take (k + 1) = l.take k ++ [l.getD k default] := by
  rw [List.take_succ_eq_append_getElem h]; simp [List.getD, h]

theorem bound_any (a : Option Addr) (len cap : Nat) (l : List Src) (is : Bool) (since now top : Int) (b1 : -9223372036854775808 ≤ since ∧ since ≤ 9223372036854775807) (b2 : -9223372036854775808 ≤ now ∧ now ≤ 9223372036854775807) (b3 : -9223372036854775808 ≤ top ∧ top ≤ 9223372036854775807) (w : World) (hS : RowS w a len l) :
    Calls Try.prog 12 #[.slice a len cap, .agg #[.bool is, .int .i64 since, .int .i64 now], .int .i64 top] w fun e w' => e = .returned (.int .i64 (boundOf l is since now top)) ∧ Below w.heap.size w w' := by
  have hm : len ≤ 9223372036854775807 := by have := hS.small; unfold maxLen at this; omega
  have LL := Lib.hid hS.length
  go_enter Try.func12, Try.ntmps12
  go_wp2_with fail
  go_loopw [21] (fun i wr => ∃ k : Nat, k ≤ len ∧ i = .int .i64 k ∧ Kept wr (w.heap.size + 1 + 1) (w.heap.size + 1) (leasts (l.take k)) ∧ Below (w.heap.size + 1 + 1) (((w.alloc (.cells #[.bool is, .int .i64 since, .int .i64 now] 24)).alloc (.cells #[.int .i64 0, .int .i64 0] 66)).alloc (.cells #[.int .i64 0, .int .i64 0] 66)) wr) (fun i wr => len - (intOf i).toNat)
  case atStart => exact ⟨0, Nat.zero_le _, rfl, ⟨by simp [go_sem, leasts, keptF], by simp [go_sem, leasts, keptN], by simp [go_sem], by simp [go_sem], by simp [go_sem], by simp [go_sem]⟩, Below.refl _ _⟩
  case round =>
    obtain ⟨k, hk, rfl, hK, hbr⟩ := hrel
    by_cases hlt : k < len
    · have hz := hbr.size
      simp at hz
      have HB : Below w.heap.size w wr := ((((Below.refl w.heap.size w).alloc (Nat.le_refl _) _).alloc (by simp) _).alloc (by simp; omega) _).trans (hbr.mono (by omega))
      rcases hS.at_ with h0 | ⟨b, off, rfl, hl, hc⟩
      · omega
      obtain ⟨c0, c1, c2, c3⟩ := hc k hlt
      have hts := take_succS (l := l) (k := k) (by rw [LL.out]; exact hlt)
      have hok := hS.ok (l.getD k default) (by have := LL.out; simp [List.getD, show k < l.length from by omega])
      clear hc
      generalize l.getD k default = s at *
      have H1 : Hid (leasts (l.take (k + 1)) = step (leasts (l.take k)) s) := by rw [hts, leasts_snoc]; exact Lib.hid rfl
      clear hts
      have d0 := (HB.cell (p := ⟨b, off + k * 4, none⟩) hl).trans c0
      have d1 := (HB.cell (p := ⟨b, off + k * 4 + 1, none⟩) hl).trans c1
      have d2 := (HB.cell (p := ⟨b, off + k * 4 + 2, none⟩) hl).trans c2
      have d3 := (HB.cell (p := ⟨b, off + k * 4 + 3, none⟩) hl).trans c3
      clear c0 c1 c2 c3
      obtain ⟨ac, lo, ha, he⟩ := s
      obtain ⟨o1, o2, o3, o4⟩ := hok
      simp only at d0 d1 d2 d3 o1 o2 o3 o4
      generalize leasts (l.take k) = o at *
      have hK2 : Kept (wr.alloc (.cells #[.bool ac, .int .i64 lo, .bool ha, .int .i64 he] 38)) (w.heap.size + 1 + 1) (w.heap.size + 1) o := hK.below ((Below.refl _ _).alloc (Nat.le_refl _) _) (by omega) (by omega)
      have hb2 : Below (w.heap.size + 1 + 1) wr (wr.alloc (.cells #[.bool ac, .int .i64 lo, .bool ha, .int .i64 he] 38)) := (Below.refl _ _).alloc (by omega) _
      have KK := Lib.hid hK2; clear hK2
      cases ha
      · cases ac
        · go_wp2_with fail
          go_roundw
          case rel => exact ⟨k + 1, by omega, by go_num, by rw [H1.out]; exact KK.out, hbr.trans hb2⟩
          case measure => simp [intOf]; omega
        · go_wp2_with fail
          refine (keep_any _ _ _ (by omega) _ _ KK.out).mono ?_; rintro e w3 ⟨rfl, hK3, hb3, hz3⟩
          go_wp2_with fail
          go_roundw
          case rel => exact ⟨k + 1, by omega, by go_num, by rw [H1.out]; exact hK3, (hbr.trans hb2).trans hb3⟩
          case measure => simp [intOf]; omega
      · go_wp2_with fail
        refine (sat_sub _ _ _ (by omega) (by omega) (by omega) (by omega)).mono ?_; rintro e w' ⟨rfl, rfl⟩
        unfold pairV
        go_wp2_with fail
        refine (keep_any _ _ _ (by omega) _ _ KK.out).mono ?_; rintro e w3 ⟨rfl, hK3, hb3, hz3⟩
        go_wp2_with fail
        go_roundw
        case rel => exact ⟨k + 1, by omega, by go_num, by rw [H1.out]; exact hK3, (hbr.trans hb2).trans hb3⟩
        case measure => simp [intOf]; omega
    · obtain rfl : k = len := by omega
      have hz := hbr.size
      simp at hz
      have HB : Below w.heap.size w wr := ((((Below.refl w.heap.size w).alloc (Nat.le_refl _) _).alloc (by simp) _).alloc (by simp; omega) _).trans (hbr.mono (by omega))
      have e0 : wr.cell? ⟨w.heap.size, 0, none⟩ = some (.bool is) := (hbr.cell (p := ⟨w.heap.size, 0, none⟩) (by simp; omega)).trans (by simp [go_sem])
      have e1 : wr.cell? ⟨w.heap.size, 1, none⟩ = some (.int .i64 since) := (hbr.cell (p := ⟨w.heap.size, 1, none⟩) (by simp; omega)).trans (by simp [go_sem])
      have e2 : wr.cell? ⟨w.heap.size, 2, none⟩ = some (.int .i64 now) := (hbr.cell (p := ⟨w.heap.size, 2, none⟩) (by simp; omega)).trans (by simp [go_sem])
      rw [List.take_of_length_le (by rw [LL.out]; exact Nat.le_refl _)] at hK
      have he := fun W : World => eq2 W
      have hbo : boundOf l is since now top = markOf (idled (leasts l) is since now top) := rfl
      have HBO := Lib.hid hbo; clear hbo
      generalize leasts l = o at *
      clear hbr hlt hS LL
      by_cases hi : is = true ∧ 0 ≤ top
      · obtain ⟨rfl, ht⟩ := hi
        have hid : Hid (idled o true since now top = least o (cut (top + cut (now - since)))) := by unfold idled; rw [show (true && decide (0 ≤ top)) = true from by simp [ht]]; exact Lib.hid rfl
        have g1 := cut_ge (now - since)
        have g2 := cut_le (now - since)
        have HBO2 : Hid (boundOf l true since now top = markOf (least o (cut (top + cut (now - since))))) := by rw [HBO.out, hid.out]; exact Lib.hid rfl
        clear hid HBO
        have HK := Lib.hid hK; clear hK
        go_wp2_with fail
        refine (sat_sub _ _ _ (by omega) (by omega) (by omega) (by omega)).mono ?_; rintro e w' ⟨rfl, rfl⟩
        unfold pairV
        go_wp2_with fail
        refine (sat_add _ _ _ (by omega) (by omega) (by omega) (by omega)).mono ?_; rintro e w' ⟨rfl, rfl⟩
        unfold pairV
        go_wp2_with fail
        refine (keep_any _ _ _ (by omega) _ _ HK.out).mono ?_; rintro e w3 ⟨rfl, hK3, hb3, hz3⟩
        have HB3 : Below w.heap.size w w3 := HB.trans (hb3.mono (by omega))
        clear HK e0 e1 e2
        generalize least o (cut (top + cut (now - since))) = oo at *
        obtain ⟨k0, k1, f0, f1, n0, n1⟩ := hK3
        cases oo with
        | none =>
          simp only [keptF, keptN] at k0 k1
          go_wp2_with fail
          go_ret
          exact ⟨ret_int (by rw [HBO2.out]; rfl), HB3⟩
        | some m =>
          simp only [keptF, keptN] at k0 k1
          go_wp2_with fail
          all_goals (go_ret; exact ⟨ret_int (by rw [HBO2.out]; unfold markOf; first | omega | (dsimp only; split <;> omega)), HB3⟩)
      · have hid : Hid (idled o is since now top = o) := by
          unfold idled
          rw [if_neg (by simpa using hi)]; exact Lib.hid rfl
        have HBO2 : Hid (boundOf l is since now top = markOf o) := by rw [HBO.out, hid.out]; exact Lib.hid rfl
        clear hid HBO
        obtain ⟨k0, k1, f0, f1, n0, n1⟩ := hK
        cases is
        · clear hi
          cases o with
          | none =>
            simp only [keptF, keptN] at k0 k1
            go_wp2_with fail
            all_goals (go_ret; exact ⟨ret_int (by rw [HBO2.out]; rfl), HB⟩)
          | some m =>
            simp only [keptF, keptN] at k0 k1
            go_wp2_with fail
            all_goals (go_ret; exact ⟨ret_int (by rw [HBO2.out]; unfold markOf; first | omega | (dsimp only; split <;> omega)), HB⟩)
        · have ht : top < 0 := by simp at hi; omega
          clear hi
          cases o with
          | none =>
            simp only [keptF, keptN] at k0 k1
            go_wp2_with fail
            all_goals (go_ret; exact ⟨ret_int (by rw [HBO2.out]; rfl), HB⟩)
          | some m =>
            simp only [keptF, keptN] at k0 k1
            go_wp2_with fail
            all_goals (go_ret; exact ⟨ret_int (by rw [HBO2.out]; unfold markOf; first | omega | (dsimp only; split <;> omega)), HB⟩)
end Go.Proofs.Ytkdekdogfplbmaa
