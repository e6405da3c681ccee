/- The document's bound: contracts of Numbers, Bound. -/
import Derived.Test.YtkdekdogfplbmaaMarkRef
namespace Go.Proofs.Ytkdekdogfplbmaa
open Go.RowKit
set_option linter.unusedVariables false
set_option linter.unusedSimpArgs false
set_option maxHeartbeats 2000000
set_option maxRecDepth 20000

def numsOf (l : List Src) (is : Bool) (since now top : Int) : List Int := l.filterMap Src.val ++ if is && decide (0 ≤ top) then [cut (top + cut (now - since))] else []
theorem val_range {s : Src} (h : s.ok) {v : Int} (e : s.val = some v) : -9223372036854775808 ≤ v ∧ v ≤ 9223372036854775807 := by
  obtain ⟨h1, h2, h3, h4⟩ := h
  unfold Src.val at e
  split at e
  · cases e; exact ⟨cut_ge _, cut_le _⟩
  · split at e
    · cases e; exact ⟨h1, h2⟩
    · cases e
theorem nums_range {l : List Src} (hok : ∀ s ∈ l, s.ok) (is : Bool) (since now top : Int) : ∀ n ∈ numsOf l is since now top, -9223372036854775808 ≤ n ∧ n ≤ 9223372036854775807 := by
  intro n hn
  rcases List.mem_append.1 hn with h | h
  · obtain ⟨s, hs, hv⟩ := List.mem_filterMap.1 h
    exact val_range (hok s hs) hv
  · split at h
    · rw [List.mem_singleton.1 h]; exact ⟨cut_ge _, cut_le _⟩
    · cases h
theorem nums_length {l : List Src} (is : Bool) (since now top : Int) : (numsOf l is since now top).length ≤ l.length + 1 := by
  unfold numsOf
  rw [List.length_append]
  have := List.length_filterMap_le Src.val l
  split <;> simp <;> omega

theorem nums_any (a : Option Addr) (len cap : Nat) (l : List Src) (is : Bool) (since now top : Int) (b1 : -9223372036854775808 ≤ since ∧ since ≤ 9223372036854775807) (b2 : -9223372036854775808 ≤ now ∧ now ≤ 9223372036854775807) (b3 : -9223372036854775808 ≤ top ∧ top ≤ 9223372036854775807) (w : World) (hS : RowS w a len l) (hl : len ≤ 60) :
    Calls Try.prog 32 #[.slice a len cap, .bool is, .int .i64 since, .int .i64 now, .int .i64 top] w fun e w' => ∃ v, e = .returned v ∧ OwnI 2 w.heap.size w' v (numsOf l is since now top) ∧ Below w.heap.size w w' := by
  have LL := Lib.hid hS.length
  go_enter Try.func32, Try.ntmps32
  go_wp2_with fail
  go_loopw [11, 12] (fun v i wr => ∃ k : Nat, k ≤ len ∧ i = .int .i64 k ∧ OwnI 2 w.heap.size wr v ((l.take k).filterMap Src.val) ∧ Below w.heap.size w wr) (fun v i wr => len - (intOf i).toNat)
  case atStart => exact ⟨0, Nat.zero_le _, rfl, ⟨World.ownsRow_nil _ _ _ _, by simp⟩, Below.refl _ _⟩
  case round =>
    obtain ⟨k, hk, rfl, hO, hbr⟩ := hrel
    have zr := hbr.size
    by_cases hlt : k < len
    · rcases hS.at_ with h0 | ⟨b, off, rfl, hlb, hc⟩
      · omega
      obtain ⟨c0, c1, c2, c3⟩ := hc k hlt
      have hts := take_succS (l := l) (k := k) (by rw [LL.out]; exact hlt)
      have hok := hS.ok (l.getD k default) (by have := LL.out; simp [List.getD, show k < l.length from by omega])
      generalize l.getD k default = s at *
      have h1 : (l.take (k + 1)).filterMap Src.val = (l.take k).filterMap Src.val ++ match s.val with | none => [] | some v => [v] := by
        rw [hts, List.filterMap_append]
        cases hv : s.val <;> simp [hv]
      clear hts hc
      have d0 := (hbr.cell (p := ⟨b, off + k * 4, none⟩) hlb).trans c0
      have d1 := (hbr.cell (p := ⟨b, off + k * 4 + 1, none⟩) hlb).trans c1
      have d2 := (hbr.cell (p := ⟨b, off + k * 4 + 2, none⟩) hlb).trans c2
      have d3 := (hbr.cell (p := ⟨b, off + k * 4 + 3, none⟩) hlb).trans c3
      clear c0 c1 c2 c3
      obtain ⟨ac, lo, ha, he⟩ := s
      obtain ⟨o1, o2, o3, o4⟩ := hok
      simp only at d0 d1 d2 d3 o1 o2 o3 o4
      have HL : ((l.take k).filterMap Src.val).length ≤ 60 := by
        have := List.length_filterMap_le Src.val (l.take k)
        rw [List.length_take] at this; omega
      generalize (l.take k).filterMap Src.val = l0 at *
      have tok1 : True := trivial
      replace hO := Lib.hid hO
      cases ha
      · cases ac
        · have H1 := Lib.hid (h1.trans (by simp [Src.val] : _ = l0)); clear h1
          go_wp2_with fail
          go_roundw
          case rel => exact ⟨k + 1, by omega, by go_num, by rw [H1.out]; exact hO.out, hbr⟩
          case measure => simp [intOf]; omega
        · have H1 := Lib.hid (h1.trans (by simp [Src.val] : _ = l0 ++ [lo])); clear h1
          go_wp2_with (at_builtin; have _t := tok1; refine append_i64 31 2 infoI Try.underlying31 rfl _ _ rfl w.heap.size u11 l0 rfl (hO.out.below (by repeat (first | with_reducible exact Below.refl _ _ | with_reducible refine Below.drew ?_ | with_reducible refine Below.alloc ?_ (by (try simp) <;> omega) _ | with_reducible refine Below.setCell ?_ (by (try simp) <;> omega) _))) ⟨wr.heap.size, 0, none⟩ 1 lo rfl (by simp [go_sem]) (by omega) (by simp; omega) ?_; intro v2 w3 hO3 hG3; clear tok1; have HB3 : Below w.heap.size w w3 := Below.grown (Below.trans hbr (Below.mono ((by repeat (first | with_reducible exact Below.refl _ _ | with_reducible refine Below.drew ?_ | with_reducible refine Below.alloc ?_ (by (try simp) <;> omega) _ | with_reducible refine Below.setCell ?_ (by (try simp) <;> omega) _)) : Below wr.heap.size wr _) zr)) hG3 (by simp; omega) (fun k hk => (hO.out.owns.lt k hk).1))
          go_roundw
          case rel => first | exact ⟨k + 1, by omega, by go_num, by rw [H1.out]; exact hO3, HB3⟩ | exact ⟨k + 1, by omega, by omega, by rw [H1.out]; exact hO3⟩
          case measure => simp [intOf] <;> omega
      · have H1 := Lib.hid (h1.trans (by simp [Src.val] : _ = l0 ++ [cut (he - 1)])); clear h1
        go_wp2_with fail
        refine (ref_sub _ _ _ (by omega) (by omega) (by omega) (by omega)).mono ?_; rintro e w' ⟨rfl, rfl⟩
        unfold pairV
        go_wp2_with (at_builtin; have _t := tok1; refine append_i64 31 2 infoI Try.underlying31 rfl _ _ rfl w.heap.size u11 l0 rfl (hO.out.below (by repeat (first | with_reducible exact Below.refl _ _ | with_reducible refine Below.drew ?_ | with_reducible refine Below.alloc ?_ (by (try simp) <;> omega) _ | with_reducible refine Below.setCell ?_ (by (try simp) <;> omega) _))) ⟨wr.heap.size, 0, none⟩ 1 (cut (he - 1)) rfl (by simp [go_sem]) (by omega) (by simp; omega) ?_; intro v2 w3 hO3 hG3; clear tok1; have HB3 : Below w.heap.size w w3 := Below.grown (Below.trans hbr (Below.mono ((by repeat (first | with_reducible exact Below.refl _ _ | with_reducible refine Below.drew ?_ | with_reducible refine Below.alloc ?_ (by (try simp) <;> omega) _ | with_reducible refine Below.setCell ?_ (by (try simp) <;> omega) _)) : Below wr.heap.size wr _) zr)) hG3 (by simp; omega) (fun k hk => (hO.out.owns.lt k hk).1))
        go_roundw
        case rel => first | exact ⟨k + 1, by omega, by go_num, by rw [H1.out]; exact hO3, HB3⟩ | exact ⟨k + 1, by omega, by omega, by rw [H1.out]; exact hO3⟩
        case measure => simp [intOf] <;> omega
    · obtain rfl : k = len := by omega
      rw [List.take_of_length_le (by rw [LL.out]; exact Nat.le_refl _)] at hO
      have HL : (l.filterMap Src.val).length ≤ 60 := by
        have := List.length_filterMap_le Src.val l
        have := LL.out; omega
      have hn : numsOf l is since now top = l.filterMap Src.val ++ if is && decide (0 ≤ top) then [cut (top + cut (now - since))] else [] := rfl
      generalize l.filterMap Src.val = l0 at *
      replace hO := Lib.hid hO
      have tok1 : True := trivial
      have g1 := cut_ge (now - since)
      have g2 := cut_le (now - since)
      by_cases hi : is = true ∧ 0 ≤ top
      · obtain ⟨rfl, ht⟩ := hi
        rw [show (true && decide (0 ≤ top)) = true from by simp [ht], if_pos rfl] at hn
        replace hn := Lib.hid hn
        go_wp2_with fail
        refine (ref_sub _ _ _ (by omega) (by omega) (by omega) (by omega)).mono ?_; rintro e w' ⟨rfl, rfl⟩
        unfold pairV
        go_wp2_with fail
        refine (ref_add _ _ _ (by omega) (by omega) (by omega) (by omega)).mono ?_; rintro e w' ⟨rfl, rfl⟩
        unfold pairV
        go_wp2_with (at_builtin; have _t := tok1; refine append_i64 31 2 infoI Try.underlying31 rfl _ _ rfl w.heap.size u11 l0 rfl (hO.out.below (by repeat (first | with_reducible exact Below.refl _ _ | with_reducible refine Below.drew ?_ | with_reducible refine Below.alloc ?_ (by (try simp) <;> omega) _ | with_reducible refine Below.setCell ?_ (by (try simp) <;> omega) _))) ⟨wr.heap.size, 0, none⟩ 1 (cut (top + cut (now - since))) rfl (by simp [go_sem]) (by omega) (by simp; omega) ?_; intro v2 w3 hO3 hG3; clear tok1; have HB3 : Below w.heap.size w w3 := Below.grown (Below.trans hbr (Below.mono ((by repeat (first | with_reducible exact Below.refl _ _ | with_reducible refine Below.drew ?_ | with_reducible refine Below.alloc ?_ (by (try simp) <;> omega) _ | with_reducible refine Below.setCell ?_ (by (try simp) <;> omega) _)) : Below wr.heap.size wr _) zr)) hG3 (by simp; omega) (fun k hk => (hO.out.owns.lt k hk).1))
        go_ret
        exact ⟨_, rfl, by rw [hn.out]; exact hO3, HB3⟩
      · rw [if_neg (by simpa using hi), List.append_nil] at hn
        replace hn := Lib.hid hn
        cases is
        · go_wp2_with fail
          go_ret
          exact ⟨_, rfl, by rw [hn.out]; exact hO.out, hbr⟩
        · have ht : top < 0 := by simp at hi; omega
          clear hi
          go_wp2_with fail
          go_ret
          exact ⟨_, rfl, by rw [hn.out]; exact hO.out, hbr⟩

/-- the least of numbers -/
def leastL (ns : List Int) : Option Int := ns.foldl least none
theorem leastL_snoc (ns : List Int) (x : Int) : leastL (ns ++ [x]) = least (leastL ns) x := by simp [leastL]
theorem leasts_eq (l : List Src) : leasts l = leastL (l.filterMap Src.val) := by
  have : ∀ (o : Option Int), l.foldl step o = (l.filterMap Src.val).foldl least o := by
    induction l with
    | nil => intro o; rfl
    | cons s l ih =>
      intro o
      cases hv : s.val with
      | none => simp only [List.foldl_cons, List.filterMap_cons, hv, step_none hv]; exact ih o
      | some v => simp only [List.foldl_cons, List.filterMap_cons, hv, step_some hv]; exact ih _
  exact this none
theorem bound_nums (l : List Src) (is : Bool) (since now top : Int) : boundOf l is since now top = markOf (leastL (numsOf l is since now top)) := by
  unfold boundOf numsOf idled
  rw [leasts_eq]
  split
  · rw [leastL_snoc]
  · rw [List.append_nil]
theorem leastL_ne {ns : List Int} (h : 0 < ns.length) : ∃ m, leastL ns = some m := by
  have : ∀ (ns : List Int) (m : Int), ∃ m', ns.foldl least (some m) = some m' := by
    intro ns
    induction ns with
    | nil => intro m; exact ⟨m, rfl⟩
    | cons x ns ih => intro m; rw [List.foldl_cons, least_some]; exact ih _
  cases ns with
  | nil => simp at h
  | cons x ns => exact this ns x

theorem take_succI {l : List Int} {k : Nat} (h : k < l.length) : l.take (k + 1) = l.take k ++ [l.getD k 0] := by
  rw [List.take_succ_eq_append_getElem h]; simp [List.getD, h]
theorem ref_bound (a : Option Addr) (len cap : Nat) (l : List Src) (is : Bool) (since now top : Int) (b1 : -9223372036854775808 ≤ since ∧ since ≤ 9223372036854775807) (b2 : -9223372036854775808 ≤ now ∧ now ≤ 9223372036854775807) (b3 : -9223372036854775808 ≤ top ∧ top ≤ 9223372036854775807) (w : World) (hS : RowS w a len l) (hl : len ≤ 60) :
    Calls Try.prog 13 #[.slice a len cap, .bool is, .int .i64 since, .int .i64 now, .int .i64 top] w fun e w' => e = .returned (.int .i64 (boundOf l is since now top)) ∧ Below w.heap.size w w' := by
  have LL := Lib.hid hS.length
  go_enter Try.func13, Try.ntmps13
  go_wp2_with fail
  refine (nums_any a len cap l is since now top b1 b2 b3 w hS hl).mono ?_; rintro e w1 ⟨v, rfl, hO, hb1⟩
  obtain ⟨q, cp, rfl, hR⟩ := hO.row (nums_range hS.ok is since now top)
  have hlen := @nums_length l is since now top
  have hr := fun j => hR.range j
  have BN := Lib.hid (bound_nums l is since now top)
  have HL60 : (numsOf l is since now top).length ≤ 61 := by have := LL.out; omega
  clear hlen hO
  generalize numsOf l is since now top = ns at *
  by_cases h0 : ns.length = 0
  · have : ns = [] := List.eq_nil_of_length_eq_zero h0
    subst this
    go_wp2_with fail
    go_ret
    exact ⟨ret_int (by rw [BN.out]; rfl), hb1⟩
  · rcases hR.at_ with e0 | ⟨b, off, rfl, hlb, hc⟩
    · omega
    generalize hn : ns.length = n at *
    have c0 := hc 0 (by omega)
    rw [Nat.add_zero] at c0
    have t1 : leastL (ns.take (0 + 1)) = some (ns.getD 0 0) := by rw [take_succI (by omega)]; rfl
    generalize ns.getD 0 0 = x0 at *
    replace t1 := Lib.hid t1
    replace hn := Lib.hid hn
    clear hR
    go_wp2_with fail
    go_loop [12, 13] (fun m i => ∃ (k : Nat) (x : Int), 1 ≤ k ∧ k ≤ n ∧ i = .int .i64 k ∧ m = .int .i64 x ∧ Hid (leastL (ns.take k) = some x)) (fun _ i => n - (intOf i).toNat)
    case atStart => exact ⟨1, x0, Nat.le_refl _, by omega, rfl, rfl, t1⟩
    case round =>
      obtain ⟨k, x, hk1, hk, rfl, rfl, hL⟩ := hrel
      by_cases hlt : k < n
      · have ck := hc k hlt
        have h1 : leastL (ns.take (k + 1)) = least (some x) (ns.getD k 0) := by rw [take_succI (by have := hn.out; omega), leastL_snoc, hL.out]
        generalize ns.getD k 0 = y at *
        rw [least_some] at h1
        by_cases hy : y < x
        · rw [if_pos hy] at h1
          replace h1 := Lib.hid h1
          clear hc hr
          go_wp2_with fail
          go_round
          case rel => exact ⟨k + 1, y, by omega, by omega, by go_num, rfl, h1⟩
          case measure => simp [intOf]; omega
        · rw [if_neg hy] at h1
          replace h1 := Lib.hid h1
          clear hc hr
          go_wp2_with fail
          go_round
          case rel => exact ⟨k + 1, x, by omega, by omega, by go_num, rfl, h1⟩
          case measure => simp [intOf]; omega
      · obtain rfl : k = n := by omega
        have hB : boundOf l is since now top = if x ≤ -1 then -1 else x := by
          have := hL.out
          rw [List.take_of_length_le (by have := hn.out; omega)] at this
          rw [BN.out, this]; rfl
        replace hB := Lib.hid hB
        clear hc hr BN
        by_cases hx : x < -1
        · go_wp2_with fail
          go_ret
          exact ⟨ret_int (by rw [hB.out, if_pos (by omega)]), hb1⟩
        · go_wp2_with fail
          go_ret
          exact ⟨ret_int (by rw [hB.out]; split <;> omega), hb1⟩
end Go.Proofs.Ytkdekdogfplbmaa
