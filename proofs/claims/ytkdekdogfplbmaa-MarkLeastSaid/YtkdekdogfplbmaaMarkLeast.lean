/- The walk of MarkLeast. -/
import Derived.Test.YtkdekdogfplbmaaMarkAwake
import Derived.Test.YtkdekdogfplbmaaMarkMath2
import Derived.Test.YtkdekdogfplbmaaMarkOpen
import Derived.Test.YtkdekdogfplbmaaMarkOwn
import Derived.Deep.RegionWith
import Derived.Deep.QuietTactic
namespace Go.Proofs.Ytkdekdogfplbmaa
open Go.RowKit
set_option linter.unusedVariables false
set_option linter.unusedSimpArgs false
set_option maxHeartbeats 4000000
set_option maxRecDepth 20000

theorem sv_one (l : List Src) : ∀ u ∈ sv l, u.oneCell' = true := by
  intro u hu
  simp only [sv, List.mem_flatMap] at hu
  obtain ⟨s, _, hs⟩ := hu
  simp at hs
  rcases hs with rfl | rfl | rfl | rfl <;> rfl
/-- append of a whole slice of sources that may be read. -/
theorem append_srcs {P : Program} {w : World} {ops : Array Oper} {rest : List Oper} {o : Oper} {a : Act} {Q : Exit → Act → World → Prop} (T t : TypeId) (hinfo : (P.info? t).map (fun i => (i.zero, i.size, i.bytes)) = some (some (.agg #[.bool false, .int .i64 0, .bool false, .int .i64 0]), 4, 32)) (hT : P.underlying T = some (.slice t))
    (hgd : o.guard = none) (s x : Operand) (ho : o.op = .call { callee := .builtin .append, args := #[s, x], argTypes := #[T, T] })
    (base : Nat) (v : Value) (l : List Src) (hs : a.eval s = v) (hO : OwnS t base w v l) (q : Option Addr) (m c : Nat) (ys : List Src) (hx : a.eval x = .slice q m c) (hrow : RowS w q m ys) (hnil : q = none → c = 0)
    (hroom : l.length + m ≤ 1000000) (hbase : base ≤ w.heap.size)
    (h : ∀ v' w', OwnS t base w' v' (l ++ ys) → w.grownBy w' v.ownBlock → wpList P ops Q rest (a.put o.dst v') w') : wpList P ops Q (o :: rest) a w := by
  obtain ⟨i, hi, hz, hsz, hby⟩ := info_parts hinfo
  have hm := hrow.length
  have fin : ∀ (v' : Value) (w' : World), w'.ownsRow base t 4 v' (l.length + m) (sv l ++ sv ys) → w.grownBy w' v.ownBlock → wpList P ops Q rest (a.put o.dst v') w' :=
    fun v' w' h1 h2 => h v' w' ⟨by rw [sv_append, List.length_append, hm]; exact h1, by rw [List.length_append]; unfold maxLen; omega⟩ h2
  cases q with
  | none =>
    have hc0 := hnil rfl
    subst hc0
    have hm0 : m = 0 := by
      rcases hrow.at_ with e | ⟨b, off, e, _⟩
      · exact e
      · cases e
    subst hm0
    have hb0 : ys = [] := List.eq_nil_of_length_eq_zero hm
    subst hb0
    refine wpList_append_own_none hgd s x T ho base t i 4 hT hi v l.length (sv l) hs hO.owns hx ?_
    exact fin v w (by simpa [sv] using hO.owns) ⟨rfl, rfl, rfl, Nat.le_refl _, fun _ _ _ => rfl⟩
  | some ad =>
    refine wpList_append_own w hgd s x T ho base t i _ 4 32 hT hi hz hsz hby (by rfl) (by omega) v l.length (sv l) hs hO.owns ad m c (sv ys) hx (by rw [sv_length, hm]) ?_ (sv_one ys) (by unfold maxLen; omega) (by omega) hbase (fun v' w' h1 h2 _ => fin v' w' h1 h2)
    intro j u hu
    have hj : j < ys.length * 4 := by
      have := (List.getElem?_eq_some_iff.1 hu).1
      rw [sv_length] at this; exact this
    rcases hrow.at_ with h0 | ⟨b, off, e, _, hc⟩
    · omega
    · cases e
      obtain ⟨k, r, rfl, hr⟩ : ∃ k r, j = k * 4 + r ∧ r < 4 := ⟨j / 4, j % 4, by omega, Nat.mod_lt _ (by omega)⟩
      obtain ⟨f0, f1, f2, f3⟩ := sv_get ys k (by omega)
      obtain ⟨c0, c1, c2, c3⟩ := hc k (by omega)
      rw [WideShapes.add_plain, ← Nat.add_assoc]
      match r, hr with
      | 0, _ => rw [Nat.add_zero] at hu; rw [f0] at hu; cases hu; exact c0
      | 1, _ => rw [f1] at hu; cases hu; exact c1
      | 2, _ => rw [f2] at hu; cases hu; exact c2
      | 3, _ => rw [f3] at hu; cases hu; exact c3
theorem infoS : (Try.prog.info? 38).map (fun i => (i.zero, i.size, i.bytes)) = some (some (.agg #[.bool false, .int .i64 0, .bool false, .int .i64 0]), 4, 32) := by kernel_rfl
theorem anyOf_succ (l : List Src) (s : Src) (is : Bool) (top : Int) : anyOf (l ++ [s]) is top = (anyOf l is top || (s.has || s.active)) := by simp [anyOf, Bool.or_assoc]

theorem markLeast_walk (a : Option Addr) (len cap : Nat) (l : List Src) (ac : Bool) (lo : Int) (blo : -9223372036854775808 ≤ lo ∧ lo ≤ 9223372036854775807) (ha : Bool) (he : Int) (bhe : -9223372036854775808 ≤ he ∧ he ≤ 9223372036854775807) (is : Bool) (since : Int) (b1 : -9223372036854775808 ≤ since ∧ since ≤ 9223372036854775807) (now : Int) (b2 : -9223372036854775808 ≤ now ∧ now ≤ 9223372036854775807) (top : Int) (b3 : -9223372036854775808 ≤ top ∧ top ≤ 9223372036854775807) (w : World) (hSN : RowS w a len l ∧ (a = none → cap = 0)) :
    Calls Try.prog 5 #[.slice a len cap, .agg #[.bool ac, .int .i64 lo, .bool ha, .int .i64 he], .agg #[.bool is, .int .i64 since, .int .i64 now], .int .i64 top] w fun e w' => e = .returned (.bool true) ∧ Below w.heap.size w w' := by
  obtain ⟨hS, hN⟩ := hSN
  have hm : len ≤ 9223372036854775807 := by have := hS.small; unfold maxLen at this; omega
  have LL := Lib.hid hS.length
  go_enter Try.func5, Try.ntmps5
  go_wp2_with fail
  refine (awake_any _).mono ?_; rintro e w1 ⟨rfl, hb1⟩
  have z1 := hb1.size
  simp at z1
  have B1 : Below w.heap.size w w1 := by
    refine Below.trans ?_ (hb1.mono (by simp; omega))
    exact (by repeat (first | with_reducible exact Below.refl _ _ | with_reducible refine Below.drew ?_ | with_reducible refine Below.alloc ?_ (by (try simp) <;> omega) _ | with_reducible refine Below.setCell ?_ (by (try simp) <;> omega) _))
  have E0 : ∀ W, Below w1.heap.size w1 W → W.cell? ⟨w.heap.size + 1, 0, none⟩ = some (.bool is) := fun W hW => ((hW.cell (p := ⟨w.heap.size + 1, 0, none⟩) (by simp; omega)).trans (hb1.cell (p := ⟨w.heap.size + 1, 0, none⟩) (by simp <;> omega))).trans (by simp [go_sem])
  have E1 : ∀ W, Below w1.heap.size w1 W → W.cell? ⟨w.heap.size + 1, 1, none⟩ = some (.int .i64 since) := fun W hW => ((hW.cell (p := ⟨w.heap.size + 1, 1, none⟩) (by simp; omega)).trans (hb1.cell (p := ⟨w.heap.size + 1, 1, none⟩) (by simp <;> omega))).trans (by simp [go_sem])
  have E2 : ∀ W, Below w1.heap.size w1 W → W.cell? ⟨w.heap.size + 1, 2, none⟩ = some (.int .i64 now) := fun W hW => ((hW.cell (p := ⟨w.heap.size + 1, 2, none⟩) (by simp; omega)).trans (hb1.cell (p := ⟨w.heap.size + 1, 2, none⟩) (by simp <;> omega))).trans (by simp [go_sem])
  have S0 : ∀ W, Below w1.heap.size w1 W → W.cell? ⟨w.heap.size, 0, none⟩ = some (.bool ac) := fun W hW => ((hW.cell (p := ⟨w.heap.size, 0, none⟩) (by simp; omega)).trans (hb1.cell (p := ⟨w.heap.size, 0, none⟩) (by simp <;> omega))).trans (by simp [go_sem])
  have S1 : ∀ W, Below w1.heap.size w1 W → W.cell? ⟨w.heap.size, 1, none⟩ = some (.int .i64 lo) := fun W hW => ((hW.cell (p := ⟨w.heap.size, 1, none⟩) (by simp; omega)).trans (hb1.cell (p := ⟨w.heap.size, 1, none⟩) (by simp <;> omega))).trans (by simp [go_sem])
  have S2 : ∀ W, Below w1.heap.size w1 W → W.cell? ⟨w.heap.size, 2, none⟩ = some (.bool ha) := fun W hW => ((hW.cell (p := ⟨w.heap.size, 2, none⟩) (by simp; omega)).trans (hb1.cell (p := ⟨w.heap.size, 2, none⟩) (by simp <;> omega))).trans (by simp [go_sem])
  have S3 : ∀ W, Below w1.heap.size w1 W → W.cell? ⟨w.heap.size, 3, none⟩ = some (.int .i64 he) := fun W hW => ((hW.cell (p := ⟨w.heap.size, 3, none⟩) (by simp; omega)).trans (hb1.cell (p := ⟨w.heap.size, 3, none⟩) (by simp <;> omega))).trans (by simp [go_sem])
  have hS1 := hS.below B1
  by_cases hl : 60 < len
  · go_wp2_with fail
    go_ret
    exact ⟨rfl, B1⟩
  · have e0 := E0 w1 (Below.refl _ _)
    have e1 := E1 w1 (Below.refl _ _)
    have e2 := E2 w1 (Below.refl _ _)
    replace E0 := Lib.hid E0; replace E1 := Lib.hid E1; replace E2 := Lib.hid E2; replace S0 := Lib.hid S0; replace S1 := Lib.hid S1; replace S2 := Lib.hid S2; replace S3 := Lib.hid S3
    go_wp2_with fail
    refine (bound_any a len cap l is since now top b1 b2 b3 w1 hS1).mono ?_; rintro e w2 ⟨rfl, hb2⟩
    have hs2 := hS1.below hb2
    have z2 := hb2.size
    have B2 := B1.trans (hb2.mono (by omega))
    have t0 := E0.out w2 hb2
    have bad := fun (s : Src) (h1 : s ∈ l) => srcBad_no l is since now top h1 (hS.ok s h1)
    have law := least_law l ⟨ac, lo, ha, he⟩ is since now top
    have an0 : anyOf (l.take 0) is top = (is && decide (0 ≤ top)) := by unfold anyOf; simp only [List.take_zero, List.any_nil, Bool.or_false]
    generalize hbb : boundOf l is since now top = b at *
    obtain ⟨isv, his⟩ : ∃ x, is = x := ⟨_, rfl⟩
    have bad' : ∀ s : Src, s ∈ l → srcBad b s = false := fun s h1 => by have := bad s h1; exact this
    rw [his] at law an0
    rw [← his] at an0
    have an1 : anyOf (l.take 0) isv top = (is && decide (0 ≤ top)) := by rw [← his]; exact an0
    replace law := Lib.hid law
    replace bad' := Lib.hid bad'
    replace hbb := Lib.hid hbb
    clear bad an0
    replace his := Lib.hid his
    cases is
    all_goals
      go_wp2_with fail
      go_loopw [11, 12] (fun v i wr => wr = w2 ∧ ∃ k : Nat, k ≤ len ∧ i = .int .i64 k ∧ v = .bool (anyOf (l.take k) isv top)) (fun v i wr => len - (intOf i).toNat)
      case atStart => exact ⟨rfl, 0, Nat.zero_le _, rfl, by rw [an1]; first | rfl | simp⟩
      case round =>
        obtain ⟨rfl, k, hk, rfl, rfl⟩ := hrel
        by_cases hlt : k < len
        · rcases hs2.at_ with g0 | ⟨bb, off, rfl, hlb, hc⟩
          · omega
          obtain ⟨c0, c1, c2, c3⟩ := hc k hlt
          have hts := take_succS (l := l) (k := k) (by rw [LL.out]; exact hlt)
          have H1 := Lib.hid (anyOf_succ (l.take k) (l.getD k default) isv top)
          rw [← hts] at H1
          have hnb := bad'.out _ (getD_mem (l := l) (n := k) (by have := LL.out; omega))
          generalize l.getD k default = s at *
          obtain ⟨sa, sl, sh, se⟩ := s
          simp only at c0 c1 c2 c3
          generalize anyOf (l.take k) isv top = y at *
          clear hts hc
          by_cases hb1' : -1 < b
          · cases sh
            · cases sa
              · cases y
                · go_wp2_with fail
                  go_roundw
                  case rel => (first | exact ⟨trivial, k + 1, by omega, by go_num, by rw [H1.out]; rfl⟩ | exact ⟨trivial, k + 1, by omega, by omega, by rw [H1.out]; rfl⟩ | exact ⟨rfl, k + 1, by omega, by go_num, by rw [H1.out]; rfl⟩ | exact ⟨k + 1, by omega, by omega, by rw [H1.out]; rfl⟩)
                  case measure => simp [intOf]; omega
                · go_wp2_with fail
                  go_roundw
                  case rel => (first | exact ⟨trivial, k + 1, by omega, by go_num, by rw [H1.out]; rfl⟩ | exact ⟨trivial, k + 1, by omega, by omega, by rw [H1.out]; rfl⟩ | exact ⟨rfl, k + 1, by omega, by go_num, by rw [H1.out]; rfl⟩ | exact ⟨k + 1, by omega, by omega, by rw [H1.out]; rfl⟩)
                  case measure => simp [intOf]; omega
              · simp [srcBad, hb1'] at hnb
                cases y
                · go_wp2_with fail
                  go_roundw
                  case rel => (first | exact ⟨trivial, k + 1, by omega, by go_num, by rw [H1.out]; rfl⟩ | exact ⟨trivial, k + 1, by omega, by omega, by rw [H1.out]; rfl⟩ | exact ⟨rfl, k + 1, by omega, by go_num, by rw [H1.out]; rfl⟩ | exact ⟨k + 1, by omega, by omega, by rw [H1.out]; rfl⟩)
                  case measure => simp [intOf]; omega
                · go_wp2_with fail
                  go_roundw
                  case rel => (first | exact ⟨trivial, k + 1, by omega, by go_num, by rw [H1.out]; rfl⟩ | exact ⟨trivial, k + 1, by omega, by omega, by rw [H1.out]; rfl⟩ | exact ⟨rfl, k + 1, by omega, by go_num, by rw [H1.out]; rfl⟩ | exact ⟨k + 1, by omega, by omega, by rw [H1.out]; rfl⟩)
                  case measure => simp [intOf]; omega
            · simp [srcBad, hb1'] at hnb
              cases y
              · go_wp2_with fail
                go_roundw
                case rel => (first | exact ⟨trivial, k + 1, by omega, by go_num, by rw [H1.out]; rfl⟩ | exact ⟨trivial, k + 1, by omega, by omega, by rw [H1.out]; rfl⟩ | exact ⟨rfl, k + 1, by omega, by go_num, by rw [H1.out]; rfl⟩ | exact ⟨k + 1, by omega, by omega, by rw [H1.out]; rfl⟩)
                case measure => simp [intOf]; omega
              · go_wp2_with fail
                go_roundw
                case rel => (first | exact ⟨trivial, k + 1, by omega, by go_num, by rw [H1.out]; rfl⟩ | exact ⟨trivial, k + 1, by omega, by omega, by rw [H1.out]; rfl⟩ | exact ⟨rfl, k + 1, by omega, by go_num, by rw [H1.out]; rfl⟩ | exact ⟨k + 1, by omega, by omega, by rw [H1.out]; rfl⟩)
                case measure => simp [intOf]; omega
          · cases sh <;> cases sa <;> cases y
            all_goals
              go_wp2_with fail
              go_roundw
              case rel => (first | exact ⟨trivial, k + 1, by omega, by go_num, by rw [H1.out]; rfl⟩ | exact ⟨trivial, k + 1, by omega, by omega, by rw [H1.out]; rfl⟩ | exact ⟨rfl, k + 1, by omega, by go_num, by rw [H1.out]; rfl⟩ | exact ⟨k + 1, by omega, by omega, by rw [H1.out]; rfl⟩)
              case measure => simp [intOf]; omega
        · obtain rfl : k = len := by omega
          rw [List.take_of_length_le (by rw [LL.out]; exact Nat.le_refl _)]
          generalize hany : anyOf l isv top = any at *
          have O0 : OwnS 38 wr.heap.size wr (.slice none 0 0) [] := ⟨World.ownsRow_nil _ _ _ _, by simp⟩
          have tok1 : True := trivial
          have tok2 : True := trivial
          have LN : l.length ≤ 60 := by have := LL.out; omega
          replace O0 := Lib.hid O0
          replace hs2 := Lib.hid hs2
          go_wp2_with (first
            | (at_builtin; have _t := tok1; refine append_srcs 22 38 infoS Try.underlying22 rfl _ _ rfl wr.heap.size (.slice none 0 0) [] rfl O0.out a k cap l rfl hs2.out hN (by simp; omega) (Nat.le_refl _) ?_; intro v3 w3 hO3 hG3; clear tok1; simp only [List.nil_append] at hO3; have D3 := (Below.refl wr.heap.size wr).grown hG3 (Nat.le_refl _) (fun k e => by cases e); have z3 := D3.size; have HB3 := hb2.trans (D3.mono (by omega)); have s0 := S0.out w3 HB3; have s1 := S1.out w3 HB3; have s2 := S2.out w3 HB3; have s3 := S3.out w3 HB3; replace hO3 := Lib.hid hO3)
            | (at_builtin; have _t := tok2; refine append_src 22 38 infoS Try.underlying22 rfl _ _ rfl wr.heap.size v3 l rfl (hO3.out.below (by repeat (first | with_reducible exact Below.refl _ _ | with_reducible refine Below.drew ?_ | with_reducible refine Below.alloc ?_ (by (try simp) <;> omega) _ | with_reducible refine Below.setCell ?_ (by (try simp) <;> omega) _))) ⟨w3.heap.size, 0, none⟩ 1 ⟨ac, lo, ha, he⟩ rfl (by simp [SrcAt, go_sem]) (by omega) (by simp; omega) ?_; intro v4 w4 hO4 hG4; clear tok2; have D4 : Below wr.heap.size wr w4 := Below.grown (Below.trans D3 (Below.mono ((by repeat (first | with_reducible exact Below.refl _ _ | with_reducible refine Below.drew ?_ | with_reducible refine Below.alloc ?_ (by (try simp) <;> omega) _ | with_reducible refine Below.setCell ?_ (by (try simp) <;> omega) _)) : Below w3.heap.size w3 _) (by omega))) hG4 (by simp; omega) (fun k hk => (hO3.out.owns.lt k hk).1); obtain ⟨q4, cp4, rfl, hR4⟩ := hO4.row (fun s hs => (List.mem_append.1 hs).elim (fun h => hS.ok s h) (fun h => by rw [List.mem_singleton.1 h]; exact ⟨blo.1, blo.2, bhe.1, bhe.2⟩)); have HB4 := hb2.trans (D4.mono (by omega)); have t4 := E0.out w4 HB4; have t5 := E1.out w4 HB4; have t6 := E2.out w4 HB4; clear s0 s1 s2 s3))
          simp only [List.length_append, List.length_cons, List.length_nil, Nat.zero_add] at hR4
          refine (bound_any q4 (l.length + 1) cp4 (l ++ [⟨ac, lo, ha, he⟩]) _ since now top b1 b2 b3 w4 hR4).mono ?_; rintro e w5 ⟨rfl, hb5⟩
          have B5 := (B1.trans (HB4.mono (by omega))).trans (hb5.mono (by have := D4.size; omega))
          have his' := his.out
          subst his'
          obtain ⟨g1, g2, g3, g4⟩ := law.out
          generalize boundOf (l ++ [⟨ac, lo, ha, he⟩]) _ since now top = c at *
          cases any
          · have := g4 rfl
            go_wp2_with fail
            all_goals (go_ret; exact ⟨rfl, B5⟩)
          · have := g3 rfl
            go_wp2_with fail
            all_goals (go_ret; exact ⟨rfl, B5⟩)
end Go.Proofs.Ytkdekdogfplbmaa
