/- octet.Reader: contracts. -/
import Derived.Test.YtdondjodonmebaaOctPut
import Derived.Test.YtdondjodonmebaaOctTake
namespace Go.Proofs.Ytdondjodonmebaa
open Go.RowKit
set_option linter.unusedVariables false
set_option linter.unusedSimpArgs false
set_option maxHeartbeats 2000000
set_option maxRecDepth 20000
/-- A reader at block g: what is left, and the error. -/
structure Rd (w : World) (g : Nat) (bs : List UInt8) (e : Int) : Prop where
  lt : g < w.heap.size
  ex : ∃ q len cap, w.cell? ⟨g, 0, none⟩ = some (.slice q len cap) ∧ RowB w q len cap bs ∧ ∀ x, q = some x → x.block < g
  err : w.cell? ⟨g, 1, none⟩ = some (.int .i64 e)
  f0 : w.frozen? ⟨g, 0, none⟩ = false
  f1 : w.frozen? ⟨g, 1, none⟩ = false
theorem grown_set (w : World) (a : Addr) (u : Value) : w.grownBy (w.setCell a u) (some a.block) :=
  ⟨rfl, rfl, rfl, by simp, fun k _ hk => heap_setCell_other w a k u (fun e => hk (by rw [e]))⟩
theorem RowB.far {w w' : World} {q : Option Addr} {len cap g : Nat} {bs : List UInt8} (h : RowB w q len cap bs) (hg : w.grownBy w' (some g)) (hq : ∀ x, q = some x → x.block ≠ g) : RowB w' q len cap bs :=
  ⟨h.length, h.small, h.le, by
    rcases h.at_ with h0 | ⟨b, off, rfl, hl, hc⟩
    · exact .inl h0
    · exact .inr ⟨b, off, rfl, Nat.lt_of_lt_of_le hl hg.size, fun i hi => hg.cell (hc i hi) (by have := hq _ rfl; simpa using this)⟩, h.nil⟩
theorem open_any (a : Option Addr) (len cap : Nat) (bs : List UInt8) (w : World) (h : RowB w a len cap bs) (hl : len ≤ 1000000000) :
    Calls Try.prog 20 #[.slice a len cap] w fun e w' => ∃ g, e = .returned (.pointer (some ⟨g, 0, none⟩)) ∧ w.heap.size ≤ g ∧ Rd w' g bs 0 ∧ Below w.heap.size w w' := by
  have tok1 : True := trivial
  replace h := Lib.hid h
  go_enter Try.func20, Try.ntmps20
  go_wp2_with (at_builtin; have _t := tok1; refine append_bytes 27 5 info8 Try.underlying27 rfl _ _ rfl w.heap.size (.slice none 0 0) [] 0 rfl rfl (OwnB.nil _ _ _) a len cap bs rfl h.out (by omega) (by omega) ?_; intro q1 c1 w1 hO1 hR1 hG1; clear tok1; simp only [Nat.zero_add, List.nil_append] at hO1 hR1 ⊢)
  go_ret
  have hne : ∀ x, q1 = some x → x.block < w1.heap.size := by
    obtain ⟨q, c, e, _, hq⟩ := hO1.row
    cases e
    intro x hx
    have := (hq x hx).2.2
    omega
  exact ⟨w1.heap.size, rfl, hG1.size, ⟨by simp, ⟨q1, len, c1, by simp [go_sem], hR1.below ((Below.refl _ _).alloc (Nat.le_refl _) _), hne⟩, by simp [go_sem], by simp [go_sem], by simp [go_sem]⟩, ((Below.refl w.heap.size w).grown hG1 (Nat.le_refl _) (fun k e => by cases e)).alloc hG1.size _⟩
theorem left_any (g : Nat) (bs : List UInt8) (e : Int) (w : World) (h : Rd w g bs e) : Calls Try.prog 24 #[.pointer (some ⟨g, 0, none⟩)] w fun x w' => x = .returned (.int .i64 bs.length) ∧ w = w' := by
  obtain ⟨_, ⟨q, len, cap, c0, hR, _⟩, c1, f0, f1⟩ := h
  have hl := hR.length
  go_enter Try.func24, Try.ntmps24
  go_wp2_with fail
  go_ret
  exact ⟨ret_int (by rw [hl]), rfl⟩
theorem left_none (w : World) : Calls Try.prog 24 #[.pointer none] w fun x w' => x = .returned (.int .i64 0) ∧ w = w' := by
  go_enter Try.func24, Try.ntmps24
  go_wp2_with fail
  go_ret
  exact ⟨rfl, rfl⟩
theorem err_any (g : Nat) (bs : List UInt8) (e : Int) (w : World) (h : Rd w g bs e) : Calls Try.prog 25 #[.pointer (some ⟨g, 0, none⟩)] w fun x w' => x = .returned (.int .i64 e) ∧ w = w' := by
  obtain ⟨_, ⟨q, len, cap, c0, hR, _⟩, c1, f0, f1⟩ := h
  go_enter Try.func25, Try.ntmps25
  go_wp2_with fail
  go_ret
  exact ⟨rfl, rfl⟩
theorem err_none (w : World) : Calls Try.prog 25 #[.pointer none] w fun x w' => x = .returned (.int .i64 10) ∧ w = w' := by
  go_enter Try.func25, Try.ntmps25
  go_wp2_with fail
  go_ret
  exact ⟨rfl, rfl⟩
def endOf (bs : List UInt8) (e : Int) : Int := if e ≠ 0 then e else if 0 < bs.length then 12 else 0
theorem end_any (g : Nat) (bs : List UInt8) (e : Int) (w : World) (h : Rd w g bs e) : Calls Try.prog 23 #[.pointer (some ⟨g, 0, none⟩)] w fun x w' => x = .returned (.int .i64 (endOf bs e)) ∧ w = w' := by
  have hm : bs.length ≤ 9223372036854775807 := by obtain ⟨_, ⟨q, len, cap, c0, hR, _⟩, c1, f0, f1⟩ := h; have := hR.small; have := hR.length; unfold maxLen at *; omega
  go_enter Try.func23, Try.ntmps23
  go_wp2_with fail
  refine (err_any g bs e w h).mono ?_; rintro e1 w' ⟨rfl, rfl⟩
  by_cases he : e = 0
  · subst he
    go_wp2_with fail
    refine (left_any g bs 0 w h).mono ?_; rintro e1 w' ⟨rfl, rfl⟩
    by_cases hb : 0 < bs.length
    · go_wp2_with fail
      go_ret
      exact ⟨ret_int (by simp [endOf, hb]), rfl⟩
    · go_wp2_with fail
      go_ret
      exact ⟨ret_int (by simp [endOf, hb]), rfl⟩
  · have he' : (e == 0) = false := by rw [beq_eq_false_iff_ne]; exact he
    go_wp2_with fail
    go_ret
    exact ⟨ret_int (by simp [endOf, he]), rfl⟩
theorem end_none (w : World) : Calls Try.prog 23 #[.pointer none] w fun x w' => x = .returned (.int .i64 10) ∧ w = w' := by
  go_enter Try.func23, Try.ntmps23
  go_wp2_with fail
  refine (err_none w).mono ?_; rintro e1 w' ⟨rfl, rfl⟩
  go_wp2_with fail
  go_ret
  exact ⟨rfl, rfl⟩

theorem fail_any (g : Nat) (bs : List UInt8) (e : Int) (x : Int) (w : World) (h : Rd w g bs e) : Calls Try.prog 33 #[.pointer (some ⟨g, 0, none⟩), .int .i64 x] w fun y w' => y = .returned (.tuple #[]) ∧ Rd w' g [] x ∧ w.grownBy w' (some g) := by
  obtain ⟨hlt, ⟨q, len, cap, c0, hR, _⟩, c1, f0, f1⟩ := h
  go_enter Try.func33, Try.ntmps33
  go_wp2_with fail
  go_end0
  exact ⟨rfl, ⟨by simpa using hlt, ⟨none, 0, 0, by simp [go_sem, c0, c1], ⟨rfl, Nat.zero_le _, Nat.le_refl _, .inl rfl, fun _ => rfl⟩, fun x e => by cases e⟩, by simp [go_sem, c0, c1], by simp [go_sem, f0, f1], by simp [go_sem, f0, f1]⟩, (grown_set w ⟨g, 0, none⟩ _).trans (grown_set _ ⟨g, 1, none⟩ _)⟩
/-- a slice's end -/
theorem RowB.drop {w : World} {b off len cap n : Nat} {bs : List UInt8} (h : RowB w (some ⟨b, off, none⟩) len cap bs) (hn : n ≤ len) : RowB w (some ⟨b, off + n, none⟩) (len - n) (cap - n) (bs.drop n) :=
  ⟨by rw [List.length_drop, h.length], by have := h.small; omega, by have := h.le; omega, by
    by_cases h0 : len - n = 0
    · exact .inl h0
    · rcases h.at_ with e | ⟨b', off', e, hl, hc⟩
      · omega
      · cases e
        refine .inr ⟨b, off + n, rfl, hl, fun i hi => ?_⟩
        have := hc (n + i) (by omega)
        rw [Nat.add_assoc, this]
        simp [List.getD], fun e => by cases e⟩
theorem take_le (bs : List UInt8) : (takeOf bs).2.1 ≤ bs.length := by
  unfold takeOf
  split
  · simp
  · split
    · simp; omega
    · split
      · simp
      · split
        · simp
        · show 1 + _ ≤ _; omega
theorem take_pos (bs : List UInt8) (h : (takeOf bs).2.2 = 0) : 0 < (takeOf bs).2.1 := by
  revert h
  unfold takeOf
  split
  · simp
  · split
    · simp
    · split
      · simp
      · split
        · simp
        · simp; omega
theorem RowB.take {w : World} {q : Option Addr} {len cap n : Nat} {bs : List UInt8} (h : RowB w q len cap bs) (hn : n ≤ len) : RowB w q n cap (bs.take n) :=
  ⟨by rw [List.length_take, h.length]; omega, by have := h.small; omega, by have := h.le; omega, by
    by_cases h0 : n = 0
    · exact .inl h0
    · rcases h.at_ with e | ⟨b, off, rfl, hl, hc⟩
      · omega
      · refine .inr ⟨b, off, rfl, hl, fun i hi => ?_⟩
        rw [hc i (by omega)]
        simp [List.getD, hi], h.nil⟩
theorem RowB.shut {w : World} {q : Option Addr} {len cap n : Nat} {bs : List UInt8} (h : RowB w q len cap bs) (hn : len ≤ n) (hc : n ≤ len) : RowB w q (len - n) 0 (bs.drop n) :=
  ⟨by rw [List.length_drop, h.length], by have := h.small; omega, by omega, .inl (by omega), fun _ => rfl⟩
theorem Rd.set {w : World} {g : Nat} {bs bs' : List UInt8} {e : Int} {q' : Option Addr} {len' cap' : Nat} (h : Rd w g bs e) (hR : RowB w q' len' cap' bs') (hq : ∀ x, q' = some x → x.block < g) : Rd (w.setCell ⟨g, 0, none⟩ (.slice q' len' cap')) g bs' e := by
  obtain ⟨hlt, ⟨q, len, cap, c0, _, _⟩, c1, f0, f1⟩ := h
  exact ⟨by simpa using hlt, ⟨q', len', cap', by simp [go_sem, c0], hR.far (grown_set w ⟨g, 0, none⟩ _) (fun x e => Nat.ne_of_lt (hq x e)), hq⟩, by simp [go_sem, c0, c1], by simp [go_sem, f0, f1], by simp [go_sem, f0, f1]⟩
theorem Rd.far {w w' : World} {g G : Nat} {bs : List UInt8} {e : Int} (h : Rd w g bs e) (hg : w.grownBy w' (some G)) (hG : g < G) : Rd w' g bs e := by
  obtain ⟨hlt, ⟨q, len, cap, c0, hR, hq⟩, c1, f0, f1⟩ := h
  have hne : ∀ o, some (⟨g, o, none⟩ : Addr).block ≠ some G := fun o e => by have := Option.some.inj e; simp only at this; omega
  exact ⟨Nat.lt_of_lt_of_le hlt hg.size, ⟨q, len, cap, hg.cell c0 (hne 0), hR.far hg (fun x e => by have := hq x e; omega), hq⟩, hg.cell c1 (hne 1), (World.grownBy.frozen_far hg ⟨g, 0, none⟩ hlt (hne 0)).trans f0, (World.grownBy.frozen_far hg ⟨g, 1, none⟩ hlt (hne 1)).trans f1⟩
/-- what Num makes of a reader -/
def rNum (bs : List UInt8) (e : Int) : Nat × List UInt8 × Int :=
  if e ≠ 0 then (0, bs, e) else if (takeOf bs).2.2 ≠ 0 then (0, [], (takeOf bs).2.2) else ((takeOf bs).1, bs.drop (takeOf bs).2.1, 0)
theorem num_none (w : World) : Calls Try.prog 21 #[.pointer none] w fun x w' => x = .returned (.int .u64 0) ∧ w = w' := by
  go_enter Try.func21, Try.ntmps21
  go_wp2_with fail
  go_ret
  exact ⟨rfl, rfl⟩
theorem num_any (g : Nat) (bs : List UInt8) (e : Int) (w : World) (h : Rd w g bs e) : Calls Try.prog 21 #[.pointer (some ⟨g, 0, none⟩)] w fun x w' => x = .returned (.int .u64 (rNum bs e).1) ∧ Rd w' g (rNum bs e).2.1 (rNum bs e).2.2 ∧ w.grownBy w' (some g) := by
  by_cases he : e = 0
  · subst he
    have h0 := h
    have h' := h
    obtain ⟨hlt, ⟨q, len, cap, c0, hR, hq⟩, c1, f0, f1⟩ := h'
    have hT := Lib.hid (take_any q len cap bs w hR)
    by_cases ht : (takeOf bs).2.2 = 0
    · have hle := take_le bs
      have hpos := take_pos bs ht
      have hl := hR.length
      have hr : rNum bs 0 = ((takeOf bs).1, bs.drop (takeOf bs).2.1, 0) := by unfold rNum; rw [if_neg (by simp), if_neg (by simpa using ht)]
      rcases hR.at_ with e0 | ⟨b, off, rfl, hlb, _⟩
      · omega
      have hcap := hR.le
      rw [hr]
      replace hT := hT.out
      unfold takeV at hT
      rw [ht] at hT
      clear hr
      generalize (takeOf bs).1 = u at *
      generalize (takeOf bs).2.1 = n at *
      replace hT := Lib.hid hT
      have hnl : n ≤ len := by omega
      go_enter Try.func21, Try.ntmps21
      go_wp2_with fail
      refine hT.out.mono ?_; rintro x w' ⟨rfl, rfl⟩
      go_wp2_with fail
      · go_ret
        exact ⟨rfl, h0.set (RowB.shut hR (by omega) (by omega)) hq, grown_set w ⟨g, 0, none⟩ _⟩
      · go_ret
        exact ⟨rfl, h0.set (hR.drop hnl) (fun x e => by cases e; exact hq ⟨b, off, none⟩ rfl), grown_set w ⟨g, 0, none⟩ _⟩
    · have ht' : ((takeOf bs).2.2 == 0) = false := by rw [beq_eq_false_iff_ne]; exact ht
      have hr : rNum bs 0 = (0, [], (takeOf bs).2.2) := by unfold rNum; rw [if_neg (by simp), if_pos ht]
      rw [hr]
      replace hT := hT.out
      unfold takeV at hT
      clear hr
      generalize hx : (takeOf bs).2.2 = x at *
      replace hT := Lib.hid hT
      go_enter Try.func21, Try.ntmps21
      go_wp2_with fail
      refine hT.out.mono ?_; rintro x w' ⟨rfl, rfl⟩
      go_wp2_with fail
      refine (fail_any g bs 0 x w h).mono ?_; rintro e1 w' ⟨rfl, hRd, hG⟩
      go_wp2_with fail
      go_ret
      exact ⟨rfl, hRd, hG⟩
  · have he' : (e == 0) = false := by rw [beq_eq_false_iff_ne]; exact he
    have hr : rNum bs e = (0, bs, e) := by unfold rNum; rw [if_pos he]
    rw [hr]
    have h' := h
    obtain ⟨hlt, ⟨q, len, cap, c0, hR, hq⟩, c1, f0, f1⟩ := h'
    go_enter Try.func21, Try.ntmps21
    go_wp2_with fail
    go_ret
    exact ⟨rfl, h, World.grownBy.refl _ _⟩

theorem takeOf_lt (bs : List UInt8) : (takeOf bs).1 < 18446744073709551616 := by
  unfold takeOf
  have hx := (bs.getD 0 0).toNat_lt
  split
  · simp
  · split
    · show _ < _; omega
    · split
      · simp
      · split
        · simp
        · have h1 := valOf_lt ((bs.drop 1).take ((bs.getD 0 0).toNat - 247))
          have h2 : 256 ^ ((bs.drop 1).take ((bs.getD 0 0).toNat - 247)).length ≤ 256 ^ 8 := Nat.pow_le_pow_right (by omega) (by rw [List.length_take]; omega)
          exact Nat.lt_of_lt_of_le h1 h2
theorem rNum_lt (bs : List UInt8) (e : Int) : (rNum bs e).1 < 18446744073709551616 := by
  unfold rNum
  split
  · simp
  · split
    · simp
    · exact takeOf_lt bs
/-- what Text makes of a reader -/
def rText (bs : List UInt8) (e : Int) (most : Int) : List UInt8 × List UInt8 × Int :=
  if (rNum bs e).2.2 ≠ 0 then ([], (rNum bs e).2.1, (rNum bs e).2.2)
  else if max most 0 < ((rNum bs e).1 : Int) then ([], [], 13)
  else if (rNum bs e).2.1.length < (rNum bs e).1 then ([], [], 10)
  else ((rNum bs e).2.1.take (rNum bs e).1, (rNum bs e).2.1.drop (rNum bs e).1, 0)
theorem text_any (g : Nat) (bs : List UInt8) (e : Int) (most : Int) (hm : -9223372036854775808 ≤ most ∧ most ≤ 9223372036854775807) (w : World) (h : Rd w g bs e) : Calls Try.prog 22 #[.pointer (some ⟨g, 0, none⟩), .int .i64 most] w fun x w' => x = .returned (.string ⟨(rText bs e most).1.toArray⟩) ∧ Rd w' g (rText bs e most).2.1 (rText bs e most).2.2 ∧ w.grownBy w' (some g) := by
  have hN := Lib.hid (num_any g bs e w h)
  have hr : rText bs e most = if (rNum bs e).2.2 ≠ 0 then ([], (rNum bs e).2.1, (rNum bs e).2.2) else if max most 0 < ((rNum bs e).1 : Int) then ([], [], 13) else if (rNum bs e).2.1.length < (rNum bs e).1 then ([], [], 10) else ((rNum bs e).2.1.take (rNum bs e).1, (rNum bs e).2.1.drop (rNum bs e).1, 0) := rfl
  have hu := rNum_lt bs e
  generalize rNum bs e = t at *
  obtain ⟨u, bs1, e1⟩ := t
  simp only at hr hN hu
  by_cases he : e1 = 0
  · rw [if_neg (by simpa using he)] at hr
    subst he
    by_cases h1 : max most 0 < (u : Int)
    · rw [if_pos h1] at hr
      rw [hr]
      clear hr
      go_enter Try.func22, Try.ntmps22
      go_wp2_with fail
      refine hN.out.mono ?_; rintro x w1 ⟨rfl, hR1, hG1⟩
      have hR1' := hR1
      obtain ⟨hlt, ⟨q, len, cap, c0, hR, hq⟩, c1, f0, f1⟩ := hR1'
      go_wp2_with fail
      refine (fail_any g bs1 0 13 w1 hR1).mono ?_; rintro x w2 ⟨rfl, hR2, hG2⟩
      go_wp2_with fail
      go_ret
      exact ⟨rfl, hR2, hG1.trans hG2⟩
    · rw [if_neg h1] at hr
      by_cases h2 : bs1.length < u
      · rw [if_pos h2] at hr
        rw [hr]
        clear hr
        go_enter Try.func22, Try.ntmps22
        go_wp2_with fail
        refine hN.out.mono ?_; rintro x w1 ⟨rfl, hR1, hG1⟩
        have hR1' := hR1
        obtain ⟨hlt, ⟨q, len, cap, c0, hR, hq⟩, c1, f0, f1⟩ := hR1'
        have hl := hR.length
        have hsm : len ≤ 9223372036854775807 := by have := hR.small; unfold maxLen at this; omega
        have h1' : (u : Int) ≤ max most 0 := by omega
        have h2' : (len : Int) < u := by omega
        go_wp2_with fail
        refine (fail_any g bs1 0 10 w1 hR1).mono ?_; rintro x w2 ⟨rfl, hR2, hG2⟩
        go_wp2_with fail
        go_ret
        exact ⟨rfl, hR2, hG1.trans hG2⟩
      · rw [if_neg h2] at hr
        rw [hr]
        clear hr
        go_enter Try.func22, Try.ntmps22
        go_wp2_with fail
        refine hN.out.mono ?_; rintro x w1 ⟨rfl, hR1, hG1⟩
        have hR1' := hR1
        obtain ⟨hlt, ⟨q, len, cap, c0, hR, hq⟩, c1, f0, f1⟩ := hR1'
        have hl := hR.length
        have hsm : len ≤ 9223372036854775807 := by have := hR.small; unfold maxLen at this; omega
        have h1' : (u : Int) ≤ max most 0 := by omega
        have hul : u ≤ len := by omega
        have hcv := (hR.take hul).conv 27 9 5 Try.underlying27 Try.underlying5 Try.underlying9
        have hcap := hR.le
        rcases hR.at_ with e0 | ⟨b, off, rfl, hlb, _⟩
        · subst e0
          obtain rfl : u = 0 := by omega
          have hb0 : bs1 = [] := List.eq_nil_of_length_eq_zero (by omega)
          subst hb0
          go_wp2_with fail
          go_ret
          exact ⟨rfl, hR1.set hR hq, hG1.trans (grown_set w1 ⟨g, 0, none⟩ _)⟩
        · go_wp2_with fail
          · go_ret
            exact ⟨rfl, hR1.set (RowB.shut hR (by omega) (by omega)) hq, hG1.trans (grown_set w1 ⟨g, 0, none⟩ _)⟩
          · go_ret
            exact ⟨rfl, hR1.set (hR.drop hul) (fun x e => by cases e; exact hq ⟨b, off, none⟩ rfl), hG1.trans (grown_set w1 ⟨g, 0, none⟩ _)⟩
  · rw [if_pos he] at hr
    rw [hr]
    have he' : (e1 == 0) = false := by rw [beq_eq_false_iff_ne]; exact he
    clear hr
    go_enter Try.func22, Try.ntmps22
    go_wp2_with fail
    refine hN.out.mono ?_; rintro x w1 ⟨rfl, hR1, hG1⟩
    have hR1' := hR1
    obtain ⟨hlt, ⟨q, len, cap, c0, hR, hq⟩, c1, f0, f1⟩ := hR1'
    go_wp2_with fail
    go_ret
    exact ⟨rfl, hR1, hG1⟩
theorem text_none (most : Int) (w : World) : Calls Try.prog 22 #[.pointer none, .int .i64 most] w fun x w' => x = .returned (.string ⟨#[]⟩) ∧ w = w' := by
  go_enter Try.func22, Try.ntmps22
  go_wp2_with fail
  refine (num_none w).mono ?_; rintro x w1 ⟨rfl, rfl⟩
  go_wp2_with fail
  go_ret
  exact ⟨rfl, rfl⟩
end Go.Proofs.Ytdondjodonmebaa
