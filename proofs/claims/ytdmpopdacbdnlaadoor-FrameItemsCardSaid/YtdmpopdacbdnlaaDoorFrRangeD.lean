/- 'for x := range d.Items() { .. }' over a decoder that is used behind the loop: the law of the loop, the decoder told. -/
import Derived.Test.YtdmpopdacbdnlaaDoorFrRange
namespace Go.Proofs.YtdmpopdacbdnlaaDoor
open Go.RowKit Go.Shelf
attribute [local go_sem] Oper.semAt_some
set_option linter.unusedVariables false
set_option linter.unusedSimpArgs false
set_option maxHeartbeats 4000000
set_option maxRecDepth 20000
theorem BodIn.nilE {w : World} {g : Nat} {S : Nat → Prop} {rs : List UInt8} {sk : Nat} {ov : Bool} (h : Dec w g S ⟨rs, sk, [], ov⟩) (E : Nat → Prop) : BodIn w g ⟨rs, sk, [], ov⟩ E := by
  obtain ⟨rq, rn, rc, fq, fn, fc, hM⟩ := h.m
  refine BodIn.of hM.c2 ?_
  obtain ⟨h1, h2, h3, h4, h5⟩ := hM.fnd
  refine ⟨h1, h2, h3, h4, h5.imp id ?_⟩
  rintro ⟨b, off, e, h6, h7, h8, h9⟩
  have hn : fn = 0 := by simpa using h1.symm
  exact ⟨b, off, e, trivial, h7, h8, fun i hi => by omega⟩
theorem items1_d (m l bx g B0 : Nat) (hm : 1 ≤ m) (X0 : Nat → Prop) (hX : X0 bx) (J Jx : List It → (Nat → Prop) → World → Prop) (hJ : Abide X0 J) (rs : List UInt8) (sk : Nat) (ov : Bool) (its : List It)
    (hY : ∀ pre x rest S W q n c, its = pre ++ x :: rest → J pre S W → Dec W g S ⟨rs, sk, rest, ov⟩ → (∀ k, X0 k → k < W.heap.size ∧ ¬ S k) → BodIn W g ⟨rs, sk, rest, ov⟩ (fun k => k < B0) → RowB W q n c x.body → (∀ y, q = some y → y.block < B0 ∧ ¬ S y.block) →
      YieldAt Fence.wide (m - 1) Tryd.prog l #[itA x q n c] W fun e W' =>
        (e = .returned (.bool true) ∧ J (pre ++ [x]) S W' ∧ MayTurn B0 (fun k => S k ∨ k = bx) W W') ∨ (e = .returned (.bool false) ∧ Jx (pre ++ [x]) S W'))
    (S0 : Nat → Prop) (W : World) (h0 : J [] S0 W) (hD : Dec W g S0 ⟨rs, sk, its, ov⟩) (hB : BodIn W g ⟨rs, sk, its, ov⟩ (fun k => k < B0)) (hX0 : ∀ k, X0 k → k < W.heap.size ∧ ¬ S0 k)
    (hbx : W.cell? ⟨bx, 0, none⟩ = some (.pointer (some ⟨g, 0, none⟩))) :
    CallsIn Fence.wide m Tryd.prog 70 #[.func (.yield l) #[] #[], .pointer (some ⟨bx, 0, none⟩)] W fun e W' => (∃ v, e = .returned v) ∧
      ((∃ S' : Nat → Prop, J its S' W' ∧ Dec W' g S' ⟨rs, sk, [], ov⟩ ∧ ∀ k, X0 k → ¬ S' k) ∨ (∃ pre, ∃ S' : Nat → Prop, Jx pre S' W')) := by
  have HN := Lib.hid (fun S d W h => next_any g S d W h)
  replace hJ := Lib.hid hJ
  replace hY := Lib.hid hY
  have hlt := hX0 bx hX
  have heq := fun W => eql_yield_nil W l #[] #[]
  refine callsIn_of_wp Tryd.func70 rfl trivial ?_ rfl
  simp only [Tryd.ntmps70, List.size_toArray, List.length_cons, List.length_nil, Nat.reduceAdd, Nat.reduceSub, Array.replicate_succ, Array.replicate_zero, List.push_toArray, List.append_toArray, List.nil_append, List.cons_append]
  gi_wp2
  gi_loopw [3] (fun p wr => ∃ (pre rest : List It) (S : Nat → Prop), its = pre ++ rest ∧ Hid (J pre S wr) ∧ Hid (Dec wr g S ⟨rs, sk, rest, ov⟩) ∧ Hid (BodIn wr g ⟨rs, sk, rest, ov⟩ (fun k => k < B0)) ∧ Hid (∀ k, X0 k → k < wr.heap.size ∧ ¬ S k) ∧ wr.cell? ⟨bx, 0, none⟩ = some (.pointer (some ⟨g, 0, none⟩)))
    (fun p wr => heldN wr g)
  case atStart => exact ⟨[], its, S0, rfl, Lib.hid h0, Lib.hid hD, Lib.hid hB, Lib.hid hX0, hbx⟩
  case round =>
    clear h0 hD hB hX0 hbx hlt
    obtain ⟨pre, rest, S, hits, hJ0, hD, hB, hX0, hbx⟩ := hrel
    have hlt := hX0.out bx hX
    have HNX := HN.out S _ wr hD.out
    cases rest with
    | nil =>
      simp only [List.getD_nil, List.length_nil, Nat.lt_irrefl, decide_false] at HNX
      replace HNX := Lib.hid HNX
      gi_wp2_with (refine ⟨trivial, ?_⟩; gi_at_call 22; refine (callsIn_wide.2 HNX.out).mono ?_; rintro e w2 ⟨q, n, c, rfl, hR, hq, ⟨S2, hD2, hT2, hS2⟩, hE⟩)
      have J2 := hJ.out _ _ _ S2 _ hJ0.out hT2 hX0.out hS2
      have hX2 : ∀ k, X0 k → k < w2.heap.size ∧ ¬ S2 k := fun k hk => ⟨Nat.lt_of_lt_of_le (hX0.out k hk).1 hT2.size, fun h => (hS2 k h).elim (hX0.out k hk).2 (fun h => by have := (hX0.out k hk).1; omega)⟩
      have hp : its = pre := by rw [hits, List.append_nil]
      subst hp
      have J3 := Lib.hid J2
      have D3 := Lib.hid hD2
      have A3 : Below w2.heap.size w2 (w2.alloc (.cells #[.int .i64 (It.no.skip : Int), .int .u8 (It.no.kind.toNat : Int), .slice q n c] 39)) := (Below.refl _ _).alloc (Nat.le_refl _) _
      have J4 := Lib.hid (hJ.out _ _ _ S2 _ J2 (Turn.ofBelow (S := S2) A3 rfl) hX2 (fun k h => .inl h))
      have D4 := Lib.hid (Dec.apart hD2 hD2.bod (Turn.ofBelow (S := fun _ => False) A3 rfl) (fun _ _ h => h.elim) (fun _ _ h => h)).1
      have hX5 := Lib.hid hX2
      clear J2 hD2 hR hq hE hB hY hJ hJ0 hD J3 D3 A3
      gi_wp2
      refine ⟨fun _ h => (by cases h), ?_⟩
      gi_wp2
      refine bodyPost_ret (results_none rfl _ _ _) rfl ?_
      exact ⟨⟨_, rfl⟩, .inl ⟨S2, J4.out, D4.out, fun k hk => (hX5.out k hk).2⟩⟩
    | cons x rest =>
      have hDr := Lib.hid hD.out.heldN
      simp only [List.getD_cons_zero, List.length_cons, Nat.zero_lt_succ, decide_true] at HNX
      replace HNX := Lib.hid HNX
      gi_wp2_with (refine ⟨trivial, ?_⟩; gi_at_call 22; refine (callsIn_wide.2 HNX.out).mono ?_; rintro e w2 ⟨q, n, c, rfl, hR, hq, ⟨S2, hD2, hT2, hS2⟩, hE⟩)
      have J2 := hJ.out _ _ _ S2 _ hJ0.out hT2 hX0.out hS2
      have hX2 : ∀ k, X0 k → k < w2.heap.size ∧ ¬ S2 k := fun k hk => ⟨Nat.lt_of_lt_of_le (hX0.out k hk).1 hT2.size, fun h => (hS2 k h).elim (hX0.out k hk).2 (fun h => by have := (hX0.out k hk).1; omega)⟩
      have bx2 := (hT2.cell (p := ⟨bx, 0, none⟩) hlt.1 hlt.2).trans hbx
      obtain ⟨hB2, hq2⟩ := hE _ hB.out
      have hq3 : ∀ y, q = some y → y.block < B0 ∧ ¬ S2 y.block := fun y hy => ⟨hq2 y hy, fun h => (hS2 _ h).elim (hq y hy).1 (fun h => by have := (hq y hy).2; omega)⟩
      have A3 : Below w2.heap.size w2 (w2.alloc (.cells #[.int .i64 (x.skip : Int), .int .u8 (x.kind.toNat : Int), .slice q n c] 39)) := (Below.refl _ _).alloc (Nat.le_refl _) _
      have T3 := Turn.ofBelow (S := S2) A3 rfl
      have T3' := Turn.ofBelow (S := fun _ => False) A3 rfl
      have J3 := hJ.out _ _ _ S2 _ J2 T3 hX2 (fun k h => .inl h)
      obtain ⟨hD3, hB3⟩ := Dec.apart hD2 hB2 T3' (fun _ _ h => h.elim) (fun _ _ h => h)
      have hX3 : ∀ k, X0 k → k < (w2.alloc (.cells #[.int .i64 (x.skip : Int), .int .u8 (x.kind.toNat : Int), .slice q n c] 39)).heap.size ∧ ¬ S2 k := fun k hk => ⟨Nat.lt_of_lt_of_le (hX2 k hk).1 A3.size, (hX2 k hk).2⟩
      have hdn : St.next ⟨rs, sk, x :: rest, ov⟩ = ⟨rs, sk, rest, ov⟩ := rfl
      rw [hdn] at hD3 hB3
      have bx3 := (A3.cell (p := ⟨bx, 0, none⟩) (hX2 bx hX).1).trans bx2
      have hR3 := hR.below A3
      obtain ⟨fn, tmps, assign, body, hy, hRd⟩ := hY.out pre x rest S2 _ q n c hits J3 hD3 hX3 hB3 hR3 hq3
      have D3 := Lib.hid hD3
      have B3 := Lib.hid hB3
      have X3 := Lib.hid hX3
      unfold itA at hy
      clear J2 hX2 bx2 hB2 hq2 hE hq3 hR hR3 T3 T3' J3 hD2 hD3 hB3 hX3 hq hY hB hD hX0 hJ0 hT2 hdn
      gi_wp2
      rw [hy]
      clear hy
      gi_wp2
      refine hRd.mono ?_
      rintro e W3 (⟨rfl, hJ3, T, hT, hT1, hT2⟩ | ⟨rfl, hJx3⟩)
      · obtain ⟨hD4, hB4⟩ := Dec.apart D3.out B3.out hT (fun k hk ht hs => hT1 k hk ht (.inl hs)) (fun k hk ht => by have := hT2 k ht; omega)
        have hX4 : ∀ k, X0 k → k < W3.heap.size ∧ ¬ S2 k := fun k hk => ⟨Nat.lt_of_lt_of_le (X3.out k hk).1 hT.size, (X3.out k hk).2⟩
        have bx4 := (hT.cell (p := ⟨bx, 0, none⟩) (X3.out bx hX).1 (fun ht => hT1 bx (X3.out bx hX).1 ht (.inr rfl))).trans bx3
        have e4 := hD4.heldN
        have e3 := hDr.out
        replace hJ3 := Lib.hid hJ3
        replace hD4 := Lib.hid hD4
        replace hB4 := Lib.hid hB4
        replace hX4 := Lib.hid hX4
        clear hRd D3 B3 X3 bx3 hT hT1 hT2
        gi_wp2
        go_roundw
        case rel => exact ⟨pre ++ [x], rest, S2, by rw [hits]; simp, hJ3, hD4, hB4, hX4, bx4⟩
        case measure => rw [e3, e4]; simp
      · clear hRd D3 B3 X3 bx3
        gi_wp2
        refine bodyPost_ret (results_none rfl _ _ _) rfl ?_
        exact ⟨⟨_, rfl⟩, .inr ⟨pre ++ [x], S2, hJx3⟩⟩
theorem range_items_d {gop : Operand} {ps : Array Tmp} {assign body : Code} {Q : Exit → Act → World → Prop} {a : Act} {w : World} {n : Nat} (hn : 2 ≤ n) (g bx B0 : Nat)
    (hg : a.eval gop = .func (.func 70) #[] #[.pointer (some ⟨bx, 0, none⟩)]) (hps : ps.size = 1)
    (S0 : Nat → Prop) (rs : List UInt8) (sk : Nat) (ov : Bool) (its : List It) (hD : Dec w g S0 ⟨rs, sk, its, ov⟩) (hB : BodIn w g ⟨rs, sk, its, ov⟩ (fun k => k < B0)) (hbx : w.cell? ⟨bx, 0, none⟩ = some (.pointer (some ⟨g, 0, none⟩))) (hbS : ¬ S0 bx) (hbl : bx < w.heap.size) (hB0 : B0 ≤ bx)
    (I : List It → (Nat → Prop) → World → Prop) (Ix : Code → List It → (Nat → Prop) → World → Prop) (hI : Steady I) (hIx : ∀ c pre S W o, Ix c pre S W → Ix c pre S (W.putObj (w.heap.size + 1) o)) (h0 : I [] (fun k => S0 k ∨ k = bx) w)
    (act1 : It → Option Addr → Nat → Nat → Nat → Act)
    (hassign : ∀ (l : Nat) (x : It) (q : Option Addr) (m c : Nat) (W : World) (K : Act → World → Prop), K (act1 x q m c W.heap.size) (W.alloc (.cells #[.int .i64 (x.skip : Int), .int .u8 (x.kind.toNat : Int), .slice q m c] 39)) →
      assign.wpIn (Fence.wide.inRound l) (n - 1 - 1) Tryd.prog (Exit.then K (fun _ _ _ => False)) { tmps := (ps.zip #[itA x q m c]).foldl (fun t (p, v) => t.setIfInBounds p v) a.tmps, defers := [] } W)
    (hbody : ∀ (l : Nat) (pre : List It) (x : It) (rest : List It) (S : Nat → Prop) (q : Option Addr) (m c X : Nat) (W : World), its = pre ++ x :: rest → I pre S W → (∀ k, S k → k < W.heap.size) → w.heap.size ≤ X → X < W.heap.size → ¬ S X →
      W.cell? ⟨X, 0, none⟩ = some (.int .i64 (x.skip : Int)) → W.cell? ⟨X, 1, none⟩ = some (.int .u8 (x.kind.toNat : Int)) → W.cell? ⟨X, 2, none⟩ = some (.slice q m c) → RowB W q m c x.body → (∀ y, q = some y → y.block < B0 ∧ ¬ S y.block) → (∃ Sd : Nat → Prop, Dec W g Sd ⟨rs, sk, rest, ov⟩ ∧ BodIn W g ⟨rs, sk, rest, ov⟩ (fun k => k < B0) ∧ (∀ k, Sd k → S k ∧ k ≠ bx ∧ k ≠ w.heap.size ∧ k ≠ w.heap.size + 1) ∧ S (w.heap.size + 1)) →
      body.wpIn (Fence.wide.inRound l) (n - 1 - 1) Tryd.prog (rPost B0 I Ix (pre ++ [x]) S W) (act1 x q m c X) W)
    (hdone : ∀ (S : Nat → Prop) (W : World), I its S W → (∃ Sd : Nat → Prop, Dec W g Sd ⟨rs, sk, [], ov⟩ ∧ (∀ k, Sd k → S k ∧ k ≠ w.heap.size)) → W.heap[w.heap.size]? = some (.deferred (some [])) → S w.heap.size → Q .normal { a with defers := { target := .collected w.heap.size, args := #[] } :: a.defers } W)
    (hstop : ∀ (c : Code) (pre : List It) (S : Nat → Prop) (W : World), Ix c pre S W → W.heap[w.heap.size]? = some (.deferred (some [])) → S w.heap.size → c.wpIn Fence.wide n Tryd.prog Q { a with defers := { target := .collected w.heap.size, args := #[] } :: a.defers } W) :
    (Code.rangeFunc gop ps assign body).wpIn Fence.wide n Tryd.prog Q a w := by
  refine wpIn_rangeFunc ?_
  intro fn hfn
  rw [show Fence.wide.round = none from rfl]
  obtain ⟨rec, hrec⟩ : ∃ rec : LoopState → Option Code → Loop, rec = fun st pe => { state := st, pending := pe, fn, tmps := a.tmps, params := ps, assign, body, defers := w.heap.size } := ⟨_, rfl⟩
  obtain ⟨W1, hW1⟩ : ∃ W1, (w.alloc (.deferred (some []))).alloc (.loop (rec .ready none)) = W1 := ⟨_, rfl⟩
  have hz1 : W1.heap.size = w.heap.size + 2 := by rw [← hW1]; simp
  have hL1 : W1.heap[w.heap.size + 1]? = some (.loop (rec .ready none)) := by
    rw [← hW1]; have := World.alloc_heap_new (w.alloc (.deferred (some []))) (.loop (rec .ready none)); rwa [World.size_alloc] at this
  have hK1 : W1.heap[w.heap.size]? = some (.deferred (some [])) := by
    rw [← hW1]; exact (Below.heap_alloc _ _ _ (by simp)).trans (World.alloc_heap_new w _)
  have hb1 : Below w.heap.size w W1 := by
    rw [← hW1]; exact ((Below.refl _ w).alloc (Nat.le_refl _) _).alloc (by simp) _
  obtain ⟨X0, hX0⟩ : ∃ X0 : Nat → Prop, X0 = fun k => k = bx ∨ k = w.heap.size ∨ k = w.heap.size + 1 := ⟨_, rfl⟩
  have hXD : X0 w.heap.size := by rw [hX0]; exact .inr (.inl rfl)
  have hXL : X0 (w.heap.size + 1) := by rw [hX0]; exact .inr (.inr rfl)
  have hI1 : I [] (fun k => S0 k ∨ X0 k) W1 := hI _ _ _ _ _ h0 (Turn.ofBelow hb1 rfl) (fun k hk => by
    rw [hX0] at hk
    rcases hk with h | h | h | h
    · exact .inl (.inl h)
    · exact .inl (.inr h)
    · exact .inr (by omega)
    · exact .inr (by omega))
  obtain ⟨hD1, hB1⟩ := Dec.apart hD hB (Turn.ofBelow (S := fun _ => False) hb1 rfl) (fun _ _ h => h.elim) (fun _ _ h => h)
  have hbx1 := (hb1.cell (p := ⟨bx, 0, none⟩) hbl).trans hbx
  have hX1 : ∀ k, X0 k → k < W1.heap.size ∧ ¬ S0 k := fun k hk => by
    rw [hX0] at hk
    rcases hk with h | h | h
    · subst h; exact ⟨by omega, hbS⟩
    · subst h; exact ⟨by omega, fun hs => by have := hD.lt _ hs; omega⟩
    · subst h; exact ⟨by omega, fun hs => by have := hD.lt _ hs; omega⟩
  refine ⟨w.heap.size + 1, [{ target := .collected w.heap.size, args := #[] }], W1, { target := .fn (.func 70) #[.pointer (some ⟨bx, 0, none⟩)], args := #[.func (.yield (w.heap.size + 1)) #[] #[]] }, W1, 70,
    #[.func (.yield (w.heap.size + 1)) #[] #[]] ++ #[.pointer (some ⟨bx, 0, none⟩)], W1, ?_, ?_, ?_, ?_, fun _ => by omega, ?_⟩
  · rw [← hW1, hrec]; exact run_enterLoop_outer _ _ _ _ _
  · simp only [resolve, hg]
    simp [go_sem]
  · intro f' hf'; trivial
  · have eg := enters_of Tryd.func70 (by kernel_rfl) rfl
    simp [invoke, go_sem, eg]
  · have main := items1_d (n - 1) (w.heap.size + 1) bx g B0 (by omega) X0 (by rw [hX0]; exact .inl rfl)
      (fun pre S W => I pre (fun k => S k ∨ X0 k) W ∧ W.heap[w.heap.size + 1]? = some (.loop (rec .ready none)) ∧ W.heap[w.heap.size]? = some (.deferred (some [])))
      (fun pre S W => ∃ c, Ix c pre (fun k => S k ∨ X0 k) W ∧ W.heap[w.heap.size + 1]? = some (.loop (rec .done (some c))) ∧ W.heap[w.heap.size]? = some (.deferred (some [])))
      (fun pre S W S' W' hs ht hx hS' => ⟨hI _ _ _ _ _ hs.1 (ht.mono (fun _ _ h => .inl h)) (fun k hk => hk.elim (fun h => (hS' k h).elim (fun h => .inl (.inl h)) .inr) (fun h => .inl (.inr h))), Turn.heap ht hs.2.1 (hx _ hXL).2, Turn.heap ht hs.2.2 (hx _ hXD).2⟩)
      rs sk ov its ?_ S0 W1 ⟨hI1, hL1, hK1⟩ hD1 hB1 hX1 hbx1
    · refine main.mono ?_
      rintro e W2 ⟨⟨v, rfl⟩, (⟨S, ⟨hi, hl, hk⟩, hDd, hXd⟩ | ⟨pre, S, c, hi, hl, hk⟩)⟩
      · have T5 : Turn (fun k => S k ∨ X0 k) W2 (W2.putObj (w.heap.size + 1) (.loop { rec .ready none with state := .exhausted })) := (Turn.putObj W2 _ _).mono (fun k _ e => by subst e; exact .inr hXL)
        exact ⟨none, _, by subst hrec; exact run_endLoop (P := Tryd.prog) hl (by simp), hdone _ _ (hI _ _ _ _ _ hi T5 (fun k h => .inl h)) ⟨S, (Dec.apart hDd (BodIn.nilE hDd (fun _ => False)) (Turn.putObj W2 (w.heap.size + 1) _) (fun k _ e he => by subst e; exact hXd _ hXL he) (fun k hk2 e => hk2)).1, fun k hk2 => ⟨.inl hk2, fun e => by subst e; exact hXd _ hXD hk2⟩⟩ ((World.putObj_heap_other (by omega)).trans hk) (.inr hXD)⟩
      · have T5 : Turn (fun k => S k ∨ X0 k) W2 (W2.putObj (w.heap.size + 1) (.loop { rec .done (some c) with state := .exhausted })) := (Turn.putObj W2 _ _).mono (fun k _ e => by subst e; exact .inr hXL)
        exact ⟨some c, _, by subst hrec; exact run_endLoop (P := Tryd.prog) hl (by simp), hstop c pre _ _ (hIx c _ _ _ _ hi) ((World.putObj_heap_other (by omega)).trans hk) (.inr hXD)⟩
    · rintro pre x rest S W q m c hits ⟨hi, hl, hk⟩ hDW hXW hBW hRW hqW
      have hlt : w.heap.size + 1 < W.heap.size := (Array.getElem?_eq_some_iff.1 hl).1
      have hy := run_yield (P := Tryd.prog) (args := #[itA x q m c]) hl (by rw [hrec]; exact hps.symm)
      rw [hrec] at hy
      refine ⟨fn, _, assign, body, hy, roundIn_of_wpIn hfn (hassign _ x q m c W _ ?_)⟩
      clear hy
      -- the round: the variable's box lies at W.heap.size
      have AW : Below W.heap.size W (W.alloc (.cells #[.int .i64 (x.skip : Int), .int .u8 (x.kind.toNat : Int), .slice q m c] 39)) := (Below.refl _ _).alloc (Nat.le_refl _) _
      have TW := Turn.ofBelow (S := fun k => S k ∨ X0 k) AW rfl
      have hi2 := hI _ _ _ (fun k => S k ∨ X0 k) _ hi TW (fun k h => .inl h)
      have hl2 := Turn.heap (Turn.ofBelow (S := fun _ => False) AW rfl) hl (fun h => h)
      have hk2 := Turn.heap (Turn.ofBelow (S := fun _ => False) AW rfl) hk (fun h => h)
      have c0 : (W.alloc (.cells #[.int .i64 (x.skip : Int), .int .u8 (x.kind.toNat : Int), .slice q m c] 39)).cell? ⟨W.heap.size, 0, none⟩ = some (.int .i64 (x.skip : Int)) := by simp [go_sem]
      have c1 : (W.alloc (.cells #[.int .i64 (x.skip : Int), .int .u8 (x.kind.toNat : Int), .slice q m c] 39)).cell? ⟨W.heap.size, 1, none⟩ = some (.int .u8 (x.kind.toNat : Int)) := by simp [go_sem]
      have c2 : (W.alloc (.cells #[.int .i64 (x.skip : Int), .int .u8 (x.kind.toNat : Int), .slice q m c] 39)).cell? ⟨W.heap.size, 2, none⟩ = some (.slice q m c) := by simp [go_sem]
      have hR2 := hRW.below AW
      obtain ⟨Wa, hWa⟩ : ∃ Wa, W.alloc (.cells #[.int .i64 (x.skip : Int), .int .u8 (x.kind.toNat : Int), .slice q m c] 39) = Wa := ⟨_, rfl⟩
      have hza : Wa.heap.size = W.heap.size + 1 := by rw [← hWa]; simp
      rw [hWa] at AW TW hi2 hl2 hk2 c0 c1 c2 hR2 ⊢
      refine ⟨_, run_beginRound hl2 (by rw [hrec]), ?_⟩
      have TB := Turn.putObj Wa (w.heap.size + 1) (.loop { rec .ready none with state := .busy })
      obtain ⟨Wb, hWb⟩ : ∃ Wb, Wa.putObj (w.heap.size + 1) (.loop { rec .ready none with state := .busy }) = Wb := ⟨_, rfl⟩
      have hlb : Wb.heap[w.heap.size + 1]? = some (.loop { rec .ready none with state := .busy }) := by rw [← hWb]; exact World.putObj_heap_same (by omega)
      rw [hWb] at TB ⊢
      have hzb : Wb.heap.size = Wa.heap.size := by rw [← hWb]; simp
      have hkb := Turn.heap TB hk2 (by omega)
      have hib := hI _ _ _ (fun k => S k ∨ X0 k) _ hi2 (TB.mono (fun k _ e => by subst e; exact .inr hXL)) (fun k h => .inl h)
      have hcell : ∀ j, Wb.cell? ⟨W.heap.size, j, none⟩ = Wa.cell? ⟨W.heap.size, j, none⟩ := fun j => TB.cell (p := ⟨W.heap.size, j, none⟩) (by show W.heap.size < _; omega) (by show ¬ W.heap.size = _; omega)
      have hRb : RowB Wb q m c x.body := by
        refine hR2.turn TB (fun y hy e => ?_)
        have hq3 := (hqW y hy).1
        omega
      have hnS : ¬ (S W.heap.size ∨ X0 W.heap.size) := fun h => h.elim (fun h => by have := hDW.lt _ h; omega) (fun h => by have := (hXW _ h).1; omega)
      have hDb : ∃ Sd : Nat → Prop, Dec Wb g Sd ⟨rs, sk, rest, ov⟩ ∧ BodIn Wb g ⟨rs, sk, rest, ov⟩ (fun k => k < B0) ∧ (∀ k, Sd k → (S k ∨ X0 k) ∧ k ≠ bx ∧ k ≠ w.heap.size ∧ k ≠ w.heap.size + 1) ∧ (S (w.heap.size + 1) ∨ X0 (w.heap.size + 1)) := by
        obtain ⟨hDa, hBa⟩ := Dec.apart hDW hBW (Turn.ofBelow (S := fun _ => False) AW rfl) (fun _ _ h => h.elim) (fun _ _ h => h)
        obtain ⟨hDb, hBb⟩ := Dec.apart hDa hBa TB (fun k _ e he => by subst e; exact (hXW _ hXL).2 he) (fun k hk e => by omega)
        exact ⟨S, hDb, hBb, fun k hk => ⟨.inl hk, fun e => by subst e; exact (hXW _ (by rw [hX0]; exact .inl rfl)).2 hk, fun e => by subst e; exact (hXW _ hXD).2 hk, fun e => by subst e; exact (hXW _ hXL).2 hk⟩, .inr hXL⟩
      refine wpIn_mono (hbody _ pre x rest (fun k => S k ∨ X0 k) q m c W.heap.size Wb hits hib (fun k hk => hk.elim (fun h => by have := hDW.lt _ h; omega) (fun h => by have := (hXW _ h).1; omega)) (by omega) (by omega) hnS ((hcell 0).trans c0) ((hcell 1).trans c1) ((hcell 2).trans c2) hRb (fun y hy => ⟨(hqW y hy).1, fun h => h.elim (hqW y hy).2 (fun h => by have := (hqW y hy).1; rw [hX0] at h; omega)⟩) hDb) ?_
      have fin : ∀ (jump : Option Code) (W3 : World) (T : Nat → Prop), Turn T Wb W3 → (∀ k, k < Wb.heap.size → T k → ¬ (S k ∨ X0 k)) →
          (Instr.endRound (w.heap.size + 1) jump).run Tryd.prog W3 = .ok (.bool jump.isNone) (W3.putObj (w.heap.size + 1) (.loop (rec (if jump.isNone then .ready else .done) jump))) ∧
          (W3.putObj (w.heap.size + 1) (.loop (rec (if jump.isNone then .ready else .done) jump))).heap[w.heap.size + 1]? = some (.loop (rec (if jump.isNone then .ready else .done) jump)) ∧
          (W3.putObj (w.heap.size + 1) (.loop (rec (if jump.isNone then .ready else .done) jump))).heap[w.heap.size]? = some (.deferred (some [])) := fun jump W3 T hT hTS => by
        have hl3 := Turn.heap hT hlb (fun h => hTS _ (by omega) h (.inr hXL))
        have hk3 := Turn.heap hT hkb (fun h => hTS _ (by omega) h (.inr hXD))
        have := run_endRound (P := Tryd.prog) jump hl3
        rw [hrec] at this ⊢
        exact ⟨this, World.putObj_heap_same (Array.getElem?_eq_some_iff.1 hl3).1, (World.putObj_heap_other (by omega)).trans hk3⟩
      have leave : ∀ (cc : Code) (W3 : World), MayTurn 0 (fun k => S k ∨ X0 k) Wb W3 → Ix cc (pre ++ [x]) (fun k => S k ∨ X0 k) W3 → ∃ v w', (Instr.endRound (w.heap.size + 1) (some cc)).run Tryd.prog W3 = .ok v w' ∧ Ending.returned v = .returned (.bool false) ∧ ∃ c, Ix c (pre ++ [x]) (fun k => S k ∨ X0 k) w' ∧ w'.heap[w.heap.size + 1]? = some (.loop (rec .done (some c))) ∧ w'.heap[w.heap.size]? = some (.deferred (some [])) := fun cc W3 hm hix => by
        obtain ⟨T, hT, hTS, _⟩ := hm
        obtain ⟨hr, hl4, hk4⟩ := fin (some cc) W3 T hT hTS
        exact ⟨_, _, hr, rfl, cc, hIx cc _ _ _ _ hix, hl4, hk4⟩
      rintro e a3 W3 hp
      cases e with
      | normal =>
        obtain ⟨⟨T, hT, hTS, hTB⟩, hi3⟩ := hp
        obtain ⟨hr, hl4, hk4⟩ := fin none W3 T hT hTS
        have TP := Turn.putObj W3 (w.heap.size + 1) (.loop (rec (if (none : Option Code).isNone then .ready else .done) none))
        have T1 : Turn (fun k => T k ∨ k = w.heap.size + 1) W Wa := Turn.ofBelow AW rfl
        have T2 := T1.trans (TB.mono (T := fun k => T k ∨ k = w.heap.size + 1) (fun k _ e => .inr e)) (fun _ _ h => h)
        have T3 := T2.trans (hT.mono (T := fun k => T k ∨ k = w.heap.size + 1) (fun k _ e => .inl e)) (fun _ _ h => h)
        have T4 := T3.trans (TP.mono (T := fun k => T k ∨ k = w.heap.size + 1) (fun k _ e => .inr e)) (fun _ _ h => h)
        refine ⟨_, _, hr, .inl ⟨rfl, ⟨hI _ _ _ _ _ hi3 (TP.mono (fun k _ e => by subst e; exact .inr hXL)) (fun k h => .inl h), hl4, hk4⟩, _, T4, ?_, ?_⟩⟩
        · rintro k hk (ht | rfl) hs
          · refine hTS k (by omega) ht (hs.elim .inl (fun h => .inr ?_))
            rw [hX0]; exact .inl h
          · exact hs.elim (hXW _ hXL).2 (fun h => by omega)
        · rintro k (ht | rfl)
          · exact hTB k ht
          · omega
      | ret =>
        obtain ⟨v, w', h1, h2, h3⟩ := leave .ret W3 hp.1 hp.2
        exact ⟨v, w', h1, .inr ⟨h2, h3⟩⟩
      | exit id =>
        obtain ⟨v, w', h1, h2, h3⟩ := leave (.exit id) W3 hp.1 hp.2
        exact ⟨v, w', h1, .inr ⟨h2, h3⟩⟩
      | goto t =>
        obtain ⟨v, w', h1, h2, h3⟩ := leave (.goto t) W3 hp.1 hp.2
        exact ⟨v, w', h1, .inr ⟨h2, h3⟩⟩
      | panic ch => exact hp.elim
      | outgrown => exact hp.elim
end Go.Proofs.YtdmpopdacbdnlaaDoor
