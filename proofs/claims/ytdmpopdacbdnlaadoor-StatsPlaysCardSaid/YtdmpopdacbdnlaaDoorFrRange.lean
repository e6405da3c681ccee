/- 'for it := range d.Items() { .. }': the law of the loop. -/
import Derived.Test.YtdmpopdacbdnlaaDoorFrIter
namespace Go.Proofs.YtdmpopdacbdnlaaDoor
open Go.RowKit Go.Shelf
attribute [local go_sem] Oper.semAt_some
set_option linter.unusedVariables false
set_option linter.unusedSimpArgs false
set_option maxHeartbeats 4000000
set_option maxRecDepth 20000
/-- what the caller's own invariants abide: S' is S and what is new -/
def Steady (I : List It → (Nat → Prop) → World → Prop) : Prop := ∀ pre S W S' W', I pre S W → Turn S W W' → (∀ k, S' k → S k ∨ W.heap.size ≤ k) → I pre S' W'
/-- how a round's body may end -/
def rPost (B0 : Nat) (I : List It → (Nat → Prop) → World → Prop) (Ix : Code → List It → (Nat → Prop) → World → Prop) (xs : List It) (S : Nat → Prop) (W : World) : Exit → Act → World → Prop
  | .normal, _, W' => MayTurn B0 S W W' ∧ I xs S W'
  | .ret, _, W' => MayTurn 0 S W W' ∧ Ix .ret xs S W'
  | .exit id, _, W' => MayTurn 0 S W W' ∧ Ix (.exit id) xs S W'
  | .goto t, _, W' => MayTurn 0 S W W' ∧ Ix (.goto t) xs S W'
  | .panic _, _, _ => False
  | .outgrown, _, _ => False
theorem Turn.putObj (w : World) (r : Nat) (o : Obj) : Turn (fun k => k = r) w (w.putObj r o) := ⟨rfl, rfl, rfl, by simp, fun i _ hn => World.putObj_heap_other hn⟩
theorem Turn.heap {S : Nat → Prop} {w w' : World} (h : Turn S w w') {k : Nat} {o : Obj} (ho : w.heap[k]? = some o) (hn : ¬ S k) : w'.heap[k]? = some o := (h.block k (Array.getElem?_eq_some_iff.1 ho).1 hn).trans ho
theorem range_items {gop : Operand} {ps : Array Tmp} {assign body : Code} {Q : Exit → Act → World → Prop} {a : Act} {w : World} {n : Nat} (hn : 2 ≤ n) (g bx B0 : Nat)
    (hg : a.eval gop = .func (.func 70) #[] #[.pointer (some ⟨bx, 0, none⟩)]) (hps : ps.size = 1)
    (S0 : Nat → Prop) (rs : List UInt8) (sk : Nat) (ov : Bool) (its : List It) (hD : Dec w g S0 ⟨rs, sk, its, ov⟩) (hB : BodIn w g ⟨rs, sk, its, ov⟩ (fun k => k < B0)) (hbx : w.cell? ⟨bx, 0, none⟩ = some (.pointer (some ⟨g, 0, none⟩))) (hbS : ¬ S0 bx) (hbl : bx < w.heap.size) (hB0 : B0 ≤ bx)
    (I : List It → (Nat → Prop) → World → Prop) (Ix : Code → List It → (Nat → Prop) → World → Prop) (hI : Steady I) (hIx : ∀ c, Steady (Ix c)) (h0 : I [] (fun k => S0 k ∨ k = bx) w)
    (act1 : It → Option Addr → Nat → Nat → Nat → Act)
    (hassign : ∀ (l : Nat) (x : It) (q : Option Addr) (m c : Nat) (W : World) (K : Act → World → Prop), K (act1 x q m c W.heap.size) (W.alloc (.cells #[.int .i64 (x.skip : Int), .int .u8 (x.kind.toNat : Int), .slice q m c] 39)) →
      assign.wpIn (Fence.wide.inRound l) (n - 1 - 1) Tryd.prog (Exit.then K (fun _ _ _ => False)) { tmps := (ps.zip #[itA x q m c]).foldl (fun t (p, v) => t.setIfInBounds p v) a.tmps, defers := [] } W)
    (hbody : ∀ (l : Nat) (pre : List It) (x : It) (rest : List It) (S : Nat → Prop) (q : Option Addr) (m c X : Nat) (W : World), its = pre ++ x :: rest → I pre S W → (∀ k, S k → k < W.heap.size) → w.heap.size ≤ X → X < W.heap.size → ¬ S X →
      W.cell? ⟨X, 0, none⟩ = some (.int .i64 (x.skip : Int)) → W.cell? ⟨X, 1, none⟩ = some (.int .u8 (x.kind.toNat : Int)) → W.cell? ⟨X, 2, none⟩ = some (.slice q m c) → RowB W q m c x.body → (∀ y, q = some y → y.block < B0 ∧ ¬ S y.block) →
      body.wpIn (Fence.wide.inRound l) (n - 1 - 1) Tryd.prog (rPost B0 I Ix (pre ++ [x]) S W) (act1 x q m c X) W)
    (hdone : ∀ (S : Nat → Prop) (W : World), I its S W → W.heap[w.heap.size]? = some (.deferred (some [])) → S w.heap.size → Q .normal { a with defers := { target := .collected w.heap.size, args := #[] } :: a.defers } W)
    (hstop : ∀ (c : Code) (pre : List It) (S : Nat → Prop) (W : World), Ix c pre S W → W.heap[w.heap.size]? = some (.deferred (some [])) → S w.heap.size → c.wpIn Fence.wide n Tryd.prog Q { a with defers := { target := .collected w.heap.size, args := #[] } :: a.defers } W) :
    (Code.rangeFunc gop ps assign body).wpIn Fence.wide n Tryd.prog Q a w := by
  refine wpIn_rangeFunc ?_
  intro fn hfn
  rw [show Fence.wide.round = none from rfl]
  obtain ⟨rec, hrec⟩ : ∃ rec : LoopState → Option Code → Loop, rec = fun st pe => { state := st, pending := pe, fn, tmps := a.tmps, params := ps, assign, body, defers := w.heap.size } := ⟨_, rfl⟩
  obtain ⟨W1, hW1⟩ : ∃ W1, (w.alloc (.deferred (some []))).alloc (.loop (rec .ready none)) = W1 := ⟨_, rfl⟩
  have hz1 : W1.heap.size = w.heap.size + 2 := by rw [← hW1]; simp
  have hL1 : W1.heap[w.heap.size + 1]? = some (.loop (rec .ready none)) := by
    rw [← hW1]; have := World.alloc_heap_new (w.alloc (.deferred (some []))) (.loop (rec .ready none)); rwa [World.size_alloc] at this
  have hK1 : W1.heap[w.heap.size]? = some (.deferred (some [])) := by
    rw [← hW1]; exact (Below.heap_alloc _ _ _ (by simp)).trans (World.alloc_heap_new w _)
  have hb1 : Below w.heap.size w W1 := by
    rw [← hW1]; exact ((Below.refl _ w).alloc (Nat.le_refl _) _).alloc (by simp) _
  obtain ⟨X0, hX0⟩ : ∃ X0 : Nat → Prop, X0 = fun k => k = bx ∨ k = w.heap.size ∨ k = w.heap.size + 1 := ⟨_, rfl⟩
  have hXD : X0 w.heap.size := by rw [hX0]; exact .inr (.inl rfl)
  have hXL : X0 (w.heap.size + 1) := by rw [hX0]; exact .inr (.inr rfl)
  have hI1 : I [] (fun k => S0 k ∨ X0 k) W1 := hI _ _ _ _ _ h0 (Turn.ofBelow hb1 rfl) (fun k hk => by
    rw [hX0] at hk
    rcases hk with h | h | h | h
    · exact .inl (.inl h)
    · exact .inl (.inr h)
    · exact .inr (by omega)
    · exact .inr (by omega))
  obtain ⟨hD1, hB1⟩ := Dec.apart hD hB (Turn.ofBelow (S := fun _ => False) hb1 rfl) (fun _ _ h => h.elim) (fun _ _ h => h)
  have hbx1 := (hb1.cell (p := ⟨bx, 0, none⟩) hbl).trans hbx
  have hX1 : ∀ k, X0 k → k < W1.heap.size ∧ ¬ S0 k := fun k hk => by
    rw [hX0] at hk
    rcases hk with h | h | h
    · subst h; exact ⟨by omega, hbS⟩
    · subst h; exact ⟨by omega, fun hs => by have := hD.lt _ hs; omega⟩
    · subst h; exact ⟨by omega, fun hs => by have := hD.lt _ hs; omega⟩
  refine ⟨w.heap.size + 1, [{ target := .collected w.heap.size, args := #[] }], W1, { target := .fn (.func 70) #[.pointer (some ⟨bx, 0, none⟩)], args := #[.func (.yield (w.heap.size + 1)) #[] #[]] }, W1, 70,
    #[.func (.yield (w.heap.size + 1)) #[] #[]] ++ #[.pointer (some ⟨bx, 0, none⟩)], W1, ?_, ?_, ?_, ?_, fun _ => by omega, ?_⟩
  · rw [← hW1, hrec]; exact run_enterLoop_outer _ _ _ _ _
  · simp only [resolve, hg]
    simp [go_sem]
  · intro f' hf'; trivial
  · have eg := enters_of Tryd.func70 (by kernel_rfl) rfl
    simp [invoke, go_sem, eg]
  · have main := items1_any (n - 1) (w.heap.size + 1) bx g B0 (by omega) X0 (by rw [hX0]; exact .inl rfl)
      (fun pre S W => I pre (fun k => S k ∨ X0 k) W ∧ W.heap[w.heap.size + 1]? = some (.loop (rec .ready none)) ∧ W.heap[w.heap.size]? = some (.deferred (some [])))
      (fun pre S W => ∃ c, Ix c pre (fun k => S k ∨ X0 k) W ∧ W.heap[w.heap.size + 1]? = some (.loop (rec .done (some c))) ∧ W.heap[w.heap.size]? = some (.deferred (some [])))
      (fun pre S W S' W' hs ht hx hS' => ⟨hI _ _ _ _ _ hs.1 (ht.mono (fun _ _ h => .inl h)) (fun k hk => hk.elim (fun h => (hS' k h).elim (fun h => .inl (.inl h)) .inr) (fun h => .inl (.inr h))), Turn.heap ht hs.2.1 (hx _ hXL).2, Turn.heap ht hs.2.2 (hx _ hXD).2⟩)
      rs sk ov its ?_ S0 W1 ⟨hI1, hL1, hK1⟩ hD1 hB1 hX1 hbx1
    · refine main.mono ?_
      rintro e W2 ⟨⟨v, rfl⟩, (⟨S, ⟨hi, hl, hk⟩, _⟩ | ⟨pre, S, c, hi, hl, hk⟩)⟩
      · have T5 : Turn (fun k => S k ∨ X0 k) W2 (W2.putObj (w.heap.size + 1) (.loop { rec .ready none with state := .exhausted })) := (Turn.putObj W2 _ _).mono (fun k _ e => by subst e; exact .inr hXL)
        exact ⟨none, _, by subst hrec; exact run_endLoop (P := Tryd.prog) hl (by simp), hdone _ _ (hI _ _ _ _ _ hi T5 (fun k h => .inl h)) ((World.putObj_heap_other (by omega)).trans hk) (.inr hXD)⟩
      · have T5 : Turn (fun k => S k ∨ X0 k) W2 (W2.putObj (w.heap.size + 1) (.loop { rec .done (some c) with state := .exhausted })) := (Turn.putObj W2 _ _).mono (fun k _ e => by subst e; exact .inr hXL)
        exact ⟨some c, _, by subst hrec; exact run_endLoop (P := Tryd.prog) hl (by simp), hstop c pre _ _ (hIx c _ _ _ _ _ hi T5 (fun k h => .inl h)) ((World.putObj_heap_other (by omega)).trans hk) (.inr hXD)⟩
    · rintro pre x rest S W q m c hits ⟨hi, hl, hk⟩ hDW hXW hRW hqW
      have hlt : w.heap.size + 1 < W.heap.size := (Array.getElem?_eq_some_iff.1 hl).1
      have hy := run_yield (P := Tryd.prog) (args := #[itA x q m c]) hl (by rw [hrec]; exact hps.symm)
      rw [hrec] at hy
      refine ⟨fn, _, assign, body, hy, roundIn_of_wpIn hfn (hassign _ x q m c W _ ?_)⟩
      clear hy
      -- the round: the variable's box lies at W.heap.size
      have AW : Below W.heap.size W (W.alloc (.cells #[.int .i64 (x.skip : Int), .int .u8 (x.kind.toNat : Int), .slice q m c] 39)) := (Below.refl _ _).alloc (Nat.le_refl _) _
      have TW := Turn.ofBelow (S := fun k => S k ∨ X0 k) AW rfl
      have hi2 := hI _ _ _ (fun k => S k ∨ X0 k) _ hi TW (fun k h => .inl h)
      have hl2 := Turn.heap (Turn.ofBelow (S := fun _ => False) AW rfl) hl (fun h => h)
      have hk2 := Turn.heap (Turn.ofBelow (S := fun _ => False) AW rfl) hk (fun h => h)
      have c0 : (W.alloc (.cells #[.int .i64 (x.skip : Int), .int .u8 (x.kind.toNat : Int), .slice q m c] 39)).cell? ⟨W.heap.size, 0, none⟩ = some (.int .i64 (x.skip : Int)) := by simp [go_sem]
      have c1 : (W.alloc (.cells #[.int .i64 (x.skip : Int), .int .u8 (x.kind.toNat : Int), .slice q m c] 39)).cell? ⟨W.heap.size, 1, none⟩ = some (.int .u8 (x.kind.toNat : Int)) := by simp [go_sem]
      have c2 : (W.alloc (.cells #[.int .i64 (x.skip : Int), .int .u8 (x.kind.toNat : Int), .slice q m c] 39)).cell? ⟨W.heap.size, 2, none⟩ = some (.slice q m c) := by simp [go_sem]
      have hR2 := hRW.below AW
      obtain ⟨Wa, hWa⟩ : ∃ Wa, W.alloc (.cells #[.int .i64 (x.skip : Int), .int .u8 (x.kind.toNat : Int), .slice q m c] 39) = Wa := ⟨_, rfl⟩
      have hza : Wa.heap.size = W.heap.size + 1 := by rw [← hWa]; simp
      rw [hWa] at AW TW hi2 hl2 hk2 c0 c1 c2 hR2 ⊢
      refine ⟨_, run_beginRound hl2 (by rw [hrec]), ?_⟩
      have TB := Turn.putObj Wa (w.heap.size + 1) (.loop { rec .ready none with state := .busy })
      obtain ⟨Wb, hWb⟩ : ∃ Wb, Wa.putObj (w.heap.size + 1) (.loop { rec .ready none with state := .busy }) = Wb := ⟨_, rfl⟩
      have hlb : Wb.heap[w.heap.size + 1]? = some (.loop { rec .ready none with state := .busy }) := by rw [← hWb]; exact World.putObj_heap_same (by omega)
      rw [hWb] at TB ⊢
      have hzb : Wb.heap.size = Wa.heap.size := by rw [← hWb]; simp
      have hkb := Turn.heap TB hk2 (by omega)
      have hib := hI _ _ _ (fun k => S k ∨ X0 k) _ hi2 (TB.mono (fun k _ e => by subst e; exact .inr hXL)) (fun k h => .inl h)
      have hcell : ∀ j, Wb.cell? ⟨W.heap.size, j, none⟩ = Wa.cell? ⟨W.heap.size, j, none⟩ := fun j => TB.cell (p := ⟨W.heap.size, j, none⟩) (by show W.heap.size < _; omega) (by show ¬ W.heap.size = _; omega)
      have hRb : RowB Wb q m c x.body := by
        refine hR2.turn TB (fun y hy e => ?_)
        have hq3 := (hqW y hy).1
        omega
      have hnS : ¬ (S W.heap.size ∨ X0 W.heap.size) := fun h => h.elim (fun h => by have := hDW.lt _ h; omega) (fun h => by have := (hXW _ h).1; omega)
      refine wpIn_mono (hbody _ pre x rest (fun k => S k ∨ X0 k) q m c W.heap.size Wb hits hib (fun k hk => hk.elim (fun h => by have := hDW.lt _ h; omega) (fun h => by have := (hXW _ h).1; omega)) (by omega) (by omega) hnS ((hcell 0).trans c0) ((hcell 1).trans c1) ((hcell 2).trans c2) hRb (fun y hy => ⟨(hqW y hy).1, fun h => h.elim (hqW y hy).2 (fun h => by have := (hqW y hy).1; rw [hX0] at h; omega)⟩)) ?_
      have fin : ∀ (jump : Option Code) (W3 : World) (T : Nat → Prop), Turn T Wb W3 → (∀ k, k < Wb.heap.size → T k → ¬ (S k ∨ X0 k)) →
          (Instr.endRound (w.heap.size + 1) jump).run Tryd.prog W3 = .ok (.bool jump.isNone) (W3.putObj (w.heap.size + 1) (.loop (rec (if jump.isNone then .ready else .done) jump))) ∧
          (W3.putObj (w.heap.size + 1) (.loop (rec (if jump.isNone then .ready else .done) jump))).heap[w.heap.size + 1]? = some (.loop (rec (if jump.isNone then .ready else .done) jump)) ∧
          (W3.putObj (w.heap.size + 1) (.loop (rec (if jump.isNone then .ready else .done) jump))).heap[w.heap.size]? = some (.deferred (some [])) := fun jump W3 T hT hTS => by
        have hl3 := Turn.heap hT hlb (fun h => hTS _ (by omega) h (.inr hXL))
        have hk3 := Turn.heap hT hkb (fun h => hTS _ (by omega) h (.inr hXD))
        have := run_endRound (P := Tryd.prog) jump hl3
        rw [hrec] at this ⊢
        exact ⟨this, World.putObj_heap_same (Array.getElem?_eq_some_iff.1 hl3).1, (World.putObj_heap_other (by omega)).trans hk3⟩
      have leave : ∀ (cc : Code) (W3 : World), MayTurn 0 (fun k => S k ∨ X0 k) Wb W3 → Ix cc (pre ++ [x]) (fun k => S k ∨ X0 k) W3 → ∃ v w', (Instr.endRound (w.heap.size + 1) (some cc)).run Tryd.prog W3 = .ok v w' ∧ Ending.returned v = .returned (.bool false) ∧ ∃ c, Ix c (pre ++ [x]) (fun k => S k ∨ X0 k) w' ∧ w'.heap[w.heap.size + 1]? = some (.loop (rec .done (some c))) ∧ w'.heap[w.heap.size]? = some (.deferred (some [])) := fun cc W3 hm hix => by
        obtain ⟨T, hT, hTS, _⟩ := hm
        obtain ⟨hr, hl4, hk4⟩ := fin (some cc) W3 T hT hTS
        exact ⟨_, _, hr, rfl, cc, hIx cc _ _ _ _ _ hix ((Turn.putObj W3 _ _).mono (fun k _ e => by subst e; exact .inr hXL)) (fun k h => .inl h), hl4, hk4⟩
      rintro e a3 W3 hp
      cases e with
      | normal =>
        obtain ⟨⟨T, hT, hTS, hTB⟩, hi3⟩ := hp
        obtain ⟨hr, hl4, hk4⟩ := fin none W3 T hT hTS
        have TP := Turn.putObj W3 (w.heap.size + 1) (.loop (rec (if (none : Option Code).isNone then .ready else .done) none))
        have T1 : Turn (fun k => T k ∨ k = w.heap.size + 1) W Wa := Turn.ofBelow AW rfl
        have T2 := T1.trans (TB.mono (T := fun k => T k ∨ k = w.heap.size + 1) (fun k _ e => .inr e)) (fun _ _ h => h)
        have T3 := T2.trans (hT.mono (T := fun k => T k ∨ k = w.heap.size + 1) (fun k _ e => .inl e)) (fun _ _ h => h)
        have T4 := T3.trans (TP.mono (T := fun k => T k ∨ k = w.heap.size + 1) (fun k _ e => .inr e)) (fun _ _ h => h)
        refine ⟨_, _, hr, .inl ⟨rfl, ⟨hI _ _ _ _ _ hi3 (TP.mono (fun k _ e => by subst e; exact .inr hXL)) (fun k h => .inl h), hl4, hk4⟩, _, T4, ?_, ?_⟩⟩
        · rintro k hk (ht | rfl) hs
          · refine hTS k (by omega) ht (hs.elim .inl (fun h => .inr ?_))
            rw [hX0]; exact .inl h
          · exact hs.elim (hXW _ hXL).2 (fun h => by omega)
        · rintro k (ht | rfl)
          · exact hTB k ht
          · omega
      | ret =>
        obtain ⟨v, w', h1, h2, h3⟩ := leave .ret W3 hp.1 hp.2
        exact ⟨v, w', h1, .inr ⟨h2, h3⟩⟩
      | exit id =>
        obtain ⟨v, w', h1, h2, h3⟩ := leave (.exit id) W3 hp.1 hp.2
        exact ⟨v, w', h1, .inr ⟨h2, h3⟩⟩
      | goto t =>
        obtain ⟨v, w', h1, h2, h3⟩ := leave (.goto t) W3 hp.1 hp.2
        exact ⟨v, w', h1, .inr ⟨h2, h3⟩⟩
      | panic ch => exact hp.elim
      | outgrown => exact hp.elim
end Go.Proofs.YtdmpopdacbdnlaaDoor
