/- The contracts of package ledger: End. -/
import Derived.Test.YtkdekdogfplbmaaDoorLdTell
import Derived.WalkLawsBesides
namespace Go.Proofs.YtkdekdogfplbmaaDoor
open Go.RowKit
set_option linter.unusedVariables false
set_option linter.unusedSimpArgs false
set_option maxRecDepth 20000
set_option maxHeartbeats 2000000

theorem RangeB.turn {P : Program} {tk tb : TypeId} {w w' : World} {S : Nat → Prop} {b r n cnt : Nat} {m : Int → Option Bool} {left : Int → Bool} (h : RangeB P tk tb w b r n m left cnt) (t : Turn S w w') (hb : ¬ S b) (hr : ¬ S r) : RangeB P tk tb w' b r n m left cnt := by
  obtain ⟨D, lft, h1, h2, h3⟩ := h
  have l1 := h1.owns.lt
  have l2 := h1.lt
  obtain ⟨es, clock, since, seen, c0, x1, x2, x3, x4, x5, rest⟩ := h1
  exact ⟨D, lft, ⟨es, clock, since, seen, c0, (t.block b l1 hb).trans x1, x2, x3, x4, (t.block r l2 hr).trans x5, rest⟩, h2, h3⟩
theorem news_two {w : World} {g : Nat} {r p : Rc} (h : w.cell? ⟨g, 0, none⟩ = some (.int .u8 (r.kind : Int)) ∧ w.cell? ⟨g, 1, none⟩ = some (.int .i64 0) ∧ w.cell? ⟨g, 2, none⟩ = some (.int .u64 0) ∧ w.cell? ⟨g, 3, none⟩ = some (.int .i64 r.at_) ∧ w.cell? ⟨g, 4, none⟩ = some (.int .i64 r.num) ∧ w.cell? ⟨g, 5, none⟩ = some (.int .i64 0) ∧ w.cell? ⟨g, 6, none⟩ = some (.bool r.yes) ∧ w.cell? ⟨g, 7, none⟩ = some (.string ⟨#[]⟩))
    (k : w.cell? ⟨g, 8, none⟩ = some (.int .u8 (p.kind : Int)) ∧ w.cell? ⟨g, 9, none⟩ = some (.int .i64 0) ∧ w.cell? ⟨g, 10, none⟩ = some (.int .u64 0) ∧ w.cell? ⟨g, 11, none⟩ = some (.int .i64 p.at_) ∧ w.cell? ⟨g, 12, none⟩ = some (.int .i64 p.num) ∧ w.cell? ⟨g, 13, none⟩ = some (.int .i64 0) ∧ w.cell? ⟨g, 14, none⟩ = some (.bool p.yes) ∧ w.cell? ⟨g, 15, none⟩ = some (.string ⟨#[]⟩)) :
    ∀ j u, ([r, p].map rcV).flatten[j]? = some u → w.cell? ((⟨g, 0, none⟩ : Addr).add j) = some u := by
  obtain ⟨h0, h1, h2, h3, h4, h5, h6, h7⟩ := h
  obtain ⟨k0, k1, k2, k3, k4, k5, k6, k7⟩ := k
  intro j u hu
  rw [WideShapes.add_plain, Nat.zero_add]
  rcases j with _ | _ | _ | _ | _ | _ | _ | _ | _ | _ | _ | _ | _ | _ | _ | _ | j
  all_goals simp [rcV] at hu
  all_goals subst hu
  all_goals assumption
theorem end_still (g b n : Nat) (s : LS) (a c d : Int) (y : Bool) (w : World) (h : Led w g b n s) (hs : a ≤ s.done) :
    Calls Tryd.prog 11 #[.pointer (some ⟨g, 0, none⟩), .int .i64 a, .int .i64 c, .int .i64 d, .bool y] w fun e w' => e = .returned (.slice none 0 0) ∧ w = w' := by
  have c1 := h.c1
  go_enter Tryd.func11, Tryd.ntmps11
  go_wp2_with fail
  go_ret
  exact ⟨rfl, rfl⟩
/-- the map on the way: what is not above a, and not still to come, is gone -/
def Swept (m : Int → Option Bool) (a : Int) (m' : Int → Option Bool) (left : Int → Bool) : Prop := ∀ z, m' z = if z ≤ a ∧ left z = false then none else m z
theorem Swept.start (m : Int → Option Bool) (a : Int) : Swept m a m (fun z => (m z).isSome) := by
  intro z
  split
  · rename_i h
    cases e : m z with
    | none => rfl
    | some v => simp [e] at h
  · rfl
theorem Swept.del {m m' : Int → Option Bool} {a x : Int} {left : Int → Bool} (h : Swept m a m' left) (hx : x ≤ a) : Swept m a (delM m' x) (fun z => left z && !(z == x)) := by
  intro z
  unfold delM
  by_cases e : z = x
  · subst e; simp [hx]
  · rw [if_neg e, h z]; simp [e]
theorem Swept.stay {m m' : Int → Option Bool} {a x : Int} {left : Int → Bool} (h : Swept m a m' left) (hx : ¬ x ≤ a) : Swept m a m' (fun z => left z && !(z == x)) := by
  intro z
  rw [h z]
  by_cases e : z = x
  · subst e; simp [hx]
  · simp [e]
theorem Swept.fin {m m' : Int → Option Bool} {a : Int} {left : Int → Bool} (h : Swept m a m' left) (hl : ∀ z, left z = false) : m' = fun z => if z ≤ a then none else m z := by
  funext z
  rw [h z, hl z]
  simp
/-- where a ledger was ended: its cells, and its map -/
theorem Led.fin {w w' : World} {g b n : Nat} {s : LS} {a : Int} (ha : -9223372036854775808 ≤ a ∧ a ≤ 9223372036854775807) {m' : Int → Option Bool} (h : Led w g b n s) (c0 : w'.cell? ⟨g, 0, none⟩ = w.cell? ⟨g, 0, none⟩) (c1 : w'.cell? ⟨g, 1, none⟩ = some (.int .i64 a)) (c2 : w'.cell? ⟨g, 2, none⟩ = w.cell? ⟨g, 2, none⟩) (f1 : w'.frozen? ⟨g, 1, none⟩ = w.frozen? ⟨g, 1, none⟩)
    (hM : MapL w' b n m') (hz : w.heap.size ≤ w'.heap.size) : Led w' g b n ⟨s.patience, a, m'⟩ := ⟨c0.trans h.c0, c1, c2.trans h.c2, f1.trans h.f1, hM, h.ne, Nat.lt_of_lt_of_le h.lt hz, ha, h.rp⟩
/-- the loop's relation -/
def EndRel (w0 : World) (b r n : Nat) (m : Int → Option Bool) (a : Int) (wr : World) : Prop := ∃ m' left cnt, RangeB Tryd.prog 2 4 wr b r n m' left cnt ∧ Swept m a m' left ∧ Turn (fun k => k = b ∨ k = r) w0 wr
theorem end_close {w w0 w1 wr w2 : World} {g b n cnt : Nat} {s : LS} {a : Int} {T : Nat → Prop} {m' : Int → Option Bool} {left : Int → Bool} (ha : -9223372036854775808 ≤ a ∧ a ≤ 9223372036854775807) (h : Led w g b n s) (t0 : Turn (fun _ => False) w w0) (ht1 : Turn (fun _ => False) (w0.setCell ⟨g, 1, none⟩ (.int .i64 a)) w1)
    (htr : Turn (fun k => k = b ∨ k = w0.heap.size) w1 wr) (hrg : RangeB Tryd.prog 2 4 wr b w0.heap.size n m' left cnt) (hsw : Swept s.said a m' left) (hl : ∀ z, left z = false) (t1 : Turn T wr w2) (hT : ∀ k, T k → w.heap.size ≤ k) :
    Led w2 g b n ⟨s.patience, a, fun z => if z ≤ a then none else s.said z⟩ ∧ Turn (fun k => k = g ∨ k = b) w w2 := by
  have hA : (w0.setCell ⟨g, 1, none⟩ (.int .i64 a)).heap.size = w0.heap.size := by simp [World.setCell]
  have z0 := t0.size
  have z1 := ht1.size
  have z2 := htr.size
  have z3 := t1.size
  have hlt := h.lt
  have hlb := MapB.lt h.m
  have hng := h.ne
  have gS : ¬ (g = b ∨ g = w0.heap.size) := by omega
  have gT : ¬ T g := fun e => by have := hT _ e; omega
  have bT : ¬ T b := fun e => by have := hT _ e; omega
  have lA : g < (w0.setCell ⟨g, 1, none⟩ (.int .i64 a)).heap.size := by omega
  have l1 : g < w1.heap.size := by omega
  have lr : g < wr.heap.size := by omega
  have cell : ∀ o, w2.cell? ⟨g, o, none⟩ = (w0.setCell ⟨g, 1, none⟩ (.int .i64 a)).cell? ⟨g, o, none⟩ := fun o =>
    (t1.cell (p := ⟨g, o, none⟩) lr gT).trans ((htr.cell (p := ⟨g, o, none⟩) l1 gS).trans (ht1.cell (p := ⟨g, o, none⟩) lA (fun h => h)))
  have c1 := (t0.cell (p := ⟨g, 1, none⟩) hlt (fun h => h)).trans h.c1
  have fr : w2.frozen? ⟨g, 1, none⟩ = w.frozen? ⟨g, 1, none⟩ :=
    (t1.frozen (p := ⟨g, 1, none⟩) lr gT).trans ((htr.frozen (p := ⟨g, 1, none⟩) l1 gS).trans ((ht1.frozen (p := ⟨g, 1, none⟩) lA (fun h => h)).trans (by simp [go_sem]; exact t0.frozen (p := ⟨g, 1, none⟩) hlt (fun h => h))))
  refine ⟨h.fin ha ?_ ?_ ?_ fr ?_ (by omega), ?_⟩
  · rw [cell 0]; simp [go_sem]; exact t0.cell (p := ⟨g, 0, none⟩) hlt (fun h => h)
  · rw [cell 1]; simp [go_sem, c1]
  · rw [cell 2]; simp [go_sem]; exact t0.cell (p := ⟨g, 2, none⟩) hlt (fun h => h)
  · have := MapB.turn hrg.map t1 bT
    rw [hsw.fin hl] at this
    exact this
  · refine Turn.trans (T := fun k => T k ∨ w.heap.size ≤ k) (Turn.trans (T := fun k => k = b ∨ w.heap.size ≤ k) (S := fun k => k = g ∨ k = b) (a := w) (b := w1) ?_ (htr.mono (fun k _ e => e.imp id (fun e => by omega))) (fun k hk e => by rcases e with e | e; exact .inr e; omega)) (t1.mono (fun k _ e => .inl e)) (fun k hk e => by rcases e with e | e; (have := hT k e; omega); omega)
    exact ((t0.mono (fun _ _ h => h.elim)).setCell ⟨g, 1, none⟩ (fun _ => .inl rfl) _).trans ht1 (fun _ _ h => h.elim)
theorem end_go (g b n : Nat) (s : LS) (a c d : Int) (y : Bool) (ha : -9223372036854775808 ≤ a ∧ a ≤ 9223372036854775807) (hc : -9223372036854775808 ≤ c ∧ c ≤ 9223372036854775807) (hd : -9223372036854775808 ≤ d ∧ d ≤ 9223372036854775807) (w : World) (h : Led w g b n s)
    (h1 : ¬ a ≤ s.done) (h3 : s.said a = none ∨ s.said a = some y) (M : Int) (hM0 : M = max (cut (d - c)) 0) :
    Calls Tryd.prog 11 #[.pointer (some ⟨g, 0, none⟩), .int .i64 a, .int .i64 c, .int .i64 d, .bool y] w (Steps w g b n ⟨s.patience, a, fun z => if z ≤ a then none else s.said z⟩ [⟨30, a, 0, y⟩, ⟨31, a, M, false⟩]) := by
  have c0 := h.c0
  have c1 := h.c1
  have c2 := h.c2
  have f1 := h.f1
  have hM := h.m
  have hlt := h.lt
  have hlb := MapB.lt h.m
  have hng := h.ne
  have HL := Lib.hid h
  clear h
  have hM1 : MapL (w.setCell ⟨g, 1, none⟩ (.int .i64 a)) b n s.said := MapB.turn hM (Turn.set w ⟨g, 1, none⟩ (.int .i64 a)) hng
  have t0 : Turn (fun _ => False) w w := Turn.refl _ _
  have HM := Lib.hid hM0
  clear hM0
  rcases h3 with h3 | h3
  all_goals
    have H3 := Lib.hid h3
    clear h3
    go_enter Tryd.func11, Tryd.ntmps11
    go_wp2_with (at_lookup; refine map_look 2 4 39 Tryd.underlying2 Tryd.underlying4 Tryd.underlying39 zeroB rfl _ _ rfl b n s.said rfl hM a ha rfl ?_; rw [H3.out])
    refine (sat_sub _ _ _ (by omega) (by omega) (by omega) (by omega)).mono ?_; (rintro e w' ⟨rfl, rfl⟩); unfold pairV; go_wp2_with (at_range; refine map_range 2 4 39 Tryd.underlying2 Tryd.underlying39 rfl _ rfl b n s.said rfl hM1 ?_; intro w1 cnt1 hrg1 ht1 hz1); go_frame; have hsz : (w.setCell ⟨g, 1, none⟩ (.int .i64 a)).heap.size = w.heap.size := (by simp [World.setCell]); rw [hsz] at hrg1 hz1; (try simp only [hsz]); go_loopw [16] (fun _ wr => EndRel w1 b w.heap.size n s.said a wr) (fun _ wr => wr.rangeLeft b w.heap.size); (case atStart => exact ⟨_, _, _, hrg1, Swept.start _ _, Turn.refl _ _⟩); (case round => (obtain ⟨m', left, cnt, hrg, hsw, htr⟩ := hrel; have hgA : g < (w.setCell ⟨g, 1, none⟩ (.int .i64 a)).heap.size := (by omega); have hgw1 : g < w1.heap.size := (by omega); have dW : (w.setCell ⟨g, 1, none⟩ (.int .i64 a)).cell? ⟨g, 2, none⟩ = some (.map (some b)) := (by simp [go_sem, c2]); have hgr : g ≠ w.heap.size := (by omega); have hgS : ¬ (g = b ∨ g = w.heap.size) := (by omega); have d2 := (htr.cell (p := ⟨g, 2, none⟩) hgw1 hgS).trans ((ht1.cell (p := ⟨g, 2, none⟩) hgA (fun h => h)).trans dW); clear dW c0 c1 c2 f1; have z2 := htr.size; have hgwr : g < wr.heap.size := (by omega); have hO9 : OwnC w.heap.size wr (.slice none 0 0) ([] : List Rc) := (by first | exact OwnC.nil _ _ | exact OwnG.turn ((hO0.turn (Turn.set w ⟨g, 1, none⟩ (.int .i64 a)) (fun k hk e => by (simp only at e; omega))).turn ht1 (fun _ _ h => h)) htr (fun k hk e => by (have := hO0.owns.lt k hk; omega)))); go_wp2_with (at_next; refine map_next 2 4 Tryd.underlying2 Tryd.underlying4 rfl _ rfl b _ n m' left cnt rfl hrg ?_ ?_); (· (intro hl0; by_cases hcut : cut (d - c) < 0; (· (go_wp2_with (at_builtin; refine append_rc rfl _ _ rfl w.heap.size (.slice none 0 0) ([] : List Rc) rfl (hO9.turn ((Turn.refl (fun _ => False) _).alloc _) (fun _ _ h => h)) ⟨wr.heap.size, 0, none⟩ 2 2 [⟨30, a, 0, y⟩, ⟨31, a, 0, false⟩] rfl rfl (news_two (by simp [go_sem]) (by simp [go_sem])) (by simp) (by simp; omega) ?_; intro v2 w2 hO2 ht2); go_ret; have hM2 : M = 0 := (by rw [HM.out]; omega); subst hM2; obtain ⟨r1, r2⟩ := end_close ha HL.out t0 ht1 htr hrg hsw hl0 (((Turn.refl _ _).alloc _).trans ht2 (fun x _ h => h)) (fun k e => by first | cases e | exact (hO0.owns.lt k e).1); exact ⟨v2, rfl, hO2, r1, r2⟩)); (· (go_wp2_with (at_builtin; refine append_rc rfl _ _ rfl w.heap.size (.slice none 0 0) ([] : List Rc) rfl (hO9.turn ((Turn.refl (fun _ => False) _).alloc _) (fun _ _ h => h)) ⟨wr.heap.size, 0, none⟩ 2 2 [⟨30, a, 0, y⟩, ⟨31, a, cut (d - c), false⟩] rfl rfl (news_two (by simp [go_sem]) (by simp [go_sem])) (by simp) (by simp; omega) ?_; intro v2 w2 hO2 ht2); go_ret; have hM2 : M = cut (d - c) := (by rw [HM.out]; omega); subst hM2; obtain ⟨r1, r2⟩ := end_close ha HL.out t0 ht1 htr hrg hsw hl0 (((Turn.refl _ _).alloc _).trans ht2 (fun x _ h => h)) (fun k e => by first | cases e | exact (hO0.owns.lt k e).1); exact ⟨v2, rfl, hO2, r1, r2⟩)))); (· (intro x v w2 cnt2 hx hx' hlx hrg2 hlt2 ht2 hen; have e2 := (ht2.cell (p := ⟨g, 2, none⟩) hgwr hgr).trans d2; have z3 := ht2.size; by_cases hxa : x ≤ a; (· (go_wp2_with (at_delete; refine map_del 2 4 39 Tryd.underlying2 Tryd.underlying39 rfl _ _ rfl b _ n m' _ cnt2 rfl hrg2 x ⟨hx, hx'⟩ rfl (by simp) ?_; intro w3 cnt3 hrg3 hle3 ht3; go_frame); go_roundw; (case rel => exact ⟨_, _, cnt3, hrg3, hsw.del (by omega), (htr.trans ht2 (fun k _ e => .inr e)).trans ht3 (fun k _ e => .inl e)⟩); (case measure => rw [hrg3.left_eq, hrg.left_eq]; omega))); (· (go_wp2_with fail; go_roundw; (case rel => exact ⟨_, _, cnt2, hrg2, hsw.stay (by omega), htr.trans ht2 (fun k _ e => .inr e)⟩); (case measure => rw [hrg2.left_eq, hrg.left_eq]; omega))))))
theorem end_turn (g b n : Nat) (s : LS) (a c d : Int) (y : Bool) (ha : -9223372036854775808 ≤ a ∧ a ≤ 9223372036854775807) (hc : -9223372036854775808 ≤ c ∧ c ≤ 9223372036854775807) (hd : -9223372036854775808 ≤ d ∧ d ≤ 9223372036854775807) (w : World) (h : Led w g b n s)
    (h1 : ¬ a ≤ s.done) (v : Bool) (h3 : s.said a = some v) (hv0 : ¬ v = y) (M : Int) (hM0 : M = max (cut (d - c)) 0) :
    Calls Tryd.prog 11 #[.pointer (some ⟨g, 0, none⟩), .int .i64 a, .int .i64 c, .int .i64 d, .bool y] w (Steps w g b n ⟨s.patience, a, fun z => if z ≤ a then none else s.said z⟩ [⟨29, a, 0, v⟩, ⟨30, a, 0, y⟩, ⟨31, a, M, false⟩]) := by
  have c0 := h.c0
  have c1 := h.c1
  have c2 := h.c2
  have f1 := h.f1
  have hM := h.m
  have hlt := h.lt
  have hlb := MapB.lt h.m
  have hng := h.ne
  have HL := Lib.hid h
  clear h
  have HM := Lib.hid hM0
  clear hM0
  have H3 := Lib.hid h3
  clear h3
  have hv : (v == y) = false := by simpa using hv0
  have hv2 : (v != y) = true := by simpa using hv0
  clear hv0
  go_enter Tryd.func11, Tryd.ntmps11
  go_wp2_with (first
    | (at_lookup; refine map_look 2 4 39 Tryd.underlying2 Tryd.underlying4 Tryd.underlying39 zeroB rfl _ _ rfl b n s.said rfl hM a ha rfl ?_; rw [H3.out])
    | (at_builtin; refine append_rc rfl _ _ rfl w.heap.size (.slice none 0 0) [] rfl (OwnC.nil _ _) ⟨w.heap.size, 0, none⟩ 1 1 [⟨29, a, 0, v⟩] rfl rfl (news_one (by simp [go_sem])) (by simp) (by simp) ?_; intro v0 w0 hO0 ht0; have t0 : Turn (fun _ => False) w w0 := ((Turn.refl _ _).alloc _).trans ht0 (fun x _ h => by cases h); clear ht0; have hM1 : MapL (w0.setCell ⟨g, 1, none⟩ (.int .i64 a)) b n s.said := MapB.turn (MapB.turn hM t0 (fun h => h)) (Turn.set w0 ⟨g, 1, none⟩ (.int .i64 a)) hng; replace c1 := (t0.cell (p := ⟨g, 1, none⟩) hlt (fun h => h)).trans c1; replace c2 := (t0.cell (p := ⟨g, 2, none⟩) hlt (fun h => h)).trans c2; replace f1 := (t0.frozen (p := ⟨g, 1, none⟩) hlt (fun h => h)).trans f1; have z0 := t0.size))
  refine (sat_sub _ _ _ (by omega) (by omega) (by omega) (by omega)).mono ?_; (rintro e w' ⟨rfl, rfl⟩); unfold pairV; go_wp2_with (at_range; refine map_range 2 4 39 Tryd.underlying2 Tryd.underlying39 rfl _ rfl b n s.said rfl hM1 ?_; intro w1 cnt1 hrg1 ht1 hz1); go_frame; have hsz : (w0.setCell ⟨g, 1, none⟩ (.int .i64 a)).heap.size = w0.heap.size := (by simp [World.setCell]); rw [hsz] at hrg1 hz1; (try simp only [hsz]); go_loopw [16] (fun _ wr => EndRel w1 b w0.heap.size n s.said a wr) (fun _ wr => wr.rangeLeft b w0.heap.size); (case atStart => exact ⟨_, _, _, hrg1, Swept.start _ _, Turn.refl _ _⟩); (case round => (obtain ⟨m', left, cnt, hrg, hsw, htr⟩ := hrel; have hgA : g < (w0.setCell ⟨g, 1, none⟩ (.int .i64 a)).heap.size := (by omega); have hgw1 : g < w1.heap.size := (by omega); have dW : (w0.setCell ⟨g, 1, none⟩ (.int .i64 a)).cell? ⟨g, 2, none⟩ = some (.map (some b)) := (by simp [go_sem, c2]); have hgr : g ≠ w0.heap.size := (by omega); have hgS : ¬ (g = b ∨ g = w0.heap.size) := (by omega); have d2 := (htr.cell (p := ⟨g, 2, none⟩) hgw1 hgS).trans ((ht1.cell (p := ⟨g, 2, none⟩) hgA (fun h => h)).trans dW); clear dW c0 c1 c2 f1; have z2 := htr.size; have hgwr : g < wr.heap.size := (by omega); have hO9 : OwnC w.heap.size wr (v0) ([⟨29, a, 0, v⟩] : List Rc) := (by first | exact OwnC.nil _ _ | exact OwnG.turn ((hO0.turn (Turn.set w0 ⟨g, 1, none⟩ (.int .i64 a)) (fun k hk e => by (simp only at e; omega))).turn ht1 (fun _ _ h => h)) htr (fun k hk e => by (have := hO0.owns.lt k hk; omega)))); go_wp2_with (at_next; refine map_next 2 4 Tryd.underlying2 Tryd.underlying4 rfl _ rfl b _ n m' left cnt rfl hrg ?_ ?_); (· (intro hl0; by_cases hcut : cut (d - c) < 0; (· (go_wp2_with (at_builtin; refine append_rc rfl _ _ rfl w.heap.size (v0) ([⟨29, a, 0, v⟩] : List Rc) rfl (hO9.turn ((Turn.refl (fun _ => False) _).alloc _) (fun _ _ h => h)) ⟨wr.heap.size, 0, none⟩ 2 2 [⟨30, a, 0, y⟩, ⟨31, a, 0, false⟩] rfl rfl (news_two (by simp [go_sem]) (by simp [go_sem])) (by simp) (by simp; omega) ?_; intro v2 w2 hO2 ht2); go_ret; have hM2 : M = 0 := (by rw [HM.out]; omega); subst hM2; obtain ⟨r1, r2⟩ := end_close ha HL.out t0 ht1 htr hrg hsw hl0 (((Turn.refl _ _).alloc _).trans ht2 (fun x _ h => h)) (fun k e => by first | cases e | exact (hO0.owns.lt k e).1); exact ⟨v2, rfl, hO2, r1, r2⟩)); (· (go_wp2_with (at_builtin; refine append_rc rfl _ _ rfl w.heap.size (v0) ([⟨29, a, 0, v⟩] : List Rc) rfl (hO9.turn ((Turn.refl (fun _ => False) _).alloc _) (fun _ _ h => h)) ⟨wr.heap.size, 0, none⟩ 2 2 [⟨30, a, 0, y⟩, ⟨31, a, cut (d - c), false⟩] rfl rfl (news_two (by simp [go_sem]) (by simp [go_sem])) (by simp) (by simp; omega) ?_; intro v2 w2 hO2 ht2); go_ret; have hM2 : M = cut (d - c) := (by rw [HM.out]; omega); subst hM2; obtain ⟨r1, r2⟩ := end_close ha HL.out t0 ht1 htr hrg hsw hl0 (((Turn.refl _ _).alloc _).trans ht2 (fun x _ h => h)) (fun k e => by first | cases e | exact (hO0.owns.lt k e).1); exact ⟨v2, rfl, hO2, r1, r2⟩)))); (· (intro x v w2 cnt2 hx hx' hlx hrg2 hlt2 ht2 hen; have e2 := (ht2.cell (p := ⟨g, 2, none⟩) hgwr hgr).trans d2; have z3 := ht2.size; by_cases hxa : x ≤ a; (· (go_wp2_with (at_delete; refine map_del 2 4 39 Tryd.underlying2 Tryd.underlying39 rfl _ _ rfl b _ n m' _ cnt2 rfl hrg2 x ⟨hx, hx'⟩ rfl (by simp) ?_; intro w3 cnt3 hrg3 hle3 ht3; go_frame); go_roundw; (case rel => exact ⟨_, _, cnt3, hrg3, hsw.del (by omega), (htr.trans ht2 (fun k _ e => .inr e)).trans ht3 (fun k _ e => .inl e)⟩); (case measure => rw [hrg3.left_eq, hrg.left_eq]; omega))); (· (go_wp2_with fail; go_roundw; (case rel => exact ⟨_, _, cnt2, hrg2, hsw.stay (by omega), htr.trans ht2 (fun k _ e => .inr e)⟩); (case measure => rw [hrg2.left_eq, hrg.left_eq]; omega))))))
theorem end_any (g b n : Nat) (s : LS) (a c d : Int) (y : Bool) (ha : -9223372036854775808 ≤ a ∧ a ≤ 9223372036854775807) (hc : -9223372036854775808 ≤ c ∧ c ≤ 9223372036854775807) (hd : -9223372036854775808 ≤ d ∧ d ≤ 9223372036854775807) (w : World) (h : Led w g b n s) :
    Calls Tryd.prog 11 #[.pointer (some ⟨g, 0, none⟩), .int .i64 a, .int .i64 c, .int .i64 d, .bool y] w (Steps w g b n (s.finS a) (s.finR a c d y)) := by
  unfold LS.finS LS.finR
  by_cases hs : a ≤ s.done
  · rw [if_pos hs, if_pos hs]
    refine (end_still g b n s a c d y w h hs).mono ?_
    rintro e w' ⟨rfl, rfl⟩
    exact ⟨_, rfl, OwnC.nil _ _, h, Turn.refl _ _⟩
  · rw [if_neg hs, if_neg hs]
    unfold LS.back backOf
    cases hsa : s.said a with
    | none => exact end_go g b n s a c d y ha hc hd w h hs (.inl hsa) _ rfl
    | some v =>
      by_cases hv : v = y
      · simp only [hv, if_true]
        exact end_go g b n s a c d y ha hc hd w h hs (.inr (by rw [hsa, hv])) _ rfl
      · simp only [hv, if_false]
        exact end_turn g b n s a c d y ha hc hd w h hs v hsa hv _ rfl
end Go.Proofs.YtkdekdogfplbmaaDoor
