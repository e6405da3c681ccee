/- The contracts of package ledger: Tell. -/
import Derived.Test.YtkdekdogfplbmaaDoorLdFns
namespace Go.Proofs.YtkdekdogfplbmaaDoor
open Go.RowKit
set_option linter.unusedVariables false
set_option linter.unusedSimpArgs false
set_option maxRecDepth 20000
set_option maxHeartbeats 1000000

/-- A slice of the call's own that holds just these records. -/
def OwnC (base : Nat) (w : World) (v : Value) (l : List Rc) : Prop := OwnG 32 8 base w v (l.map rcV)
theorem OwnC.nil (base : Nat) (w : World) : OwnC base w (.slice none 0 0) [] := OwnG.nil _ _ _ _
theorem OwnC.turn {S : Nat → Prop} {base : Nat} {w w' : World} {v : Value} {l : List Rc} (h : OwnC base w v l) (t : Turn S w w') (hS : ∀ k, base ≤ k → ¬ S k) : OwnC base w' v l :=
  OwnG.turn h t (fun k hk => hS k (h.owns.lt k hk).1)
theorem rcV_one (l : List Rc) : ∀ u ∈ (l.map rcV).flatten, u.oneCell' = true := by
  intro u hu
  simp only [List.mem_flatten, List.mem_map] at hu
  obtain ⟨_, ⟨r, _, rfl⟩, hu⟩ := hu
  simp only [rcV, List.mem_cons, List.not_mem_nil, or_false] at hu
  rcases hu with rfl | rfl | rfl | rfl | rfl | rfl | rfl | rfl <;> rfl
/-- append of k records that lie at ad -/
theorem append_rc {w : World} {ops : Array Oper} {rest : List Oper} {o : Oper} {a : Act} {Q : Exit → Act → World → Prop} (hgd : o.guard = none) (s x : Operand) (ho : o.op = .call { callee := .builtin .append, args := #[s, x], argTypes := #[26, 26] })
    (base : Nat) (v : Value) (l : List Rc) (hs : a.eval s = v) (hO : OwnC base w v l) (ad : Addr) (k c : Nat) (ns : List Rc) (hk : ns.length = k) (hx : a.eval x = .slice (some ad) k c)
    (hnews : ∀ j u, (ns.map rcV).flatten[j]? = some u → w.cell? (ad.add j) = some u) (hroom : l.length + k ≤ 1000000) (hbase : base ≤ w.heap.size)
    (h : ∀ v' w', OwnC base w' v' (l ++ ns) → Turn (fun j => v.ownBlock = some j) w w' → wpList Tryd.prog ops Q rest (a.put o.dst v') w') : wpList Tryd.prog ops Q (o :: rest) a w := by
  refine append_g 26 32 _ 8 72 infoRec (by rfl) (by omega) Tryd.underlying26 hgd s x ho base v (l.map rcV) hs hO ad k c (ns.map rcV) (by simp [hk]) hx (by simp [rcV_len]) hnews (rcV_one ns) (by simp; unfold maxLen; omega) (by simp; omega) hbase (fun v' w' h1 h2 => h v' w' ?_ (Turn.ofGrown h2 (fun j e _ => e)))
  unfold OwnC
  rw [List.map_append]
  exact h1
theorem news_one {w : World} {g : Nat} {r : Rc} (h : w.cell? ⟨g, 0, none⟩ = some (.int .u8 (r.kind : Int)) ∧ w.cell? ⟨g, 1, none⟩ = some (.int .i64 0) ∧ w.cell? ⟨g, 2, none⟩ = some (.int .u64 0) ∧ w.cell? ⟨g, 3, none⟩ = some (.int .i64 r.at_) ∧ w.cell? ⟨g, 4, none⟩ = some (.int .i64 r.num) ∧ w.cell? ⟨g, 5, none⟩ = some (.int .i64 0) ∧ w.cell? ⟨g, 6, none⟩ = some (.bool r.yes) ∧ w.cell? ⟨g, 7, none⟩ = some (.string ⟨#[]⟩)) :
    ∀ j u, ([r].map rcV).flatten[j]? = some u → w.cell? ((⟨g, 0, none⟩ : Addr).add j) = some u := by
  obtain ⟨h0, h1, h2, h3, h4, h5, h6, h7⟩ := h
  intro j u hu
  rw [WideShapes.add_plain, Nat.zero_add]
  rcases j with _ | _ | _ | _ | _ | _ | _ | _ | j
  all_goals simp [rcV] at hu
  all_goals subst hu
  all_goals assumption
/-- What a step of the ledger's gives: a slice of new records, the ledger as it is then; nothing else has turned. -/
def Steps (w : World) (g b n : Nat) (s' : LS) (l : List Rc) (e : Ending) (w' : World) : Prop := ∃ v, e = .returned v ∧ OwnC w.heap.size w' v l ∧ Led w' g b n s' ∧ Turn (fun k => k = g ∨ k = b) w w'
theorem Led.put {w w1 : World} {g b n : Nat} {s : LS} {m' : Int → Option Bool} (h : Led w g b n s) (t : Turn (fun k => k = b) w w1) (hM : MapL w1 b (n + 1) m') : Led w1 g b (n + 1) ⟨s.patience, s.done, m'⟩ :=
  ⟨(t.cell (p := ⟨g, 0, none⟩) h.lt (Ne.symm h.ne)).trans h.c0, (t.cell (p := ⟨g, 1, none⟩) h.lt (Ne.symm h.ne)).trans h.c1, (t.cell (p := ⟨g, 2, none⟩) h.lt (Ne.symm h.ne)).trans h.c2, (t.frozen (p := ⟨g, 1, none⟩) h.lt (Ne.symm h.ne)).trans h.f1, hM, h.ne, Nat.lt_of_lt_of_le h.lt t.size, h.rg, h.rp⟩
theorem tell_still (g b n : Nat) (s : LS) (a c d : Int) (y : Bool) (ha : -9223372036854775808 ≤ a ∧ a ≤ 9223372036854775807) (hc : -9223372036854775808 ≤ c ∧ c ≤ 9223372036854775807) (hd : -9223372036854775808 ≤ d ∧ d ≤ 9223372036854775807) (w : World) (h : Led w g b n s) (hs : s.still a c d y) :
    Calls Tryd.prog 10 #[.pointer (some ⟨g, 0, none⟩), .int .i64 a, .int .i64 c, .int .i64 d, .bool y] w fun e w' => e = .returned (.slice none 0 0) ∧ w = w' := by
  have c0 := h.c0
  have c1 := h.c1
  have c2 := h.c2
  have hM := h.m
  clear h
  by_cases h1 : a ≤ s.done
  · clear hs
    go_enter Tryd.func10, Tryd.ntmps10
    go_wp2_with fail
    go_ret
    exact ⟨rfl, rfl⟩
  by_cases h2 : cut (d - c) < s.patience
  · clear hs
    go_enter Tryd.func10, Tryd.ntmps10
    go_wp2_with fail
    refine (sat_sub _ _ _ (by omega) (by omega) (by omega) (by omega)).mono ?_; rintro e w' ⟨rfl, rfl⟩
    unfold pairV
    go_wp2_with fail
    go_ret
    exact ⟨rfl, rfl⟩
  · have h3 : s.said a = some y := by
      rcases hs with h | h | h
      · exact absurd h h1
      · exact absurd h h2
      · exact h
    clear hs
    have H3 := Lib.hid h3
    clear h3
    go_enter Tryd.func10, Tryd.ntmps10
    go_wp2_with fail
    refine (sat_sub _ _ _ (by omega) (by omega) (by omega) (by omega)).mono ?_; rintro e w' ⟨rfl, rfl⟩
    unfold pairV
    go_wp2_with (at_lookup; refine map_look 2 4 39 Tryd.underlying2 Tryd.underlying4 Tryd.underlying39 zeroB rfl _ _ rfl b n s.said rfl hM a ha rfl ?_; rw [H3.out])
    go_ret
    exact ⟨rfl, rfl⟩
theorem tell_new (g b n : Nat) (s : LS) (a c d : Int) (y : Bool) (ha : -9223372036854775808 ≤ a ∧ a ≤ 9223372036854775807) (hc : -9223372036854775808 ≤ c ∧ c ≤ 9223372036854775807) (hd : -9223372036854775808 ≤ d ∧ d ≤ 9223372036854775807) (w : World) (h : Led w g b n s) (hn : n < 100000)
    (h1 : ¬ a ≤ s.done) (h2 : ¬ cut (d - c) < s.patience) (h3 : s.said a = none) :
    Calls Tryd.prog 10 #[.pointer (some ⟨g, 0, none⟩), .int .i64 a, .int .i64 c, .int .i64 d, .bool y] w (Steps w g b (n + 1) ⟨s.patience, s.done, putM s.said a y⟩ [⟨28, a, 0, y⟩]) := by
  have c0 := h.c0
  have c1 := h.c1
  have c2 := h.c2
  have hM := h.m
  have hlt := h.lt
  have hlb := MapB.lt h.m
  have H3 := Lib.hid h3
  clear h3
  have hng := h.ne
  have HL := Lib.hid h
  clear h
  have qT : ∀ (W : World) (r : Option Nat), (binOp .eql 39 (.map r) (.map none)).run Tryd.prog W = .ok (.bool r.isNone) W := fun W r => run_eql_map_nil W _ _ _ r Tryd.underlying39
  have tok1 : True := trivial
  have tok2 : True := trivial
  go_enter Tryd.func10, Tryd.ntmps10
  go_wp2_with fail
  refine (sat_sub _ _ _ (by omega) (by omega) (by omega) (by omega)).mono ?_; rintro e w' ⟨rfl, rfl⟩
  unfold pairV
  go_wp2_with (first
    | (at_lookup; refine map_look 2 4 39 Tryd.underlying2 Tryd.underlying4 Tryd.underlying39 zeroB rfl _ _ rfl b n s.said rfl hM a ha rfl ?_; rw [H3.out])
    | (at_mapUpdate; refine map_put 2 4 39 Tryd.underlying2 Tryd.underlying4 Tryd.underlying39 rfl _ _ _ rfl b n s.said rfl hM (by omega) a y ha rfl rfl ?_; intro w1 hM1 ht1; have z1 := ht1.size)
    | (at_builtin; refine append_rc rfl _ _ rfl w.heap.size (.slice none 0 0) [] rfl (OwnC.nil _ _) ⟨w1.heap.size, 0, none⟩ 1 1 [⟨28, a, 0, y⟩] rfl rfl (news_one (by simp [go_sem])) (by simp) (by simp; omega) ?_; intro v2 w2 hO2 ht2))
  go_ret
  have t1 : Turn (fun _ => False) w1 w2 := ((Turn.refl _ _).alloc _).trans ht2 (fun x _ h => by cases h)
  exact ⟨v2, rfl, hO2, (HL.out.put ht1 hM1).turn t1 (fun h => h) (fun h => h), (ht1.mono (fun k _ e => .inr e)).trans t1 (fun _ _ h => h.elim)⟩
theorem tell_turn (g b n : Nat) (s : LS) (a c d : Int) (y : Bool) (ha : -9223372036854775808 ≤ a ∧ a ≤ 9223372036854775807) (hc : -9223372036854775808 ≤ c ∧ c ≤ 9223372036854775807) (hd : -9223372036854775808 ≤ d ∧ d ≤ 9223372036854775807) (w : World) (h : Led w g b n s) (hn : n < 100000)
    (h1 : ¬ a ≤ s.done) (h2 : ¬ cut (d - c) < s.patience) (v : Bool) (h3 : s.said a = some v) (hv : (v == y) = false) :
    Calls Tryd.prog 10 #[.pointer (some ⟨g, 0, none⟩), .int .i64 a, .int .i64 c, .int .i64 d, .bool y] w (Steps w g b (n + 1) ⟨s.patience, s.done, putM s.said a y⟩ [⟨29, a, 0, v⟩, ⟨28, a, 0, y⟩]) := by
  have c0 := h.c0
  have c1 := h.c1
  have c2 := h.c2
  have hM := h.m
  have hlt := h.lt
  have hlb := MapB.lt h.m
  have H3 := Lib.hid h3
  clear h3
  have hng := h.ne
  have HL := Lib.hid h
  clear h
  have qT : ∀ (W : World) (r : Option Nat), (binOp .eql 39 (.map r) (.map none)).run Tryd.prog W = .ok (.bool r.isNone) W := fun W r => run_eql_map_nil W _ _ _ r Tryd.underlying39
  have tok1 : True := trivial
  go_enter Tryd.func10, Tryd.ntmps10
  go_wp2_with fail
  refine (sat_sub _ _ _ (by omega) (by omega) (by omega) (by omega)).mono ?_; rintro e w' ⟨rfl, rfl⟩
  unfold pairV
  go_wp2_with (first
    | (at_lookup; refine map_look 2 4 39 Tryd.underlying2 Tryd.underlying4 Tryd.underlying39 zeroB rfl _ _ rfl b n s.said rfl hM a ha rfl ?_; rw [H3.out])
    | (at_mapUpdate; refine map_put 2 4 39 Tryd.underlying2 Tryd.underlying4 Tryd.underlying39 rfl _ _ _ rfl b n s.said rfl hM0 (by omega) a y ha rfl rfl ?_; intro w1 hM1 ht1; have z1 := ht1.size)
    | (at_builtin; have _t := tok1; refine append_rc rfl _ _ rfl w.heap.size (.slice none 0 0) [] rfl (OwnC.nil _ _) ⟨w.heap.size, 0, none⟩ 1 1 [⟨29, a, 0, v⟩] rfl rfl (news_one (by simp [go_sem])) (by simp) (by simp) ?_; intro v0 w0 hO0 ht0; clear tok1; have t0 : Turn (fun _ => False) w w0 := ((Turn.refl _ _).alloc _).trans ht0 (fun x _ h => by cases h); have hM0 : MapL w0 b n s.said := MapB.turn HL.out.m t0 (fun h => h); have d2 := (t0.cell (p := ⟨g, 2, none⟩) hlt (fun h => h)).trans c2; have z0 := t0.size)
    | (at_builtin; refine append_rc rfl _ _ rfl w.heap.size v0 [⟨29, a, 0, v⟩] rfl ((hO0.turn ht1 (fun k hk e => by omega)).turn ((Turn.refl (fun _ => False) _).alloc _) (fun _ _ h => h)) ⟨w1.heap.size, 0, none⟩ 1 1 [⟨28, a, 0, y⟩] rfl rfl (news_one (by simp [go_sem])) (by simp) (by simp; omega) ?_; intro v2 w2 hO2 ht2))
  go_ret
  have t1 : Turn (fun k => v0.ownBlock = some k) w1 w2 := ((Turn.refl _ _).alloc _).trans ht2 (fun x _ h => h)
  have hb0 : ∀ k, v0.ownBlock = some k → w.heap.size ≤ k := fun k e => (hO0.owns.lt k e).1
  refine ⟨v2, rfl, hO2, ((HL.out.turn t0 (fun h => h) (fun h => h)).put ht1 hM1).turn t1 (fun e => by have := hb0 _ e; omega) (fun e => by have := hb0 _ e; omega), ?_⟩
  exact (((t0.mono (fun _ _ h => h.elim)).trans ht1 (fun k _ e => .inr e))).trans t1 (fun k hk e => by have := hb0 _ e; omega)
theorem tell_any (g b n : Nat) (s : LS) (a c d : Int) (y : Bool) (ha : -9223372036854775808 ≤ a ∧ a ≤ 9223372036854775807) (hc : -9223372036854775808 ≤ c ∧ c ≤ 9223372036854775807) (hd : -9223372036854775808 ≤ d ∧ d ≤ 9223372036854775807) (w : World) (h : Led w g b n s) (hn : n < 100000) :
    Calls Tryd.prog 10 #[.pointer (some ⟨g, 0, none⟩), .int .i64 a, .int .i64 c, .int .i64 d, .bool y] w (Steps w g b (n + 1) (s.tellS a c d y) (s.tellR a c d y)) := by
  unfold LS.tellS LS.tellR
  by_cases hs : s.still a c d y
  · rw [if_pos hs, if_pos hs]
    refine (tell_still g b n s a c d y ha hc hd w h hs).mono ?_
    rintro e w' ⟨rfl, rfl⟩
    exact ⟨_, rfl, OwnC.nil _ _, h.mono (by omega), Turn.refl _ _⟩
  · rw [if_neg hs, if_neg hs]
    have h1 : ¬ a ≤ s.done := fun x => hs (.inl x)
    have h2 : ¬ cut (d - c) < s.patience := fun x => hs (.inr (.inl x))
    have h3 : ¬ s.said a = some y := fun x => hs (.inr (.inr x))
    unfold LS.back backOf
    cases hsa : s.said a with
    | none => exact tell_new g b n s a c d y ha hc hd w h hn h1 h2 hsa
    | some v =>
      have hv : ¬ v = y := fun e => h3 (by rw [hsa, e])
      simp only [hv, if_false]
      exact tell_turn g b n s a c d y ha hc hd w h hn h1 h2 v hsa (by simpa using hv)
end Go.Proofs.YtkdekdogfplbmaaDoor
