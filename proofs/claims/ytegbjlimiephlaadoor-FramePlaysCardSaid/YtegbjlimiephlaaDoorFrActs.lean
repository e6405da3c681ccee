/- A decoder's acts: New, Held, Give, End, Next. -/
import Derived.Test.YtegbjlimiephlaaDoorFrWalk
import Derived.Maps.AppendAt
namespace Go.Proofs.YtegbjlimiephlaaDoor
open Go.RowKit
set_option linter.unusedVariables false
set_option linter.unusedSimpArgs false
set_option maxHeartbeats 4000000
set_option maxRecDepth 20000
/-- append(v, x...): onto one's own, from whatever may be read; and where the new slice lies. -/
theorem append_bytes2 {P : Program} {w : World} {ops : Array Oper} {rest : List Oper} {o : Oper} {a : Act} {Q : Exit → Act → World → Prop} (T t : TypeId) (hinfo : (P.info? t).map (fun i => (i.zero, i.size, i.bytes)) = some (some (.int .u8 0), 1, 1)) (hT : P.underlying T = some (.slice t))
    (hgd : o.guard = none) (s x : Operand) (ho : o.op = .call { callee := .builtin .append, args := #[s, x], argTypes := #[T, T] })
    (base : Nat) (vq : Option Addr) (n vc : Nat) (l : List UInt8) (hs : a.eval s = .slice vq n vc) (hown : OwnB t base w (.slice vq n vc) l) (q : Option Addr) (m c : Nat) (bs : List UInt8) (hx : a.eval x = .slice q m c) (hrow : RowB w q m c bs)
    (hroom : n + m ≤ 140737488355328) (hbase : base ≤ w.heap.size)
    (h : ∀ q' c' w', OwnB t base w' (.slice q' (n + m) c') (l ++ bs) → Turn (qblk vq) w w' → (∀ y, q' = some y → qblk vq y.block ∨ y.block = w.heap.size) → wpList P ops Q rest (a.put o.dst (.slice q' (n + m) c')) w') : wpList P ops Q (o :: rest) a w := by
  obtain ⟨hn, _⟩ := hown.rowS
  subst hn
  obtain ⟨i, hi, hz, hsz, hby⟩ := info_parts hinfo
  have hm := hrow.length
  have fin : ∀ (v' : Value) (w' : World), w'.ownsRow base t 1 v' (l.length + m) (bv l ++ bv bs) → w.grownBy w' (Value.slice vq l.length vc).ownBlock → (v'.ownBlock = (Value.slice vq l.length vc).ownBlock ∨ v'.ownBlock = some w.heap.size) → wpList P ops Q rest (a.put o.dst v') w' := by
    intro v' w' ho' hg' hat
    have hO : OwnB t base w' v' (l ++ bs) := ⟨by rw [bv_append, List.length_append, hm]; exact ho', by rw [List.length_append]; unfold maxLen; omega⟩
    obtain ⟨q', c', rfl, hR, _⟩ := hO.row
    rw [List.length_append, hm] at hO hR ⊢
    refine h q' c' w' hO (Turn.ofGrown hg' (fun k hk _ => ?_)) (fun y hy => ?_)
    · cases vq with
      | none => cases hk
      | some z => exact ⟨z, rfl, by simpa [Value.ownBlock] using hk⟩
    · subst hy
      rcases hat with hat | hat
      · left
        cases vq with
        | none => cases hat
        | some z => exact ⟨z, rfl, by simpa [Value.ownBlock] using hat.symm⟩
      · right; simpa [Value.ownBlock] using hat
  cases q with
  | none =>
    have hc0 := hrow.nil rfl
    subst hc0
    have hm0 : m = 0 := by have := hrow.le; omega
    subst hm0
    have hb0 : bs = [] := List.eq_nil_of_length_eq_zero hm
    subst hb0
    refine wpList_append_own_none hgd s x T ho base t i 1 hT hi _ l.length (bv l) hs hown.owns hx ?_
    exact fin _ w (by simpa [bv] using hown.owns) ⟨rfl, rfl, rfl, Nat.le_refl _, fun _ _ _ => rfl⟩ (.inl rfl)
  | some ad =>
    refine wpList_append_own_at w hgd s x T ho base t i _ 1 1 hT hi hz hsz hby (by rfl) (by omega) _ l.length (bv l) hs hown.owns ad m c (bv bs) hx (by rw [bv_length]; omega) ?_ ?_ (by unfold maxLen; omega) (by omega) hbase (fun v' w' h1 h2 _ h4 => fin v' w' h1 h2 h4)
    · intro j u hu
      have hj : j < bs.length := by
        have := (List.getElem?_eq_some_iff.1 hu).1
        simpa [bv] using this
      rcases hrow.at_ with h0 | ⟨b, off, e, _, hc⟩
      · omega
      · cases e
        rw [WideShapes.add_plain, hc j (by omega)]
        simp [bv, List.getElem?_eq_getElem hj] at hu
        rw [← hu, getD_eq hj]
    · intro u hu
      simp only [bv, List.mem_map] at hu
      obtain ⟨y, _, rfl⟩ := hu
      rfl
theorem Fr.pass_bound (over : Bool) : ∀ (rest : List UInt8) (s : Nat) (f : List It), (Fr.pass over rest s f).2.2.length + (Fr.pass over rest s f).2.1 + 2 * (Fr.pass over rest s f).1.length ≤ f.length + s + 2 * rest.length := by
  intro rest
  induction hl : rest.length using Nat.strongRecOn generalizing rest with
  | _ N ih =>
    intro s f
    subst hl
    by_cases h0 : rest = []
    · subst h0; rw [Fr.pass_nil]; simp
    · have hpos : 0 < rest.length := List.length_pos_iff.2 h0
      rcases Fr.look_cases rest with h | h | ⟨n, h, h7, _, hn⟩
      · rw [Fr.pass_skip h0 (by omega) (fun e => by omega)]
        have := ih (rest.drop 1).length (by rw [List.length_drop]; omega) (rest.drop 1) rfl (s + 1) f
        rw [List.length_drop] at this; omega
      · cases over
        · rw [Fr.pass_wait h]; simp only; omega
        · rw [Fr.pass_skip h0 (by omega) (fun e => by simp at e)]
          have := ih (rest.drop 1).length (by rw [List.length_drop]; omega) (rest.drop 1) rfl (s + 1) f
          rw [List.length_drop] at this; omega
      · rw [Fr.pass_frame h (by omega)]
        have := ih (rest.drop n).length (by rw [List.length_drop]; omega) (rest.drop n) rfl 0 (Fr.tell s f ++ [Fr.item rest n])
        have ht := Fr.tell_le s f
        rw [List.length_drop, List.length_append] at this
        simp only [List.length_cons, List.length_nil] at this
        omega
theorem new_any (w : World) : Calls Tryd.prog 14 #[] w fun e w' => ∃ g, e = .returned (.pointer (some ⟨g, 0, none⟩)) ∧ w.heap.size ≤ g ∧ (∃ S, Dec w' g S St.new ∧ ∀ k, S k → w.heap.size ≤ k) ∧ Below w.heap.size w w' := by
  go_enter Tryd.func14, Tryd.ntmps14
  go_wp2_with fail
  go_ret
  refine ⟨w.heap.size, rfl, Nat.le_refl _, ⟨fun k => k = w.heap.size, ?_, fun k hk => by omega⟩, (by repeat (first | with_reducible exact Below.refl _ _ | with_reducible refine Below.drew ?_ | with_reducible refine Below.alloc ?_ (by (try simp) <;> omega) _ | with_reducible refine Below.setCell ?_ (by (try simp) <;> omega) _))⟩
  exact ⟨rfl, fun k hk => by subst hk; simp, ⟨none, 0, 0, none, 0, 0, by simp [go_sem], OwnB.nil _ _ _, by simp [go_sem], Fnd.empty _ _ _, (fun x e => by cases e), (fun x e => by cases e)⟩, by simp [go_sem, St.new], by simp [go_sem, St.new], by simp [go_sem], by simp [go_sem], by simp [go_sem], by simp [go_sem]⟩
theorem held_any (g : Nat) (S : Nat → Prop) (d : St) (w : World) (h : Dec w g S d) : Calls Tryd.prog 21 #[.pointer (some ⟨g, 0, none⟩)] w fun e w' => e = .returned (.int .i64 (d.rest.length : Int)) ∧ w = w' := by
  obtain ⟨rq, rn, rc, fq, fn, fc, hM⟩ := h.m
  have c0 := hM.c0
  obtain ⟨hn, hR⟩ := hM.own.rowS
  rw [← hn]
  have hm := hR.small
  unfold maxLen at hm
  replace hn := Lib.hid hn
  go_enter Tryd.func21, Tryd.ntmps21
  go_wp2_with fail
  go_ret
  exact ⟨rfl, rfl⟩
theorem held_none (w : World) : Calls Tryd.prog 21 #[.pointer none] w fun e w' => e = .returned (.int .i64 0) ∧ w = w' := by
  go_enter Tryd.func21, Tryd.ntmps21
  go_wp2_with fail
  go_ret
  exact ⟨rfl, rfl⟩
theorem give_none (b : Value) (w : World) : Calls Tryd.prog 15 #[.pointer none, b] w fun e w' => e = .returned (.tuple #[]) ∧ w = w' := by
  go_enter Tryd.func15, Tryd.ntmps15
  go_wp2_with fail
  exact bodyPost_ret (v := .tuple #[]) (by simp [results, Tryd.results15, go_sem]) rfl ⟨rfl, rfl⟩
theorem end_none (w : World) : Calls Tryd.prog 19 #[.pointer none] w fun e w' => e = .returned (.tuple #[]) ∧ w = w' := by
  go_enter Tryd.func19, Tryd.ntmps19
  go_wp2_with fail
  exact bodyPost_ret (v := .tuple #[]) (by simp [results, Tryd.results19, go_sem]) rfl ⟨rfl, rfl⟩
theorem give_any (g : Nat) (S : Nat → Prop) (d : St) (w : World) (h : Dec w g S d) (hT : Tab w) (hTS : ¬ S 0) (q : Option Addr) (n c : Nat) (b : List UInt8) (hR : RowB w q n c b) (hb : d.found.length + d.skips + 2 * (d.rest.length + n) ≤ 1000000) :
    Calls Tryd.prog 15 #[.pointer (some ⟨g, 0, none⟩), .slice q n c] w fun e w' => e = .returned (.tuple #[]) ∧ DecTo w w' g S (d.give b) := by
  obtain ⟨rq, rn, rc, fq, fn, fc, hM⟩ := h.m
  have c0 := hM.c0
  have c3 := hM.c3
  have f0 := hM.f0
  have hg := hM.lt g hM.sg
  obtain ⟨rest, skips, found, over⟩ := d
  simp only at c3 hb
  cases over
  · obtain ⟨D, hD⟩ : ∃ D, St.give ⟨rest, skips, found, false⟩ b = D := ⟨_, rfl⟩
    rw [hD]
    replace hD := Lib.hid hD
    have hrn := hM.own.rowS.1
    simp only at hrn
    have hbr : rn + n ≤ 1000000 := by omega
    have tok1 : True := trivial
    have hrl := Lib.hid hrn
    clear hrn
    have hbl := hR.length
    go_enter Tryd.func15, Tryd.ntmps15
    go_wp2_with (at_builtin; have _t := tok1; refine append_bytes2 22 5 info8 Tryd.underlying22 rfl _ _ rfl 0 rq rn rc rest rfl hM.own q n c b rfl hR (by omega) (Nat.zero_le _) ?_; intro q' c' w3 hO3 hT3 hq3; clear tok1; have hng : ¬ qblk rq g := (fun ⟨x, e, e2⟩ => (hM.hr x e).2 e2); have b0 := (hT3.cell (p := ⟨g, 0, none⟩) hg hng).trans c0; have e0 := (hT3.frozen (p := ⟨g, 0, none⟩) hg hng).trans f0)
    have hS1 := hM.setRest hT3 hO3 (fun y hy => (hq3 y hy).imp id (fun h => by omega))
    obtain ⟨S1, h1, t1, n1⟩ := hS1
    simp only at h1
    have hTB : Tab (w3.setCell ⟨g, 0, none⟩ (.slice q' (rn + n) c')) := hT.turn t1 hTS
    have hg0 := hT.lt
    refine (walk_any g S1 ⟨rest ++ b, skips, found, false⟩ _ h1 hTB (fun h => (n1 _ h).elim hTS (fun h => by omega)) (by simp only [List.length_append]; omega)).mono ?_; rintro e w' ⟨rfl, hW⟩
    go_wp2_with fail
    go_end0
    refine ⟨rfl, DecTo.after t1 n1 ?_⟩
    rw [← hD.out]
    exact hW
  · go_enter Tryd.func15, Tryd.ntmps15
    go_wp2_with fail
    exact bodyPost_ret (v := .tuple #[]) (by simp [results, Tryd.results15, go_sem]) rfl ⟨rfl, DecTo.refl h⟩
theorem end_any (g : Nat) (S : Nat → Prop) (d : St) (w : World) (h : Dec w g S d) (hT : Tab w) (hTS : ¬ S 0) (hb : d.found.length + d.skips + 2 * d.rest.length ≤ 1000000) :
    Calls Tryd.prog 19 #[.pointer (some ⟨g, 0, none⟩)] w fun e w' => e = .returned (.tuple #[]) ∧ DecTo w w' g S d.fin := by
  obtain ⟨rq, rn, rc, fq, fn, fc, hM⟩ := h.m
  have c3 := hM.c3
  have f3 := hM.f3
  have hg0 := hT.lt
  obtain ⟨rest, skips, found, over⟩ := d
  simp only at c3 hb
  cases over
  · obtain ⟨D, hD⟩ : ∃ D, St.fin ⟨rest, skips, found, false⟩ = D := ⟨_, rfl⟩
    rw [hD]
    replace hD := Lib.hid hD
    have hS1 := h.setOver true
    obtain ⟨S1, h1, t1, n1⟩ := hS1
    simp only at h1
    have hTB := hT.turn t1 hTS
    have hTS1 : ¬ S1 0 := fun h => (n1 _ h).elim hTS (fun h => by omega)
    go_enter Tryd.func19, Tryd.ntmps19
    go_wp2_with fail
    refine (walk_any g S1 ⟨rest, skips, found, true⟩ _ h1 hTB hTS1 hb).mono ?_; rintro e w2 ⟨rfl, hW⟩
    obtain ⟨S2, h2, t2, n2⟩ := hW
    simp only at h2
    have hbd := Fr.pass_bound true rest skips found
    go_wp2_with fail
    refine (tell_any g S2 _ w2 h2 (by simp only; omega) (by simp only; omega)).mono ?_; rintro e w3 ⟨rfl, hW3⟩
    go_wp2_with fail
    go_end0
    refine ⟨rfl, DecTo.after t1 n1 (DecTo.after t2 n2 ?_)⟩
    rw [← hD.out]
    exact hW3
  · go_enter Tryd.func19, Tryd.ntmps19
    go_wp2_with fail
    exact bodyPost_ret (v := .tuple #[]) (by simp [results, Tryd.results19, go_sem]) rfl ⟨rfl, DecTo.refl h⟩
theorem next_none (w : World) : Calls Tryd.prog 17 #[.pointer none] w fun e w' => e = .returned (.tuple #[.agg #[.int .i64 0, .int .u8 0, .slice none 0 0], .bool false]) ∧ Below w.heap.size w w' := by
  go_enter Tryd.func17, Tryd.ntmps17
  go_wp2_with fail
  exact bodyPost_ret (v := .tuple #[.agg #[.int .i64 0, .int .u8 0, .slice none 0 0], .bool false]) (by simp [results, Tryd.results17, go_sem]) rfl ⟨rfl, (by repeat (first | with_reducible exact Below.refl _ _ | with_reducible refine Below.drew ?_ | with_reducible refine Below.alloc ?_ (by (try simp) <;> omega) _ | with_reducible refine Below.setCell ?_ (by (try simp) <;> omega) _))⟩
theorem next_empty (g : Nat) (S : Nat → Prop) (d : St) (w : World) (h : Dec w g S d) (h0 : d.found = []) : Calls Tryd.prog 17 #[.pointer (some ⟨g, 0, none⟩)] w fun e w' => e = .returned (.tuple #[.agg #[.int .i64 0, .int .u8 0, .slice none 0 0], .bool false]) ∧ Below w.heap.size w w' := by
  obtain ⟨rq, rn, rc, fq, fn, fc, hM⟩ := h.m
  have hg := hM.lt g hM.sg
  have c2 := hM.c2
  have hl := hM.fnd.length
  rw [h0] at hl
  simp at hl
  subst hl
  replace h0 := Lib.hid h0
  go_enter Tryd.func17, Tryd.ntmps17
  go_wp2_with fail
  exact bodyPost_ret (v := .tuple #[.agg #[.int .i64 0, .int .u8 0, .slice none 0 0], .bool false]) (by simp [results, Tryd.results17, go_sem]) rfl ⟨rfl, (by repeat (first | with_reducible exact Below.refl _ _ | with_reducible refine Below.drew ?_ | with_reducible refine Below.alloc ?_ (by (try simp) <;> omega) _ | with_reducible refine Below.setCell ?_ (by (try simp) <;> omega) _))⟩
theorem DecTo.below {w w1 w2 : World} {g : Nat} {S : Nat → Prop} {d : St} (h : DecTo w w1 g S d) (hb : Below w1.heap.size w1 w2) : DecTo w w2 g S d :=
  h.trans (fun S1 h1 => ⟨S1, h1.below hb, Turn.ofBelow hb rfl, fun _ h => .inl h⟩)
/-- the first item struck out, in memory too -/
def popped (w : World) (b off : Nat) : World := ((w.setCell ⟨b, off, none⟩ (.int .i64 0)).setCell ⟨b, off + 1, none⟩ (.int .u8 0)).setCell ⟨b, off + 2, none⟩ (.slice none 0 0)
theorem popped_turn (w : World) (b off : Nat) : Turn (fun k => k = b) w (popped w b off) :=
  ((Turn.set w ⟨b, off, none⟩ _).trans (Turn.set _ ⟨b, off + 1, none⟩ _) (fun _ _ h => h)).trans (Turn.set _ ⟨b, off + 2, none⟩ _) (fun _ _ h => h)
theorem popped_cell (w : World) (b off o : Nat) (ho : off + 3 ≤ o) : (popped w b off).cell? ⟨b, o, none⟩ = w.cell? ⟨b, o, none⟩ := by
  unfold popped
  rw [World.cell?_setCell_other _ _ _ _ (fun e => by simp at e <;> omega), World.cell?_setCell_other _ _ _ _ (fun e => by simp at e <;> omega), World.cell?_setCell_other _ _ _ _ (fun e => by simp at e <;> omega)]
theorem popped_frozen (w : World) (b off : Nat) (a : Addr) : (popped w b off).frozen? a = w.frozen? a := by
  simp [popped, go_sem]
theorem Fnd.pop {w : World} {b off n c : Nat} {it : It} {its : List It} {own body : Nat → Prop} (h : Fnd w (some ⟨b, off, none⟩) n c (it :: its) own body) (hn : 2 ≤ n) (hsep : ∀ k, own k → ¬ body k) : Fnd (popped w b off) (some ⟨b, off + 3, none⟩) (n - 1) (c - 1) its own body := by
  have hl := h.length
  have hle := h.le
  have hs := h.small
  simp at hl
  refine ⟨by omega, by omega, by omega, fun e => (by cases e), .inr ⟨b, off + 3, rfl, ?_⟩⟩
  rcases h.at_ with h0 | ⟨b', off', e, ho, hb, hr, hi⟩
  · omega
  cases e
  have hT := popped_turn w b off
  refine ⟨ho, Nat.lt_of_lt_of_le hb hT.size, fun j hj => ?_, fun i hin => ?_⟩
  · rw [popped_cell w b off (off + 3 + j) (by omega), popped_frozen]
    have := hr (3 + j) (by omega)
    rwa [← Nat.add_assoc] at this
  · obtain ⟨c0, c1, q, m, cc, c2, hR, hq⟩ := hi (i + 1) (by omega)
    have hg : (it :: its).getD (i + 1) It.no = its.getD i It.no := rfl
    rw [hg] at c0 c1 hR
    have e3 : off + 3 + i * 3 = off + (i + 1) * 3 := by omega
    refine ⟨?_, ?_, q, m, cc, ?_, hR.turn hT (fun y hy e => hsep b ho (e ▸ (hq y hy).1)), fun y hy => ⟨(hq y hy).1, Nat.lt_of_lt_of_le (hq y hy).2 hT.size⟩⟩
    · rw [popped_cell _ _ _ _ (by omega), e3]; exact c0
    · rw [popped_cell _ _ _ _ (by omega), e3]; exact c1
    · rw [popped_cell _ _ _ _ (by omega), e3]; exact c2
theorem DecM.noFound {w w' : World} {g : Nat} {S : Nat → Prop} {d : St} {rq : Option Addr} {rn rc : Nat} {fq : Option Addr} {fn fc : Nat} (h : DecM w g S d rq rn rc fq fn fc) (T : Turn (fun k => k = g ∨ qblk fq k) w w') (c0 : w'.cell? ⟨g, 0, none⟩ = some (.slice rq rn rc)) (c2 : w'.cell? ⟨g, 2, none⟩ = some (.slice none 0 0))
    (c1 : w'.cell? ⟨g, 1, none⟩ = some (.int .i64 (d.skips : Int))) (c3 : w'.cell? ⟨g, 3, none⟩ = some (.bool d.over)) (f0 : w'.frozen? ⟨g, 0, none⟩ = false) (f1 : w'.frozen? ⟨g, 1, none⟩ = false) (f2 : w'.frozen? ⟨g, 2, none⟩ = false) (f3 : w'.frozen? ⟨g, 3, none⟩ = false) :
    DecTo w w' g S ⟨d.rest, d.skips, [], d.over⟩ := by
  refine ⟨S, ⟨h.sg, fun k hk => Nat.lt_of_lt_of_le (h.lt k hk) T.size, ⟨rq, rn, rc, none, 0, 0, c0, h.own.turn T (fun x hx hk => ?_), c2, Fnd.empty _ _ _, h.hr, fun x e => (by cases e)⟩, c1, c3, f0, f1, f2, f3⟩, T.mono (fun k _ hk => ?_), fun k hk => .inl hk⟩
  · rcases hk with hk | ⟨y, hy, e⟩
    · exact (h.hr x hx).2 hk
    · exact (h.hf y hy).2.2 x hx e
  · rcases hk with hk | ⟨y, hy, e⟩
    · exact hk ▸ h.sg
    · exact e ▸ (h.hf y hy).1
theorem next_last {w : World} {g : Nat} {S : Nat → Prop} {d : St} {rq : Option Addr} {rn rc : Nat} {b off fn fc : Nat} (h : DecM w g S d rq rn rc (some ⟨b, off, none⟩) fn fc) (X : Value) :
    DecTo w (((popped w b off).setCell ⟨g, 2, none⟩ X).setCell ⟨g, 2, none⟩ (.slice none 0 0)) g S ⟨d.rest, d.skips, [], d.over⟩ := by
  have hT := popped_turn w b off
  have hg := h.lt g h.sg
  have hbg : ¬ g = b := fun e => (h.hf _ rfl).2.1 e.symm
  have p0 := (hT.cell (p := ⟨g, 0, none⟩) hg hbg).trans h.c0
  have p1 := (hT.cell (p := ⟨g, 1, none⟩) hg hbg).trans h.c1
  have p2 := (hT.cell (p := ⟨g, 2, none⟩) hg hbg).trans h.c2
  have p3 := (hT.cell (p := ⟨g, 3, none⟩) hg hbg).trans h.c3
  have e0 := (hT.frozen (p := ⟨g, 0, none⟩) hg hbg).trans h.f0
  have e1 := (hT.frozen (p := ⟨g, 1, none⟩) hg hbg).trans h.f1
  have e2 := (hT.frozen (p := ⟨g, 2, none⟩) hg hbg).trans h.f2
  have e3 := (hT.frozen (p := ⟨g, 3, none⟩) hg hbg).trans h.f3
  refine h.noFound (((hT.mono (fun k _ e => Or.inr ⟨_, rfl, e.symm⟩)).trans (Turn.set _ ⟨g, 2, none⟩ X) (fun k _ e => Or.inl e)).trans (Turn.set _ ⟨g, 2, none⟩ (.slice none 0 0)) (fun k _ e => Or.inl e)) ?_ ?_ ?_ ?_ ?_ ?_ ?_ ?_
  · simp [go_sem, p0, p2]
  · simp [go_sem, p2]
  · simp [go_sem, p1, p2]
  · simp [go_sem, p3, p2]
  · simp [go_sem, e0]
  · simp [go_sem, e1]
  · simp [go_sem, e2]
  · simp [go_sem, e3]
theorem next_some (g : Nat) (S : Nat → Prop) (d : St) (w : World) (h : Dec w g S d) (it : It) (its : List It) (h0 : d.found = it :: its) : Calls Tryd.prog 17 #[.pointer (some ⟨g, 0, none⟩)] w fun e w' => ∃ q n c, e = .returned (.tuple #[.agg #[.int .i64 (it.skip : Int), .int .u8 (it.kind.toNat : Int), .slice q n c], .bool true]) ∧ RowB w' q n c it.body ∧ (∀ y, q = some y → ¬ S y.block ∧ y.block < w.heap.size) ∧ DecTo w w' g S d.next := by
  obtain ⟨rq, rn, rc, fq, fn, fc, hM⟩ := h.m
  have hg := hM.lt g hM.sg
  have c2 := hM.c2
  have f2 := hM.f2
  have hl := hM.fnd.length
  rw [h0] at hl
  simp at hl
  have hle := hM.fnd.le
  have hsm := hM.fnd.small
  unfold maxLen at hsm
  rcases hM.fnd.at_ with hc0 | ⟨b, off, rfl, hob, hbl, hroom, hit⟩
  · omega
  have i0 := hit 0 (by omega)
  rw [h0] at i0
  simp only [List.getD_cons_zero, Nat.zero_mul, Nat.add_zero] at i0
  obtain ⟨d0, d1, q, n, c, d2, hR, hq⟩ := i0
  have r0 := (hroom 0 (by omega)).2
  have r1 := (hroom 1 (by omega)).2
  have r2 := (hroom 2 (by omega)).2
  rw [Nat.add_zero] at r0
  have hbg : b ≠ g := (hM.hf _ rfl).2.1
  have hn1 : (0 : Int) < (fn : Int) := by omega
  have hn2 : (1 : Int) ≤ (fn : Int) := by omega
  have hn3 : (1 : Int) ≤ (fc : Int) := by omega
  have hzf : (fn == 0) = false := by rw [beq_eq_false_iff_ne]; omega
  have hzi : ((fn : Int) == 0) = false := by rw [beq_eq_false_iff_ne]; omega
  by_cases h1 : fn = 1
  · subst h1
    obtain rfl : its = [] := List.eq_nil_of_length_eq_zero (by omega)
    replace hl := Lib.hid hl
    replace h0 := Lib.hid h0
    clear hit
    by_cases hcc : fc = 1
    · subst hcc
      go_enter Tryd.func17, Tryd.ntmps17
      go_wp2_with fail
      have hTp := popped_turn w b off; have hD1 := next_last hM (.slice (some ⟨b, off, none⟩) 0 0); have hR1 := ((hR.turn hTp (fun y hy e => (hq y hy).1 (e ▸ hob))).turn (Turn.set _ ⟨g, 2, none⟩ (.slice (some ⟨b, off, none⟩) 0 0)) (fun y hy e => (hq y hy).1 (e ▸ hM.sg))).turn (Turn.set _ ⟨g, 2, none⟩ (.slice none 0 0)) (fun y hy e => (hq y hy).1 (e ▸ hM.sg)); have hdn : d.next = ⟨d.rest, d.skips, [], d.over⟩ := (by unfold St.next; rw [h0.out]; rfl); refine bodyPost_ret (v := .tuple #[.agg #[.int .i64 (it.skip : Int), .int .u8 (it.kind.toNat : Int), .slice q n c], .bool true]) (by simp [results, Tryd.results17, go_sem]) rfl ⟨q, n, c, rfl, hR1.below (((Below.refl _ _).alloc (Nat.le_refl _) _).alloc (by simp) _), hq, ?_⟩; rw [hdn]; exact hD1.below (((Below.refl _ _).alloc (Nat.le_refl _) _).alloc (by simp) _)
    · have hc1 : (1 : Int) < (fc : Int) := by omega
      go_enter Tryd.func17, Tryd.ntmps17
      go_wp2_with fail
      have hTp := popped_turn w b off; have hD1 := next_last hM (.slice (some ⟨b, off + 3, none⟩) 0 (fc - 1)); have hR1 := ((hR.turn hTp (fun y hy e => (hq y hy).1 (e ▸ hob))).turn (Turn.set _ ⟨g, 2, none⟩ (.slice (some ⟨b, off + 3, none⟩) 0 (fc - 1))) (fun y hy e => (hq y hy).1 (e ▸ hM.sg))).turn (Turn.set _ ⟨g, 2, none⟩ (.slice none 0 0)) (fun y hy e => (hq y hy).1 (e ▸ hM.sg)); have hdn : d.next = ⟨d.rest, d.skips, [], d.over⟩ := (by unfold St.next; rw [h0.out]; rfl); refine bodyPost_ret (v := .tuple #[.agg #[.int .i64 (it.skip : Int), .int .u8 (it.kind.toNat : Int), .slice q n c], .bool true]) (by simp [results, Tryd.results17, go_sem]) rfl ⟨q, n, c, rfl, hR1.below (((Below.refl _ _).alloc (Nat.le_refl _) _).alloc (by simp) _), hq, ?_⟩; rw [hdn]; exact hD1.below (((Below.refl _ _).alloc (Nat.le_refl _) _).alloc (by simp) _)
  · have hc1 : (1 : Int) < (fc : Int) := by omega
    have hzi2 : ((fn : Int) - 1 == 0) = false := by rw [beq_eq_false_iff_ne]; omega
    have hzf2 : (fn - 1 == 0) = false := by rw [beq_eq_false_iff_ne]; omega
    replace hl := Lib.hid hl
    replace h0 := Lib.hid h0
    clear hit
    go_enter Tryd.func17, Tryd.ntmps17
    go_wp2_with fail
    have hFp := (h0.out ▸ hM.fnd : Fnd w (some ⟨b, off, none⟩) fn fc (it :: its) S (fun k => ¬ S k)).pop (by omega) (fun k hk hn => hn hk)
    have hTp := popped_turn w b off
    have hD1 := hM.setFound (q' := some ⟨b, off + 3, none⟩) (n' := fn - 1) (c' := fc - 1) (its := its) (N := w.heap.size) (hTp.mono (fun k _ e => ⟨_, rfl, e.symm⟩)) ((hFp.mono (fun _ _ h => Or.inl h) (fun k hk h => ⟨h, by have := hTp.size; simpa [popped] using hk⟩))) (fun y hy => by cases hy; exact .inl ⟨_, rfl, rfl⟩) (Nat.le_refl _) (by omega)
    have hR1 := (hR.turn hTp (fun y hy e => (hq y hy).1 (e ▸ hob))).turn (Turn.set _ ⟨g, 2, none⟩ (.slice (some ⟨b, off + 3, none⟩) (fn - 1) (fc - 1))) (fun y hy e => (hq y hy).1 (e ▸ hM.sg))
    have hdn : d.next = ⟨d.rest, d.skips, its, d.over⟩ := by unfold St.next; rw [h0.out]; rfl
    refine bodyPost_ret (v := .tuple #[.agg #[.int .i64 (it.skip : Int), .int .u8 (it.kind.toNat : Int), .slice q n c], .bool true]) (by simp [results, Tryd.results17, go_sem]) rfl ⟨q, n, c, rfl, hR1.below (((Below.refl _ _).alloc (Nat.le_refl _) _).alloc (by simp) _), hq, ?_⟩
    rw [hdn]
    exact hD1.below (((Below.refl _ _).alloc (Nat.le_refl _) _).alloc (by simp) _)
end Go.Proofs.YtegbjlimiephlaaDoor
