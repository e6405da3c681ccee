/- Memory of a decoder: which blocks may turn; a slice of items of its own, wherever in its block it begins; append onto it. No program. -/
import Derived.Test.YtegbjlimiephlaaDoorTurn
import Derived.Test.YtegbjlimiephlaaDoorFrMath
import Derived.ArgAppend
import Derived.Deep.Upon
import Derived.Deep.AppendLies
namespace Go.Proofs.YtegbjlimiephlaaDoor
open Go.RowKit
set_option linter.unusedVariables false
/-- an item's three cells -/
def ItCells (w : World) (b o : Nat) (x : It) (body : Nat → Prop) : Prop :=
  w.cell? ⟨b, o, none⟩ = some (.int .i64 (x.skip : Int)) ∧ w.cell? ⟨b, o + 1, none⟩ = some (.int .u8 (x.kind.toNat : Int)) ∧
  ∃ q n c, w.cell? ⟨b, o + 2, none⟩ = some (.slice q n c) ∧ RowB w q n c x.body ∧ ∀ y, q = some y → body y.block ∧ y.block < w.heap.size
def It.no : It := ⟨0, 0, []⟩
/-- A slice of items: its block is one of 'own', not frozen, all its room is there; the bodies lie in blocks of 'body'. -/
structure Fnd (w : World) (q : Option Addr) (n c : Nat) (its : List It) (own body : Nat → Prop) : Prop where
  length : its.length = n
  le : n ≤ c
  small : c ≤ maxLen
  nil : q = none → c = 0
  at_ : c = 0 ∨ ∃ b off, q = some ⟨b, off, none⟩ ∧ own b ∧ b < w.heap.size ∧ (∀ j, j < c * 3 → (w.cell? ⟨b, off + j, none⟩).isSome = true ∧ w.frozen? ⟨b, off + j, none⟩ = false) ∧
    ∀ i, i < n → ItCells w b (off + i * 3) (its.getD i It.no) body
theorem Fnd.empty (w : World) (own body : Nat → Prop) : Fnd w none 0 0 [] own body := ⟨rfl, Nat.le_refl _, Nat.zero_le _, fun _ => rfl, .inl rfl⟩
theorem Fnd.mono {w : World} {q : Option Addr} {n c : Nat} {its : List It} {own body own' body' : Nat → Prop} (h : Fnd w q n c its own body) (h1 : ∀ k, k < w.heap.size → own k → own' k) (h2 : ∀ k, k < w.heap.size → body k → body' k) : Fnd w q n c its own' body' := by
  refine ⟨h.length, h.le, h.small, h.nil, h.at_.imp id ?_⟩
  rintro ⟨b, off, rfl, ho, hb, hs, hi⟩
  exact ⟨b, off, rfl, h1 b hb ho, hb, hs, fun i hin => by
    obtain ⟨c0, c1, q, n, c, c2, hr, hq⟩ := hi i hin
    exact ⟨c0, c1, q, n, c, c2, hr, fun y hy => ⟨h2 _ (hq y hy).2 (hq y hy).1, (hq y hy).2⟩⟩⟩
theorem ItCells.turn {S : Nat → Prop} {w w' : World} {b o : Nat} {x : It} {body : Nat → Prop} (h : ItCells w b o x body) (ht : Turn S w w') (hb : b < w.heap.size) (hn : ¬ S b) (h2 : ∀ k, k < w.heap.size → body k → ¬ S k) : ItCells w' b o x body := by
  obtain ⟨c0, c1, q, n, c, c2, hr, hq⟩ := h
  exact ⟨(ht.cell (p := ⟨b, o, none⟩) hb hn).trans c0, (ht.cell (p := ⟨b, o + 1, none⟩) hb hn).trans c1, q, n, c, (ht.cell (p := ⟨b, o + 2, none⟩) hb hn).trans c2,
    hr.turn ht (fun y hy => h2 _ (hq y hy).2 (hq y hy).1), fun y hy => ⟨(hq y hy).1, Nat.lt_of_lt_of_le (hq y hy).2 ht.size⟩⟩
theorem Fnd.turn {S : Nat → Prop} {w w' : World} {q : Option Addr} {n c : Nat} {its : List It} {own body : Nat → Prop} (h : Fnd w q n c its own body) (ht : Turn S w w') (h1 : ∀ x, q = some x → 0 < c → ¬ S x.block) (h2 : ∀ k, k < w.heap.size → body k → ¬ S k) : Fnd w' q n c its own body := by
  refine ⟨h.length, h.le, h.small, h.nil, ?_⟩
  by_cases hc : c = 0
  · exact .inl hc
  rcases h.at_ with h0 | ⟨b, off, rfl, ho, hb, hs, hi⟩
  · exact .inl h0
  · have hn := h1 _ rfl (by omega)
    exact .inr ⟨b, off, rfl, ho, Nat.lt_of_lt_of_le hb ht.size, fun j hj => ⟨by rw [ht.cell (p := ⟨b, off + j, none⟩) hb hn]; exact (hs j hj).1, by rw [ht.frozen (p := ⟨b, off + j, none⟩) hb hn]; exact (hs j hj).2⟩, fun i hin => (hi i hin).turn ht hb hn h2⟩
/-- The block of a slice. -/
def qblk (q : Option Addr) (k : Nat) : Prop := ∃ x, q = some x ∧ x.block = k
theorem row_room {w : World} {base : Nat} {e : TypeId} {g n cap size : Nat} {xs : List Value} (h : w.ownsRow base e size (.slice (some ⟨g, 0, none⟩) n cap) n xs) : n ≤ cap ∧ cap ≤ maxLen ∧ g < w.heap.size ∧ base ≤ g ∧
    (∀ j, j < cap * size → (w.cell? ⟨g, 0 + j, none⟩).isSome = true ∧ w.frozen? ⟨g, 0 + j, none⟩ = false) ∧ ∀ j, j < n * size → w.cell? ⟨g, 0 + j, none⟩ = xs[j]? := by
  have hcells := h
  obtain ⟨hl, hh⟩ := h
  rcases hh with ⟨hv, _⟩ | ⟨g', cap', cur, hv, hb, hg, hn, hm, hs, ht⟩
  · cases hv
  · simp only [Value.slice.injEq, Option.some.injEq, Addr.mk.injEq] at hv
    obtain ⟨⟨rfl, _, _⟩, _, rfl⟩ := hv
    refine ⟨hn, hm, (Array.getElem?_eq_some_iff.1 hg).1, hb, fun j hj => ?_, fun j hj => ?_⟩
    · rw [Nat.zero_add, cell_of_row w g j cur e (0, 0) hg]
      refine ⟨by simp [hs, hj], by simp [World.frozen?, hg]⟩
    · rw [Nat.zero_add]
      have := hcells.cells (g := g) rfl j (xs[j]'(by omega)) (by simp)
      rw [WideShapes.add_plain, Nat.zero_add] at this
      rw [this]; simp
/-- append(found, x): one item more. -/
theorem run_append_fnd {P : Program} {w : World} (T e ty : TypeId) (i : TypeInfo) (z : Value) (B : Nat) (hT : P.underlying T = some (.slice e)) (hi : P.info? e = some i) (hz : i.zero = some z) (hsz : i.size = 3) (hby : i.bytes = B) (hzs : z.cells.size = 3)
    {q : Option Addr} {n c : Nat} {its : List It} {own body : Nat → Prop} (h : Fnd w q n c its own body) (hsep : ∀ k, own k → ¬ body k) (A c1 : Nat) (x : It) (hx : ItCells w A 0 x body)
    (hroom : (n + 1) * B ≤ 140737488355328) (hsm : n + 1 ≤ maxLen) :
    ∃ q' c' w', (Builtin.append_ #[T, T] ty #[.slice q n c, .slice (some ⟨A, 0, none⟩) 1 c1]).run P w = .ok (.slice q' (n + 1) c') w' ∧ Fnd w' q' (n + 1) c' (its ++ [x]) (fun k => own k ∨ k = w.heap.size) body ∧ Turn (qblk q) w w' ∧ (∀ y, q' = some y → (qblk q y.block ∧ 0 < c) ∨ y.block = w.heap.size) := by
  obtain ⟨x0, x1, xq, xn, xc, x2, xr, xb⟩ := hx
  have hlen := h.length
  have hle := h.le
  have hnews : ∀ (j : Nat) u, [Value.int .i64 (x.skip : Int), .int .u8 (x.kind.toNat : Int), .slice xq xn xc][j]? = some u → w.cell? ((⟨A, 0, none⟩ : Addr).add j) = some u := by
    intro j u hu
    rw [WideShapes.add_plain, Nat.zero_add]
    rcases j with _ | _ | _ | j
    · simp at hu; rw [← hu]; exact x0
    · simp at hu; rw [← hu]; exact x1
    · simp at hu; rw [← hu]; exact x2
    · simp at hu
  have h1 : ∀ u ∈ [Value.int .i64 (x.skip : Int), .int .u8 (x.kind.toNat : Int), .slice xq xn xc], u.oneCell' = true := by
    intro u hu
    simp at hu
    rcases hu with rfl | rfl | rfl <;> rfl
  -- what a row of the call's own gives
  have fin : ∀ (olds : List Value) (w' : World) (g cap' : Nat), olds.length = n * 3 → (n = 0 ∨ ∃ b off, q = some ⟨b, off, none⟩ ∧ 0 < c ∧ (∀ j, j < n * 3 → w.cell? ⟨b, off + j, none⟩ = olds[j]?)) → w'.ownsRow w.heap.size e 3 (.slice (some ⟨g, 0, none⟩) (n + 1) cap') (n + 1) (olds ++ [Value.int .i64 (x.skip : Int), .int .u8 (x.kind.toNat : Int), .slice xq xn xc]) → w.grownBy w' none → g = w.heap.size →
      Fnd w' (some ⟨g, 0, none⟩) (n + 1) cap' (its ++ [x]) (fun k => own k ∨ k = w.heap.size) body := by
    intro olds w' g cap' hlo hold hO hG hg
    obtain ⟨r1, r2, r3, r4, r5, r6⟩ := row_room hO
    have hTn : Turn (fun _ => False) w w' := Turn.ofGrown hG (fun k e => by cases e)
    refine ⟨by simp [hlen], r1, r2, (fun e => by cases e), .inr ⟨g, 0, rfl, .inr hg, r3, r5, fun k hk => ?_⟩⟩
    by_cases hkn : k < n
    · have hgd : (its ++ [x]).getD k It.no = its.getD k It.no := by simp [List.getD, List.getElem?_append_left (show k < its.length by omega)]
      rw [hgd]
      rcases hold with h0 | ⟨b, off, rfl, hcp, hc⟩
      · omega
      rcases h.at_ with h0 | ⟨b', off', hq, ho, hb, hs, hit⟩
      · omega
      simp only [Option.some.injEq, Addr.mk.injEq] at hq
      obtain ⟨rfl, rfl, _⟩ := hq
      obtain ⟨c0, c1', q1, n1, c1, c2, hr, hq1⟩ := hit k hkn
      have at' : ∀ d, d < 3 → w'.cell? ⟨g, 0 + (k * 3 + d), none⟩ = w.cell? ⟨b, off + (k * 3 + d), none⟩ := fun d hd => by
        rw [r6 (k * 3 + d) (by omega), List.getElem?_append_left (by omega), hc (k * 3 + d) (by omega)]
      refine ⟨(at' 0 (by omega)).trans c0, (at' 1 (by omega)).trans c1', q1, n1, c1, (at' 2 (by omega)).trans c2, hr.turn hTn (fun _ _ h => h), fun y hy => ⟨(hq1 y hy).1, Nat.lt_of_lt_of_le (hq1 y hy).2 hG.size⟩⟩
    · obtain rfl : k = n := by omega
      have hgd : (its ++ [x]).getD k It.no = x := by simp [List.getD, ← hlen]
      rw [hgd]
      have at' : ∀ d, d < 3 → w'.cell? ⟨g, 0 + (k * 3 + d), none⟩ = [Value.int .i64 (x.skip : Int), .int .u8 (x.kind.toNat : Int), .slice xq xn xc][d]? := fun d hd => by
        rw [r6 (k * 3 + d) (by omega), List.getElem?_append_right (by omega), hlo, Nat.add_sub_cancel_left]
      exact ⟨at' 0 (by omega), at' 1 (by omega), xq, xn, xc, at' 2 (by omega), xr.turn hTn (fun _ _ h => h), fun y hy => ⟨(xb y hy).1, Nat.lt_of_lt_of_le (xb y hy).2 hG.size⟩⟩
  have fl : (olds : List Value) → (hlo : olds.length = n * 3) → olds = [] ∨ True := fun _ _ => .inr trivial
  cases q with
  | none =>
    have hc0 := h.nil rfl
    subst hc0
    obtain rfl : n = 0 := by omega
    obtain ⟨g, cap', w', hr, hO, hG, hg, hlt⟩ := run_append_lies (P := P) w T ty w.heap.size e i z 3 B hT hi hz hsz hby hzs (by omega) (.slice none 0 0) 0 [] (World.ownsRow_nil w _ _ _) ⟨A, 0, none⟩ 1 c1 _ (by rfl) hnews h1 (by omega) hsm hroom (Nat.le_refl _) w.heap.size rfl
    have hg' : g = w.heap.size := hg.elim (fun e => by cases e) id
    have hF := fin [] w' g cap' rfl (.inl rfl) hO hG hg'
    exact ⟨_, _, w', hr, hF, Turn.ofGrown hG (fun k e => by cases e), fun y e => .inr (by cases e; exact hg')⟩
  | some ad =>
    by_cases hroomy : n + 1 ≤ c
    · rcases h.at_ with h0 | ⟨b, off, hq, ho, hb, hs, hit⟩
      · omega
      simp only [Option.some.injEq] at hq
      subst hq
      have hr := run_append_room_cells (P := P) w T ty e i hT hi b off n c ⟨A, 0, none⟩ 1 c1 [Value.int .i64 (x.skip : Int), .int .u8 (x.kind.toNat : Int), .slice xq xn xc] (by rw [hsz]; rfl) hnews h1 hroomy
        (fun j hj => by rw [hsz, Nat.add_assoc]; exact (hs (n * 3 + j) (by simp at hj; omega)).1) (fun j hj => by rw [hsz, Nat.add_assoc]; exact (hs (n * 3 + j) (by simp at hj; omega)).2)
      rw [hsz] at hr
      generalize hw' : w.setCells b (off + n * 3) [Value.int .i64 (x.skip : Int), .int .u8 (x.kind.toNat : Int), .slice xq xn xc] = w' at hr
      have hos := World.os_setCells w b (off + n * 3) [Value.int .i64 (x.skip : Int), .int .u8 (x.kind.toNat : Int), .slice xq xn xc]
      have hout := World.output_setCells w b (off + n * 3) [Value.int .i64 (x.skip : Int), .int .u8 (x.kind.toNat : Int), .slice xq xn xc]
      have hTn : Turn (fun k => k = b) w w' := by
        subst hw'
        simp only [World.setCells]
        exact (((Turn.refl (fun k => k = b) w).setCell ⟨b, _, none⟩ (fun _ => rfl) _).setCell ⟨b, _, none⟩ (fun _ => rfl) _).setCell ⟨b, _, none⟩ (fun _ => rfl) _
      have cin := World.cell?_setCells_in b [Value.int .i64 (x.skip : Int), .int .u8 (x.kind.toNat : Int), .slice xq xn xc] (off + n * 3) w (fun j hj => by rw [Nat.add_assoc]; exact (hs (n * 3 + j) (by simp at hj; omega)).1)
      have cout := fun (y : Addr) hy => World.cell?_setCells_out b [Value.int .i64 (x.skip : Int), .int .u8 (x.kind.toNat : Int), .slice xq xn xc] (off + n * 3) w y hy
      have cfr := fun (y : Addr) => World.frozen?_setCells b [Value.int .i64 (x.skip : Int), .int .u8 (x.kind.toNat : Int), .slice xq xn xc] (off + n * 3) w y
      rw [hw'] at cin cout cfr
      have hbody : ∀ k, body k → ¬ k = b := fun k hk e => hsep b ho (e ▸ hk)
      refine ⟨some ⟨b, off, none⟩, c, w', hr, ⟨by simp [hlen], hroomy, h.small, (fun e => by cases e), .inr ⟨b, off, rfl, .inl ho, Nat.lt_of_lt_of_le hb hTn.size, fun j hj => ?_, fun k hk => ?_⟩⟩, hTn.mono (fun k _ e => ⟨_, rfl, e.symm⟩), fun y e => .inl ⟨⟨y, e, rfl⟩, by omega⟩⟩
      · refine ⟨?_, by rw [cfr]; exact (hs j hj).2⟩
        by_cases hin : n * 3 ≤ j ∧ j < n * 3 + 3
        · have := cin (j - n * 3) (by simp; omega)
          rw [show off + n * 3 + (j - n * 3) = off + j from by omega] at this
          rw [this]; rfl
        · rw [cout ⟨b, off + j, none⟩ (fun _ _ => by simp; omega)]
          exact (hs j hj).1
      · by_cases hkn : k < n
        · have hgd : (its ++ [x]).getD k It.no = its.getD k It.no := by simp [List.getD, List.getElem?_append_left (show k < its.length by omega)]
          rw [hgd]
          obtain ⟨c0, c1', q1, n1, c1, c2, hr, hq1⟩ := hit k hkn
          refine ⟨(cout _ (fun _ _ => by simp; omega)).trans c0, (cout _ (fun _ _ => by simp; omega)).trans c1', q1, n1, c1, (cout _ (fun _ _ => by simp; omega)).trans c2, hr.turn hTn (fun y hy => hbody _ (hq1 y hy).1), fun y hy => ⟨(hq1 y hy).1, Nat.lt_of_lt_of_le (hq1 y hy).2 hTn.size⟩⟩
        · obtain rfl : k = n := by omega
          have hgd : (its ++ [x]).getD k It.no = x := by simp [List.getD, ← hlen]
          rw [hgd]
          exact ⟨cin 0 (by simp), cin 1 (by simp), xq, xn, xc, cin 2 (by simp), xr.turn hTn (fun y hy => hbody _ (xb y hy).1), fun y hy => ⟨(xb y hy).1, Nat.lt_of_lt_of_le (xb y hy).2 hTn.size⟩⟩
    · -- it grows
      have grow : ∀ olds : List Value, olds.length = n * 3 → (∀ (j : Nat) u, olds[j]? = some u → w.cell? (ad.add j) = some u) → (n = 0 ∨ ∃ b off, some ad = some ⟨b, off, none⟩ ∧ 0 < c ∧ (∀ j, j < n * 3 → w.cell? ⟨b, off + j, none⟩ = olds[j]?)) →
          ∃ q' c' w', (Builtin.append_ #[T, T] ty #[.slice (some ad) n c, .slice (some ⟨A, 0, none⟩) 1 c1]).run P w = .ok (.slice q' (n + 1) c') w' ∧ Fnd w' q' (n + 1) c' (its ++ [x]) (fun k => own k ∨ k = w.heap.size) body ∧ Turn (qblk (some ad)) w w' ∧ (∀ y, q' = some y → (qblk (some ad) y.block ∧ 0 < c) ∨ y.block = w.heap.size) := fun olds hlo holds hex => by
        obtain ⟨v', w', hr, hO, hG⟩ := run_append_arg_grows (P := P) w T ty e i z 3 B hT hi hz hsz hby hzs (by omega) ad n c olds hlo holds ⟨A, 0, none⟩ 1 c1 [Value.int .i64 (x.skip : Int), .int .u8 (x.kind.toNat : Int), .slice xq xn xc] (by rfl) hnews (by omega) hsm hroom
        have hr2 := run_append_grow (P := P) w T ty e i z hT hi hz ad n c olds (by rw [hsz]; exact hlo) holds ⟨A, 0, none⟩ 1 c1 [Value.int .i64 (x.skip : Int), .int .u8 (x.kind.toNat : Int), .slice xq xn xc] (by rw [hsz]; rfl) hnews (by omega) (by unfold maxLen at hsm; omega) (growslice_fits (by omega) (by rw [hby]; exact hroom))
        rw [hr2] at hr
        injection hr with e1 e2
        subst e1
        have hF := fin olds w' _ _ hlo hex hO hG rfl
        exact ⟨_, _, w', by rw [hr2, e2], hF, Turn.ofGrown hG (fun k e => by cases e), fun y e => .inr (by cases e; rfl)⟩
      by_cases hn0 : n = 0
      · subst hn0
        exact grow [] rfl (fun j u hu => by simp at hu) (.inl rfl)
      · rcases h.at_ with h0 | ⟨b, off, hq, ho, hb, hs, hit⟩
        · omega
        simp only [Option.some.injEq] at hq
        subst hq
        refine grow ((List.range (n * 3)).map fun j => (w.cell? ⟨b, off + j, none⟩).getD undef) (by simp) (fun j u hu => ?_) (.inr ⟨b, off, rfl, by omega, fun j hj => ?_⟩)
        · have hj : j < n * 3 := by
            have := (List.getElem?_eq_some_iff.1 hu).1
            simpa using this
          rw [WideShapes.add_plain]
          obtain ⟨v, hv⟩ := Option.isSome_iff_exists.1 (hs j (by omega)).1
          simp [hj, hv] at hu
          rw [hv, hu]
        · obtain ⟨v, hv⟩ := Option.isSome_iff_exists.1 (hs j (by omega)).1
          simp [hj, hv]
/-- The same at the operation. -/
theorem wp_append_fnd {P : Program} {w : World} {o : Oper} {a : Act} {K : Act → World → Prop} {Q : Exit → Act → World → Prop} (T e : TypeId) (z : Value) (B : Nat) (hinfo : (P.info? e).map (fun i => (i.zero, i.size, i.bytes)) = some (some z, 3, B)) (hzs : z.cells.size = 3) (hT : P.underlying T = some (.slice e))
    (s x : Operand) (ho : o.op = .call { callee := .builtin .append, args := #[s, x], argTypes := #[T, T] })
    {q : Option Addr} {n c : Nat} {its : List It} {own body : Nat → Prop} (hs : a.eval s = .slice q n c) (hF : Fnd w q n c its own body) (hsep : ∀ k, own k → ¬ body k) (A c1 : Nat) (hx : a.eval x = .slice (some ⟨A, 0, none⟩) 1 c1) (it : It) (hit : ItCells w A 0 it body)
    (hroom : (n + 1) * B ≤ 140737488355328) (hsm : n + 1 ≤ maxLen)
    (h : ∀ q' c' w', Fnd w' q' (n + 1) c' (its ++ [it]) (fun k => own k ∨ k = w.heap.size) body → Turn (qblk q) w w' → (∀ y, q' = some y → (qblk q y.block ∧ 0 < c) ∨ y.block = w.heap.size) → K (a.put o.dst (.slice q' (n + 1) c')) w') : o.wp P a w K Q := by
  obtain ⟨i, hi, hz, hsz, hby⟩ := info_parts hinfo
  obtain ⟨q', c', w', hr, h1, h2, h3⟩ := run_append_fnd T e o.type i z B hT hi hz hsz hby hzs hF hsep A c1 it hit hroom hsm
  unfold Oper.wp execOp
  simp only [ho, resolve, invoke, builtin, Sem.run_bind, Sem.run_pure, Result.andThen_ok, List.map_toArray, List.map_cons, List.map_nil, hs, hx, hr]
  exact h q' c' w' h1 h2 h3
/-- At a step of a region that draws. -/
theorem step_append_fnd {P : Program} {w : World} {ops : Array Oper} {o : Oper} {a : Act} {K : Act → World → Prop} {Q : Exit → Act → World → Prop} {E : Prop} (T e : TypeId) (z : Value) (B : Nat) (hinfo : (P.info? e).map (fun i => (i.zero, i.size, i.bytes)) = some (some z, 3, B)) (hzs : z.cells.size = 3) (hT : P.underlying T = some (.slice e)) (hgd : o.guard = none)
    (s x : Operand) (ho : o.op = .call { callee := .builtin .append, args := #[s, x], argTypes := #[T, T] })
    {q : Option Addr} {n c : Nat} {its : List It} {own body : Nat → Prop} (hs : a.eval s = .slice q n c) (hF : Fnd w q n c its own body) (hsep : ∀ k, own k → ¬ body k) (A c1 : Nat) (hx : a.eval x = .slice (some ⟨A, 0, none⟩) 1 c1) (it : It) (hit : ItCells w A 0 it body)
    (hroom : (n + 1) * B ≤ 140737488355328) (hsm : n + 1 ≤ maxLen)
    (h : ∀ q' c' w', Fnd w' q' (n + 1) c' (its ++ [it]) (fun k => own k ∨ k = w.heap.size) body → Turn (qblk q) w w' → (∀ y, q' = some y → (qblk q y.block ∧ 0 < c) ∨ y.block = w.heap.size) → K (a.put o.dst (.slice q' (n + 1) c')) w') :
    if Region.wanted o (yielded ops a.tmps) = true then Oper.wp P o a w K Q else E := by
  have hw : Region.wanted o (yielded ops a.tmps) = true := by simp [Region.wanted, hgd]
  rw [if_pos hw]
  exact wp_append_fnd T e z B hinfo hzs hT s x ho hs hF hsep A c1 hx it hit hroom hsm h
/-- In a plain region. -/
theorem list_append_fnd {P : Program} {w : World} {ops : Array Oper} {rest : List Oper} {o : Oper} {a : Act} {Q : Exit → Act → World → Prop} (T e : TypeId) (z : Value) (B : Nat) (hinfo : (P.info? e).map (fun i => (i.zero, i.size, i.bytes)) = some (some z, 3, B)) (hzs : z.cells.size = 3) (hT : P.underlying T = some (.slice e)) (hgd : o.guard = none)
    (s x : Operand) (ho : o.op = .call { callee := .builtin .append, args := #[s, x], argTypes := #[T, T] })
    {q : Option Addr} {n c : Nat} {its : List It} {own body : Nat → Prop} (hs : a.eval s = .slice q n c) (hF : Fnd w q n c its own body) (hsep : ∀ k, own k → ¬ body k) (A c1 : Nat) (hx : a.eval x = .slice (some ⟨A, 0, none⟩) 1 c1) (it : It) (hit : ItCells w A 0 it body)
    (hroom : (n + 1) * B ≤ 140737488355328) (hsm : n + 1 ≤ maxLen)
    (h : ∀ q' c' w', Fnd w' q' (n + 1) c' (its ++ [it]) (fun k => own k ∨ k = w.heap.size) body → Turn (qblk q) w w' → (∀ y, q' = some y → (qblk q y.block ∧ 0 < c) ∨ y.block = w.heap.size) → wpList P ops Q rest (a.put o.dst (.slice q' (n + 1) c')) w') : wpList P ops Q (o :: rest) a w :=
  wpList_plain hgd fun _ hK => wp_append_fnd T e z B hinfo hzs hT s x ho hs hF hsep A c1 hx it hit hroom hsm fun q' c' w' h2 h3 h4 => hK _ _ (h q' c' w' h2 h3 h4)
end Go.Proofs.YtegbjlimiephlaaDoor
