/- FrMath, FrMem, FrDec, FrLook, FrWalk, FrActs, FrLaw. -/
import Derived.Test.YtdmpopdacbdnlaaDoorCrcG
import Derived.Test.YtdmpopdacbdnlaaDoorKitG
import Derived.ArgAppend
import Derived.Deep.Upon
import Derived.Deep.AppendLies
import Derived.Deep.RegionHeld3
import Derived.Deep.RegionLaw
import Derived.Test.YtdmpopdacbdnlaaDoorProg
import Derived.IntWalk
import Derived.WalkMore
import Derived.Maps.AppendAt
/- Frames in bytes, in plain words. No program. -/
namespace Go.Proofs.YtdmpopdacbdnlaaDoor
/-- whether bytes end in their sum -/
def Fr.fits (l : List UInt8) : Bool := if l.length < 3 then false else Crc.put (Crc.sum (l.take (l.length - 3))).toNat == l.drop (l.length - 3)
/-- an item: so many bytes skipped; or (0) a frame. -/
structure It where
  skip : Nat
  kind : UInt8
  body : List UInt8
/-- a decoder -/
structure St where
  rest : List UInt8
  skips : Nat
  found : List It
  over : Bool
/-- of what stands at the beginning: a frame's length, 0 (no frame) or -1 (too few bytes to know) -/
def Fr.look (b : List UInt8) : Int :=
  if (b.getD 0 0).toNat ≠ 165 then 0
  else if b.length < 4 then -1
  else if 256 < (b.getD 2 0).toNat * 256 + (b.getD 3 0).toNat then 0
  else if b.length < (b.getD 2 0).toNat * 256 + (b.getD 3 0).toNat + 7 then -1
  else if Fr.fits ((b.take ((b.getD 2 0).toNat * 256 + (b.getD 3 0).toNat + 7)).drop 1) = true then ((b.getD 2 0).toNat * 256 + (b.getD 3 0).toNat + 7 : Nat)
  else 0
theorem Fr.look_cases (b : List UInt8) : Fr.look b = 0 ∨ Fr.look b = -1 ∨ ∃ n : Nat, Fr.look b = n ∧ 7 ≤ n ∧ n ≤ 263 ∧ n ≤ b.length := by
  unfold Fr.look
  split
  · exact .inl rfl
  · split
    · exact .inr (.inl rfl)
    · split
      · exact .inl rfl
      · split
        · exact .inr (.inl rfl)
        · split
          · exact .inr (.inr ⟨_, rfl, by omega, by omega, by omega⟩)
          · exact .inl rfl
def Fr.tell (s : Nat) (f : List It) : List It := if 0 < s then f ++ [⟨s, 0, []⟩] else f
def Fr.item (b : List UInt8) (n : Nat) : It := ⟨0, b.getD 1 0, (b.take (n - 3)).drop 4⟩
/-- as far as may be: what waits, what was skipped, what was found -/
def Fr.pass (over : Bool) (rest : List UInt8) (s : Nat) (f : List It) : List UInt8 × Nat × List It :=
  if h0 : rest = [] then ([], s, f)
  else if hn : 0 < Fr.look rest then Fr.pass over (rest.drop (Fr.look rest).toNat) 0 (Fr.tell s f ++ [Fr.item rest (Fr.look rest).toNat])
  else if Fr.look rest = -1 ∧ over = false then (rest, s, f)
  else Fr.pass over (rest.drop 1) (s + 1) f
termination_by rest.length
decreasing_by
  · have : 0 < rest.length := List.length_pos_iff.2 h0
    rw [List.length_drop]; omega
  · have : 0 < rest.length := List.length_pos_iff.2 h0
    rw [List.length_drop]; omega
theorem Fr.pass_nil (over : Bool) (s : Nat) (f : List It) : Fr.pass over [] s f = ([], s, f) := by rw [Fr.pass]; simp
theorem Fr.pass_frame {over : Bool} {rest : List UInt8} {s : Nat} {f : List It} {n : Nat} (h : Fr.look rest = n) (hn : 0 < n) : Fr.pass over rest s f = Fr.pass over (rest.drop n) 0 (Fr.tell s f ++ [Fr.item rest n]) := by
  have h0 : rest ≠ [] := by
    rintro rfl
    simp [Fr.look] at h; omega
  rw [Fr.pass, dif_neg h0, dif_pos (by omega), h, Int.toNat_natCast]
theorem Fr.pass_wait {rest : List UInt8} {s : Nat} {f : List It} (h : Fr.look rest = -1) : Fr.pass false rest s f = (rest, s, f) := by
  have h0 : rest ≠ [] := by
    rintro rfl
    simp [Fr.look] at h
  rw [Fr.pass, dif_neg h0, dif_neg (by omega), if_pos ⟨h, rfl⟩]
theorem Fr.pass_skip {over : Bool} {rest : List UInt8} {s : Nat} {f : List It} (h0 : rest ≠ []) (h : Fr.look rest ≤ 0) (h1 : ¬ (Fr.look rest = -1 ∧ over = false)) : Fr.pass over rest s f = Fr.pass over (rest.drop 1) (s + 1) f := by
  rw [Fr.pass, dif_neg h0, dif_neg (by omega), if_neg h1]
/-- the decoder's acts -/
def St.give (d : St) (b : List UInt8) : St :=
  if d.over = true then d else
  ⟨(Fr.pass false (d.rest ++ b) d.skips d.found).1, (Fr.pass false (d.rest ++ b) d.skips d.found).2.1, (Fr.pass false (d.rest ++ b) d.skips d.found).2.2, false⟩
def St.fin (d : St) : St :=
  if d.over = true then d else
  ⟨(Fr.pass true d.rest d.skips d.found).1, 0, Fr.tell (Fr.pass true d.rest d.skips d.found).2.1 (Fr.pass true d.rest d.skips d.found).2.2, true⟩
def St.next (d : St) : St := ⟨d.rest, d.skips, d.found.drop 1, d.over⟩
def St.new : St := ⟨[], 0, [], false⟩
end Go.Proofs.YtdmpopdacbdnlaaDoor
/- Memory of a decoder: which blocks may turn; a slice of items of its own, wherever in its block it begins; append onto it. No program. -/
namespace Go.Proofs.YtdmpopdacbdnlaaDoor
open Go.RowKit
set_option linter.unusedVariables false
/-- an item's three cells -/
def ItCells (w : World) (b o : Nat) (x : It) (body : Nat → Prop) : Prop :=
  w.cell? ⟨b, o, none⟩ = some (.int .i64 (x.skip : Int)) ∧ w.cell? ⟨b, o + 1, none⟩ = some (.int .u8 (x.kind.toNat : Int)) ∧
  ∃ q n c, w.cell? ⟨b, o + 2, none⟩ = some (.slice q n c) ∧ RowB w q n c x.body ∧ ∀ y, q = some y → body y.block ∧ y.block < w.heap.size
def It.no : It := ⟨0, 0, []⟩
/-- A slice of items: its block is one of 'own', not frozen, all its room is there; the bodies lie in blocks of 'body'. -/
structure Fnd (w : World) (q : Option Addr) (n c : Nat) (its : List It) (own body : Nat → Prop) : Prop where
  length : its.length = n
  le : n ≤ c
  small : c ≤ maxLen
  nil : q = none → c = 0
  at_ : c = 0 ∨ ∃ b off, q = some ⟨b, off, none⟩ ∧ own b ∧ b < w.heap.size ∧ (∀ j, j < c * 3 → (w.cell? ⟨b, off + j, none⟩).isSome = true ∧ w.frozen? ⟨b, off + j, none⟩ = false) ∧
    ∀ i, i < n → ItCells w b (off + i * 3) (its.getD i It.no) body
theorem Fnd.empty (w : World) (own body : Nat → Prop) : Fnd w none 0 0 [] own body := ⟨rfl, Nat.le_refl _, Nat.zero_le _, fun _ => rfl, .inl rfl⟩
theorem Fnd.mono {w : World} {q : Option Addr} {n c : Nat} {its : List It} {own body own' body' : Nat → Prop} (h : Fnd w q n c its own body) (h1 : ∀ k, k < w.heap.size → own k → own' k) (h2 : ∀ k, k < w.heap.size → body k → body' k) : Fnd w q n c its own' body' := by
  refine ⟨h.length, h.le, h.small, h.nil, h.at_.imp id ?_⟩
  rintro ⟨b, off, rfl, ho, hb, hs, hi⟩
  exact ⟨b, off, rfl, h1 b hb ho, hb, hs, fun i hin => by
    obtain ⟨c0, c1, q, n, c, c2, hr, hq⟩ := hi i hin
    exact ⟨c0, c1, q, n, c, c2, hr, fun y hy => ⟨h2 _ (hq y hy).2 (hq y hy).1, (hq y hy).2⟩⟩⟩
theorem ItCells.turn {S : Nat → Prop} {w w' : World} {b o : Nat} {x : It} {body : Nat → Prop} (h : ItCells w b o x body) (ht : Turn S w w') (hb : b < w.heap.size) (hn : ¬ S b) (h2 : ∀ k, k < w.heap.size → body k → ¬ S k) : ItCells w' b o x body := by
  obtain ⟨c0, c1, q, n, c, c2, hr, hq⟩ := h
  exact ⟨(ht.cell (p := ⟨b, o, none⟩) hb hn).trans c0, (ht.cell (p := ⟨b, o + 1, none⟩) hb hn).trans c1, q, n, c, (ht.cell (p := ⟨b, o + 2, none⟩) hb hn).trans c2,
    hr.turn ht (fun y hy => h2 _ (hq y hy).2 (hq y hy).1), fun y hy => ⟨(hq y hy).1, Nat.lt_of_lt_of_le (hq y hy).2 ht.size⟩⟩
theorem Fnd.turn {S : Nat → Prop} {w w' : World} {q : Option Addr} {n c : Nat} {its : List It} {own body : Nat → Prop} (h : Fnd w q n c its own body) (ht : Turn S w w') (h1 : ∀ x, q = some x → 0 < c → ¬ S x.block) (h2 : ∀ k, k < w.heap.size → body k → ¬ S k) : Fnd w' q n c its own body := by
  refine ⟨h.length, h.le, h.small, h.nil, ?_⟩
  by_cases hc : c = 0
  · exact .inl hc
  rcases h.at_ with h0 | ⟨b, off, rfl, ho, hb, hs, hi⟩
  · exact .inl h0
  · have hn := h1 _ rfl (by omega)
    exact .inr ⟨b, off, rfl, ho, Nat.lt_of_lt_of_le hb ht.size, fun j hj => ⟨by rw [ht.cell (p := ⟨b, off + j, none⟩) hb hn]; exact (hs j hj).1, by rw [ht.frozen (p := ⟨b, off + j, none⟩) hb hn]; exact (hs j hj).2⟩, fun i hin => (hi i hin).turn ht hb hn h2⟩
/-- The block of a slice. -/
def qblk (q : Option Addr) (k : Nat) : Prop := ∃ x, q = some x ∧ x.block = k
theorem row_room {w : World} {base : Nat} {e : TypeId} {g n cap size : Nat} {xs : List Value} (h : w.ownsRow base e size (.slice (some ⟨g, 0, none⟩) n cap) n xs) : n ≤ cap ∧ cap ≤ maxLen ∧ g < w.heap.size ∧ base ≤ g ∧
    (∀ j, j < cap * size → (w.cell? ⟨g, 0 + j, none⟩).isSome = true ∧ w.frozen? ⟨g, 0 + j, none⟩ = false) ∧ ∀ j, j < n * size → w.cell? ⟨g, 0 + j, none⟩ = xs[j]? := by
  have hcells := h
  obtain ⟨hl, hh⟩ := h
  rcases hh with ⟨hv, _⟩ | ⟨g', cap', cur, hv, hb, hg, hn, hm, hs, ht⟩
  · cases hv
  · simp only [Value.slice.injEq, Option.some.injEq, Addr.mk.injEq] at hv
    obtain ⟨⟨rfl, _, _⟩, _, rfl⟩ := hv
    refine ⟨hn, hm, (Array.getElem?_eq_some_iff.1 hg).1, hb, fun j hj => ?_, fun j hj => ?_⟩
    · rw [Nat.zero_add, cell_of_row w g j cur e (0, 0) hg]
      refine ⟨by simp [hs, hj], by simp [World.frozen?, hg]⟩
    · rw [Nat.zero_add]
      have := hcells.cells (g := g) rfl j (xs[j]'(by omega)) (by simp)
      rw [WideShapes.add_plain, Nat.zero_add] at this
      rw [this]; simp
/-- append(found, x): one item more. -/
theorem run_append_fnd {P : Program} {w : World} (T e ty : TypeId) (i : TypeInfo) (z : Value) (B : Nat) (hT : P.underlying T = some (.slice e)) (hi : P.info? e = some i) (hz : i.zero = some z) (hsz : i.size = 3) (hby : i.bytes = B) (hzs : z.cells.size = 3)
    {q : Option Addr} {n c : Nat} {its : List It} {own body : Nat → Prop} (h : Fnd w q n c its own body) (hsep : ∀ k, own k → ¬ body k) (A c1 : Nat) (x : It) (hx : ItCells w A 0 x body)
    (hroom : (n + 1) * B ≤ 140737488355328) (hsm : n + 1 ≤ maxLen) :
    ∃ q' c' w', (Builtin.append_ #[T, T] ty #[.slice q n c, .slice (some ⟨A, 0, none⟩) 1 c1]).run P w = .ok (.slice q' (n + 1) c') w' ∧ Fnd w' q' (n + 1) c' (its ++ [x]) (fun k => own k ∨ k = w.heap.size) body ∧ Turn (qblk q) w w' ∧ (∀ y, q' = some y → (qblk q y.block ∧ 0 < c) ∨ y.block = w.heap.size) := by
  obtain ⟨x0, x1, xq, xn, xc, x2, xr, xb⟩ := hx
  have hlen := h.length
  have hle := h.le
  have hnews : ∀ (j : Nat) u, [Value.int .i64 (x.skip : Int), .int .u8 (x.kind.toNat : Int), .slice xq xn xc][j]? = some u → w.cell? ((⟨A, 0, none⟩ : Addr).add j) = some u := by
    intro j u hu
    rw [WideShapes.add_plain, Nat.zero_add]
    rcases j with _ | _ | _ | j
    · simp at hu; rw [← hu]; exact x0
    · simp at hu; rw [← hu]; exact x1
    · simp at hu; rw [← hu]; exact x2
    · simp at hu
  have h1 : ∀ u ∈ [Value.int .i64 (x.skip : Int), .int .u8 (x.kind.toNat : Int), .slice xq xn xc], u.oneCell' = true := by
    intro u hu
    simp at hu
    rcases hu with rfl | rfl | rfl <;> rfl
  -- what a row of the call's own gives
  have fin : ∀ (olds : List Value) (w' : World) (g cap' : Nat), olds.length = n * 3 → (n = 0 ∨ ∃ b off, q = some ⟨b, off, none⟩ ∧ 0 < c ∧ (∀ j, j < n * 3 → w.cell? ⟨b, off + j, none⟩ = olds[j]?)) → w'.ownsRow w.heap.size e 3 (.slice (some ⟨g, 0, none⟩) (n + 1) cap') (n + 1) (olds ++ [Value.int .i64 (x.skip : Int), .int .u8 (x.kind.toNat : Int), .slice xq xn xc]) → w.grownBy w' none → g = w.heap.size →
      Fnd w' (some ⟨g, 0, none⟩) (n + 1) cap' (its ++ [x]) (fun k => own k ∨ k = w.heap.size) body := by
    intro olds w' g cap' hlo hold hO hG hg
    obtain ⟨r1, r2, r3, r4, r5, r6⟩ := row_room hO
    have hTn : Turn (fun _ => False) w w' := Turn.ofGrown hG (fun k e => by cases e)
    refine ⟨by simp [hlen], r1, r2, (fun e => by cases e), .inr ⟨g, 0, rfl, .inr hg, r3, r5, fun k hk => ?_⟩⟩
    by_cases hkn : k < n
    · have hgd : (its ++ [x]).getD k It.no = its.getD k It.no := by simp [List.getD, List.getElem?_append_left (show k < its.length by omega)]
      rw [hgd]
      rcases hold with h0 | ⟨b, off, rfl, hcp, hc⟩
      · omega
      rcases h.at_ with h0 | ⟨b', off', hq, ho, hb, hs, hit⟩
      · omega
      simp only [Option.some.injEq, Addr.mk.injEq] at hq
      obtain ⟨rfl, rfl, _⟩ := hq
      obtain ⟨c0, c1', q1, n1, c1, c2, hr, hq1⟩ := hit k hkn
      have at' : ∀ d, d < 3 → w'.cell? ⟨g, 0 + (k * 3 + d), none⟩ = w.cell? ⟨b, off + (k * 3 + d), none⟩ := fun d hd => by
        rw [r6 (k * 3 + d) (by omega), List.getElem?_append_left (by omega), hc (k * 3 + d) (by omega)]
      refine ⟨(at' 0 (by omega)).trans c0, (at' 1 (by omega)).trans c1', q1, n1, c1, (at' 2 (by omega)).trans c2, hr.turn hTn (fun _ _ h => h), fun y hy => ⟨(hq1 y hy).1, Nat.lt_of_lt_of_le (hq1 y hy).2 hG.size⟩⟩
    · obtain rfl : k = n := by omega
      have hgd : (its ++ [x]).getD k It.no = x := by simp [List.getD, ← hlen]
      rw [hgd]
      have at' : ∀ d, d < 3 → w'.cell? ⟨g, 0 + (k * 3 + d), none⟩ = [Value.int .i64 (x.skip : Int), .int .u8 (x.kind.toNat : Int), .slice xq xn xc][d]? := fun d hd => by
        rw [r6 (k * 3 + d) (by omega), List.getElem?_append_right (by omega), hlo, Nat.add_sub_cancel_left]
      exact ⟨at' 0 (by omega), at' 1 (by omega), xq, xn, xc, at' 2 (by omega), xr.turn hTn (fun _ _ h => h), fun y hy => ⟨(xb y hy).1, Nat.lt_of_lt_of_le (xb y hy).2 hG.size⟩⟩
  have fl : (olds : List Value) → (hlo : olds.length = n * 3) → olds = [] ∨ True := fun _ _ => .inr trivial
  cases q with
  | none =>
    have hc0 := h.nil rfl
    subst hc0
    obtain rfl : n = 0 := by omega
    obtain ⟨g, cap', w', hr, hO, hG, hg, hlt⟩ := run_append_lies (P := P) w T ty w.heap.size e i z 3 B hT hi hz hsz hby hzs (by omega) (.slice none 0 0) 0 [] (World.ownsRow_nil w _ _ _) ⟨A, 0, none⟩ 1 c1 _ (by rfl) hnews h1 (by omega) hsm hroom (Nat.le_refl _) w.heap.size rfl
    have hg' : g = w.heap.size := hg.elim (fun e => by cases e) id
    have hF := fin [] w' g cap' rfl (.inl rfl) hO hG hg'
    exact ⟨_, _, w', hr, hF, Turn.ofGrown hG (fun k e => by cases e), fun y e => .inr (by cases e; exact hg')⟩
  | some ad =>
    by_cases hroomy : n + 1 ≤ c
    · rcases h.at_ with h0 | ⟨b, off, hq, ho, hb, hs, hit⟩
      · omega
      simp only [Option.some.injEq] at hq
      subst hq
      have hr := run_append_room_cells (P := P) w T ty e i hT hi b off n c ⟨A, 0, none⟩ 1 c1 [Value.int .i64 (x.skip : Int), .int .u8 (x.kind.toNat : Int), .slice xq xn xc] (by rw [hsz]; rfl) hnews h1 hroomy
        (fun j hj => by rw [hsz, Nat.add_assoc]; exact (hs (n * 3 + j) (by simp at hj; omega)).1) (fun j hj => by rw [hsz, Nat.add_assoc]; exact (hs (n * 3 + j) (by simp at hj; omega)).2)
      rw [hsz] at hr
      generalize hw' : w.setCells b (off + n * 3) [Value.int .i64 (x.skip : Int), .int .u8 (x.kind.toNat : Int), .slice xq xn xc] = w' at hr
      have hos := World.os_setCells w b (off + n * 3) [Value.int .i64 (x.skip : Int), .int .u8 (x.kind.toNat : Int), .slice xq xn xc]
      have hout := World.output_setCells w b (off + n * 3) [Value.int .i64 (x.skip : Int), .int .u8 (x.kind.toNat : Int), .slice xq xn xc]
      have hTn : Turn (fun k => k = b) w w' := by
        subst hw'
        simp only [World.setCells]
        exact (((Turn.refl (fun k => k = b) w).setCell ⟨b, _, none⟩ (fun _ => rfl) _).setCell ⟨b, _, none⟩ (fun _ => rfl) _).setCell ⟨b, _, none⟩ (fun _ => rfl) _
      have cin := World.cell?_setCells_in b [Value.int .i64 (x.skip : Int), .int .u8 (x.kind.toNat : Int), .slice xq xn xc] (off + n * 3) w (fun j hj => by rw [Nat.add_assoc]; exact (hs (n * 3 + j) (by simp at hj; omega)).1)
      have cout := fun (y : Addr) hy => World.cell?_setCells_out b [Value.int .i64 (x.skip : Int), .int .u8 (x.kind.toNat : Int), .slice xq xn xc] (off + n * 3) w y hy
      have cfr := fun (y : Addr) => World.frozen?_setCells b [Value.int .i64 (x.skip : Int), .int .u8 (x.kind.toNat : Int), .slice xq xn xc] (off + n * 3) w y
      rw [hw'] at cin cout cfr
      have hbody : ∀ k, body k → ¬ k = b := fun k hk e => hsep b ho (e ▸ hk)
      refine ⟨some ⟨b, off, none⟩, c, w', hr, ⟨by simp [hlen], hroomy, h.small, (fun e => by cases e), .inr ⟨b, off, rfl, .inl ho, Nat.lt_of_lt_of_le hb hTn.size, fun j hj => ?_, fun k hk => ?_⟩⟩, hTn.mono (fun k _ e => ⟨_, rfl, e.symm⟩), fun y e => .inl ⟨⟨y, e, rfl⟩, by omega⟩⟩
      · refine ⟨?_, by rw [cfr]; exact (hs j hj).2⟩
        by_cases hin : n * 3 ≤ j ∧ j < n * 3 + 3
        · have := cin (j - n * 3) (by simp; omega)
          rw [show off + n * 3 + (j - n * 3) = off + j from by omega] at this
          rw [this]; rfl
        · rw [cout ⟨b, off + j, none⟩ (fun _ _ => by simp; omega)]
          exact (hs j hj).1
      · by_cases hkn : k < n
        · have hgd : (its ++ [x]).getD k It.no = its.getD k It.no := by simp [List.getD, List.getElem?_append_left (show k < its.length by omega)]
          rw [hgd]
          obtain ⟨c0, c1', q1, n1, c1, c2, hr, hq1⟩ := hit k hkn
          refine ⟨(cout _ (fun _ _ => by simp; omega)).trans c0, (cout _ (fun _ _ => by simp; omega)).trans c1', q1, n1, c1, (cout _ (fun _ _ => by simp; omega)).trans c2, hr.turn hTn (fun y hy => hbody _ (hq1 y hy).1), fun y hy => ⟨(hq1 y hy).1, Nat.lt_of_lt_of_le (hq1 y hy).2 hTn.size⟩⟩
        · obtain rfl : k = n := by omega
          have hgd : (its ++ [x]).getD k It.no = x := by simp [List.getD, ← hlen]
          rw [hgd]
          exact ⟨cin 0 (by simp), cin 1 (by simp), xq, xn, xc, cin 2 (by simp), xr.turn hTn (fun y hy => hbody _ (xb y hy).1), fun y hy => ⟨(xb y hy).1, Nat.lt_of_lt_of_le (xb y hy).2 hTn.size⟩⟩
    · -- it grows
      have grow : ∀ olds : List Value, olds.length = n * 3 → (∀ (j : Nat) u, olds[j]? = some u → w.cell? (ad.add j) = some u) → (n = 0 ∨ ∃ b off, some ad = some ⟨b, off, none⟩ ∧ 0 < c ∧ (∀ j, j < n * 3 → w.cell? ⟨b, off + j, none⟩ = olds[j]?)) →
          ∃ q' c' w', (Builtin.append_ #[T, T] ty #[.slice (some ad) n c, .slice (some ⟨A, 0, none⟩) 1 c1]).run P w = .ok (.slice q' (n + 1) c') w' ∧ Fnd w' q' (n + 1) c' (its ++ [x]) (fun k => own k ∨ k = w.heap.size) body ∧ Turn (qblk (some ad)) w w' ∧ (∀ y, q' = some y → (qblk (some ad) y.block ∧ 0 < c) ∨ y.block = w.heap.size) := fun olds hlo holds hex => by
        obtain ⟨v', w', hr, hO, hG⟩ := run_append_arg_grows (P := P) w T ty e i z 3 B hT hi hz hsz hby hzs (by omega) ad n c olds hlo holds ⟨A, 0, none⟩ 1 c1 [Value.int .i64 (x.skip : Int), .int .u8 (x.kind.toNat : Int), .slice xq xn xc] (by rfl) hnews (by omega) hsm hroom
        have hr2 := run_append_grow (P := P) w T ty e i z hT hi hz ad n c olds (by rw [hsz]; exact hlo) holds ⟨A, 0, none⟩ 1 c1 [Value.int .i64 (x.skip : Int), .int .u8 (x.kind.toNat : Int), .slice xq xn xc] (by rw [hsz]; rfl) hnews (by omega) (by unfold maxLen at hsm; omega) (growslice_fits (by omega) (by rw [hby]; exact hroom))
        rw [hr2] at hr
        injection hr with e1 e2
        subst e1
        have hF := fin olds w' _ _ hlo hex hO hG rfl
        exact ⟨_, _, w', by rw [hr2, e2], hF, Turn.ofGrown hG (fun k e => by cases e), fun y e => .inr (by cases e; rfl)⟩
      by_cases hn0 : n = 0
      · subst hn0
        exact grow [] rfl (fun j u hu => by simp at hu) (.inl rfl)
      · rcases h.at_ with h0 | ⟨b, off, hq, ho, hb, hs, hit⟩
        · omega
        simp only [Option.some.injEq] at hq
        subst hq
        refine grow ((List.range (n * 3)).map fun j => (w.cell? ⟨b, off + j, none⟩).getD undef) (by simp) (fun j u hu => ?_) (.inr ⟨b, off, rfl, by omega, fun j hj => ?_⟩)
        · have hj : j < n * 3 := by
            have := (List.getElem?_eq_some_iff.1 hu).1
            simpa using this
          rw [WideShapes.add_plain]
          obtain ⟨v, hv⟩ := Option.isSome_iff_exists.1 (hs j (by omega)).1
          simp [hj, hv] at hu
          rw [hv, hu]
        · obtain ⟨v, hv⟩ := Option.isSome_iff_exists.1 (hs j (by omega)).1
          simp [hj, hv]
/-- The same at the operation. -/
theorem wp_append_fnd {P : Program} {w : World} {o : Oper} {a : Act} {K : Act → World → Prop} {Q : Exit → Act → World → Prop} (T e : TypeId) (z : Value) (B : Nat) (hinfo : (P.info? e).map (fun i => (i.zero, i.size, i.bytes)) = some (some z, 3, B)) (hzs : z.cells.size = 3) (hT : P.underlying T = some (.slice e))
    (s x : Operand) (ho : o.op = .call { callee := .builtin .append, args := #[s, x], argTypes := #[T, T] })
    {q : Option Addr} {n c : Nat} {its : List It} {own body : Nat → Prop} (hs : a.eval s = .slice q n c) (hF : Fnd w q n c its own body) (hsep : ∀ k, own k → ¬ body k) (A c1 : Nat) (hx : a.eval x = .slice (some ⟨A, 0, none⟩) 1 c1) (it : It) (hit : ItCells w A 0 it body)
    (hroom : (n + 1) * B ≤ 140737488355328) (hsm : n + 1 ≤ maxLen)
    (h : ∀ q' c' w', Fnd w' q' (n + 1) c' (its ++ [it]) (fun k => own k ∨ k = w.heap.size) body → Turn (qblk q) w w' → (∀ y, q' = some y → (qblk q y.block ∧ 0 < c) ∨ y.block = w.heap.size) → K (a.put o.dst (.slice q' (n + 1) c')) w') : o.wp P a w K Q := by
  obtain ⟨i, hi, hz, hsz, hby⟩ := info_parts hinfo
  obtain ⟨q', c', w', hr, h1, h2, h3⟩ := run_append_fnd T e o.type i z B hT hi hz hsz hby hzs hF hsep A c1 it hit hroom hsm
  unfold Oper.wp execOp
  simp only [ho, resolve, invoke, builtin, Sem.run_bind, Sem.run_pure, Result.andThen_ok, List.map_toArray, List.map_cons, List.map_nil, hs, hx, hr]
  exact h q' c' w' h1 h2 h3
/-- At a step of a region that draws. -/
theorem step_append_fnd {P : Program} {w : World} {ops : Array Oper} {o : Oper} {a : Act} {K : Act → World → Prop} {Q : Exit → Act → World → Prop} {E : Prop} (T e : TypeId) (z : Value) (B : Nat) (hinfo : (P.info? e).map (fun i => (i.zero, i.size, i.bytes)) = some (some z, 3, B)) (hzs : z.cells.size = 3) (hT : P.underlying T = some (.slice e)) (hgd : o.guard = none)
    (s x : Operand) (ho : o.op = .call { callee := .builtin .append, args := #[s, x], argTypes := #[T, T] })
    {q : Option Addr} {n c : Nat} {its : List It} {own body : Nat → Prop} (hs : a.eval s = .slice q n c) (hF : Fnd w q n c its own body) (hsep : ∀ k, own k → ¬ body k) (A c1 : Nat) (hx : a.eval x = .slice (some ⟨A, 0, none⟩) 1 c1) (it : It) (hit : ItCells w A 0 it body)
    (hroom : (n + 1) * B ≤ 140737488355328) (hsm : n + 1 ≤ maxLen)
    (h : ∀ q' c' w', Fnd w' q' (n + 1) c' (its ++ [it]) (fun k => own k ∨ k = w.heap.size) body → Turn (qblk q) w w' → (∀ y, q' = some y → (qblk q y.block ∧ 0 < c) ∨ y.block = w.heap.size) → K (a.put o.dst (.slice q' (n + 1) c')) w') :
    if Region.wanted o (yielded ops a.tmps) = true then Oper.wp P o a w K Q else E := by
  have hw : Region.wanted o (yielded ops a.tmps) = true := by simp [Region.wanted, hgd]
  rw [if_pos hw]
  exact wp_append_fnd T e z B hinfo hzs hT s x ho hs hF hsep A c1 hx it hit hroom hsm h
/-- In a plain region. -/
theorem list_append_fnd {P : Program} {w : World} {ops : Array Oper} {rest : List Oper} {o : Oper} {a : Act} {Q : Exit → Act → World → Prop} (T e : TypeId) (z : Value) (B : Nat) (hinfo : (P.info? e).map (fun i => (i.zero, i.size, i.bytes)) = some (some z, 3, B)) (hzs : z.cells.size = 3) (hT : P.underlying T = some (.slice e)) (hgd : o.guard = none)
    (s x : Operand) (ho : o.op = .call { callee := .builtin .append, args := #[s, x], argTypes := #[T, T] })
    {q : Option Addr} {n c : Nat} {its : List It} {own body : Nat → Prop} (hs : a.eval s = .slice q n c) (hF : Fnd w q n c its own body) (hsep : ∀ k, own k → ¬ body k) (A c1 : Nat) (hx : a.eval x = .slice (some ⟨A, 0, none⟩) 1 c1) (it : It) (hit : ItCells w A 0 it body)
    (hroom : (n + 1) * B ≤ 140737488355328) (hsm : n + 1 ≤ maxLen)
    (h : ∀ q' c' w', Fnd w' q' (n + 1) c' (its ++ [it]) (fun k => own k ∨ k = w.heap.size) body → Turn (qblk q) w w' → (∀ y, q' = some y → (qblk q y.block ∧ 0 < c) ∨ y.block = w.heap.size) → wpList P ops Q rest (a.put o.dst (.slice q' (n + 1) c')) w') : wpList P ops Q (o :: rest) a w :=
  wpList_plain hgd fun _ hK => wp_append_fnd T e z B hinfo hzs hT s x ho hs hF hsep A c1 hx it hit hroom hsm fun q' c' w' h2 h3 h4 => hK _ _ (h q' c' w' h2 h3 h4)
end Go.Proofs.YtdmpopdacbdnlaaDoor
/- A decoder in memory; tellSkips. -/
namespace Go.Proofs.YtdmpopdacbdnlaaDoor
open Go.RowKit
set_option linter.unusedVariables false
set_option linter.unusedSimpArgs false
set_option maxHeartbeats 2000000
set_option maxRecDepth 20000
theorem infoIt : (Tryd.prog.info? 39).map (fun i => (i.zero, i.size, i.bytes)) = some (some (.agg #[.int .i64 0, .int .u8 0, .slice none 0 0]), 3, 40) := by kernel_rfl
theorem info8 : (Tryd.prog.info? 5).map (fun i => (i.zero, i.size, i.bytes)) = some (some (.int .u8 0), 1, 1) := by kernel_rfl
/-- A decoder at block g, whose blocks are those of S. -/
structure Dec (w : World) (g : Nat) (S : Nat → Prop) (d : St) : Prop where
  sg : S g
  lt : ∀ k, S k → k < w.heap.size
  mem : ∃ rq rn rc fq fn fc, w.cell? ⟨g, 0, none⟩ = some (.slice rq rn rc) ∧ OwnB 5 0 w (.slice rq rn rc) d.rest ∧ w.cell? ⟨g, 2, none⟩ = some (.slice fq fn fc) ∧ Fnd w fq fn fc d.found S (fun k => ¬ S k) ∧
    (∀ x, rq = some x → S x.block ∧ x.block ≠ g) ∧ (∀ x, fq = some x → S x.block ∧ x.block ≠ g ∧ ∀ y, rq = some y → x.block ≠ y.block)
  skips : w.cell? ⟨g, 1, none⟩ = some (.int .i64 (d.skips : Int))
  over : w.cell? ⟨g, 3, none⟩ = some (.bool d.over)
  f0 : w.frozen? ⟨g, 0, none⟩ = false
  f1 : w.frozen? ⟨g, 1, none⟩ = false
  f2 : w.frozen? ⟨g, 2, none⟩ = false
  f3 : w.frozen? ⟨g, 3, none⟩ = false
/-- What an act of a decoder leaves. -/
def DecTo (w w' : World) (g : Nat) (S : Nat → Prop) (d : St) : Prop := ∃ S', Dec w' g S' d ∧ Turn S w w' ∧ ∀ k, S' k → S k ∨ w.heap.size ≤ k
theorem Fnd.own' {w : World} {q : Option Addr} {n c : Nat} {its : List It} {own own' body : Nat → Prop} (h : Fnd w q n c its own body) (h1 : ∀ x, q = some x → own' x.block) : Fnd w q n c its own' body := by
  refine ⟨h.length, h.le, h.small, h.nil, h.at_.imp id ?_⟩
  rintro ⟨b, off, rfl, ho, rest⟩
  exact ⟨b, off, rfl, h1 _ rfl, rest⟩
theorem DecTo.trans {w w1 w2 : World} {g : Nat} {S : Nat → Prop} {d1 d2 : St} (h : DecTo w w1 g S d1) (k : ∀ S1, Dec w1 g S1 d1 → DecTo w1 w2 g S1 d2) : DecTo w w2 g S d2 := by
  obtain ⟨S1, h1, t1, n1⟩ := h
  obtain ⟨S2, h2, t2, n2⟩ := k S1 h1
  refine ⟨S2, h2, t1.trans t2 (fun x hx hs => (n1 x hs).elim id (fun h => by omega)), fun x hx => ?_⟩
  rcases n2 x hx with h | h
  · exact n1 x h
  · exact .inr (Nat.le_trans t1.size h)
theorem DecTo.refl {w : World} {g : Nat} {S : Nat → Prop} {d : St} (h : Dec w g S d) : DecTo w w g S d := ⟨S, h, Turn.refl _ _, fun _ h => .inl h⟩
/-- Other memory has turned. -/
theorem Dec.turn {T S : Nat → Prop} {w w' : World} {g : Nat} {d : St} (h : Dec w g S d) (t : Turn T w w') (hT : ∀ k, k < w.heap.size → T k → ¬ S k ∧ False) : Dec w' g S d := by
  obtain ⟨hsg, hlt, ⟨rq, rn, rc, fq, fn, fc, c0, hO, c2, hF, hr, hf⟩, c1, c3, f0, f1, f2, f3⟩ := h
  have nT : ∀ k, k < w.heap.size → ¬ T k := fun k hk ht => (hT k hk ht).2
  have hg := hlt g hsg
  have ng := nT g hg
  exact ⟨hsg, fun k hk => Nat.lt_of_lt_of_le (hlt k hk) t.size, ⟨rq, rn, rc, fq, fn, fc, (t.cell (p := ⟨g, 0, none⟩) hg ng).trans c0, hO.turn t (fun x hx => nT _ (hlt _ (hr x hx).1)), (t.cell (p := ⟨g, 2, none⟩) hg ng).trans c2,
    hF.turn t (fun x hx _ => nT _ (hlt _ (hf x hx).1)) (fun k hk _ => nT k hk), hr, hf⟩, (t.cell (p := ⟨g, 1, none⟩) hg ng).trans c1, (t.cell (p := ⟨g, 3, none⟩) hg ng).trans c3,
    (t.frozen (p := ⟨g, 0, none⟩) hg ng).trans f0, (t.frozen (p := ⟨g, 1, none⟩) hg ng).trans f1, (t.frozen (p := ⟨g, 2, none⟩) hg ng).trans f2, (t.frozen (p := ⟨g, 3, none⟩) hg ng).trans f3⟩
theorem Dec.below {S : Nat → Prop} {w w' : World} {g : Nat} {d : St} (h : Dec w g S d) (hb : Below w.heap.size w w') : Dec w' g S d :=
  h.turn (Turn.ofBelow (S := fun _ => False) hb rfl) (fun _ _ h => h.elim)
/-- d.skips = s -/
theorem Dec.setSkips {S : Nat → Prop} {w : World} {g : Nat} {d : St} (h : Dec w g S d) (s : Nat) : DecTo w (w.setCell ⟨g, 1, none⟩ (.int .i64 (s : Int))) g S ⟨d.rest, s, d.found, d.over⟩ := by
  obtain ⟨hsg, hlt, ⟨rq, rn, rc, fq, fn, fc, c0, hO, c2, hF, hr, hf⟩, c1, c3, f0, f1, f2, f3⟩ := h
  have t : Turn (fun k => k = g) w (w.setCell ⟨g, 1, none⟩ (.int .i64 (s : Int))) := Turn.set w ⟨g, _, none⟩ _
  exact ⟨S, ⟨hsg, fun k hk => Nat.lt_of_lt_of_le (hlt k hk) t.size, ⟨rq, rn, rc, fq, fn, fc, by simp [go_sem, c0, c1], hO.turn t (fun x hx => (hr x hx).2), by simp [go_sem, c1, c2], hF.turn t (fun x hx _ => (hf x hx).2.1) (fun k hk hn e => hn (e ▸ hsg)), hr, hf⟩,
    by simp [go_sem, c1], by simp [go_sem, c1, c3], by simp [go_sem, f0], by simp [go_sem, f1], by simp [go_sem, f2], by simp [go_sem, f3]⟩, t.mono (fun k _ e => e ▸ hsg), fun k hk => .inl hk⟩
theorem Dec.setOver {S : Nat → Prop} {w : World} {g : Nat} {d : St} (h : Dec w g S d) (s : Bool) : DecTo w (w.setCell ⟨g, 3, none⟩ (.bool s)) g S ⟨d.rest, d.skips, d.found, s⟩ := by
  obtain ⟨hsg, hlt, ⟨rq, rn, rc, fq, fn, fc, c0, hO, c2, hF, hr, hf⟩, c1, c3, f0, f1, f2, f3⟩ := h
  have t : Turn (fun k => k = g) w (w.setCell ⟨g, 3, none⟩ (.bool s)) := Turn.set w ⟨g, _, none⟩ _
  exact ⟨S, ⟨hsg, fun k hk => Nat.lt_of_lt_of_le (hlt k hk) t.size, ⟨rq, rn, rc, fq, fn, fc, by simp [go_sem, c0, c3], hO.turn t (fun x hx => (hr x hx).2), by simp [go_sem, c3, c2], hF.turn t (fun x hx _ => (hf x hx).2.1) (fun k hk hn e => hn (e ▸ hsg)), hr, hf⟩,
    by simp [go_sem, c1, c3], by simp [go_sem, c3], by simp [go_sem, f0], by simp [go_sem, f1], by simp [go_sem, f2], by simp [go_sem, f3]⟩, t.mono (fun k _ e => e ▸ hsg), fun k hk => .inl hk⟩
/-- d.found = append(..) -/
theorem Dec.setFound {S : Nat → Prop} {w w3 : World} {g : Nat} {d : St} (hsg : S g) (hlt : ∀ k, S k → k < w.heap.size) {rq fq : Option Addr} {rn rc fn fc n' c' : Nat} {q' : Option Addr} {its : List It} {N : Nat}
    (c0 : w.cell? ⟨g, 0, none⟩ = some (.slice rq rn rc)) (hO : OwnB 5 0 w (.slice rq rn rc) d.rest) (c2 : w.cell? ⟨g, 2, none⟩ = some (.slice fq fn fc)) (hr : ∀ x, rq = some x → S x.block ∧ x.block ≠ g) (hf : ∀ x, fq = some x → S x.block ∧ x.block ≠ g ∧ ∀ y, rq = some y → x.block ≠ y.block)
    (c1 : w.cell? ⟨g, 1, none⟩ = some (.int .i64 (d.skips : Int))) (c3 : w.cell? ⟨g, 3, none⟩ = some (.bool d.over)) (f0 : w.frozen? ⟨g, 0, none⟩ = false) (f1 : w.frozen? ⟨g, 1, none⟩ = false) (f2 : w.frozen? ⟨g, 2, none⟩ = false) (f3 : w.frozen? ⟨g, 3, none⟩ = false)
    (T3 : Turn (qblk fq) w w3) (hF3 : Fnd w3 q' n' c' its (fun k => S k ∨ k = N) (fun k => ¬ S k ∧ k < N)) (hq3 : ∀ y, q' = some y → qblk fq y.block ∨ y.block = N) (hN : w.heap.size ≤ N) (hc' : 0 < c') :
    DecTo w (w3.setCell ⟨g, 2, none⟩ (.slice q' n' c')) g S ⟨d.rest, d.skips, its, d.over⟩ := by
  have hg := hlt g hsg
  have hng : ¬ qblk fq g := fun ⟨x, e, e2⟩ => (hf x e).2.1 e2
  have b0 := (T3.cell (p := ⟨g, 0, none⟩) hg hng).trans c0
  have b1 := (T3.cell (p := ⟨g, 1, none⟩) hg hng).trans c1
  have b2 := (T3.cell (p := ⟨g, 2, none⟩) hg hng).trans c2
  have b3 := (T3.cell (p := ⟨g, 3, none⟩) hg hng).trans c3
  have e0 := (T3.frozen (p := ⟨g, 0, none⟩) hg hng).trans f0
  have e1 := (T3.frozen (p := ⟨g, 1, none⟩) hg hng).trans f1
  have e2 := (T3.frozen (p := ⟨g, 2, none⟩) hg hng).trans f2
  have e3 := (T3.frozen (p := ⟨g, 3, none⟩) hg hng).trans f3
  have t : Turn (fun k => k = g) w3 (w3.setCell ⟨g, 2, none⟩ (.slice q' n' c')) := Turn.set w3 ⟨g, _, none⟩ _
  have hqS : ∀ y, q' = some y → qblk fq y.block → S y.block := fun y _ ⟨x, e, e2⟩ => e2 ▸ (hf x e).1
  have hb : ∀ y, q' = some y → y.block < w3.heap.size := by
    intro y hy
    rcases hF3.at_ with h0 | ⟨b, off, hq, _, hb, _⟩
    · omega
    · rw [hy] at hq; cases hq; exact hb
  have hyg : ∀ y, q' = some y → y.block ≠ g := by
    intro y hy e
    rcases hq3 y hy with h | h
    · exact hng (e ▸ h)
    · omega
  refine ⟨fun k => S k ∨ qblk q' k, ⟨.inl hsg, fun k hk => ?_, ⟨rq, rn, rc, q', n', c', by simp [go_sem, b0, b2], (hO.turn T3 ?_).turn t (fun x hx => (hr x hx).2), by simp [go_sem, b2], ?_, fun x hx => ⟨.inl (hr x hx).1, (hr x hx).2⟩, fun x hx => ⟨.inr ⟨x, hx, rfl⟩, hyg x hx, fun y hy => ?_⟩⟩,
    by simp [go_sem, b1, b2], by simp [go_sem, b3, b2], by simp [go_sem, e0], by simp [go_sem, e1], by simp [go_sem, e2], by simp [go_sem, e3]⟩, ?_, fun k hk => ?_⟩
  · rcases hk with hk | ⟨y, hy, rfl⟩
    · exact Nat.lt_of_lt_of_le (hlt k hk) (Nat.le_trans T3.size t.size)
    · exact Nat.lt_of_lt_of_le (hb y hy) t.size
  · rintro x hx ⟨y, hy, e⟩
    exact (hf y hy).2.2 x hx e
  · have hF4 := (hF3.own' (own' := fun k => S k ∨ qblk q' k) (fun x hx => .inr ⟨x, hx, rfl⟩)).mono (fun _ _ h => h) (body' := fun k => ¬ (S k ∨ qblk q' k)) (fun k hk ⟨h1, h2⟩ h => by
      rcases h with h | ⟨y, hy, e⟩
      · exact h1 h
      · rcases hq3 y hy with h | h
        · exact h1 (e ▸ hqS y hy h)
        · omega)
    exact hF4.turn t (fun x hx _ => hyg x hx) (fun k hk hn e => hn (.inl (e ▸ hsg)))
  · intro e
    rcases hq3 x hx with ⟨z, hz, e2⟩ | h
    · exact (hf z hz).2.2 y hy (e2.trans e)
    · have := hlt _ (hr y hy).1; omega
  · exact (T3.mono (fun k _ ⟨x, e, e2⟩ => e2 ▸ (hf x e).1)).trans t (fun k _ e => e ▸ hsg)
  · rcases hk with hk | ⟨y, hy, rfl⟩
    · exact .inl hk
    · rcases hq3 y hy with h | h
      · exact .inl (hqS y hy h)
      · exact .inr (by omega)
/-- d.rest = append(..) -/
theorem Dec.setRest {S : Nat → Prop} {w w3 : World} {g : Nat} {d : St} (hsg : S g) (hlt : ∀ k, S k → k < w.heap.size) {rq fq : Option Addr} {rn rc fn fc n' c' : Nat} {q' : Option Addr} {l' : List UInt8}
    (c0 : w.cell? ⟨g, 0, none⟩ = some (.slice rq rn rc)) (c2 : w.cell? ⟨g, 2, none⟩ = some (.slice fq fn fc)) (hF : Fnd w fq fn fc d.found S (fun k => ¬ S k)) (hr : ∀ x, rq = some x → S x.block ∧ x.block ≠ g) (hf : ∀ x, fq = some x → S x.block ∧ x.block ≠ g ∧ ∀ y, rq = some y → x.block ≠ y.block)
    (c1 : w.cell? ⟨g, 1, none⟩ = some (.int .i64 (d.skips : Int))) (c3 : w.cell? ⟨g, 3, none⟩ = some (.bool d.over)) (f0 : w.frozen? ⟨g, 0, none⟩ = false) (f1 : w.frozen? ⟨g, 1, none⟩ = false) (f2 : w.frozen? ⟨g, 2, none⟩ = false) (f3 : w.frozen? ⟨g, 3, none⟩ = false)
    (T3 : Turn (qblk rq) w w3) (hO3 : OwnB 5 0 w3 (.slice q' n' c') l') (hq3 : ∀ y, q' = some y → qblk rq y.block ∨ w.heap.size ≤ y.block) :
    DecTo w (w3.setCell ⟨g, 0, none⟩ (.slice q' n' c')) g S ⟨l', d.skips, d.found, d.over⟩ := by
  have hg := hlt g hsg
  have hng : ¬ qblk rq g := fun ⟨x, e, e2⟩ => (hr x e).2 e2
  have b0 := (T3.cell (p := ⟨g, 0, none⟩) hg hng).trans c0
  have b1 := (T3.cell (p := ⟨g, 1, none⟩) hg hng).trans c1
  have b2 := (T3.cell (p := ⟨g, 2, none⟩) hg hng).trans c2
  have b3 := (T3.cell (p := ⟨g, 3, none⟩) hg hng).trans c3
  have e0 := (T3.frozen (p := ⟨g, 0, none⟩) hg hng).trans f0
  have e1 := (T3.frozen (p := ⟨g, 1, none⟩) hg hng).trans f1
  have e2 := (T3.frozen (p := ⟨g, 2, none⟩) hg hng).trans f2
  have e3 := (T3.frozen (p := ⟨g, 3, none⟩) hg hng).trans f3
  have t : Turn (fun k => k = g) w3 (w3.setCell ⟨g, 0, none⟩ (.slice q' n' c')) := Turn.set w3 ⟨g, _, none⟩ _
  have hqS : ∀ y, q' = some y → qblk rq y.block → S y.block := fun y _ ⟨x, e, e2⟩ => e2 ▸ (hr x e).1
  have hb : ∀ y, q' = some y → y.block < w3.heap.size := fun y hy => (hO3.owns.lt y.block (by rw [hy]; rfl)).2
  have hyg : ∀ y, q' = some y → y.block ≠ g := by
    intro y hy e
    rcases hq3 y hy with h | h
    · exact hng (e ▸ h)
    · omega
  have hfl := hF
  refine ⟨fun k => S k ∨ qblk q' k, ⟨.inl hsg, fun k hk => ?_, ⟨q', n', c', fq, fn, fc, by simp [go_sem, b0], hO3.turn t hyg, by simp [go_sem, b0, b2], ?_, fun x hx => ⟨.inr ⟨x, hx, rfl⟩, hyg x hx⟩, fun x hx => ⟨.inl (hf x hx).1, (hf x hx).2.1, fun y hy => ?_⟩⟩,
    by simp [go_sem, b1, b0], by simp [go_sem, b3, b0], by simp [go_sem, e0], by simp [go_sem, e1], by simp [go_sem, e2], by simp [go_sem, e3]⟩, ?_, fun k hk => ?_⟩
  · rcases hk with hk | ⟨y, hy, rfl⟩
    · exact Nat.lt_of_lt_of_le (hlt k hk) (Nat.le_trans T3.size t.size)
    · exact Nat.lt_of_lt_of_le (hb y hy) t.size
  · have hF1 := (hF.mono (fun k _ h => h) (body' := fun k => ¬ S k ∧ k < w.heap.size) (fun k hk h => ⟨h, hk⟩)).turn T3 (fun x hx _ ⟨y, hy, e⟩ => (hf x hx).2.2 y hy e.symm) (fun k hk hn ⟨y, hy, e⟩ => hn.1 (e ▸ (hr y hy).1))
    have hF4 := hF1.mono (fun k _ h => (Or.inl h : S k ∨ qblk q' k)) (body' := fun k => ¬ (S k ∨ qblk q' k)) (fun k hk ⟨h1, h2⟩ h => by
      rcases h with h | ⟨y, hy, e⟩
      · exact h1 h
      · rcases hq3 y hy with h | h
        · exact h1 (e ▸ hqS y hy h)
        · omega)
    exact hF4.turn t (fun x hx _ => (hf x hx).2.1) (fun k hk hn e => hn (.inl (e ▸ hsg)))
  · intro e
    rcases hq3 y hy with ⟨z, hz, e2⟩ | h
    · exact (hf x hx).2.2 z hz (e.trans e2.symm)
    · have := hlt _ (hf x hx).1; omega
  · exact (T3.mono (fun k _ ⟨x, e, e2⟩ => e2 ▸ (hr x e).1)).trans t (fun k _ e => e ▸ hsg)
  · rcases hk with hk | ⟨y, hy, rfl⟩
    · exact .inl hk
    · rcases hq3 y hy with h | h
      · exact .inl (hqS y hy h)
      · exact .inr h
theorem tell_any (g : Nat) (S : Nat → Prop) (d : St) (w : World) (h : Dec w g S d) (h1 : d.found.length ≤ 1000000) (h2 : d.skips ≤ 1000000) :
    Calls Tryd.prog 67 #[.pointer (some ⟨g, 0, none⟩)] w fun e w' => e = .returned (.tuple #[]) ∧ DecTo w w' g S ⟨d.rest, 0, Fr.tell d.skips d.found, d.over⟩ := by
  obtain ⟨hsg, hlt, ⟨rq, rn, rc, fq, fn, fc, c0, hO, c2, hF, hr, hf⟩, c1, c3, f0, f1, f2, f3⟩ := h
  have hg := hlt g hsg
  by_cases h0 : 0 < d.skips
  · have hi0 : (0 : Int) < (d.skips : Int) := by omega
    have hnb : ∀ k, S k → ¬ (¬ S k) := fun k hk hn => hn hk
    go_enter Tryd.func67, Tryd.ntmps67
    go_wp2_with fail
    have hn1 : w.heap.size ≠ g := by omega
    have T1 : Turn (fun _ => False) w ((w.alloc (.cells #[.int .i64 (d.skips : Int), .int .u8 0, .slice none 0 0] 39)).drew) := ((Turn.refl _ w).alloc _).drew
    have F1 := (hF.turn T1 (fun _ _ _ h => h) (fun _ _ _ h => h)).mono (fun _ _ h => h) (body' := fun k => ¬ S k ∧ k < w.heap.size + 1) (fun k hk h => ⟨h, by simpa using hk⟩)
    have hng : ¬ qblk fq g := fun ⟨x, e, e2⟩ => (hf x e).2.1 e2
    go_region_law (refine step_append_fnd 32 39 _ 40 infoIt rfl Tryd.underlying32 rfl (.tmp 11) (.tmp 17) rfl rfl F1 (fun k hk hn => hn.1 hk) w.heap.size 1 rfl ⟨d.skips, 0, []⟩ ⟨by simp [go_sem], by simp [go_sem], none, 0, 0, by simp [go_sem], ⟨rfl, by decide, Nat.le_refl _, .inl rfl, fun _ => rfl⟩, fun y e => by cases e⟩ (by have := hF.length; omega) (by have := hF.length; unfold maxLen; omega) ?_; intro q' c' w3 hF3 hT3 hq3; have T3 : Turn (qblk fq) w w3 := (T1.mono (fun _ _ h => h.elim)).trans hT3 (fun _ _ h => h); have b0 := (T3.cell (p := ⟨g, 0, none⟩) hg hng).trans c0; have b1 := (T3.cell (p := ⟨g, 1, none⟩) hg hng).trans c1; have b2 := (T3.cell (p := ⟨g, 2, none⟩) hg hng).trans c2; have b3 := (T3.cell (p := ⟨g, 3, none⟩) hg hng).trans c3; have e0 := (T3.frozen (p := ⟨g, 0, none⟩) hg hng).trans f0; have e1 := (T3.frozen (p := ⟨g, 1, none⟩) hg hng).trans f1; have e2 := (T3.frozen (p := ⟨g, 2, none⟩) hg hng).trans f2; have e3 := (T3.frozen (p := ⟨g, 3, none⟩) hg hng).trans f3)
    all_goals go_wp2_with fail
    all_goals (go_end0; refine ⟨rfl, DecTo.trans (d1 := ⟨d.rest, d.skips, d.found ++ [⟨d.skips, 0, []⟩], d.over⟩) (Dec.setFound hsg hlt c0 hO c2 hr hf c1 c3 f0 f1 f2 f3 T3 (N := w.heap.size + 1) (by simpa using hF3) (fun y hy => (hq3 y hy).imp (fun h => h.1) (fun h => by simpa using h)) (by omega) (by have := hF3.le; omega)) (fun S1 h1 => ?_)⟩; unfold Fr.tell; rw [if_pos h0]; exact h1.setSkips 0)
  · have hs : d.skips = 0 := by omega
    have hD : Dec w g S d := ⟨hsg, hlt, ⟨rq, rn, rc, fq, fn, fc, c0, hO, c2, hF, hr, hf⟩, c1, c3, f0, f1, f2, f3⟩
    have hE := hD.setSkips 0
    rw [hs] at c1
    replace hE := Lib.hid hE
    clear hD
    go_enter Tryd.func67, Tryd.ntmps67
    go_wp2_with fail
    go_end0
    refine ⟨rfl, ?_⟩
    unfold Fr.tell
    rw [if_neg h0]
    exact hE.out
end Go.Proofs.YtdmpopdacbdnlaaDoor
/- frame.look's contract. -/
namespace Go.Proofs.YtdmpopdacbdnlaaDoor
open Go.RowKit
set_option linter.unusedVariables false
set_option linter.unusedSimpArgs false
set_option maxHeartbeats 2000000
set_option maxRecDepth 20000
theorem Fr.fits_eq (l : List UInt8) : Crc.fits l = Fr.fits l := rfl
theorem RowB.slice {w : World} {b off len cap i j : Nat} {bs : List UInt8} (h : RowB w (some ⟨b, off, none⟩) len cap bs) (hij : i ≤ j) (hj : j ≤ len) : RowB w (some ⟨b, off + i, none⟩) (j - i) (cap - i) ((bs.take j).drop i) := by
  have hl := h.length
  have hle := h.le
  refine ⟨by simp; omega, by have := h.small; omega, by omega, ?_, fun e => by cases e⟩
  rcases h.at_ with h0 | ⟨b', off', e, hlb, hc⟩
  · exact .inl (by omega)
  · cases e
    refine .inr ⟨b, off + i, rfl, hlb, fun k hk => ?_⟩
    rw [Nat.add_assoc, hc (i + k) (by omega)]
    have : i + k < j := by omega
    simp [List.getD, List.getElem?_drop, List.getElem?_take, this]
theorem i64_or_nat (a b : Nat) (ha : a < 9223372036854775808) (hb : b < 9223372036854775808) : bits .or .i64 (a : Int) (b : Int) = ((a ||| b : Nat) : Int) := by
  have hx : a ||| b < 2 ^ 63 := Nat.or_lt_two_pow (by omega) (by omega)
  show IntKind.i64.wrap ((BitVec.ofInt 64 (a : Int) ||| BitVec.ofInt 64 (b : Int)).toNat : Int) = _
  rw [BitVec.toNat_or, ofInt_u64 a (by omega), ofInt_u64 b (by omega)]
  exact IntWalk.i64_in _ (by omega)
theorem or_8 (x y : Nat) (hx : x < 256) (hy : y < 256) : bits .or .i64 ((x : Int) * 256) (y : Int) = ((x * 256 + y : Nat) : Int) := by
  have h1 := i64_or_nat (x * 256) y (by omega) (by omega)
  have h2 := Nat.two_pow_add_eq_or_of_lt (i := 8) (show y < 2 ^ 8 by omega) x
  have e : ((x * 256 : Nat) : Int) = (x : Int) * 256 := by omega
  rw [e] at h1
  rw [h1, show x * 256 = 2 ^ 8 * x from by omega, ← h2]
theorem look_any (a : Option Addr) (len cap : Nat) (bs : List UInt8) (w : World) (h : RowB w a len cap bs) (hpos : 0 < len) (hT : Tab w) :
    Calls Tryd.prog 106 #[.slice a len cap] w fun e w' => e = .returned (.int .i64 (Fr.look bs)) ∧ Below w.heap.size w w' := by
  have hl := h.length
  have hm : len ≤ 9223372036854775807 := by have := h.small; unfold maxLen at this; omega
  rcases h.at_ with h0 | ⟨b, off, rfl, hlb, hc⟩
  · omega
  have c0 := hc 0 hpos
  rw [Nat.add_zero] at c0
  have hx := (bs.getD 0 0).toNat_lt
  unfold Fr.look
  rw [hl]
  have hfit : ∀ n : Nat, 7 ≤ n → n ≤ len → RowB w (some ⟨b, off + 1, none⟩) (n - 1) (cap - 1) ((bs.take n).drop 1) := fun n h1 h2 => h.slice (by omega) h2
  generalize hx0 : (bs.getD 0 0).toNat = x0 at *
  clear hx0
  have hlc := h.le
  replace hl := Lib.hid hl
  by_cases hz : x0 = 165
  · rw [if_neg (by omega)]
    rw [hz] at c0
    by_cases h4 : len < 4
    · rw [if_pos h4]
      clear hc
      go_enter Tryd.func106, Tryd.ntmps106
      go_wp2_with fail
      go_ret
      exact ⟨rfl, Below.refl _ _⟩
    · rw [if_neg h4]
      have c2 := hc 2 (by omega)
      have c3 := hc 3 (by omega)
      have hx2 := (bs.getD 2 0).toNat_lt
      have hx3 := (bs.getD 3 0).toNat_lt
      clear hc hz
      generalize (bs.getD 2 0).toNat = x at *
      generalize (bs.getD 3 0).toNat = y at *
      have hor : bits .or .i64 ((x : Int) * 256) (y : Int) = ((x * 256 + y : Nat) : Int) := by
        exact or_8 x y (by omega) (by omega)
      have hwx : IntKind.i64.wrap (x : Int) = (x : Int) := IntWalk.i64_in _ (by omega)
      have hwy : IntKind.i64.wrap (y : Int) = (y : Int) := IntWalk.i64_in _ (by omega)
      have hwz : IntKind.i64.wrap ((x : Int) * 256) = (x : Int) * 256 := IntWalk.i64_in _ (by omega)
      have i0 : (2 : Int) < (len : Int) := by omega
      have i1 : (3 : Int) < (len : Int) := by omega
      generalize hn : x * 256 + y = n at *
      have hn2 : n ≤ 65535 := by omega
      clear hn
      obtain ⟨R, hRes⟩ : ∃ R : Int, (if 256 < n then (0 : Int) else if len < n + 7 then -1 else if Fr.fits ((bs.take (n + 7)).drop 1) = true then ((n + 7 : Nat) : Int) else 0) = R := ⟨_, rfl⟩
      rw [hRes]
      replace hRes := Lib.hid hRes
      go_enter Tryd.func106, Tryd.ntmps106
      go_wp2_with fail
      refine wp_region_held_drew (S := fun W => W.cell? ⟨b, off + 2, none⟩ = some (.int .u8 (x : Int)) ∧ W.cell? ⟨b, off + 3, none⟩ = some (.int .u8 (y : Int))) (by kernel_rfl) ⟨c2, c3⟩ (fun hHeld => ?_)
      refine wpAnyH_take (i := 0) (oi := ⟨some 12, _, _, _, _, _⟩) (v := ?_) rfl (by kernel_rfl) (by kernel_rfl) (by kernel_rfl) (fun _ _ _ h => h) (Or.inl ⟨by rfl, ?hyt0⟩) (by assumption) ?_; (case hyt0 => ((intro W hSW; (try dsimp only at hSW); obtain ⟨hSW, hSW2⟩ := hSW; go_simp); (all_goals with_reducible rfl))); (try simp only [Act.put, List.setIfInBounds_toArray, List.set_cons_zero, List.set_cons_succ])
      refine wpAnyH_take (i := 1) (oi := ⟨some 13, _, _, _, _, _⟩) (v := ?_) rfl (by kernel_rfl) (by kernel_rfl) (by kernel_rfl) (fun _ _ _ h => h) (Or.inl ⟨by rfl, ?hyt1⟩) (by assumption) ?_; (case hyt1 => ((intro W hSW; (try dsimp only at hSW); obtain ⟨hSW, hSW2⟩ := hSW; go_simp); (all_goals with_reducible rfl))); (try simp only [Act.put, List.setIfInBounds_toArray, List.set_cons_zero, List.set_cons_succ])
      refine wpAnyH_take (i := 2) (oi := ⟨some 14, _, _, _, _, _⟩) (v := ?_) rfl (by kernel_rfl) (by kernel_rfl) (by kernel_rfl) (fun _ _ _ h => h) (Or.inl ⟨by rfl, ?hyt2⟩) (by assumption) ?_; (case hyt2 => ((intro W hSW; (try dsimp only at hSW); obtain ⟨hSW, hSW2⟩ := hSW; go_simp); (all_goals with_reducible rfl))); (try simp only [Act.put, List.setIfInBounds_toArray, List.set_cons_zero, List.set_cons_succ])
      refine wpAnyH_take (i := 3) (oi := ⟨some 15, _, _, _, _, _⟩) (v := ?_) rfl (by kernel_rfl) (by kernel_rfl) (by kernel_rfl) (fun _ _ _ h => h) (Or.inl ⟨by rfl, ?hyt3⟩) (by assumption) ?_; (case hyt3 => ((intro W hSW; (try dsimp only at hSW); obtain ⟨hSW, hSW2⟩ := hSW; go_simp); (all_goals with_reducible rfl))); (try simp only [Act.put, List.setIfInBounds_toArray, List.set_cons_zero, List.set_cons_succ])
      refine wpAnyH_take (i := 4) (oi := ⟨some 16, _, _, _, _, _⟩) (v := ?_) rfl (by kernel_rfl) (by kernel_rfl) (by kernel_rfl) (fun _ _ _ h => h) (Or.inl ⟨by rfl, ?hyt4⟩) (by assumption) ?_; (case hyt4 => ((intro W hSW; (try dsimp only at hSW); obtain ⟨hSW, hSW2⟩ := hSW; go_simp); (all_goals with_reducible rfl))); (try simp only [Act.put, List.setIfInBounds_toArray, List.set_cons_zero, List.set_cons_succ])
      refine wpAnyH_take (i := 5) (oi := ⟨some 17, _, _, _, _, _⟩) (v := ?_) rfl (by kernel_rfl) (by kernel_rfl) (by kernel_rfl) (fun _ _ _ h => h) (Or.inl ⟨by rfl, ?hyt5⟩) (by assumption) ?_; (case hyt5 => ((intro W hSW; (try dsimp only at hSW); obtain ⟨hSW, hSW2⟩ := hSW; go_simp); (all_goals with_reducible rfl))); (try simp only [Act.put, List.setIfInBounds_toArray, List.set_cons_zero, List.set_cons_succ])
      refine wpAnyH_take (i := 6) (oi := ⟨some 18, _, _, _, _, _⟩) (v := ?_) rfl (by kernel_rfl) (by kernel_rfl) (by kernel_rfl) (fun _ _ _ h => h) (Or.inl ⟨by rfl, ?hyt6⟩) (by assumption) ?_; (case hyt6 => ((intro W hSW; (try dsimp only at hSW); obtain ⟨hSW, hSW2⟩ := hSW; go_simp); (all_goals with_reducible rfl))); (try simp only [Act.put, List.setIfInBounds_toArray, List.set_cons_zero, List.set_cons_succ])
      refine wpAnyH_take (i := 7) (oi := ⟨some 19, _, _, _, _, _⟩) (v := ?_) rfl (by kernel_rfl) (by kernel_rfl) (by kernel_rfl) (fun _ _ _ h => h) (Or.inl ⟨by rfl, ?hyt7⟩) (by assumption) ?_; (case hyt7 => ((intro W hSW; (try dsimp only at hSW); obtain ⟨hSW, hSW2⟩ := hSW; go_simp); (all_goals with_reducible rfl))); (try simp only [Act.put, List.setIfInBounds_toArray, List.set_cons_zero, List.set_cons_succ])
      refine wpAnyH_take (i := 8) (oi := ⟨some 20, _, _, _, _, _⟩) (v := ?_) rfl (by kernel_rfl) (by kernel_rfl) (by kernel_rfl) (fun _ _ _ h => h) (Or.inl ⟨by rfl, ?hyt8⟩) (by assumption) ?_; (case hyt8 => ((intro W hSW; (try dsimp only at hSW); obtain ⟨hSW, hSW2⟩ := hSW; go_simp); (all_goals with_reducible rfl))); (try simp only [Act.put, List.setIfInBounds_toArray, List.set_cons_zero, List.set_cons_succ])
      refine wpAnyH_take (i := 9) (oi := ⟨some 21, _, _, _, _, _⟩) (v := ?_) rfl (by kernel_rfl) (by kernel_rfl) (by kernel_rfl) (fun _ _ _ h => h) (Or.inl ⟨by rfl, ?hyt9⟩) (by assumption) ?_; (case hyt9 => ((intro W hSW; (try dsimp only at hSW); obtain ⟨hSW, hSW2⟩ := hSW; go_simp); (all_goals with_reducible rfl))); (try simp only [Act.put, List.setIfInBounds_toArray, List.set_cons_zero, List.set_cons_succ])
      refine wpAnyH_take (i := 10) (oi := ⟨some 3, _, _, _, _, _⟩) (v := ?_) rfl (by kernel_rfl) (by kernel_rfl) (by kernel_rfl) (fun _ _ _ h => h) (Or.inl ⟨by rfl, ?hyt10⟩) (by assumption) ?_; (case hyt10 => ((intro W hSW; (try dsimp only at hSW); obtain ⟨hSW, hSW2⟩ := hSW; go_simp); (all_goals with_reducible rfl))); (try simp only [Act.put, List.setIfInBounds_toArray, List.set_cons_zero, List.set_cons_succ])
      refine wpAnyH_done (by kernel_rfl) ?_ _
      clear hHeld hwx hwy hwz hor
      by_cases hn1 : 256 < n
      · go_wp2_with fail
        go_ret
        exact ⟨ret_int (by rw [← hRes.out, if_pos hn1]), (Below.refl _ _).drew⟩
      by_cases hn2' : len < n + 7
      · go_wp2_with fail
        go_ret
        exact ⟨ret_int (by rw [← hRes.out, if_neg hn1, if_pos hn2']), (Below.refl _ _).drew⟩
      have hRR := hRes.out
      rw [if_neg hn1, if_neg hn2'] at hRR
      clear hRes
      have hR := (hfit (n + 7) (by omega) (by omega)).below ((Below.refl w.heap.size w).drew)
      have hfe := Fr.fits_eq ((bs.take (n + 7)).drop 1)
      clear hfit
      generalize (bs.take (n + 7)).drop 1 = fb at *
      rw [← hfe] at hRR
      clear hfe
      have s0 : (0 : Int) ≤ (n : Int) + 7 := by omega
      have s1 : (n : Int) + 7 ≤ (cap : Int) := by omega
      have s2 : (1 : Int) ≤ (n : Int) + 7 := by omega
      replace hRR := Lib.hid hRR
      have hTd := hT.below ((Below.refl w.heap.size w).drew)
      rw [show n + 7 - 1 = 4 + n + 2 from by omega] at hR
      go_wp2_with fail
      refine (crc_fits _ _ _ fb w.drew hTd hR).mono ?_; rintro e w' ⟨rfl, hb⟩
      have hB : Below w.heap.size w w' := ((Below.refl _ _).drew).trans hb
      clear hR hTd hb
      by_cases hf : Crc.fits fb = true
      · rw [hf]
        have hRf := hRR.out
        rw [if_pos hf] at hRf
        replace hRf := Lib.hid hRf
        clear hf hRR
        go_wp2_with fail
        go_ret
        exact ⟨ret_int (by rw [← hRf.out]; omega), hB⟩
      · have hf' : Crc.fits fb = false := by simpa using hf
        rw [hf']
        have hRf := hRR.out
        rw [if_neg hf] at hRf
        replace hRf := Lib.hid hRf
        clear hf hf' hRR
        go_wp2_with fail
        go_ret
        exact ⟨ret_int hRf.out, hB⟩
  · rw [if_pos hz]
    have hz' : ((x0 : Int) == 165) = false := by rw [beq_eq_false_iff_ne]; omega
    clear hc
    go_enter Tryd.func106, Tryd.ntmps106
    go_wp2_with fail
    go_ret
    exact ⟨rfl, Below.refl _ _⟩
end Go.Proofs.YtdmpopdacbdnlaaDoor
/- (*frame.Decoder).walk's contract. -/
namespace Go.Proofs.YtdmpopdacbdnlaaDoor
open Go.RowKit
set_option linter.unusedVariables false
set_option linter.unusedSimpArgs false
set_option maxHeartbeats 4000000
set_option maxRecDepth 20000
theorem OwnB.rowS {t : TypeId} {base : Nat} {w : World} {q : Option Addr} {n c : Nat} {l : List UInt8} (h : OwnB t base w (.slice q n c) l) : n = l.length ∧ RowB w q n c l := by
  obtain ⟨q', cap, hv, hR, _⟩ := h.row
  simp only [Value.slice.injEq] at hv
  obtain ⟨rfl, rfl, rfl⟩ := hv
  exact ⟨rfl, hR⟩
theorem RowB.drop {w : World} {b off len cap n : Nat} {bs : List UInt8} (h : RowB w (some ⟨b, off, none⟩) len cap bs) (hn : n ≤ len) : RowB w (some ⟨b, off + n, none⟩) (len - n) (cap - n) (bs.drop n) := by
  have := h.slice hn (Nat.le_refl len)
  rwa [List.take_of_length_le (by rw [h.length]; exact Nat.le_refl _)] at this
theorem Tab.turn {S : Nat → Prop} {w w' : World} (h : Tab w) (t : Turn S w w') (hS : ¬ S 2) : Tab w' :=
  ⟨Nat.lt_of_lt_of_le h.lt t.size, fun i hi => (t.cell (p := ⟨2, i, none⟩) h.lt hS).trans (h.cell i hi)⟩
theorem Fr.tell_le (s : Nat) (f : List It) : (Fr.tell s f).length ≤ f.length + s := by
  unfold Fr.tell
  split
  · simp; omega
  · omega
/-- A decoder, its two slices named. -/
structure DecM (w : World) (g : Nat) (S : Nat → Prop) (d : St) (rq : Option Addr) (rn rc : Nat) (fq : Option Addr) (fn fc : Nat) : Prop where
  sg : S g
  lt : ∀ k, S k → k < w.heap.size
  c0 : w.cell? ⟨g, 0, none⟩ = some (.slice rq rn rc)
  own : OwnB 5 0 w (.slice rq rn rc) d.rest
  c2 : w.cell? ⟨g, 2, none⟩ = some (.slice fq fn fc)
  fnd : Fnd w fq fn fc d.found S (fun k => ¬ S k)
  hr : ∀ x, rq = some x → S x.block ∧ x.block ≠ g
  hf : ∀ x, fq = some x → S x.block ∧ x.block ≠ g ∧ ∀ y, rq = some y → x.block ≠ y.block
  c1 : w.cell? ⟨g, 1, none⟩ = some (.int .i64 (d.skips : Int))
  c3 : w.cell? ⟨g, 3, none⟩ = some (.bool d.over)
  f0 : w.frozen? ⟨g, 0, none⟩ = false
  f1 : w.frozen? ⟨g, 1, none⟩ = false
  f2 : w.frozen? ⟨g, 2, none⟩ = false
  f3 : w.frozen? ⟨g, 3, none⟩ = false
theorem Dec.m {w : World} {g : Nat} {S : Nat → Prop} {d : St} (h : Dec w g S d) : ∃ rq rn rc fq fn fc, DecM w g S d rq rn rc fq fn fc := by
  obtain ⟨hsg, hlt, ⟨rq, rn, rc, fq, fn, fc, c0, hO, c2, hF, hr, hf⟩, c1, c3, f0, f1, f2, f3⟩ := h
  exact ⟨rq, rn, rc, fq, fn, fc, hsg, hlt, c0, hO, c2, hF, hr, hf, c1, c3, f0, f1, f2, f3⟩
section
variable {w : World} {g : Nat} {S : Nat → Prop} {d : St} {rq : Option Addr} {rn rc : Nat} {fq : Option Addr} {fn fc : Nat}
theorem DecM.dec (h : DecM w g S d rq rn rc fq fn fc) : Dec w g S d := ⟨h.sg, h.lt, ⟨rq, rn, rc, fq, fn, fc, h.c0, h.own, h.c2, h.fnd, h.hr, h.hf⟩, h.c1, h.c3, h.f0, h.f1, h.f2, h.f3⟩
theorem DecM.turn {T : Nat → Prop} {w' : World} (h : DecM w g S d rq rn rc fq fn fc) (t : Turn T w w') (hT : ∀ k, k < w.heap.size → ¬ T k) : DecM w' g S d rq rn rc fq fn fc := by
  have hg := h.lt g h.sg
  have ng := hT g hg
  exact ⟨h.sg, fun k hk => Nat.lt_of_lt_of_le (h.lt k hk) t.size, (t.cell (p := ⟨g, 0, none⟩) hg ng).trans h.c0, h.own.turn t (fun x hx => hT _ (h.lt _ (h.hr x hx).1)), (t.cell (p := ⟨g, 2, none⟩) hg ng).trans h.c2,
    h.fnd.turn t (fun x hx _ => hT _ (h.lt _ (h.hf x hx).1)) (fun k hk _ => hT k hk), h.hr, h.hf, (t.cell (p := ⟨g, 1, none⟩) hg ng).trans h.c1, (t.cell (p := ⟨g, 3, none⟩) hg ng).trans h.c3,
    (t.frozen (p := ⟨g, 0, none⟩) hg ng).trans h.f0, (t.frozen (p := ⟨g, 1, none⟩) hg ng).trans h.f1, (t.frozen (p := ⟨g, 2, none⟩) hg ng).trans h.f2, (t.frozen (p := ⟨g, 3, none⟩) hg ng).trans h.f3⟩
theorem DecM.below {w' : World} (h : DecM w g S d rq rn rc fq fn fc) (hb : Below w.heap.size w w') : DecM w' g S d rq rn rc fq fn fc :=
  h.turn (Turn.ofBelow (S := fun _ => False) hb rfl) (fun _ _ h => h)
theorem DecM.setRest {w3 : World} {n' c' : Nat} {q' : Option Addr} {l' : List UInt8} (h : DecM w g S d rq rn rc fq fn fc) (T3 : Turn (qblk rq) w w3) (hO3 : OwnB 5 0 w3 (.slice q' n' c') l') (hq3 : ∀ y, q' = some y → qblk rq y.block ∨ w.heap.size ≤ y.block) :
    DecTo w (w3.setCell ⟨g, 0, none⟩ (.slice q' n' c')) g S ⟨l', d.skips, d.found, d.over⟩ :=
  Dec.setRest h.sg h.lt h.c0 h.c2 h.fnd h.hr h.hf h.c1 h.c3 h.f0 h.f1 h.f2 h.f3 T3 hO3 hq3
theorem DecM.setFound {w3 : World} {n' c' N : Nat} {q' : Option Addr} {its : List It} (h : DecM w g S d rq rn rc fq fn fc) (T3 : Turn (qblk fq) w w3) (hF3 : Fnd w3 q' n' c' its (fun k => S k ∨ k = N) (fun k => ¬ S k ∧ k < N)) (hq3 : ∀ y, q' = some y → qblk fq y.block ∨ y.block = N) (hN : w.heap.size ≤ N) (hc' : 0 < c') :
    DecTo w (w3.setCell ⟨g, 2, none⟩ (.slice q' n' c')) g S ⟨d.rest, d.skips, its, d.over⟩ :=
  Dec.setFound h.sg h.lt h.c0 h.own h.c2 h.hr h.hf h.c1 h.c3 h.f0 h.f1 h.f2 h.f3 T3 hF3 hq3 hN hc'
end
theorem DecTo.after {w w1 w2 : World} {g : Nat} {S S1 : Nat → Prop} {d2 : St} (t1 : Turn S w w1) (n1 : ∀ k, S1 k → S k ∨ w.heap.size ≤ k) (k : DecTo w1 w2 g S1 d2) : DecTo w w2 g S d2 := by
  obtain ⟨S2, h2, t2, n2⟩ := k
  refine ⟨S2, h2, t1.trans t2 (fun x hx hs => (n1 x hs).elim id (fun h => by omega)), fun x hx => ?_⟩
  rcases n2 x hx with h | h
  · exact n1 x h
  · exact .inr (Nat.le_trans t1.size h)
theorem OwnB.mono {t : TypeId} {base : Nat} {w : World} {v : Value} {l : List UInt8} (h : OwnB t base w v l) : OwnB t 0 w v l :=
  ⟨⟨h.owns.1, h.owns.2.imp id (fun ⟨g, c, u, h1, _, h3⟩ => ⟨g, c, u, h1, Nat.zero_le _, h3⟩)⟩, h.small⟩
theorem OwnB.form {t : TypeId} {base : Nat} {w : World} {q : Option Addr} {n c : Nat} {l : List UInt8} (h : OwnB t base w (.slice q n c) l) : (q = none ∧ n = 0 ∧ c = 0) ∨ ∃ b off, q = some ⟨b, off, none⟩ := by
  rcases h.owns.2 with ⟨e, _⟩ | ⟨g, cap, cur, e, _⟩
  · simp only [Value.slice.injEq] at e; exact .inl e
  · simp only [Value.slice.injEq] at e; exact .inr ⟨g, 0, e.1⟩
theorem OwnB.fresh {t : TypeId} {base : Nat} {w : World} {q : Option Addr} {n c : Nat} {l : List UInt8} (h : OwnB t base w (.slice q n c) l) : ∀ y, q = some y → base ≤ y.block ∧ y.block < w.heap.size :=
  fun y hy => h.owns.lt y.block (by rw [hy]; rfl)
theorem walk_any (g : Nat) (S : Nat → Prop) (d : St) (w : World) (h : Dec w g S d) (hT : Tab w) (hTS : ¬ S 2) (hb : d.found.length + d.skips + 2 * d.rest.length ≤ 1000000) :
    Calls Tryd.prog 66 #[.pointer (some ⟨g, 0, none⟩)] w fun e w' => e = .returned (.tuple #[]) ∧ DecTo w w' g S ⟨(Fr.pass d.over d.rest d.skips d.found).1, (Fr.pass d.over d.rest d.skips d.found).2.1, (Fr.pass d.over d.rest d.skips d.found).2.2, d.over⟩ := by
  obtain ⟨Z, hZ⟩ : ∃ Z, Fr.pass d.over d.rest d.skips d.found = Z := ⟨_, rfl⟩
  rw [hZ]
  obtain ⟨rest, skips, found, over⟩ := d
  simp only at hZ hb ⊢
  have hD := DecTo.refl h
  go_enter Tryd.func66, Tryd.ntmps66
  go_wp2_with fail
  go_step3
  go_wp2_with fail
  go_step3
  go_wp2_with fail
  go_loopw [2] (fun i wr => ∃ k : Nat, k ≤ rest.length ∧ i = .int .i64 k ∧ ∃ s f, f.length + s + 2 * (rest.length - k) ≤ 1000000 ∧ DecTo w wr g S ⟨rest, s, f, over⟩ ∧ Fr.pass over (rest.drop k) s f = Z) (fun i wr => rest.length - (intOf i).toNat)
  case atStart => exact ⟨0, Nat.zero_le _, rfl, skips, found, by omega, hD, hZ⟩
  case round =>
    clear hZ hD h hb
    obtain ⟨k, hk, rfl, s, f, hb, hD, hZ⟩ := hrel
    have hD0 := hD
    obtain ⟨S1, h1, t1, n1⟩ := hD
    obtain ⟨rq, rn, rc, fq, fn, fc, hM⟩ := h1.m
    have hg := hM.lt g hM.sg
    obtain ⟨hn, hR⟩ := hM.own.rowS
    simp only at hn hR
    have hm := hR.small
    unfold maxLen at hm
    have hle := hR.le
    have hT1 := hT.turn t1 hTS
    have hkn : k ≤ rn := by omega
    have hk0 : (0 : Int) ≤ (k : Int) := by omega
    have hk1 : (k : Int) ≤ (rn : Int) := by omega
    have hk2 : (k : Int) ≤ (rc : Int) := by omega
    replace hZ := Lib.hid hZ
    have c0 := hM.c0
    have f0 := hM.f0
    rcases hM.own.form with ⟨rfl, rfl, rfl⟩ | ⟨b, off, rfl⟩
    · obtain rfl : k = 0 := by omega
      have hr0 : rest.drop 0 = [] := List.drop_eq_nil_of_le (by omega)
      replace hn := Lib.hid hn
      go_wp2_with fail
      rw [Exit.noGoto_normal]; go_end0; have hz := hZ.out; rw [hr0, Fr.pass_nil] at hz; rw [← hz]; exact ⟨rfl, DecTo.after t1 n1 (hM.setRest (w3 := wr) (Turn.refl _ _) (OwnB.nil _ _ _) (fun y e => by cases e))⟩
    · by_cases hlt' : k < rn
      · replace hn := Lib.hid hn
        go_wp2_with fail
        refine (look_any _ _ _ (rest.drop k) wr (hR.drop hkn) (by omega) hT1).mono ?_; rintro e w2 ⟨rfl, hb2⟩
        have hM2 := hM.below hb2
        have t2 : Turn S w w2 := t1.trans (Turn.ofBelow (S := fun _ => False) hb2 rfl) (fun _ _ h => h.elim)
        have hg2 : g < w2.heap.size := hM2.lt g hM2.sg
        have hne : rest.drop k ≠ [] := by
          intro e
          have := congrArg List.length e
          rw [List.length_drop] at this
          have h2 := hn.out
          simp at this; omega
        have hSk := hM2.dec.setSkips (s + 1)
        rw [show (((s + 1 : Nat)) : Int) = (s : Int) + 1 from by omega] at hSk
        simp only at hSk
        have hSk2 := DecTo.after t2 n1 hSk
        clear hSk
        replace hSk2 := Lib.hid hSk2
        have c1 := hM2.c1
        have f1 := hM2.f1
        have c3 := hM2.c3
        simp only at c1 c3
        have hs0 : (0 : Int) ≤ (s : Int) := by omega
        have hs1 : (s : Int) ≤ 1000000 := by omega
        replace hb2 := Lib.hid hb2
        have hnn := hn.out
        have hkr : k + 1 ≤ rest.length := by omega
        have hbd : f.length + (s + 1) + 2 * (rest.length - (k + 1)) ≤ 1000000 := by omega
        have hrn : rn - k ≤ 1000000 := by omega
        clear hnn
        rcases Fr.look_cases (rest.drop k) with hL | hL | ⟨n, hL, hn7, hn8, hn9⟩
        · rw [hL]
          have hP : Fr.pass over (rest.drop (k + 1)) (s + 1) f = Z := by
            rw [← hZ.out, Fr.pass_skip hne (by omega) (fun h => by omega), List.drop_drop]
          replace hP := Lib.hid hP
          replace hL := Lib.hid hL
          have c0' := hM2.c0
          clear c0
          go_wp2_with fail
          go_roundw
          case rel => exact ⟨k + 1, hkr, by go_num, s + 1, f, hbd, hSk2.out, hP.out⟩
          case measure => simp [intOf] <;> omega
        · cases over
          · have hZ2 := hZ.out
            rw [Fr.pass_wait hL] at hZ2
            replace hZ2 := Lib.hid hZ2
            rw [hL]
            replace hL := Lib.hid hL
            have c0 := hM2.c0
            have f0 := hM2.f0
            have hR2 := (hR.below hb2.out).drop hkn
            have tok1 : True := trivial
            go_wp2_with (at_builtin; have _t := tok1; refine append_bytes 22 5 info8 Tryd.underlying22 rfl _ _ rfl w2.heap.size (.slice none 0 0) [] 0 rfl rfl (OwnB.nil _ _ _) (some ⟨b, off + k, none⟩) (rn - k) (rc - k) _ rfl hR2 (by omega) (Nat.le_refl _) ?_; intro q' c' w3 hO3 hR3 hG3; clear tok1; have T3 : Turn (fun _ => False) w2 w3 := Turn.ofGrown hG3 (fun k e => by cases e); have b0 := (T3.cell (p := ⟨g, 0, none⟩) hg2 (fun h => h)).trans c0; have e0 := (T3.frozen (p := ⟨g, 0, none⟩) hg2 (fun h => h)).trans f0)
            rw [Exit.noGoto_normal]
            go_end0
            have hz := hZ2.out
            rw [← hz]
            rw [Nat.zero_add] at hO3
            exact ⟨rfl, DecTo.after t2 n1 (hM2.setRest (T3.mono (fun _ _ h => h.elim)) hO3.mono (fun y hy => .inr (hO3.fresh y hy).1))⟩
          · have hP : Fr.pass true (rest.drop (k + 1)) (s + 1) f = Z := by
              rw [← hZ.out, Fr.pass_skip hne (by omega) (fun h => by simp at h), List.drop_drop]
            replace hP := Lib.hid hP
            rw [hL]
            replace hL := Lib.hid hL
            have c0' := hM2.c0
            clear c0
            go_wp2_with fail
            go_roundw
            case rel => exact ⟨k + 1, hkr, by go_num, s + 1, f, hbd, hSk2.out, hP.out⟩
            case measure => simp [intOf] <;> omega
        · have hP : Fr.pass over (rest.drop (k + n)) 0 (Fr.tell s f ++ [Fr.item (rest.drop k) n]) = Z := by
            rw [← hZ.out, Fr.pass_frame hL (by omega), List.drop_drop]
          replace hP := Lib.hid hP
          have htl := Fr.tell_le s f
          have hdl : (rest.drop k).length = rn - k := by rw [List.length_drop, hn.out]
          have hbd2 : (Fr.tell s f ++ [Fr.item (rest.drop k) n]).length + 0 + 2 * (rest.length - (k + n)) ≤ 1000000 := by
            rw [List.length_append]
            rw [hdl] at hn9
            have := hn.out
            simp only [List.length_cons, List.length_nil]
            omega
          have hkn3 : k + n ≤ rest.length := by rw [hdl] at hn9; have := hn.out; omega
          rw [hdl] at hn9
          rw [hL]
          replace hL := Lib.hid hL
          replace htl := Lib.hid htl
          replace hdl := Lib.hid hdl
          clear hSk2 hbd c1 f1 c3
          have hn0 : (0 : Int) < (n : Int) := by omega
          go_wp2_with fail
          refine (tell_any g S1 ⟨rest, s, f, over⟩ w2 hM2.dec (by simp only; omega) (by simp only; omega)).mono ?_; rintro e w3 ⟨rfl, S2, h3, t3, n3⟩
          simp only at h3
          obtain ⟨rq3, rn3, rc3, fq3, fn3, fc3, hM3⟩ := h3.m
          obtain ⟨hn3', hR3⟩ := hM3.own.rowS
          simp only at hn3' hR3
          obtain rfl : rn3 = rn := by rw [hn3', hn.out]
          clear hn3'
          have hg3 := hM3.lt g hM3.sg
          rcases hM3.own.form with ⟨_, h0, _⟩ | ⟨b3, off3, rfl⟩
          · omega
          have hle3 := hR3.le
          have i1 : (0 : Int) ≤ (k : Int) + (n : Int) := by omega
          have i2 : (k : Int) + (n : Int) ≤ (rc3 : Int) := by omega
          have i3 : (k : Int) ≤ (k : Int) + (n : Int) := by omega
          have i4 : (0 : Int) ≤ (n : Int) - 3 := by omega
          have i5 : (4 : Int) ≤ (n : Int) - 3 := by omega
          have hRD := hR3.drop hkn
          have hRB := hRD.slice (i := 4) (j := n - 3) (by omega) (by omega)
          have c03 := hM3.c0
          have c23 := hM3.c2
          have tok1 : True := trivial
          have x1 : (1 : Int) < (n : Int) := by omega
          have hkind : w3.cell? ⟨b3, off3 + k + 1, none⟩ = some (.int .u8 (((rest.drop k).getD 1 0).toNat : Int)) := by
            rcases hRD.at_ with h0 | ⟨b', off', e, _, hc⟩
            · omega
            · cases e; exact hc 1 (by omega)
          obtain ⟨kd, hkd⟩ : ∃ kd, (rest.drop k).getD 1 0 = kd := ⟨_, rfl⟩
          rw [hkd] at hkind
          obtain ⟨bd, hbdy⟩ : ∃ bd, ((rest.drop k).take (n - 3)).drop 4 = bd := ⟨_, rfl⟩
          rw [hbdy] at hRB
          have hit : Fr.item (rest.drop k) n = ⟨0, kd, bd⟩ := by unfold Fr.item; rw [hkd, hbdy]
          replace hit := Lib.hid hit
          replace hkd := Lib.hid hkd
          replace hbdy := Lib.hid hbdy
          go_wp2_with (at_builtin; have _t := tok1; refine append_bytes 22 5 info8 Tryd.underlying22 rfl _ _ rfl w3.heap.size (.slice none 0 0) [] 0 rfl rfl (OwnB.nil _ _ _) (some ⟨b3, off3 + k + 4, none⟩) (n - 3 - 4) (rc3 - k - 4) bd rfl hRB (by omega) (Nat.le_refl _) ?_; intro q5 c5 w5 hO5 hR5 hG5; clear tok1; have T5 : Turn (fun _ => False) w3 w5 := Turn.ofGrown hG5 (fun k e => by cases e))
          have hM5 := hM3.turn T5 (fun _ _ h => h)
          have hg5 := hM5.lt g hM5.sg
          have hkind5 : w5.cell? ⟨b3, off3 + k + 1, none⟩ = some (.int .u8 (kd.toNat : Int)) := (T5.cell (p := ⟨b3, off3 + k + 1, none⟩) (hM3.lt _ (hM3.hr _ rfl).1) (fun h => h)).trans hkind
          have c05 := hM5.c0
          have c25 := hM5.c2
          have f25 := hM5.f2
          have hfr := hO5.fresh
          clear c03 c23 hkind
          rw [Nat.zero_add] at hO5 hR5
          have T6 : Turn (fun _ => False) w5 ((w5.alloc (.cells #[.int .i64 0, .int .u8 (kd.toNat : Int), .slice q5 (n - 3 - 4) c5] 39)).drew) := ((Turn.refl _ w5).alloc _).drew
          have F6 := (hM5.fnd.turn T6 (fun _ _ _ h => h) (fun _ _ _ h => h)).mono (fun _ _ h => h) (body' := fun k => ¬ S2 k ∧ k < w5.heap.size + 1) (fun k hk h => ⟨h, by simpa using hk⟩)
          have R6 := hR5.turn T6 (fun _ _ h => h)
          have hng : ¬ qblk fq3 g := fun ⟨x, e, e2⟩ => (hM5.hf x e).2.1 e2
          have hfl := hM5.fnd.length
          have hfl2 : fn3 ≤ 1000000 := by have := htl.out; simp only at hfl; omega
          have hq5 : ∀ y, q5 = some y → (¬ S2 y.block ∧ y.block < w5.heap.size + 1) ∧ y.block < w5.heap.size + 1 := fun y hy => by
            obtain ⟨z1, z2⟩ := hfr y hy
            exact ⟨⟨fun hs => by have := hM3.lt _ hs; omega, by omega⟩, by omega⟩
          have hbN : (fn3 + 1) * 40 ≤ 140737488355328 := by omega
          have hbM : fn3 + 1 ≤ maxLen := by unfold maxLen; omega
          clear hfl hfr hle3 i1 i2 i3 i4 i5 hRD hRB
          have t5 : Turn S w w5 := (t2.trans t3 (fun x hx hs => (n1 x hs).elim id (fun h => by omega))).trans T5 (fun _ _ h => h.elim)
          have n5 : ∀ k, S2 k → S k ∨ w.heap.size ≤ k := fun k hk => (n3 k hk).elim (n1 k) (fun h => .inr (Nat.le_trans t2.size h))
          refine wp_region_noPanic ?_
          go_region_law (refine step_append_fnd 32 39 _ 40 infoIt rfl Tryd.underlying32 rfl (.tmp 52) (.tmp 59) rfl rfl F6 (fun k hk hn => hn.1 hk) w5.heap.size 1 rfl ⟨0, kd, bd⟩ ⟨by simp [go_sem], by simp [go_sem], q5, n - 3 - 4, c5, by simp [go_sem], R6, fun y hy => ⟨(hq5 y hy).1, by simpa using (hq5 y hy).2⟩⟩ hbN hbM ?_; intro q7 c7 w7 hF7 hT7 hq7; have T7 : Turn (qblk fq3) w5 w7 := (T6.mono (fun _ _ h => h.elim)).trans hT7 (fun _ _ h => h); have b72 := (T7.cell (p := ⟨g, 2, none⟩) hg5 hng).trans c25; have e72 := (T7.frozen (p := ⟨g, 2, none⟩) hg5 hng).trans f25)
          all_goals refine NoPanic.normal ?_
          all_goals
            have E7 : DecTo w5 (w7.setCell ⟨g, 2, none⟩ (.slice q7 (fn3 + 1) c7)) g S2 ⟨rest, 0, Fr.tell s f ++ [Fr.item (rest.drop k) n], over⟩ := by
              rw [hit.out]
              exact hM5.setFound T7 (N := w5.heap.size + 1) (by simpa using hF7) (fun y hy => (hq7 y hy).imp (fun h => h.1) (fun h => by simpa using h)) (by omega) (by have := hF7.le; omega)
            have E8 := DecTo.after t5 n5 E7
            clear E7 T7 hF7 hT7 hq7 F6 R6 T6 hq5 hR5 hO5 hG5
            replace E8 := Lib.hid E8
            go_wp2_with fail
            go_roundw
            case rel => exact ⟨k + n, hkn3, by go_num, 0, _, hbd2, E8.out, hP.out⟩
            case measure => simp [intOf] <;> omega
      · obtain rfl : k = rn := by omega
        have hr0 : rest.drop k = [] := List.drop_eq_nil_of_le (by omega)
        replace hn := Lib.hid hn
        by_cases hkc : k = rc
        · subst hkc
          go_wp2_with fail
          rw [Exit.noGoto_normal]; go_end0; have hz := hZ.out; rw [hr0, Fr.pass_nil] at hz; rw [← hz]; exact ⟨rfl, DecTo.after t1 n1 (hM.setRest (w3 := wr) (Turn.refl _ _) (OwnB.nil _ _ _) (fun y e => by cases e))⟩
        · go_wp2_with fail
          rw [Exit.noGoto_normal]; go_end0; have hz := hZ.out; rw [hr0, Fr.pass_nil] at hz; rw [← hz]; exact ⟨rfl, DecTo.after t1 n1 (hM.setRest (w3 := wr) (Turn.refl _ _) (OwnB.nil _ _ _) (fun y e => by cases e))⟩
end Go.Proofs.YtdmpopdacbdnlaaDoor
/- A decoder's acts: New, Held, Give, End, Next. -/
namespace Go.Proofs.YtdmpopdacbdnlaaDoor
open Go.RowKit
set_option linter.unusedVariables false
set_option linter.unusedSimpArgs false
set_option maxHeartbeats 4000000
set_option maxRecDepth 20000
/-- append(v, x...): onto one's own, from whatever may be read; and where the new slice lies. -/
theorem append_bytes2 {P : Program} {w : World} {ops : Array Oper} {rest : List Oper} {o : Oper} {a : Act} {Q : Exit → Act → World → Prop} (T t : TypeId) (hinfo : (P.info? t).map (fun i => (i.zero, i.size, i.bytes)) = some (some (.int .u8 0), 1, 1)) (hT : P.underlying T = some (.slice t))
    (hgd : o.guard = none) (s x : Operand) (ho : o.op = .call { callee := .builtin .append, args := #[s, x], argTypes := #[T, T] })
    (base : Nat) (vq : Option Addr) (n vc : Nat) (l : List UInt8) (hs : a.eval s = .slice vq n vc) (hown : OwnB t base w (.slice vq n vc) l) (q : Option Addr) (m c : Nat) (bs : List UInt8) (hx : a.eval x = .slice q m c) (hrow : RowB w q m c bs)
    (hroom : n + m ≤ 140737488355328) (hbase : base ≤ w.heap.size)
    (h : ∀ q' c' w', OwnB t base w' (.slice q' (n + m) c') (l ++ bs) → Turn (qblk vq) w w' → (∀ y, q' = some y → qblk vq y.block ∨ y.block = w.heap.size) → wpList P ops Q rest (a.put o.dst (.slice q' (n + m) c')) w') : wpList P ops Q (o :: rest) a w := by
  obtain ⟨hn, _⟩ := hown.rowS
  subst hn
  obtain ⟨i, hi, hz, hsz, hby⟩ := info_parts hinfo
  have hm := hrow.length
  have fin : ∀ (v' : Value) (w' : World), w'.ownsRow base t 1 v' (l.length + m) (bv l ++ bv bs) → w.grownBy w' (Value.slice vq l.length vc).ownBlock → (v'.ownBlock = (Value.slice vq l.length vc).ownBlock ∨ v'.ownBlock = some w.heap.size) → wpList P ops Q rest (a.put o.dst v') w' := by
    intro v' w' ho' hg' hat
    have hO : OwnB t base w' v' (l ++ bs) := ⟨by rw [bv_append, List.length_append, hm]; exact ho', by rw [List.length_append]; unfold maxLen; omega⟩
    obtain ⟨q', c', rfl, hR, _⟩ := hO.row
    rw [List.length_append, hm] at hO hR ⊢
    refine h q' c' w' hO (Turn.ofGrown hg' (fun k hk _ => ?_)) (fun y hy => ?_)
    · cases vq with
      | none => cases hk
      | some z => exact ⟨z, rfl, by simpa [Value.ownBlock] using hk⟩
    · subst hy
      rcases hat with hat | hat
      · left
        cases vq with
        | none => cases hat
        | some z => exact ⟨z, rfl, by simpa [Value.ownBlock] using hat.symm⟩
      · right; simpa [Value.ownBlock] using hat
  cases q with
  | none =>
    have hc0 := hrow.nil rfl
    subst hc0
    have hm0 : m = 0 := by have := hrow.le; omega
    subst hm0
    have hb0 : bs = [] := List.eq_nil_of_length_eq_zero hm
    subst hb0
    refine wpList_append_own_none hgd s x T ho base t i 1 hT hi _ l.length (bv l) hs hown.owns hx ?_
    exact fin _ w (by simpa [bv] using hown.owns) ⟨rfl, rfl, rfl, Nat.le_refl _, fun _ _ _ => rfl⟩ (.inl rfl)
  | some ad =>
    refine wpList_append_own_at w hgd s x T ho base t i _ 1 1 hT hi hz hsz hby (by rfl) (by omega) _ l.length (bv l) hs hown.owns ad m c (bv bs) hx (by rw [bv_length]; omega) ?_ ?_ (by unfold maxLen; omega) (by omega) hbase (fun v' w' h1 h2 _ h4 => fin v' w' h1 h2 h4)
    · intro j u hu
      have hj : j < bs.length := by
        have := (List.getElem?_eq_some_iff.1 hu).1
        simpa [bv] using this
      rcases hrow.at_ with h0 | ⟨b, off, e, _, hc⟩
      · omega
      · cases e
        rw [WideShapes.add_plain, hc j (by omega)]
        simp [bv, List.getElem?_eq_getElem hj] at hu
        rw [← hu, getD_eq hj]
    · intro u hu
      simp only [bv, List.mem_map] at hu
      obtain ⟨y, _, rfl⟩ := hu
      rfl
theorem Fr.pass_bound (over : Bool) : ∀ (rest : List UInt8) (s : Nat) (f : List It), (Fr.pass over rest s f).2.2.length + (Fr.pass over rest s f).2.1 + 2 * (Fr.pass over rest s f).1.length ≤ f.length + s + 2 * rest.length := by
  intro rest
  induction hl : rest.length using Nat.strongRecOn generalizing rest with
  | _ N ih =>
    intro s f
    subst hl
    by_cases h0 : rest = []
    · subst h0; rw [Fr.pass_nil]; simp
    · have hpos : 0 < rest.length := List.length_pos_iff.2 h0
      rcases Fr.look_cases rest with h | h | ⟨n, h, h7, _, hn⟩
      · rw [Fr.pass_skip h0 (by omega) (fun e => by omega)]
        have := ih (rest.drop 1).length (by rw [List.length_drop]; omega) (rest.drop 1) rfl (s + 1) f
        rw [List.length_drop] at this; omega
      · cases over
        · rw [Fr.pass_wait h]; simp only; omega
        · rw [Fr.pass_skip h0 (by omega) (fun e => by simp at e)]
          have := ih (rest.drop 1).length (by rw [List.length_drop]; omega) (rest.drop 1) rfl (s + 1) f
          rw [List.length_drop] at this; omega
      · rw [Fr.pass_frame h (by omega)]
        have := ih (rest.drop n).length (by rw [List.length_drop]; omega) (rest.drop n) rfl 0 (Fr.tell s f ++ [Fr.item rest n])
        have ht := Fr.tell_le s f
        rw [List.length_drop, List.length_append] at this
        simp only [List.length_cons, List.length_nil] at this
        omega
theorem new_any (w : World) : Calls Tryd.prog 16 #[] w fun e w' => ∃ g, e = .returned (.pointer (some ⟨g, 0, none⟩)) ∧ w.heap.size ≤ g ∧ (∃ S, Dec w' g S St.new ∧ ∀ k, S k → w.heap.size ≤ k) ∧ Below w.heap.size w w' := by
  go_enter Tryd.func16, Tryd.ntmps16
  go_wp2_with fail
  go_ret
  refine ⟨w.heap.size, rfl, Nat.le_refl _, ⟨fun k => k = w.heap.size, ?_, fun k hk => by omega⟩, (by repeat (first | with_reducible exact Below.refl _ _ | with_reducible refine Below.drew ?_ | with_reducible refine Below.alloc ?_ (by (try simp) <;> omega) _ | with_reducible refine Below.setCell ?_ (by (try simp) <;> omega) _))⟩
  exact ⟨rfl, fun k hk => by subst hk; simp, ⟨none, 0, 0, none, 0, 0, by simp [go_sem], OwnB.nil _ _ _, by simp [go_sem], Fnd.empty _ _ _, (fun x e => by cases e), (fun x e => by cases e)⟩, by simp [go_sem, St.new], by simp [go_sem, St.new], by simp [go_sem], by simp [go_sem], by simp [go_sem], by simp [go_sem]⟩
theorem give_none (b : Value) (w : World) : Calls Tryd.prog 17 #[.pointer none, b] w fun e w' => e = .returned (.tuple #[]) ∧ w = w' := by
  go_enter Tryd.func17, Tryd.ntmps17
  go_wp2_with fail
  exact bodyPost_ret (v := .tuple #[]) (by simp [results, Tryd.results17, go_sem]) rfl ⟨rfl, rfl⟩
theorem end_none (w : World) : Calls Tryd.prog 18 #[.pointer none] w fun e w' => e = .returned (.tuple #[]) ∧ w = w' := by
  go_enter Tryd.func18, Tryd.ntmps18
  go_wp2_with fail
  exact bodyPost_ret (v := .tuple #[]) (by simp [results, Tryd.results18, go_sem]) rfl ⟨rfl, rfl⟩
theorem give_any (g : Nat) (S : Nat → Prop) (d : St) (w : World) (h : Dec w g S d) (hT : Tab w) (hTS : ¬ S 2) (q : Option Addr) (n c : Nat) (b : List UInt8) (hR : RowB w q n c b) (hb : d.found.length + d.skips + 2 * (d.rest.length + n) ≤ 1000000) :
    Calls Tryd.prog 17 #[.pointer (some ⟨g, 0, none⟩), .slice q n c] w fun e w' => e = .returned (.tuple #[]) ∧ DecTo w w' g S (d.give b) := by
  obtain ⟨rq, rn, rc, fq, fn, fc, hM⟩ := h.m
  have c0 := hM.c0
  have c3 := hM.c3
  have f0 := hM.f0
  have hg := hM.lt g hM.sg
  obtain ⟨rest, skips, found, over⟩ := d
  simp only at c3 hb
  cases over
  · obtain ⟨D, hD⟩ : ∃ D, St.give ⟨rest, skips, found, false⟩ b = D := ⟨_, rfl⟩
    rw [hD]
    replace hD := Lib.hid hD
    have hrn := hM.own.rowS.1
    simp only at hrn
    have hbr : rn + n ≤ 1000000 := by omega
    have tok1 : True := trivial
    have hrl := Lib.hid hrn
    clear hrn
    have hbl := hR.length
    go_enter Tryd.func17, Tryd.ntmps17
    go_wp2_with (at_builtin; have _t := tok1; refine append_bytes2 22 5 info8 Tryd.underlying22 rfl _ _ rfl 0 rq rn rc rest rfl hM.own q n c b rfl hR (by omega) (Nat.zero_le _) ?_; intro q' c' w3 hO3 hT3 hq3; clear tok1; have hng : ¬ qblk rq g := (fun ⟨x, e, e2⟩ => (hM.hr x e).2 e2); have b0 := (hT3.cell (p := ⟨g, 0, none⟩) hg hng).trans c0; have e0 := (hT3.frozen (p := ⟨g, 0, none⟩) hg hng).trans f0)
    have hS1 := hM.setRest hT3 hO3 (fun y hy => (hq3 y hy).imp id (fun h => by omega))
    obtain ⟨S1, h1, t1, n1⟩ := hS1
    simp only at h1
    have hTB : Tab (w3.setCell ⟨g, 0, none⟩ (.slice q' (rn + n) c')) := hT.turn t1 hTS
    have hg0 := hT.lt
    refine (walk_any g S1 ⟨rest ++ b, skips, found, false⟩ _ h1 hTB (fun h => (n1 _ h).elim hTS (fun h => by omega)) (by simp only [List.length_append]; omega)).mono ?_; rintro e w' ⟨rfl, hW⟩
    go_wp2_with fail
    go_end0
    refine ⟨rfl, DecTo.after t1 n1 ?_⟩
    rw [← hD.out]
    exact hW
  · go_enter Tryd.func17, Tryd.ntmps17
    go_wp2_with fail
    exact bodyPost_ret (v := .tuple #[]) (by simp [results, Tryd.results17, go_sem]) rfl ⟨rfl, DecTo.refl h⟩
theorem end_any (g : Nat) (S : Nat → Prop) (d : St) (w : World) (h : Dec w g S d) (hT : Tab w) (hTS : ¬ S 2) (hb : d.found.length + d.skips + 2 * d.rest.length ≤ 1000000) :
    Calls Tryd.prog 18 #[.pointer (some ⟨g, 0, none⟩)] w fun e w' => e = .returned (.tuple #[]) ∧ DecTo w w' g S d.fin := by
  obtain ⟨rq, rn, rc, fq, fn, fc, hM⟩ := h.m
  have c3 := hM.c3
  have f3 := hM.f3
  have hg0 := hT.lt
  obtain ⟨rest, skips, found, over⟩ := d
  simp only at c3 hb
  cases over
  · obtain ⟨D, hD⟩ : ∃ D, St.fin ⟨rest, skips, found, false⟩ = D := ⟨_, rfl⟩
    rw [hD]
    replace hD := Lib.hid hD
    have hS1 := h.setOver true
    obtain ⟨S1, h1, t1, n1⟩ := hS1
    simp only at h1
    have hTB := hT.turn t1 hTS
    have hTS1 : ¬ S1 2 := fun h => (n1 _ h).elim hTS (fun h => by omega)
    go_enter Tryd.func18, Tryd.ntmps18
    go_wp2_with fail
    refine (walk_any g S1 ⟨rest, skips, found, true⟩ _ h1 hTB hTS1 hb).mono ?_; rintro e w2 ⟨rfl, hW⟩
    obtain ⟨S2, h2, t2, n2⟩ := hW
    simp only at h2
    have hbd := Fr.pass_bound true rest skips found
    go_wp2_with fail
    refine (tell_any g S2 _ w2 h2 (by simp only; omega) (by simp only; omega)).mono ?_; rintro e w3 ⟨rfl, hW3⟩
    go_wp2_with fail
    go_end0
    refine ⟨rfl, DecTo.after t1 n1 (DecTo.after t2 n2 ?_)⟩
    rw [← hD.out]
    exact hW3
  · go_enter Tryd.func18, Tryd.ntmps18
    go_wp2_with fail
    exact bodyPost_ret (v := .tuple #[]) (by simp [results, Tryd.results18, go_sem]) rfl ⟨rfl, DecTo.refl h⟩
theorem next_none (w : World) : Calls Tryd.prog 22 #[.pointer none] w fun e w' => e = .returned (.tuple #[.agg #[.int .i64 0, .int .u8 0, .slice none 0 0], .bool false]) ∧ Below w.heap.size w w' := by
  go_enter Tryd.func22, Tryd.ntmps22
  go_wp2_with fail
  exact bodyPost_ret (v := .tuple #[.agg #[.int .i64 0, .int .u8 0, .slice none 0 0], .bool false]) (by simp [results, Tryd.results22, go_sem]) rfl ⟨rfl, (by repeat (first | with_reducible exact Below.refl _ _ | with_reducible refine Below.drew ?_ | with_reducible refine Below.alloc ?_ (by (try simp) <;> omega) _ | with_reducible refine Below.setCell ?_ (by (try simp) <;> omega) _))⟩
theorem next_empty (g : Nat) (S : Nat → Prop) (d : St) (w : World) (h : Dec w g S d) (h0 : d.found = []) : Calls Tryd.prog 22 #[.pointer (some ⟨g, 0, none⟩)] w fun e w' => e = .returned (.tuple #[.agg #[.int .i64 0, .int .u8 0, .slice none 0 0], .bool false]) ∧ Below w.heap.size w w' := by
  obtain ⟨rq, rn, rc, fq, fn, fc, hM⟩ := h.m
  have hg := hM.lt g hM.sg
  have c2 := hM.c2
  have hl := hM.fnd.length
  rw [h0] at hl
  simp at hl
  subst hl
  replace h0 := Lib.hid h0
  go_enter Tryd.func22, Tryd.ntmps22
  go_wp2_with fail
  exact bodyPost_ret (v := .tuple #[.agg #[.int .i64 0, .int .u8 0, .slice none 0 0], .bool false]) (by simp [results, Tryd.results22, go_sem]) rfl ⟨rfl, (by repeat (first | with_reducible exact Below.refl _ _ | with_reducible refine Below.drew ?_ | with_reducible refine Below.alloc ?_ (by (try simp) <;> omega) _ | with_reducible refine Below.setCell ?_ (by (try simp) <;> omega) _))⟩
theorem DecTo.below {w w1 w2 : World} {g : Nat} {S : Nat → Prop} {d : St} (h : DecTo w w1 g S d) (hb : Below w1.heap.size w1 w2) : DecTo w w2 g S d :=
  h.trans (fun S1 h1 => ⟨S1, h1.below hb, Turn.ofBelow hb rfl, fun _ h => .inl h⟩)
/-- the first item struck out, in memory too -/
def popped (w : World) (b off : Nat) : World := ((w.setCell ⟨b, off, none⟩ (.int .i64 0)).setCell ⟨b, off + 1, none⟩ (.int .u8 0)).setCell ⟨b, off + 2, none⟩ (.slice none 0 0)
theorem popped_turn (w : World) (b off : Nat) : Turn (fun k => k = b) w (popped w b off) :=
  ((Turn.set w ⟨b, off, none⟩ _).trans (Turn.set _ ⟨b, off + 1, none⟩ _) (fun _ _ h => h)).trans (Turn.set _ ⟨b, off + 2, none⟩ _) (fun _ _ h => h)
theorem popped_cell (w : World) (b off o : Nat) (ho : off + 3 ≤ o) : (popped w b off).cell? ⟨b, o, none⟩ = w.cell? ⟨b, o, none⟩ := by
  unfold popped
  rw [World.cell?_setCell_other _ _ _ _ (fun e => by simp at e <;> omega), World.cell?_setCell_other _ _ _ _ (fun e => by simp at e <;> omega), World.cell?_setCell_other _ _ _ _ (fun e => by simp at e <;> omega)]
theorem popped_frozen (w : World) (b off : Nat) (a : Addr) : (popped w b off).frozen? a = w.frozen? a := by
  simp [popped, go_sem]
theorem Fnd.pop {w : World} {b off n c : Nat} {it : It} {its : List It} {own body : Nat → Prop} (h : Fnd w (some ⟨b, off, none⟩) n c (it :: its) own body) (hn : 2 ≤ n) (hsep : ∀ k, own k → ¬ body k) : Fnd (popped w b off) (some ⟨b, off + 3, none⟩) (n - 1) (c - 1) its own body := by
  have hl := h.length
  have hle := h.le
  have hs := h.small
  simp at hl
  refine ⟨by omega, by omega, by omega, fun e => (by cases e), .inr ⟨b, off + 3, rfl, ?_⟩⟩
  rcases h.at_ with h0 | ⟨b', off', e, ho, hb, hr, hi⟩
  · omega
  cases e
  have hT := popped_turn w b off
  refine ⟨ho, Nat.lt_of_lt_of_le hb hT.size, fun j hj => ?_, fun i hin => ?_⟩
  · rw [popped_cell w b off (off + 3 + j) (by omega), popped_frozen]
    have := hr (3 + j) (by omega)
    rwa [← Nat.add_assoc] at this
  · obtain ⟨c0, c1, q, m, cc, c2, hR, hq⟩ := hi (i + 1) (by omega)
    have hg : (it :: its).getD (i + 1) It.no = its.getD i It.no := rfl
    rw [hg] at c0 c1 hR
    have e3 : off + 3 + i * 3 = off + (i + 1) * 3 := by omega
    refine ⟨?_, ?_, q, m, cc, ?_, hR.turn hT (fun y hy e => hsep b ho (e ▸ (hq y hy).1)), fun y hy => ⟨(hq y hy).1, Nat.lt_of_lt_of_le (hq y hy).2 hT.size⟩⟩
    · rw [popped_cell _ _ _ _ (by omega), e3]; exact c0
    · rw [popped_cell _ _ _ _ (by omega), e3]; exact c1
    · rw [popped_cell _ _ _ _ (by omega), e3]; exact c2
theorem DecM.noFound {w w' : World} {g : Nat} {S : Nat → Prop} {d : St} {rq : Option Addr} {rn rc : Nat} {fq : Option Addr} {fn fc : Nat} (h : DecM w g S d rq rn rc fq fn fc) (T : Turn (fun k => k = g ∨ qblk fq k) w w') (c0 : w'.cell? ⟨g, 0, none⟩ = some (.slice rq rn rc)) (c2 : w'.cell? ⟨g, 2, none⟩ = some (.slice none 0 0))
    (c1 : w'.cell? ⟨g, 1, none⟩ = some (.int .i64 (d.skips : Int))) (c3 : w'.cell? ⟨g, 3, none⟩ = some (.bool d.over)) (f0 : w'.frozen? ⟨g, 0, none⟩ = false) (f1 : w'.frozen? ⟨g, 1, none⟩ = false) (f2 : w'.frozen? ⟨g, 2, none⟩ = false) (f3 : w'.frozen? ⟨g, 3, none⟩ = false) :
    DecTo w w' g S ⟨d.rest, d.skips, [], d.over⟩ := by
  refine ⟨S, ⟨h.sg, fun k hk => Nat.lt_of_lt_of_le (h.lt k hk) T.size, ⟨rq, rn, rc, none, 0, 0, c0, h.own.turn T (fun x hx hk => ?_), c2, Fnd.empty _ _ _, h.hr, fun x e => (by cases e)⟩, c1, c3, f0, f1, f2, f3⟩, T.mono (fun k _ hk => ?_), fun k hk => .inl hk⟩
  · rcases hk with hk | ⟨y, hy, e⟩
    · exact (h.hr x hx).2 hk
    · exact (h.hf y hy).2.2 x hx e
  · rcases hk with hk | ⟨y, hy, e⟩
    · exact hk ▸ h.sg
    · exact e ▸ (h.hf y hy).1
theorem next_last {w : World} {g : Nat} {S : Nat → Prop} {d : St} {rq : Option Addr} {rn rc : Nat} {b off fn fc : Nat} (h : DecM w g S d rq rn rc (some ⟨b, off, none⟩) fn fc) (X : Value) :
    DecTo w (((popped w b off).setCell ⟨g, 2, none⟩ X).setCell ⟨g, 2, none⟩ (.slice none 0 0)) g S ⟨d.rest, d.skips, [], d.over⟩ := by
  have hT := popped_turn w b off
  have hg := h.lt g h.sg
  have hbg : ¬ g = b := fun e => (h.hf _ rfl).2.1 e.symm
  have p0 := (hT.cell (p := ⟨g, 0, none⟩) hg hbg).trans h.c0
  have p1 := (hT.cell (p := ⟨g, 1, none⟩) hg hbg).trans h.c1
  have p2 := (hT.cell (p := ⟨g, 2, none⟩) hg hbg).trans h.c2
  have p3 := (hT.cell (p := ⟨g, 3, none⟩) hg hbg).trans h.c3
  have e0 := (hT.frozen (p := ⟨g, 0, none⟩) hg hbg).trans h.f0
  have e1 := (hT.frozen (p := ⟨g, 1, none⟩) hg hbg).trans h.f1
  have e2 := (hT.frozen (p := ⟨g, 2, none⟩) hg hbg).trans h.f2
  have e3 := (hT.frozen (p := ⟨g, 3, none⟩) hg hbg).trans h.f3
  refine h.noFound (((hT.mono (fun k _ e => Or.inr ⟨_, rfl, e.symm⟩)).trans (Turn.set _ ⟨g, 2, none⟩ X) (fun k _ e => Or.inl e)).trans (Turn.set _ ⟨g, 2, none⟩ (.slice none 0 0)) (fun k _ e => Or.inl e)) ?_ ?_ ?_ ?_ ?_ ?_ ?_ ?_
  · simp [go_sem, p0, p2]
  · simp [go_sem, p2]
  · simp [go_sem, p1, p2]
  · simp [go_sem, p3, p2]
  · simp [go_sem, e0]
  · simp [go_sem, e1]
  · simp [go_sem, e2]
  · simp [go_sem, e3]
theorem next_some (g : Nat) (S : Nat → Prop) (d : St) (w : World) (h : Dec w g S d) (it : It) (its : List It) (h0 : d.found = it :: its) : Calls Tryd.prog 22 #[.pointer (some ⟨g, 0, none⟩)] w fun e w' => ∃ q n c, e = .returned (.tuple #[.agg #[.int .i64 (it.skip : Int), .int .u8 (it.kind.toNat : Int), .slice q n c], .bool true]) ∧ RowB w' q n c it.body ∧ (∀ y, q = some y → ¬ S y.block ∧ y.block < w.heap.size) ∧ DecTo w w' g S d.next := by
  obtain ⟨rq, rn, rc, fq, fn, fc, hM⟩ := h.m
  have hg := hM.lt g hM.sg
  have c2 := hM.c2
  have f2 := hM.f2
  have hl := hM.fnd.length
  rw [h0] at hl
  simp at hl
  have hle := hM.fnd.le
  have hsm := hM.fnd.small
  unfold maxLen at hsm
  rcases hM.fnd.at_ with hc0 | ⟨b, off, rfl, hob, hbl, hroom, hit⟩
  · omega
  have i0 := hit 0 (by omega)
  rw [h0] at i0
  simp only [List.getD_cons_zero, Nat.zero_mul, Nat.add_zero] at i0
  obtain ⟨d0, d1, q, n, c, d2, hR, hq⟩ := i0
  have r0 := (hroom 0 (by omega)).2
  have r1 := (hroom 1 (by omega)).2
  have r2 := (hroom 2 (by omega)).2
  rw [Nat.add_zero] at r0
  have hbg : b ≠ g := (hM.hf _ rfl).2.1
  have hn1 : (0 : Int) < (fn : Int) := by omega
  have hn2 : (1 : Int) ≤ (fn : Int) := by omega
  have hn3 : (1 : Int) ≤ (fc : Int) := by omega
  have hzf : (fn == 0) = false := by rw [beq_eq_false_iff_ne]; omega
  have hzi : ((fn : Int) == 0) = false := by rw [beq_eq_false_iff_ne]; omega
  by_cases h1 : fn = 1
  · subst h1
    obtain rfl : its = [] := List.eq_nil_of_length_eq_zero (by omega)
    replace hl := Lib.hid hl
    replace h0 := Lib.hid h0
    clear hit
    by_cases hcc : fc = 1
    · subst hcc
      go_enter Tryd.func22, Tryd.ntmps22
      go_wp2_with fail
      have hTp := popped_turn w b off; have hD1 := next_last hM (.slice (some ⟨b, off, none⟩) 0 0); have hR1 := ((hR.turn hTp (fun y hy e => (hq y hy).1 (e ▸ hob))).turn (Turn.set _ ⟨g, 2, none⟩ (.slice (some ⟨b, off, none⟩) 0 0)) (fun y hy e => (hq y hy).1 (e ▸ hM.sg))).turn (Turn.set _ ⟨g, 2, none⟩ (.slice none 0 0)) (fun y hy e => (hq y hy).1 (e ▸ hM.sg)); have hdn : d.next = ⟨d.rest, d.skips, [], d.over⟩ := (by unfold St.next; rw [h0.out]; rfl); refine bodyPost_ret (v := .tuple #[.agg #[.int .i64 (it.skip : Int), .int .u8 (it.kind.toNat : Int), .slice q n c], .bool true]) (by simp [results, Tryd.results22, go_sem]) rfl ⟨q, n, c, rfl, hR1.below (((Below.refl _ _).alloc (Nat.le_refl _) _).alloc (by simp) _), hq, ?_⟩; rw [hdn]; exact hD1.below (((Below.refl _ _).alloc (Nat.le_refl _) _).alloc (by simp) _)
    · have hc1 : (1 : Int) < (fc : Int) := by omega
      go_enter Tryd.func22, Tryd.ntmps22
      go_wp2_with fail
      have hTp := popped_turn w b off; have hD1 := next_last hM (.slice (some ⟨b, off + 3, none⟩) 0 (fc - 1)); have hR1 := ((hR.turn hTp (fun y hy e => (hq y hy).1 (e ▸ hob))).turn (Turn.set _ ⟨g, 2, none⟩ (.slice (some ⟨b, off + 3, none⟩) 0 (fc - 1))) (fun y hy e => (hq y hy).1 (e ▸ hM.sg))).turn (Turn.set _ ⟨g, 2, none⟩ (.slice none 0 0)) (fun y hy e => (hq y hy).1 (e ▸ hM.sg)); have hdn : d.next = ⟨d.rest, d.skips, [], d.over⟩ := (by unfold St.next; rw [h0.out]; rfl); refine bodyPost_ret (v := .tuple #[.agg #[.int .i64 (it.skip : Int), .int .u8 (it.kind.toNat : Int), .slice q n c], .bool true]) (by simp [results, Tryd.results22, go_sem]) rfl ⟨q, n, c, rfl, hR1.below (((Below.refl _ _).alloc (Nat.le_refl _) _).alloc (by simp) _), hq, ?_⟩; rw [hdn]; exact hD1.below (((Below.refl _ _).alloc (Nat.le_refl _) _).alloc (by simp) _)
  · have hc1 : (1 : Int) < (fc : Int) := by omega
    have hzi2 : ((fn : Int) - 1 == 0) = false := by rw [beq_eq_false_iff_ne]; omega
    have hzf2 : (fn - 1 == 0) = false := by rw [beq_eq_false_iff_ne]; omega
    replace hl := Lib.hid hl
    replace h0 := Lib.hid h0
    clear hit
    go_enter Tryd.func22, Tryd.ntmps22
    go_wp2_with fail
    have hFp := (h0.out ▸ hM.fnd : Fnd w (some ⟨b, off, none⟩) fn fc (it :: its) S (fun k => ¬ S k)).pop (by omega) (fun k hk hn => hn hk)
    have hTp := popped_turn w b off
    have hD1 := hM.setFound (q' := some ⟨b, off + 3, none⟩) (n' := fn - 1) (c' := fc - 1) (its := its) (N := w.heap.size) (hTp.mono (fun k _ e => ⟨_, rfl, e.symm⟩)) ((hFp.mono (fun _ _ h => Or.inl h) (fun k hk h => ⟨h, by have := hTp.size; simpa [popped] using hk⟩))) (fun y hy => by cases hy; exact .inl ⟨_, rfl, rfl⟩) (Nat.le_refl _) (by omega)
    have hR1 := (hR.turn hTp (fun y hy e => (hq y hy).1 (e ▸ hob))).turn (Turn.set _ ⟨g, 2, none⟩ (.slice (some ⟨b, off + 3, none⟩) (fn - 1) (fc - 1))) (fun y hy e => (hq y hy).1 (e ▸ hM.sg))
    have hdn : d.next = ⟨d.rest, d.skips, its, d.over⟩ := by unfold St.next; rw [h0.out]; rfl
    refine bodyPost_ret (v := .tuple #[.agg #[.int .i64 (it.skip : Int), .int .u8 (it.kind.toNat : Int), .slice q n c], .bool true]) (by simp [results, Tryd.results22, go_sem]) rfl ⟨q, n, c, rfl, hR1.below (((Below.refl _ _).alloc (Nat.le_refl _) _).alloc (by simp) _), hq, ?_⟩
    rw [hdn]
    exact hD1.below (((Below.refl _ _).alloc (Nat.le_refl _) _).alloc (by simp) _)
end Go.Proofs.YtdmpopdacbdnlaaDoor
/- Frames that are put are found. No program. -/
namespace Go.Proofs.YtdmpopdacbdnlaaDoor
/-- a frame's bytes -/
def Fr.body (k : UInt8) (b : List UInt8) : List UInt8 := k :: UInt8.ofNat (b.length / 256) :: UInt8.ofNat (b.length % 256) :: b
def Fr.put (k : UInt8) (b : List UInt8) : List UInt8 := 165 :: Fr.body k b ++ Crc.put (Crc.sum (Fr.body k b)).toNat
theorem Fr.body_length (k : UInt8) (b : List UInt8) : (Fr.body k b).length = b.length + 3 := rfl
theorem Fr.put_length (k : UInt8) (b : List UInt8) : (Fr.put k b).length = b.length + 7 := by
  unfold Fr.put
  rw [List.length_append, List.length_cons, Fr.body_length]
  rfl
theorem Fr.fits_own (l : List UInt8) : Fr.fits (l ++ Crc.put (Crc.sum l).toNat) = true := by
  have h3 : (Crc.put (Crc.sum l).toNat).length = 3 := rfl
  unfold Fr.fits
  rw [List.length_append, h3, if_neg (by omega), Nat.add_sub_cancel, List.take_left, List.drop_left]
  simp
theorem Fr.at0 (k : UInt8) (b R : List UInt8) : (Fr.put k b ++ R).getD 0 0 = 165 := rfl
theorem Fr.at1 (k : UInt8) (b R : List UInt8) : (Fr.put k b ++ R).getD 1 0 = k := rfl
theorem Fr.at2 (k : UInt8) (b R : List UInt8) (hb : b.length ≤ 256) : ((Fr.put k b ++ R).getD 2 0).toNat = b.length / 256 := by
  show (UInt8.ofNat (b.length / 256)).toNat = _
  rw [UInt8.toNat_ofNat']; omega
theorem Fr.at3 (k : UInt8) (b R : List UInt8) : ((Fr.put k b ++ R).getD 3 0).toNat = b.length % 256 := by
  show (UInt8.ofNat (b.length % 256)).toNat = _
  rw [UInt8.toNat_ofNat']; omega
theorem Fr.look_put (k : UInt8) (b R : List UInt8) (hb : b.length ≤ 256) : Fr.look (Fr.put k b ++ R) = ((b.length + 7 : Nat) : Int) := by
  have h2 := Fr.at2 k b R hb
  have h3 := Fr.at3 k b R
  have hn : ((Fr.put k b ++ R).getD 2 0).toNat * 256 + ((Fr.put k b ++ R).getD 3 0).toNat = b.length := by rw [h2, h3]; omega
  have hl : (Fr.put k b ++ R).length = b.length + 7 + R.length := by rw [List.length_append, Fr.put_length]
  unfold Fr.look
  rw [Fr.at0, hn, hl, if_neg (by simp), if_neg (by omega), if_neg (by omega), if_neg (by omega), List.take_append_of_le_length (by rw [Fr.put_length]; exact Nat.le_refl _), List.take_of_length_le (by rw [Fr.put_length]; exact Nat.le_refl _)]
  rw [if_pos (show Fr.fits ((Fr.put k b).drop 1) = true from Fr.fits_own (Fr.body k b))]
theorem Fr.item_put (k : UInt8) (b R : List UInt8) : Fr.item (Fr.put k b ++ R) (b.length + 7) = ⟨0, k, b⟩ := by
  unfold Fr.item
  rw [Fr.at1]
  have : ((Fr.put k b ++ R).take (b.length + 7 - 3)).drop 4 = b := by
    show (List.drop 4 (List.take (b.length + 4) (165 :: k :: UInt8.ofNat (b.length / 256) :: UInt8.ofNat (b.length % 256) :: (b ++ Crc.put (Crc.sum (Fr.body k b)).toNat ++ R)))) = b
    simp only [List.take_succ_cons, List.drop_succ_cons, List.drop_zero]
    rw [List.append_assoc, List.take_left]
  rw [this]
theorem Fr.drop_put (k : UInt8) (b R : List UInt8) : (Fr.put k b ++ R).drop (b.length + 7) = R := by
  rw [← Fr.put_length k b, List.drop_left]
theorem Fr.pass_put (over : Bool) (k : UInt8) (b R : List UInt8) (s : Nat) (f : List It) (hb : b.length ≤ 256) : Fr.pass over (Fr.put k b ++ R) s f = Fr.pass over R 0 (Fr.tell s f ++ [⟨0, k, b⟩]) := by
  rw [Fr.pass_frame (Fr.look_put k b R hb) (by omega), Fr.drop_put, Fr.item_put]
/-- a byte that is no mark is skipped -/
theorem Fr.pass_noise (over : Bool) (x : UInt8) (R : List UInt8) (s : Nat) (f : List It) (hx : x ≠ 165) : Fr.pass over (x :: R) s f = Fr.pass over R (s + 1) f := by
  have hl : Fr.look (x :: R) = 0 := by
    unfold Fr.look
    rw [if_pos]
    intro e
    exact hx (UInt8.toNat_inj.1 e)
  rw [Fr.pass_skip (by simp) (by omega) (fun e => by omega)]
  rfl
theorem give1 : St.new.give [1, 2] = ⟨[], 2, [], false⟩ := by
  unfold St.give St.new
  rw [if_neg (by simp)]
  simp only [List.nil_append]
  rw [Fr.pass_noise _ _ _ _ _ (by decide), Fr.pass_noise _ _ _ _ _ (by decide), Fr.pass_nil]
theorem give2 : St.give ⟨[], 2, [], false⟩ (Fr.put 3 [7]) = ⟨[], 0, [⟨2, 0, []⟩, ⟨0, 3, [7]⟩], false⟩ := by
  unfold St.give
  rw [if_neg (by simp)]
  simp only [List.nil_append]
  have := Fr.pass_put false 3 [7] [] 2 [] (by simp)
  rw [List.append_nil] at this
  rw [this, Fr.pass_nil]
  rfl
end Go.Proofs.YtdmpopdacbdnlaaDoor
