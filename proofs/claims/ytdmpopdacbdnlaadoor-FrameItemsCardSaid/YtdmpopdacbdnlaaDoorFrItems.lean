/- The walk of FrameItems. -/
import Derived.Test.YtdmpopdacbdnlaaDoorFrRangeD
import Derived.Test.YtdmpopdacbdnlaaDoorRowGIn
import Derived.Test.YtdmpopdacbdnlaaDoorFrRActs
import Derived.Test.YtdmpopdacbdnlaaDoorFrAwake
import Derived.Test.YtdmpopdacbdnlaaDoorFrPG
import Derived.Test.YtdmpopdacbdnlaaDoorKitG
import Derived.Test.YtdmpopdacbdnlaaDoorChecked
import Derived.Test.YtdmpopdacbdnlaaDoorRows
namespace Go.Proofs.YtdmpopdacbdnlaaDoor
open Go.RowKit Go.Shelf
attribute [local go_sem] Oper.semAt_some
set_option linter.unusedVariables false
set_option linter.unusedSimpArgs false
set_option maxHeartbeats 4000000
set_option maxRecDepth 20000
theorem Turn.ofBelowN2 {n : Nat} {a b : World} (h : Below n a b) : Turn (fun k => n ≤ k) a b := ⟨h.os, h.tape, h.output, h.size, fun i _ hn => h.block i (by omega)⟩
/-- an item's cells, as they were handed out; its body lies ahead of B0 -/
def GotOne (W : World) (B0 : Nat) (S : Nat → Prop) (x : It) (c : List Value) : Prop := ∃ q n m, c = [.int .i64 (x.skip : Int), .int .u8 (x.kind.toNat : Int), .slice q n m] ∧ RowB W q n m x.body ∧ ∀ y, q = some y → y.block < B0 ∧ ¬ S y.block
def GotAll (W : World) (B0 : Nat) (S : Nat → Prop) : List It → List (List Value) → Prop
  | [], [] => True
  | x :: l, c :: cs => GotOne W B0 S x c ∧ GotAll W B0 S l cs
  | _, _ => False
theorem GotAll.mono {W W' : World} {B0 : Nat} {S S' : Nat → Prop} (h : ∀ x c, GotOne W B0 S x c → GotOne W' B0 S' x c) : ∀ {l : List It} {cs : List (List Value)}, GotAll W B0 S l cs → GotAll W' B0 S' l cs
  | [], [], _ => trivial
  | x :: l, c :: cs, hh => ⟨h x c hh.1, GotAll.mono h hh.2⟩
  | [], _ :: _, hh => hh.elim
  | _ :: _, [], hh => hh.elim
theorem GotAll.snoc {W : World} {B0 : Nat} {S : Nat → Prop} {x : It} {c : List Value} (h1 : GotOne W B0 S x c) : ∀ {l : List It} {cs : List (List Value)}, GotAll W B0 S l cs → GotAll W B0 S (l ++ [x]) (cs ++ [c])
  | [], [], _ => ⟨h1, trivial⟩
  | _ :: _, _ :: _, hh => ⟨hh.1, GotAll.snoc h1 hh.2⟩
  | [], _ :: _, hh => hh.elim
  | _ :: _, [], hh => hh.elim
theorem GotAll.len {W : World} {B0 : Nat} {S : Nat → Prop} : ∀ {l : List It} {cs : List (List Value)}, GotAll W B0 S l cs → cs.length = l.length
  | [], [], _ => rfl
  | _ :: _, _ :: _, hh => by simp [GotAll.len hh.2]
  | [], _ :: _, hh => hh.elim
  | _ :: _, [], hh => hh.elim
theorem GotAll.get {W : World} {B0 : Nat} {S : Nat → Prop} : ∀ {l : List It} {cs : List (List Value)} (i : Nat), GotAll W B0 S l cs → i < l.length → GotOne W B0 S (l.getD i It.no) (cs.getD i [])
  | _ :: _, _ :: _, 0, hh, _ => by simpa using hh.1
  | _ :: l, _ :: cs, i + 1, hh, hi => by
    have := GotAll.get i hh.2 (by simpa using hi)
    simpa using this
  | [], _, _, _, hi => by simp at hi
  | _ :: _, [], _, hh, _ => hh.elim
theorem GotOne.turn {W W' : World} {B0 : Nat} {S S' T : Nat → Prop} {x : It} {c : List Value} (h : GotOne W B0 S x c) (t : Turn T W W') (hT : ∀ k, k < B0 → T k → S k) (hS : ∀ k, k < B0 → S' k → S k) : GotOne W' B0 S' x c := by
  obtain ⟨q, n, m, rfl, hR, hq⟩ := h
  exact ⟨q, n, m, rfl, hR.turn t (fun y e ht => (hq y e).2 (hT _ (hq y e).1 ht)), fun y e => ⟨(hq y e).1, fun hs => (hq y e).2 (hS _ (hq y e).1 hs)⟩⟩
/-- what is had beside the decoder: the list that was gathered, the reference's decoder -/
structure Had (w : World) (L R B0 : Nat) (rq : Option Addr) (rc : Nat) (rv : List Value) (its pre : List It) (S : Nat → Prop) (W : World) : Prop where
  lst : ∃ q c cs, Box W L [.slice q pre.length c] ∧ OwnG 39 3 (L + 2) W (.slice q pre.length c) cs ∧ GotAll W B0 S pre cs ∧ ∀ k, (Value.slice q pre.length c).ownBlock = some k → ¬ S k
  ref : Box W R rv
  row : RowR W rq its.length rc its
  bel : Below w.heap.size w W
  lt2 : L + 1 < W.heap.size
  off : ∀ k, S k → w.heap.size ≤ k ∧ k ≠ L ∧ k ≠ L + 1 ∧ k ≠ R ∧ (∀ x, rq = some x → x.block ≠ k)
  le : w.heap.size ≤ R ∧ R < L ∧ B0 ≤ R ∧ w.heap.size ≤ B0 ∧ (∀ x, rq = some x → x.block < R)
theorem Had.turn {w : World} {L R B0 : Nat} {rq : Option Addr} {rc : Nat} {rv : List Value} {its pre : List It} {S S' T : Nat → Prop} {W W' : World} (h : Had w L R B0 rq rc rv its pre S W) (t : Turn T W W') (hT : ∀ k, k < W.heap.size → T k → S k) (hS : ∀ k, S' k → S k ∨ W.heap.size ≤ k) : Had w L R B0 rq rc rv its pre S' W' := by
  obtain ⟨⟨q, c, cs, hb, ho, hg, hk⟩, h2, h3, h4, hl2, h5, h6⟩ := h
  have lL := hb.lt
  have lR := h2.lt
  have hn : ∀ k, k < W.heap.size → T k → w.heap.size ≤ k ∧ k ≠ L ∧ k ≠ L + 1 ∧ k ≠ R ∧ (∀ x, rq = some x → x.block ≠ k) := fun k hk ht => h5 k (hT k hk ht)
  have hblk := ho.owns.lt
  refine ⟨⟨q, c, cs, hb.turn t (fun ht => (hn _ lL ht).2.1 rfl), ho.turn t (fun k e ht => hk k e (hT k (hblk k e).2 ht)), hg.mono (fun x c hh => hh.turn t (fun k hkb ht => hT k (by omega) ht) (fun k hkb hs => (hS k hs).elim id (fun h => by omega))), fun k e hs => ?_⟩, h2.turn t (fun ht => (hn _ lR ht).2.2.2.1 rfl), h3.turn t (fun x e ht => (hn _ (by have := h6.2.2.2.2 x e; omega) ht).2.2.2.2 x e rfl), h4.trans (t.below h4.size (fun k hkw ht => by have := hn k (by have := h4.size; omega) ht; omega)), Nat.lt_of_lt_of_le hl2 t.size, fun k hs => ?_, h6⟩
  · exact (hS k hs).elim (hk k e) (fun h => by have := (hblk k e).2; omega)
  · rcases hS k hs with h | h
    · exact h5 k h
    · exact ⟨by have := h4.size; omega, by omega, by omega, by omega, fun x e he => by have := h6.2.2.2.2 x e; omega⟩
/-- between two rounds -/
structure FII (w : World) (L R B0 : Nat) (rq : Option Addr) (rc : Nat) (rv : List Value) (its : List It) (n : Nat) (pre : List It) (S : Nat → Prop) (W : World) : Prop where
  had : Had w L R B0 rq rc rv its pre S W
  left : Box W (L + 1) [.int .i64 ((n : Int) - (pre.length : Int))]
  few : pre = [] ∨ pre.length < n
theorem FII.steady (w : World) (L R B0 : Nat) (rq : Option Addr) (rc : Nat) (rv : List Value) (its : List It) (n : Nat) : Steady (FII w L R B0 rq rc rv its n) := by
  rintro pre S W S' W' ⟨h1, h2, h3⟩ t hS
  exact ⟨h1.turn t (fun _ _ h => h) hS, h2.turn t (fun h => (h1.off _ h).2.2.1 rfl), h3⟩
/-- a round has broken off -/
structure FIX (w : World) (L R B0 : Nat) (rq : Option Addr) (rc : Nat) (rv : List Value) (its : List It) (n g D : Nat) (rs : List UInt8) (sk : Nat) (ov : Bool) (EX : Nat) (cd : Code) (pre : List It) (S : Nat → Prop) (W : World) : Prop where
  isEx : cd = .exit EX
  had : Had w L R B0 rq rc rv its pre S W
  len : pre.length = max n 1
  dec : ∃ (rest : List It) (Sd : Nat → Prop), its = pre ++ rest ∧ Dec W g Sd ⟨rs, sk, rest, ov⟩ ∧ BodIn W g ⟨rs, sk, rest, ov⟩ (fun k => k < B0) ∧ ∀ k, Sd k → S k ∧ k ≠ D ∧ k ≠ D + 1
  bk : S (D + 1) ∧ B0 ≤ D
theorem FIX.put {w : World} {L R B0 : Nat} {rq : Option Addr} {rc : Nat} {rv : List Value} {its : List It} {n g D : Nat} {rs : List UInt8} {sk : Nat} {ov : Bool} {EX : Nat} {cd : Code} {pre : List It} {S : Nat → Prop} {W : World} (o : Obj)
    (h : FIX w L R B0 rq rc rv its n g D rs sk ov EX cd pre S W) : FIX w L R B0 rq rc rv its n g D rs sk ov EX cd pre S (W.putObj (D + 1) o) := by
  obtain ⟨h1, h2, h3, ⟨rest, Sd, h4, h5, h6, h7⟩, h8⟩ := h
  obtain ⟨d1, d2⟩ := Dec.apart h5 h6 (Turn.putObj W (D + 1) o) (fun k _ e hs => (h7 k hs).2.2 e) (fun k hk e => by omega)
  exact ⟨h1, h2.turn (Turn.putObj W (D + 1) o) (fun k _ e => e ▸ h8.1) (fun k h => .inl h), h3, ⟨rest, Sd, h4, d1, d2, h7⟩, h8⟩
theorem Box.news1 {w : World} {g : Nat} {vs : List Value} (h : Box w g vs) : ∀ j u, [vs].flatten[j]? = some u → w.cell? ((⟨g, 0, none⟩ : Addr).add j) = some u := by
  intro j u hu
  rw [List.flatten_cons, List.flatten_nil, List.append_nil] at hu
  rw [WideShapes.add_plain, Nat.zero_add]
  exact h.cell j u hu
theorem turn_set3 (w : World) (b : Nat) (u0 u1 u2 : Value) (o : Obj) : Turn (fun k => k = b) w ((((w.setCell ⟨b, 0, none⟩ u0).setCell ⟨b, 1, none⟩ u1).setCell ⟨b, 2, none⟩ u2).alloc o) := by
  have h0 := (Turn.refl (fun k => k = b) w).setCell ⟨b, 0, none⟩ (fun _ => rfl) u0
  have h1 := h0.setCell ⟨b, 1, none⟩ (fun _ => rfl) u1
  have h2 := h1.setCell ⟨b, 2, none⟩ (fun _ => rfl) u2
  exact h2.alloc o
theorem Had.sub {w : World} {L R B0 : Nat} {rq : Option Addr} {rc : Nat} {rv : List Value} {its pre : List It} {S S' : Nat → Prop} {W : World} (h : Had w L R B0 rq rc rv its pre S W) (hS : ∀ k, S' k → S k) : Had w L R B0 rq rc rv its pre S' W :=
  h.turn (T := fun _ => False) (Turn.refl _ _) (fun _ _ hh => hh.elim) (fun k hk => .inl (hS k hk))
theorem Had.push {w : World} {L R B0 : Nat} {rq : Option Addr} {rc : Nat} {rv : List Value} {its pre : List It} {S : Nat → Prop} {W W' : World} {x : It} {c : List Value} {q' : Option Addr} {c' : Nat} {u0 u1 : Value} (h : Had w L R B0 rq rc rv its pre S W) (hSlt : ∀ k, S k → k < W.heap.size)
    (hone : GotOne W B0 S x c) (hw : c.length = 3) (h1 : ∃ q0 c0 cs, W.cell? ⟨L, 0, none⟩ = some (.slice q0 pre.length c0) ∧ OwnG 39 3 (L + 2) W (.slice q0 pre.length c0) cs ∧ GotAll W B0 S pre cs ∧ OwnG 39 3 (L + 2) W' (.slice q' (pre.length + 1) c') (cs ++ [c]) ∧
      Turn (fun k => (Value.slice q0 pre.length c0).ownBlock = some k) W W' ∧ ((Value.slice q' (pre.length + 1) c').ownBlock = (Value.slice q0 pre.length c0).ownBlock ∨ ∃ j, (Value.slice q' (pre.length + 1) c').ownBlock = some j ∧ W.heap.size ≤ j)) :
    ∃ T : Nat → Prop, Turn T W ((W'.setCell ⟨L, 0, none⟩ (.slice q' (pre.length + 1) c')).setCell ⟨L + 1, 0, none⟩ u1) ∧ (∀ k, k < W.heap.size → T k → ¬ S k) ∧ (∀ k, T k → B0 ≤ k) ∧ Had w L R B0 rq rc rv its (pre ++ [x]) S ((W'.setCell ⟨L, 0, none⟩ (.slice q' (pre.length + 1) c')).setCell ⟨L + 1, 0, none⟩ u1) := by
  obtain ⟨q0, c0, cs0, hcl, hoo, hgg, ho', ht', hk'⟩ := h1
  obtain ⟨⟨q, cc, cs, hb, ho, hg, hk⟩, h2, h3, h4, hl2, h5, h6⟩ := h
  have hq : Value.slice q pre.length cc = Value.slice q0 pre.length c0 := Option.some.inj ((hb.cell 0 _ rfl).symm.trans hcl)
  rw [hq] at hb ho hk
  have hblk := hoo.owns.lt
  have lR := h2.lt
  have T2 : Turn (fun k => (Value.slice q0 pre.length c0).ownBlock = some k ∨ k = L ∨ k = L + 1) W ((W'.setCell ⟨L, 0, none⟩ (.slice q' (pre.length + 1) c')).setCell ⟨L + 1, 0, none⟩ u1) := ((ht'.mono (fun _ _ h => .inl h)).setCell _ (fun _ => .inr (.inl rfl)) _).setCell _ (fun _ => .inr (.inr rfl)) _
  have hge : ∀ k, ((Value.slice q0 pre.length c0).ownBlock = some k ∨ k = L ∨ k = L + 1) → L ≤ k := fun k hk => by
    rcases hk with hk | hk | hk
    · have := (hblk k hk).1; omega
    · omega
    · omega
  have hbL : Box ((W'.setCell ⟨L, 0, none⟩ (.slice q' (pre.length + 1) c')).setCell ⟨L + 1, 0, none⟩ u1) L [.slice q' (pre.length + 1) c'] := by
    have b1 := hb.turn ht' (fun e => by have := (hblk _ e).1; omega)
    exact (b1.set 0 (.slice q' (pre.length + 1) c') (by simp)).turn (Box.setTurn _ (L + 1) 0 _) (by omega)
  have ho2 : OwnG 39 3 (L + 2) ((W'.setCell ⟨L, 0, none⟩ (.slice q' (pre.length + 1) c')).setCell ⟨L + 1, 0, none⟩ u1) (.slice q' (pre.length + 1) c') (cs0 ++ [c]) :=
    (ho'.turn (Box.setTurn W' L 0 _) (fun k e => by have := (ho'.owns.lt k e).1; omega)).turn (Box.setTurn _ (L + 1) 0 _) (fun k e => by have := (ho'.owns.lt k e).1; omega)
  have hgo : ∀ x c, GotOne W B0 S x c → GotOne ((W'.setCell ⟨L, 0, none⟩ (.slice q' (pre.length + 1) c')).setCell ⟨L + 1, 0, none⟩ u1) B0 S x c := fun x c hh => hh.turn T2 (fun k hkb ht => by have := hge k ht; omega) (fun _ _ hs => hs)
  refine ⟨_, T2, fun k hkl ht hs => ?_, fun k ht => by have := hge k ht; omega, ⟨⟨q', c', cs0 ++ [c], by simpa using hbL, by simpa using ho2, (hgg.mono hgo).snoc (hgo _ _ hone), fun k e hs => ?_⟩, h2.turn T2 (fun ht => by have := hge _ ht; omega), h3.turn T2 (fun y e ht => by have := hge _ ht; have := h6.2.2.2.2 y e; omega), h4.trans (T2.below h4.size (fun k hkw ht => by have := hge k ht; omega)), Nat.lt_of_lt_of_le hl2 T2.size, h5, h6⟩⟩
  · rcases ht with ht | ht | ht
    · exact hk k ht hs
    · exact (h5 k hs).2.1 ht
    · exact (h5 k hs).2.2.1 ht
  · simp only [List.length_append, List.length_cons, List.length_nil] at e
    rcases hk' with hk' | ⟨j, hj, hjl⟩
    · exact hk k (hk'.symm.trans e) hs
    · rw [hj] at e
      cases e
      have := hSlt k hs
      omega
theorem Dec.more2 {w w' : World} {g : Nat} {S : Nat → Prop} {d' : St} {L : Nat} (h : DecTo w w' g S d') (hL : L ≤ w.heap.size) (hS : ∀ k, S k → L ≤ k) : ∃ S', Dec w' g S' d' ∧ (∀ k, S' k → L ≤ k) ∧ Below L w w' := by
  obtain ⟨S', hD, hT, hS'⟩ := h
  exact ⟨S', hD, fun k hk => (hS' k hk).elim (hS k) (fun h => by omega), hT.below hL (fun k hk hs => by have := hS k hs; omega)⟩
theorem items_lenF (b : List UInt8) : ((St.new.give b).fin).found.length ≤ 2 * b.length := by
  have e1 : St.new.found.length = 0 := rfl
  have e2 : St.new.skips = 0 := rfl
  have e3 : St.new.rest.length = 0 := rfl
  have h1 : (St.new.give b).found.length + (St.new.give b).skips + 2 * (St.new.give b).rest.length ≤ 2 * b.length := by
    unfold St.give
    split
    · omega
    · have := Fr.pass_bound false (St.new.rest ++ b) St.new.skips St.new.found
      rw [List.length_append] at this
      simp only
      omega
  unfold St.fin
  split
  · omega
  · have h2 := Fr.pass_bound true (St.new.give b).rest (St.new.give b).skips (St.new.give b).found
    have h3 := Fr.tell_le (Fr.pass true (St.new.give b).rest (St.new.give b).skips (St.new.give b).found).2.1 (Fr.pass true (St.new.give b).rest (St.new.give b).skips (St.new.give b).found).2.2
    simp only
    omega
theorem give_lenF (b : List UInt8) : (St.new.give b).found.length + (St.new.give b).skips + 2 * (St.new.give b).rest.length ≤ 2 * b.length := by
  have e1 : St.new.found.length = 0 := rfl
  have e2 : St.new.skips = 0 := rfl
  have e3 : St.new.rest.length = 0 := rfl
  unfold St.give
  split
  · omega
  · have := Fr.pass_bound false (St.new.rest ++ b) St.new.skips St.new.found
    rw [List.length_append] at this
    simp only
    omega
theorem frameItems_walk (a0 : Option Addr) (len cap : Nat) (zs : List Int) (nz : Int) (bn : 0 ≤ nz ∧ nz ≤ 255) (w : World) (h0 : IsRow .u8 w a0 len cap zs) (hTab : Tab w) :
    Calls Tryd.prog 3 #[.slice a0 len cap, .int .u8 nz] w fun e w' => e = .returned (.bool true) ∧ Below w.heap.size w w' := by
  have hR0 := h0.row.bytes
  generalize bytesOf (zs.take len) = b at *
  obtain ⟨n, rfl⟩ := Int.eq_ofNat_of_zero_le bn.1
  clear h0
  have hlen := hR0.length
  have hm : len ≤ 9223372036854775807 := by have := hR0.small; unfold maxLen at this; omega
  refine (callsIn_wide (n := 9)).1 ?_
  refine callsIn_of_wp_marks Tryd.func3 rfl trivial ?_ rfl
  simp only [Tryd.ntmps3, List.size_toArray, List.length_cons, List.length_nil, Nat.reduceAdd, Nat.reduceSub, Array.replicate_succ, Array.replicate_zero, List.push_toArray, List.append_toArray, List.nil_append, List.cons_append]
  have HW := Lib.hid (awake_any w hTab)
  by_cases hl : 1000 < len
  · gi_wp2_with (refine ⟨trivial, ?_⟩; gi_at_call 15; refine (callsIn_wide.2 HW.out).mono ?_; rintro e w1 ⟨rfl, hb1⟩; have hbH := Lib.hid hb1)
    have hb1 := hbH.out
    refine ⟨_, results_tmp rfl _ _ _, ?_⟩
    exact ⟨rfl, hb1⟩
  gi_wp2_with (refine ⟨trivial, ?_⟩; gi_at_call 15; refine (callsIn_wide.2 HW.out).mono ?_; rintro e w1 ⟨rfl, hb1⟩)
  have hR1 := Lib.hid (hR0.below hb1)
  have hTab1 := hTab.below hb1
  have z1 := hb1.size
  have hblk : ∀ x, a0 = some x → len ≠ 0 → x.block < w.heap.size := fun x e hne => by
    rcases hR0.at_ with h | ⟨b', off, e2, hlb, _⟩
    · exact absurd h hne
    · rw [e] at e2; cases e2; exact hlb
  gi_wp2_with (refine ⟨trivial, ?_⟩; gi_at_call 16; refine (callsIn_wide.2 (new_any _)).mono ?_; rintro e w2 ⟨g, rfl, hgg, ⟨S2, hD2, hS2⟩, hb2⟩)
  have z2 := hb2.size
  have hR2 := Lib.hid (hR1.out.below hb2)
  have HG := give_any g S2 St.new w2 hD2 (hTab1.below hb2) (fun hs => by have := hS2 _ hs; have := hTab1.lt; omega) a0 len cap b hR2.out (by simp [St.new]; omega)
  replace HG := Lib.hid (HG.mono (R' := fun e w' => e = .returned (.tuple #[]) ∧ ∃ S', Dec w' g S' (St.new.give b) ∧ (∀ k, S' k → w1.heap.size ≤ k) ∧ Below w1.heap.size w2 w') (fun e w' hh => ⟨hh.1, Dec.more2 hh.2 z2 hS2⟩))
  gi_wp2_with (refine ⟨trivial, ?_⟩; gi_at_call 17; refine (callsIn_wide.2 HG.out).mono ?_; rintro e w3 ⟨rfl, S3, hD3, hS3, hb3⟩)
  have B3 : Below w1.heap.size w1 w3 := hb2.trans hb3
  have z3 := hb3.size
  have hgl := give_lenF b
  have HE := end_any g S3 (St.new.give b) w3 hD3 (hTab1.below B3) (fun hs => by have := hS3 _ hs; have := hTab1.lt; omega) (by omega)
  replace HE := Lib.hid (HE.mono (R' := fun e w' => e = .returned (.tuple #[]) ∧ ∃ S', Dec w' g S' (St.new.give b).fin ∧ (∀ k, S' k → w1.heap.size ≤ k) ∧ Below w1.heap.size w3 w') (fun e w' hh => ⟨hh.1, Dec.more2 hh.2 (by omega) hS3⟩))
  clear hD2 hD3 HG
  gi_wp2_with (refine ⟨trivial, ?_⟩; gi_at_call 18; refine (callsIn_wide.2 HE.out).mono ?_; rintro e w4 ⟨rfl, S4, hD4, hS4, hb4⟩; have cv := (hR1.out.below (B3.trans hb4)).conv 22 9 5 Tryd.underlying22 Tryd.underlying5 Tryd.underlying9 (P := Tryd.prog))
  have B4 : Below w1.heap.size w1 w4 := B3.trans hb4
  have z4 := hb4.size
  have HGr := give_r St.new b none 0 0 w4 (RowR.none w4) (fun x e => by cases e) (by simp [St.new]; omega)
  have HEr := fun q n c W hR hq => end_r (St.new.give b) q n c W hR hq (by omega)
  have hnits := items_lenF b
  obtain ⟨⟨rs, sk, its, ov⟩, hd⟩ : ∃ d, (St.new.give b).fin = d := ⟨_, rfl⟩
  rw [hd] at HEr hnits hD4
  generalize St.new.give b = d1 at HGr HEr
  obtain ⟨rs1, sk1, its1, ov1⟩ := d1
  simp only [St.new] at HGr HEr hnits
  replace HGr := Lib.hid HGr
  replace HEr := Lib.hid HEr
  replace hD4 := Lib.hid hD4
  clear hd hgl HE HW hR0
  gi_wp2_with (refine ⟨trivial, ?_⟩; gi_at_call 20; refine (callsIn_wide.2 HGr.out).mono ?_; rintro e w5 ⟨v5, rfl, ⟨q5, n5, c5, rfl, hR5, hq5⟩, hb5⟩)
  have HE1 := Lib.hid (HEr.out q5 n5 c5 w5 hR5 (fun x e => (hq5 x e).1))
  gi_wp2_with (refine ⟨trivial, ?_⟩; gi_at_call 19; refine (callsIn_wide.2 HE1.out).mono ?_; rintro e w6 ⟨v6, rfl, ⟨rq, rn, rc, rfl, hR6, hq6⟩, hb6⟩)
  have hq6b : ∀ x, rq = some x → w4.heap.size ≤ x.block := fun x e => by
    rcases (hq6 x e).2 with h | h
    · rw [e] at h
      rcases (hq5 x h.symm).2 with h2 | h2
      · rw [← h] at h2; cases h2
      · exact h2
    · have := hb5.size; omega
  replace hq6 : ∀ x, rq = some x → x.block < w6.heap.size := fun x e => (hq6 x e).1
  have b46 : Below w4.heap.size w4 w6 := hb5.trans (hb6.mono hb5.size)
  have hrl := hR6.length
  gi_wp2_with (refine ⟨trivial, ?_⟩; gi_at_call 21; refine (callsIn_wide.2 (items_any g _)).mono ?_; rintro e w7 ⟨rfl, rfl⟩)
  subst hrl
  have XR0 : Box (w6.alloc (.cells #[.string ⟨rs.toArray⟩, .int .i64 (sk : Int), .slice rq its.length rc, .bool ov] 29)) w6.heap.size [.string ⟨rs.toArray⟩, .int .i64 (sk : Int), .slice rq its.length rc, .bool ov] := Box.new _ _ _ _ rfl _ rfl
  have A7 : Below w6.heap.size w6 ((((w6.alloc (.cells #[.string ⟨rs.toArray⟩, .int .i64 (sk : Int), .slice rq its.length rc, .bool ov] 29)).alloc (.cells #[.slice none 0 0] 32)).alloc (.cells #[.int .i64 (n : Int)] 3)).alloc (.cells #[.pointer (some ⟨g, 0, none⟩)] 24)) := ((((Below.refl _ _).alloc (Nat.le_refl _) _).alloc (by simp) _).alloc (by simp; omega) _).alloc (by simp; omega) _
  have XR : Box ((((w6.alloc (.cells #[.string ⟨rs.toArray⟩, .int .i64 (sk : Int), .slice rq its.length rc, .bool ov] 29)).alloc (.cells #[.slice none 0 0] 32)).alloc (.cells #[.int .i64 (n : Int)] 3)).alloc (.cells #[.pointer (some ⟨g, 0, none⟩)] 24)) w6.heap.size [.string ⟨rs.toArray⟩, .int .i64 (sk : Int), .slice rq its.length rc, .bool ov] := ((XR0.below ((Below.refl _ _).alloc (Nat.le_refl _) _)).below ((Below.refl _ _).alloc (Nat.le_refl _) _)).below ((Below.refl _ _).alloc (Nat.le_refl _) _)
  have XL : Box ((((w6.alloc (.cells #[.string ⟨rs.toArray⟩, .int .i64 (sk : Int), .slice rq its.length rc, .bool ov] 29)).alloc (.cells #[.slice none 0 0] 32)).alloc (.cells #[.int .i64 (n : Int)] 3)).alloc (.cells #[.pointer (some ⟨g, 0, none⟩)] 24)) (w6.heap.size + 1) [.slice none 0 0] := ((Box.new _ _ _ _ rfl _ (by simp)).below ((Below.refl _ _).alloc (Nat.le_refl _) _)).below ((Below.refl _ _).alloc (Nat.le_refl _) _)
  have XN : Box ((((w6.alloc (.cells #[.string ⟨rs.toArray⟩, .int .i64 (sk : Int), .slice rq its.length rc, .bool ov] 29)).alloc (.cells #[.slice none 0 0] 32)).alloc (.cells #[.int .i64 (n : Int)] 3)).alloc (.cells #[.pointer (some ⟨g, 0, none⟩)] 24)) (w6.heap.size + 2) [.int .i64 (n : Int)] := (Box.new _ _ _ _ rfl _ (by simp)).below ((Below.refl _ _).alloc (Nat.le_refl _) _)
  have XB : Box ((((w6.alloc (.cells #[.string ⟨rs.toArray⟩, .int .i64 (sk : Int), .slice rq its.length rc, .bool ov] 29)).alloc (.cells #[.slice none 0 0] 32)).alloc (.cells #[.int .i64 (n : Int)] 3)).alloc (.cells #[.pointer (some ⟨g, 0, none⟩)] 24)) (w6.heap.size + 3) [.pointer (some ⟨g, 0, none⟩)] := Box.new _ _ _ _ rfl _ (by simp)
  have b47 := b46.trans (A7.mono b46.size)
  have hlt4 := hD4.out.lt
  obtain ⟨hD7, hB7⟩ := Dec.apart hD4.out hD4.out.bod (Turn.ofBelow (S := fun _ => False) b47 rfl) (fun _ _ h => h.elim) (fun _ _ h => h)
  have hRw := hR6.below A7
  have z7 : ((((w6.alloc (.cells #[.string ⟨rs.toArray⟩, .int .i64 (sk : Int), .slice rq its.length rc, .bool ov] 29)).alloc (.cells #[.slice none 0 0] 32)).alloc (.cells #[.int .i64 (n : Int)] 3)).alloc (.cells #[.pointer (some ⟨g, 0, none⟩)] 24)).heap.size = w6.heap.size + 4 := by simp
  have z46 := b46.size
  have B7 : Below w.heap.size w ((((w6.alloc (.cells #[.string ⟨rs.toArray⟩, .int .i64 (sk : Int), .slice rq its.length rc, .bool ov] 29)).alloc (.cells #[.slice none 0 0] 32)).alloc (.cells #[.int .i64 (n : Int)] 3)).alloc (.cells #[.pointer (some ⟨g, 0, none⟩)] 24)) := (hb1.trans (B4.mono z1)).trans (b47.mono (by omega))
  clear HGr HEr HE1 hb5 hb6 hb2 hb3 hb4 hR5 hR6 XR0 A7 b46 b47 hD4 B4 B3 hR1 hR2 hb1 cv
  simp only [Nat.add_assoc, Nat.reduceAdd]
  generalize (((w6.alloc (.cells #[.string ⟨rs.toArray⟩, .int .i64 (sk : Int), .slice rq its.length rc, .bool ov] 29)).alloc (.cells #[.slice none 0 0] 32)).alloc (.cells #[.int .i64 (n : Int)] 3)).alloc (.cells #[.pointer (some ⟨g, 0, none⟩)] 24) = W0 at *
  generalize w6.heap.size = R at *
  generalize w4.heap.size = B0 at *
  rename_i K hKK
  have CONT : ∀ (k : Nat) (Sd : Nat → Prop) (W : World) (X : Value) (x39 : Value), k = min (max n 1) its.length → Had w (R + 1) R B0 rq rc [.string ⟨rs.toArray⟩, .int .i64 (sk : Int), .slice rq its.length rc, .bool ov] its (its.take k) Sd W → Dec W g Sd ⟨rs, sk, its.drop k, ov⟩ → W.heap[W0.heap.size]? = some (.deferred (some [])) → ¬ Sd W0.heap.size →
      K { tmps := #[.slice a0 len cap, .int .u8 (n : Int), undef, undef, .bool false, .bool true, .pointer (some ⟨g, 0, none⟩), .pointer (some ⟨R, 0, none⟩), .pointer (some ⟨R + 1, 0, none⟩), .pointer (some ⟨R + 2, 0, none⟩), undef, undef, undef, undef, undef, undef, undef, undef, .bool true, .bool true, .bool false, .slice a0 len cap, .int .i64 (len : Int), .bool (decide (1000 < (len : Int))), .pointer (some ⟨g, 0, none⟩), .pointer (some ⟨g, 0, none⟩), .slice a0 len cap, .tuple #[], .pointer (some ⟨g, 0, none⟩), .tuple #[], .agg #[.string ⟨#[]⟩, .int .i64 0, .slice none 0 0, .bool false], .slice a0 len cap, .string ⟨b.toArray⟩, .agg #[.string ⟨rs1.toArray⟩, .int .i64 (sk1 : Int), .slice q5 n5 c5, .bool ov1], .agg #[.string ⟨rs.toArray⟩, .int .i64 (sk : Int), .slice rq its.length rc, .bool ov], .int .u8 (n : Int), .int .i64 (n : Int), .pointer (some ⟨g, 0, none⟩), .func (.func 70) #[] #[.pointer (some ⟨R + 3, 0, none⟩)], undef, undef, undef, undef, undef, undef, undef, undef, undef, undef, undef, undef, undef, undef, undef, undef, undef, undef, undef, undef, undef, undef, undef, undef, undef, undef, undef, undef, undef, undef, undef, undef, undef, undef, undef, undef, undef, undef, undef, undef, undef, undef, undef, undef, undef, undef, undef, undef, undef, undef, undef, undef, undef, undef, undef, undef, undef, undef, undef, undef, undef, undef, undef, undef, undef, undef, undef, undef, undef, undef, undef, undef, undef, undef, undef, undef, undef, undef, undef, undef, undef, undef, undef, undef, undef, undef, undef, undef, undef], defers := [{ target := .collected W0.heap.size, args := #[] }] } W := by
    intro k Sd W X x39 hk hH hD hdef hSD
    have htl : (its.take k).length = k := by rw [List.length_take]; omega
    obtain ⟨qg, cg, csg, hbG, hoG, hgG, hkG⟩ := hH.lst
    rw [htl] at hbG
    have r2 := hH.ref.cell 2 _ rfl
    have rlt := hH.ref.lt
    have g0 := hbG.cell 0 _ rfl
    have glt := hbG.lt
    have hnl : its.length ≤ 3000 := by omega
    refine hKK _ _ (wpIn_wide.2 ?_)
    clear hKK hoG hgG hkG hbG XR XL XN XB hRw B7 hD7 hB7
    replace hH := Lib.hid hH
    replace hD := Lib.hid hD
    replace hdef := Lib.hid hdef
    replace hSD := Lib.hid hSD
    replace htl := Lib.hid htl
    replace z7 := Lib.hid z7
    obtain ⟨D, hDD⟩ : ∃ D, W0.heap.size = D := ⟨_, rfl⟩
    rw [hDD] at hdef hSD ⊢
    replace hDD := Lib.hid hDD
    clear x39 X
    have key : (n = 0 ∧ k = 0 ∧ its.length = 0) ∨ (n = 0 ∧ k = 1 ∧ 1 ≤ its.length) ∨ (0 < n ∧ k = its.length ∧ its.length < n) ∨ (0 < n ∧ k = n ∧ n ≤ its.length) := by omega
    clear hk
    rcases key with ⟨k1, k2, k3⟩ | ⟨k1, k2, k3⟩ | ⟨k1, k2, k3⟩ | ⟨k1, k2, k3⟩
    case' inl =>
      subst k1 k2
      have hz1 : (its.length : Int) < 1 := by omega
      have hz2 : (its.length : Int) = 0 := by omega
      have hz3 : Hid (its.length = 0) := Lib.hid k3
      clear k3
      go_wp2_with fail
    case' inr.inl =>
      subst k1 k2
      have hz1 : ¬ ((its.length : Int) < 1) := by omega
      have hz3 : Hid (1 ≤ its.length) := Lib.hid k3
      clear k3
      go_wp2_with fail
    case' inr.inr.inl =>
      subst k2
      have hn1 : ((n : Int) == 0) = false := by rw [beq_eq_false_iff_ne]; omega
      have hz1 : (its.length : Int) < (n : Int) := by omega
      have hz3 : Hid (its.length < n) := Lib.hid k3
      clear k3 k1
      go_wp2_with fail
    case' inr.inr.inr =>
      subst k2
      have hn1 : ((k : Int) == 0) = false := by rw [beq_eq_false_iff_ne]; omega
      have hz1 : ¬ ((its.length : Int) < (k : Int)) := by omega
      have hz3 : Hid (k ≤ its.length) := Lib.hid k3
      clear k3 k1
      go_wp2_with fail
    case inl =>
      have hz4 := hz3.out
      go_loopw [12] (fun i wr => ∃ j : Nat, i = .int .i64 (j : Int) ∧ j ≤ its.length ∧ ∃ Sd : Nat → Prop, Hid (Had w (R + 1) R B0 rq rc [.string ⟨rs.toArray⟩, .int .i64 (sk : Int), .slice rq its.length rc, .bool ov] its (its.take 0) Sd wr) ∧ Hid (Dec wr g Sd ⟨rs, sk, its.drop (max 0 j), ov⟩) ∧ Hid (wr.heap[D]? = some (.deferred (some []))) ∧ Hid (¬ Sd D)) (fun i wr => its.length - (intOf i).toNat)
      case atStart => exact ⟨0, rfl, by omega, Sd, hH, Lib.hid (by rw [show max 0 0 = 0 by omega]; exact hD.out), hdef, hSD⟩
      case round =>
        clear hH hD hdef hSD r2 rlt g0 glt
        obtain ⟨j, rfl, hj, Sd2, hH, hD, hdef, hSD⟩ := hrel
        have r2 := hH.out.ref.cell 2 _ rfl
        have rlt := hH.out.ref.lt
        have htk : (its.take 0).length = 0 := by rw [List.length_take]; omega
        by_cases hlt : j < its.length
        · have hj1 : (j : Int) < (its.length : Int) := by omega
          have hj0 : (0 : Int) ≤ (j : Int) := by omega
          by_cases hjk : j < 0
          · have hjk1 : (j : Int) < ((0 : Nat) : Int) := by omega
            exfalso; omega
          · have hjk1 : ¬ ((j : Int) < ((0 : Nat) : Int)) := by omega
            exfalso; omega
        · obtain rfl : j = its.length := by omega
          have hdz : its.drop (max 0 its.length) = [] := by rw [show max 0 its.length = its.length by omega, List.drop_length]
          rw [hdz] at hD
          have HN := next_any g Sd2 _ wr hD.out
          simp only [List.getD_nil, List.length_nil, Nat.lt_irrefl, decide_false] at HN
          replace HN := Lib.hid HN
          clear hdz htk
          go_wp2_with fail
          refine (HN.out).mono ?_; rintro e w8 ⟨q8, n8, c8, rfl, hR8, hq8, ⟨S8, hD8, hT8, hS8⟩, hE8⟩
          replace hT8 := Lib.hid hT8
          clear hR8 hq8 hD8 hE8
          go_wp2_with fail
          have T9 := hT8.out.alloc (.cells #[.int .i64 (It.no.skip : Int), .int .u8 (It.no.kind.toNat : Int), .slice q8 n8 c8] 39)
          have hd9 := Turn.heap T9 hdef.out hSD.out
          have hoff := hH.out.off
          have hwz := hH.out.bel.size
          have hDD2 := hDD.out
          have hz7 := z7.out
          have hle := hH.out.le
          have B9 := hH.out.bel.trans (T9.below hwz (fun k hk hs => by have := hoff k hs; omega))
          have TP := Turn.putObj (w8.alloc (.cells #[.int .i64 (It.no.skip : Int), .int .u8 (It.no.kind.toNat : Int), .slice q8 n8 c8] 39)) D (.deferred none)
          have B10 := B9.trans (TP.below (B := w.heap.size) B9.size (fun k hk e => by omega))
          refine ⟨by simp, .inl ⟨_, _, rfl, run_takeDeferred hd9, ?_⟩⟩
          exact ⟨_, results_tmp rfl _ _ _, rfl, B10⟩
    case inr.inl =>
      have hz4 := hz3.out
      go_loopw [12] (fun i wr => ∃ j : Nat, i = .int .i64 (j : Int) ∧ j ≤ its.length ∧ ∃ Sd : Nat → Prop, Hid (Had w (R + 1) R B0 rq rc [.string ⟨rs.toArray⟩, .int .i64 (sk : Int), .slice rq its.length rc, .bool ov] its (its.take 1) Sd wr) ∧ Hid (Dec wr g Sd ⟨rs, sk, its.drop (max 1 j), ov⟩) ∧ Hid (wr.heap[D]? = some (.deferred (some []))) ∧ Hid (¬ Sd D)) (fun i wr => its.length - (intOf i).toNat)
      case atStart => exact ⟨0, rfl, by omega, Sd, hH, Lib.hid (by rw [show max 1 0 = 1 by omega]; exact hD.out), hdef, hSD⟩
      case round =>
        clear hH hD hdef hSD r2 rlt g0 glt
        obtain ⟨j, rfl, hj, Sd2, hH, hD, hdef, hSD⟩ := hrel
        have r2 := hH.out.ref.cell 2 _ rfl
        have rlt := hH.out.ref.lt
        have htk : (its.take 1).length = 1 := by rw [List.length_take]; omega
        by_cases hlt : j < its.length
        · have hj1 : (j : Int) < (its.length : Int) := by omega
          have hj0 : (0 : Int) ≤ (j : Int) := by omega
          by_cases hjk : j < 1
          · have hjk1 : (j : Int) < ((1 : Nat) : Int) := by omega
            obtain ⟨qg, cg, csg, hbG, hoG, hgG, hkG⟩ := hH.out.lst
            have hcl := hgG.len
            rw [htk] at hbG hoG hkG hcl
            have g0 := hbG.cell 0 _ rfl
            have glt := hbG.lt
            obtain ⟨qx, cx, ex, hRG, _, _⟩ := hoG.row
            rw [hcl] at ex hRG
            obtain ⟨rfl, _, rfl⟩ : qg = qx ∧ True ∧ cg = cx := by injection ex with e1 e2 e3; exact ⟨e1, trivial, e3⟩
            obtain ⟨bg, og, rfl, hlg, hcg⟩ := hRG.get (by omega)
            have h3 := hcg j (by omega)
            obtain ⟨qb, nb, mb, eb, hRb, hqb⟩ := hgG.get j (by omega)
            have hxj : (its.take 1).getD j It.no = its.getD j It.no := by simp [List.getD, List.getElem?_take, hjk]
            rw [hxj] at eb hRb
            rw [eb] at h3
            obtain ⟨br, orr, rfl, hlr, hcr⟩ : ∃ br orr, rq = some ⟨br, orr, none⟩ ∧ br < wr.heap.size ∧ ∀ i, i < its.length → wr.cell? ⟨br, orr + i * 3, none⟩ = some (.int .i64 ((its.getD i It.no).skip : Int)) ∧ wr.cell? ⟨br, orr + i * 3 + 1, none⟩ = some (.int .u8 ((its.getD i It.no).kind.toNat : Int)) ∧ wr.cell? ⟨br, orr + i * 3 + 2, none⟩ = some (.string ⟨(its.getD i It.no).body.toArray⟩) := by
              rcases hH.out.row.at_ with h0 | ⟨b', off, e, h1, h2⟩
              · omega
              · exact ⟨b', off, e, h1, h2⟩
            obtain ⟨i0, i1, i2⟩ := hcr j hlt
            generalize its.getD j It.no = x at *
            have m0 := h3 0 _ rfl
            have m1 := h3 1 _ rfl
            have m2 := h3 2 _ rfl
            simp only [Nat.add_zero] at m0
            have hfb := Lib.hid (Below.alloc (Below.refl wr.heap.size wr) (Nat.le_refl _) (.cells #[.int .i64 (x.skip : Int), .int .u8 (x.kind.toNat : Int), .slice qb nb mb] 39))
            clear hbG hoG hgG hkG ex hRG hcg h3 eb hqb hxj hcr hcl htk
            have rAll : Below wr.heap.size wr (wr.alloc (.cells #[.int .i64 (x.skip : Int), .int .u8 (x.kind.toNat : Int), .slice qb nb mb] 39)) := Below.alloc (Below.refl wr.heap.size wr) (Nat.le_refl _) (.cells #[.int .i64 (x.skip : Int), .int .u8 (x.kind.toNat : Int), .slice qb nb mb] 39)
            have XN := Lib.hid (Box.new wr [.int .i64 (x.skip : Int), .int .u8 (x.kind.toNat : Int), .slice qb nb mb] _ 39 rfl wr.heap.size rfl)
            have E : ∀ W, Below (wr.alloc (.cells #[.int .i64 (x.skip : Int), .int .u8 (x.kind.toNat : Int), .slice qb nb mb] 39)).heap.size (wr.alloc (.cells #[.int .i64 (x.skip : Int), .int .u8 (x.kind.toNat : Int), .slice qb nb mb] 39)) W → (fun W => W.cell? ⟨wr.heap.size, 0, none⟩ = some (.int .i64 (x.skip : Int)) ∧ W.cell? ⟨wr.heap.size, 1, none⟩ = some (.int .u8 (x.kind.toNat : Int)) ∧ W.cell? ⟨wr.heap.size, 2, none⟩ = some (.slice qb nb mb) ∧ W.cell? ⟨R, 2, none⟩ = some (.slice (some ⟨br, orr, none⟩) its.length rc) ∧ W.cell? ⟨br, orr + j * 3, none⟩ = some (.int .i64 (x.skip : Int)) ∧ W.cell? ⟨br, orr + j * 3 + 1, none⟩ = some (.int .u8 (x.kind.toNat : Int)) ∧ W.cell? ⟨br, orr + j * 3 + 2, none⟩ = some (.string ⟨x.body.toArray⟩) ∧ (convert 22 9 (.slice qb nb mb)).run Tryd.prog W = .ok (.string ⟨x.body.toArray⟩) W) W := fun W h => ⟨(XN.out.below h).cell 0 _ rfl, (XN.out.below h).cell 1 _ rfl, (XN.out.below h).cell 2 _ rfl, (((rAll.trans (h.mono rAll.size)).cell (p := ⟨R, 2, none⟩) rlt)).trans r2, ((rAll.trans (h.mono rAll.size)).cell (p := ⟨br, orr + j * 3, none⟩) hlr).trans i0, ((rAll.trans (h.mono rAll.size)).cell (p := ⟨br, orr + j * 3 + 1, none⟩) hlr).trans i1, ((rAll.trans (h.mono rAll.size)).cell (p := ⟨br, orr + j * 3 + 2, none⟩) hlr).trans i2, (hRb.below (rAll.trans (h.mono rAll.size))).conv 22 9 5 Tryd.underlying22 Tryd.underlying5 Tryd.underlying9 (P := Tryd.prog)⟩
            replace E := Lib.hid E
            go_wp2_with fail
            refine wp_region_noPanic ?_
            refine wp_region_held_drew (S := (fun W => W.cell? ⟨wr.heap.size, 0, none⟩ = some (.int .i64 (x.skip : Int)) ∧ W.cell? ⟨wr.heap.size, 1, none⟩ = some (.int .u8 (x.kind.toNat : Int)) ∧ W.cell? ⟨wr.heap.size, 2, none⟩ = some (.slice qb nb mb) ∧ W.cell? ⟨R, 2, none⟩ = some (.slice (some ⟨br, orr, none⟩) its.length rc) ∧ W.cell? ⟨br, orr + j * 3, none⟩ = some (.int .i64 (x.skip : Int)) ∧ W.cell? ⟨br, orr + j * 3 + 1, none⟩ = some (.int .u8 (x.kind.toNat : Int)) ∧ W.cell? ⟨br, orr + j * 3 + 2, none⟩ = some (.string ⟨x.body.toArray⟩) ∧ (convert 22 9 (.slice qb nb mb)).run Tryd.prog W = .ok (.string ⟨x.body.toArray⟩) W)) (by kernel_rfl) (E.out _ (Below.refl _ _).drew) (fun hHeld => ?_)
            refine wpAnyH_take (i := 0) (oi := ⟨some 87, _, _, _, _, _⟩) (v := ?_) rfl (by kernel_rfl) (by kernel_rfl) (by kernel_rfl) (fun _ _ _ h => h) (Or.inl ⟨by rfl, ?hyt0⟩) (by assumption) ?_; (case hyt0 => ((intro W hSW; (try dsimp only at hSW); obtain ⟨s1, s2, s3, s4, s5, s6, s7, s8⟩ := hSW; go_simp); (all_goals with_reducible rfl))); (try simp only [Act.put, List.setIfInBounds_toArray, List.set_cons_zero, List.set_cons_succ])
            refine wpAnyH_take (i := 1) (oi := ⟨some 88, _, _, _, _, _⟩) (v := ?_) rfl (by kernel_rfl) (by kernel_rfl) (by kernel_rfl) (fun _ _ _ h => h) (Or.inl ⟨by rfl, ?hyt1⟩) (by assumption) ?_; (case hyt1 => ((intro W hSW; (try dsimp only at hSW); obtain ⟨s1, s2, s3, s4, s5, s6, s7, s8⟩ := hSW; go_simp); (all_goals with_reducible rfl))); (try simp only [Act.put, List.setIfInBounds_toArray, List.set_cons_zero, List.set_cons_succ])
            refine wpAnyH_take (i := 2) (oi := ⟨some 89, _, _, _, _, _⟩) (v := ?_) rfl (by kernel_rfl) (by kernel_rfl) (by kernel_rfl) (fun _ _ _ h => h) (Or.inl ⟨by rfl, ?hyt2⟩) (by assumption) ?_; (case hyt2 => ((intro W hSW; (try dsimp only at hSW); obtain ⟨s1, s2, s3, s4, s5, s6, s7, s8⟩ := hSW; go_simp); (all_goals with_reducible rfl))); (try simp only [Act.put, List.setIfInBounds_toArray, List.set_cons_zero, List.set_cons_succ])
            refine wpAnyH_take (i := 3) (oi := ⟨some 90, _, _, _, _, _⟩) (v := ?_) rfl (by kernel_rfl) (by kernel_rfl) (by kernel_rfl) (fun _ _ _ h => h) (Or.inl ⟨by rfl, ?hyt3⟩) (by assumption) ?_; (case hyt3 => ((intro W hSW; (try dsimp only at hSW); obtain ⟨s1, s2, s3, s4, s5, s6, s7, s8⟩ := hSW; go_simp); (all_goals with_reducible rfl))); (try simp only [Act.put, List.setIfInBounds_toArray, List.set_cons_zero, List.set_cons_succ])
            refine wpAnyH_take (i := 4) (oi := ⟨some 91, _, _, _, _, _⟩) (v := ?_) rfl (by kernel_rfl) (by kernel_rfl) (by kernel_rfl) (fun _ _ _ h => h) (Or.inl ⟨by rfl, ?hyt4⟩) (by assumption) ?_; (case hyt4 => ((intro W hSW; (try dsimp only at hSW); obtain ⟨s1, s2, s3, s4, s5, s6, s7, s8⟩ := hSW; go_simp); (all_goals with_reducible rfl))); (try simp only [Act.put, List.setIfInBounds_toArray, List.set_cons_zero, List.set_cons_succ])
            refine wpAnyH_take (i := 5) (oi := ⟨some 92, _, _, _, _, _⟩) (v := ?_) rfl (by kernel_rfl) (by kernel_rfl) (by kernel_rfl) (fun _ _ _ h => h) (Or.inl ⟨by rfl, ?hyt5⟩) (by assumption) ?_; (case hyt5 => ((intro W hSW; (try dsimp only at hSW); obtain ⟨s1, s2, s3, s4, s5, s6, s7, s8⟩ := hSW; go_simp); (all_goals with_reducible rfl))); (try simp only [Act.put, List.setIfInBounds_toArray, List.set_cons_zero, List.set_cons_succ])
            refine wpAnyH_take (i := 6) (oi := ⟨some 93, _, _, _, _, _⟩) (v := ?_) rfl (by kernel_rfl) (by kernel_rfl) (by kernel_rfl) (fun _ _ _ h => h) (Or.inl ⟨by rfl, ?hyt6⟩) (by assumption) ?_; (case hyt6 => ((intro W hSW; (try dsimp only at hSW); obtain ⟨s1, s2, s3, s4, s5, s6, s7, s8⟩ := hSW; go_simp); (all_goals with_reducible rfl))); (try simp only [Act.put, List.setIfInBounds_toArray, List.set_cons_zero, List.set_cons_succ])
            refine wpAnyH_take (i := 7) (oi := ⟨some 94, _, _, _, _, _⟩) (v := ?_) rfl (by kernel_rfl) (by kernel_rfl) (by kernel_rfl) (fun _ _ _ h => h) (Or.inl ⟨by rfl, ?hyt7⟩) (by assumption) ?_; (case hyt7 => ((intro W hSW; (try dsimp only at hSW); obtain ⟨s1, s2, s3, s4, s5, s6, s7, s8⟩ := hSW; go_simp); (all_goals with_reducible rfl))); (try simp only [Act.put, List.setIfInBounds_toArray, List.set_cons_zero, List.set_cons_succ])
            refine wpAnyH_take (i := 8) (oi := ⟨some 95, _, _, _, _, _⟩) (v := ?_) rfl (by kernel_rfl) (by kernel_rfl) (by kernel_rfl) (fun _ _ _ h => h) (Or.inl ⟨by rfl, ?hyt8⟩) (by assumption) ?_; (case hyt8 => ((intro W hSW; (try dsimp only at hSW); obtain ⟨s1, s2, s3, s4, s5, s6, s7, s8⟩ := hSW; go_simp); (all_goals with_reducible rfl))); (try simp only [Act.put, List.setIfInBounds_toArray, List.set_cons_zero, List.set_cons_succ])
            refine wpAnyH_take (i := 9) (oi := ⟨some 96, _, _, _, _, _⟩) (v := ?_) rfl (by kernel_rfl) (by kernel_rfl) (by kernel_rfl) (fun _ _ _ h => h) (Or.inl ⟨by rfl, ?hyt9⟩) (by assumption) ?_; (case hyt9 => ((intro W hSW; (try dsimp only at hSW); obtain ⟨s1, s2, s3, s4, s5, s6, s7, s8⟩ := hSW; go_simp); (all_goals with_reducible rfl))); (try simp only [Act.put, List.setIfInBounds_toArray, List.set_cons_zero, List.set_cons_succ])
            refine wpAnyH_take (i := 10) (oi := ⟨some 97, _, _, _, _, _⟩) (v := ?_) rfl (by kernel_rfl) (by kernel_rfl) (by kernel_rfl) (fun _ _ _ h => h) (Or.inl ⟨by rfl, ?hyt10⟩) (by assumption) ?_; (case hyt10 => ((intro W hSW; (try dsimp only at hSW); obtain ⟨s1, s2, s3, s4, s5, s6, s7, s8⟩ := hSW; go_simp); (all_goals with_reducible rfl))); (try simp only [Act.put, List.setIfInBounds_toArray, List.set_cons_zero, List.set_cons_succ])
            refine wpAnyH_take (i := 11) (oi := ⟨some 98, _, _, _, _, _⟩) (v := ?_) rfl (by kernel_rfl) (by kernel_rfl) (by kernel_rfl) (fun _ _ _ h => h) (Or.inl ⟨by rfl, ?hyt11⟩) (by assumption) ?_; (case hyt11 => ((intro W hSW; (try dsimp only at hSW); obtain ⟨s1, s2, s3, s4, s5, s6, s7, s8⟩ := hSW; go_simp); (all_goals with_reducible rfl))); (try simp only [Act.put, List.setIfInBounds_toArray, List.set_cons_zero, List.set_cons_succ])
            refine wpAnyH_take (i := 12) (oi := ⟨some 99, _, _, _, _, _⟩) (v := ?_) rfl (by kernel_rfl) (by kernel_rfl) (by kernel_rfl) (fun _ _ _ h => h) (Or.inl ⟨by rfl, ?hyt12⟩) (by assumption) ?_; (case hyt12 => ((intro W hSW; (try dsimp only at hSW); obtain ⟨s1, s2, s3, s4, s5, s6, s7, s8⟩ := hSW; go_simp); (all_goals with_reducible rfl))); (try simp only [Act.put, List.setIfInBounds_toArray, List.set_cons_zero, List.set_cons_succ])
            refine wpAnyH_take (i := 13) (oi := ⟨some 100, _, _, _, _, _⟩) (v := ?_) rfl (by kernel_rfl) (by kernel_rfl) (by kernel_rfl) (fun _ _ _ h => h) (Or.inl ⟨by rfl, ?hyt13⟩) (by assumption) ?_; (case hyt13 => ((intro W hSW; (try dsimp only at hSW); obtain ⟨s1, s2, s3, s4, s5, s6, s7, s8⟩ := hSW; go_simp); (all_goals with_reducible rfl))); (try simp only [Act.put, List.setIfInBounds_toArray, List.set_cons_zero, List.set_cons_succ])
            refine wpAnyH_take (i := 14) (oi := ⟨some 101, _, _, _, _, _⟩) (v := ?_) rfl (by kernel_rfl) (by kernel_rfl) (by kernel_rfl) (fun _ _ _ h => h) (Or.inl ⟨by rfl, ?hyt14⟩) (by assumption) ?_; (case hyt14 => ((intro W hSW; (try dsimp only at hSW); obtain ⟨s1, s2, s3, s4, s5, s6, s7, s8⟩ := hSW; go_simp); (all_goals with_reducible rfl))); (try simp only [Act.put, List.setIfInBounds_toArray, List.set_cons_zero, List.set_cons_succ])
            refine wpAnyH_take (i := 15) (oi := ⟨some 102, _, _, _, _, _⟩) (v := ?_) rfl (by kernel_rfl) (by kernel_rfl) (by kernel_rfl) (fun _ _ _ h => h) (Or.inl ⟨by rfl, ?hyt15⟩) (by assumption) ?_; (case hyt15 => ((intro W hSW; (try dsimp only at hSW); obtain ⟨s1, s2, s3, s4, s5, s6, s7, s8⟩ := hSW; go_simp); (all_goals with_reducible rfl))); (try simp only [Act.put, List.setIfInBounds_toArray, List.set_cons_zero, List.set_cons_succ])
            refine wpAnyH_take (i := 16) (oi := ⟨some 103, _, _, _, _, _⟩) (v := ?_) rfl (by kernel_rfl) (by kernel_rfl) (by kernel_rfl) (fun _ _ _ h => h) (Or.inl ⟨by rfl, ?hyt16⟩) (by assumption) ?_; (case hyt16 => ((intro W hSW; (try dsimp only at hSW); obtain ⟨s1, s2, s3, s4, s5, s6, s7, s8⟩ := hSW; go_simp); (all_goals with_reducible rfl))); (try simp only [Act.put, List.setIfInBounds_toArray, List.set_cons_zero, List.set_cons_succ])
            refine wpAnyH_take (i := 17) (oi := ⟨some 104, _, _, _, _, _⟩) (v := ?_) rfl (by kernel_rfl) (by kernel_rfl) (by kernel_rfl) (fun _ _ _ h => h) (Or.inl ⟨by rfl, ?hyt17⟩) (by assumption) ?_; (case hyt17 => ((intro W hSW; (try dsimp only at hSW); obtain ⟨s1, s2, s3, s4, s5, s6, s7, s8⟩ := hSW; go_simp); (all_goals with_reducible rfl))); (try simp only [Act.put, List.setIfInBounds_toArray, List.set_cons_zero, List.set_cons_succ])
            refine wpAnyH_take (i := 18) (oi := ⟨some 105, _, _, _, _, _⟩) (v := ?_) rfl (by kernel_rfl) (by kernel_rfl) (by kernel_rfl) (fun _ _ _ h => h) (Or.inl ⟨by rfl, ?hyt18⟩) (by assumption) ?_; (case hyt18 => ((intro W hSW; (try dsimp only at hSW); obtain ⟨s1, s2, s3, s4, s5, s6, s7, s8⟩ := hSW; go_simp); (all_goals with_reducible rfl))); (try simp only [Act.put, List.setIfInBounds_toArray, List.set_cons_zero, List.set_cons_succ])
            refine wpAnyH_take (i := 19) (oi := ⟨some 106, _, _, _, _, _⟩) (v := ?_) rfl (by kernel_rfl) (by kernel_rfl) (by kernel_rfl) (fun _ _ _ h => h) (Or.inl ⟨by rfl, ?hyt19⟩) (by assumption) ?_; (case hyt19 => ((intro W hSW; (try dsimp only at hSW); obtain ⟨s1, s2, s3, s4, s5, s6, s7, s8⟩ := hSW; go_simp); (all_goals with_reducible rfl))); (try simp only [Act.put, List.setIfInBounds_toArray, List.set_cons_zero, List.set_cons_succ])
            refine wpAnyH_take (i := 20) (oi := ⟨some 107, _, _, _, _, _⟩) (v := ?_) rfl (by kernel_rfl) (by kernel_rfl) (by kernel_rfl) (fun _ _ _ h => h) (Or.inl ⟨by rfl, ?hyt20⟩) (by assumption) ?_; (case hyt20 => ((intro W hSW; (try dsimp only at hSW); obtain ⟨s1, s2, s3, s4, s5, s6, s7, s8⟩ := hSW; go_simp); (all_goals with_reducible rfl))); (try simp only [Act.put, List.setIfInBounds_toArray, List.set_cons_zero, List.set_cons_succ])
            refine wpAnyH_take (i := 21) (oi := ⟨some 108, _, _, _, _, _⟩) (v := ?_) rfl (by kernel_rfl) (by kernel_rfl) (by kernel_rfl) (fun _ _ _ h => h) (Or.inl ⟨by rfl, ?hyt21⟩) (by assumption) ?_; (case hyt21 => ((intro W hSW; (try dsimp only at hSW); obtain ⟨s1, s2, s3, s4, s5, s6, s7, s8⟩ := hSW; go_simp); (all_goals with_reducible rfl))); (try simp only [Act.put, List.setIfInBounds_toArray, List.set_cons_zero, List.set_cons_succ])
            refine wpAnyH_take (i := 22) (oi := ⟨some 109, _, _, _, _, _⟩) (v := ?_) rfl (by kernel_rfl) (by kernel_rfl) (by kernel_rfl) (fun _ _ _ h => h) (Or.inl ⟨by rfl, ?hyt22⟩) (by assumption) ?_; (case hyt22 => ((intro W hSW; (try dsimp only at hSW); obtain ⟨s1, s2, s3, s4, s5, s6, s7, s8⟩ := hSW; go_simp); (all_goals with_reducible rfl))); (try simp only [Act.put, List.setIfInBounds_toArray, List.set_cons_zero, List.set_cons_succ])
            refine wpAnyH_take (i := 23) (oi := ⟨some 110, _, _, _, _, _⟩) (v := ?_) rfl (by kernel_rfl) (by kernel_rfl) (by kernel_rfl) (fun _ _ _ h => h) (Or.inl ⟨by rfl, ?hyt23⟩) (by assumption) ?_; (case hyt23 => ((intro W hSW; (try dsimp only at hSW); obtain ⟨s1, s2, s3, s4, s5, s6, s7, s8⟩ := hSW; go_simp); (all_goals with_reducible rfl))); (try simp only [Act.put, List.setIfInBounds_toArray, List.set_cons_zero, List.set_cons_succ])
            refine wpAnyH_take (i := 24) (oi := ⟨some 111, _, _, _, _, _⟩) (v := ?_) rfl (by kernel_rfl) (by kernel_rfl) (by kernel_rfl) (fun _ _ _ h => h) (Or.inl ⟨by rfl, ?hyt24⟩) (by assumption) ?_; (case hyt24 => ((intro W hSW; (try dsimp only at hSW); obtain ⟨s1, s2, s3, s4, s5, s6, s7, s8⟩ := hSW; go_simp); (all_goals with_reducible rfl))); (try simp only [Act.put, List.setIfInBounds_toArray, List.set_cons_zero, List.set_cons_succ])
            refine wpAnyH_take (i := 25) (oi := ⟨some 112, _, _, _, _, _⟩) (v := ?_) rfl (by kernel_rfl) (by kernel_rfl) (by kernel_rfl) (fun _ _ _ h => h) (Or.inl ⟨by rfl, ?hyt25⟩) (by assumption) ?_; (case hyt25 => ((intro W hSW; (try dsimp only at hSW); obtain ⟨s1, s2, s3, s4, s5, s6, s7, s8⟩ := hSW; go_simp); (all_goals with_reducible rfl))); (try simp only [Act.put, List.setIfInBounds_toArray, List.set_cons_zero, List.set_cons_succ])
            refine wpAnyH_take (i := 26) (oi := ⟨some 113, _, _, _, _, _⟩) (v := ?_) rfl (by kernel_rfl) (by kernel_rfl) (by kernel_rfl) (fun _ _ _ h => h) (Or.inl ⟨by rfl, ?hyt26⟩) (by assumption) ?_; (case hyt26 => ((intro W hSW; (try dsimp only at hSW); obtain ⟨s1, s2, s3, s4, s5, s6, s7, s8⟩ := hSW; go_simp); (all_goals with_reducible rfl))); (try simp only [Act.put, List.setIfInBounds_toArray, List.set_cons_zero, List.set_cons_succ])
            refine wpAnyH_take (i := 27) (oi := ⟨some 114, _, _, _, _, _⟩) (v := ?_) rfl (by kernel_rfl) (by kernel_rfl) (by kernel_rfl) (fun _ _ _ h => h) (Or.inl ⟨by rfl, ?hyt27⟩) (by assumption) ?_; (case hyt27 => ((intro W hSW; (try dsimp only at hSW); obtain ⟨s1, s2, s3, s4, s5, s6, s7, s8⟩ := hSW; go_simp); (all_goals with_reducible rfl))); (try simp only [Act.put, List.setIfInBounds_toArray, List.set_cons_zero, List.set_cons_succ])
            refine wpAnyH_take (i := 28) (oi := ⟨some 115, _, _, _, _, _⟩) (v := ?_) rfl (by kernel_rfl) (by kernel_rfl) (by kernel_rfl) (fun _ _ _ h => h) (Or.inl ⟨by rfl, ?hyt28⟩) (by assumption) ?_; (case hyt28 => ((intro W hSW; (try dsimp only at hSW); obtain ⟨s1, s2, s3, s4, s5, s6, s7, s8⟩ := hSW; go_simp); (all_goals with_reducible rfl))); (try simp only [Act.put, List.setIfInBounds_toArray, List.set_cons_zero, List.set_cons_succ])
            refine wpAnyH_take (i := 29) (oi := ⟨some 116, _, _, _, _, _⟩) (v := ?_) rfl (by kernel_rfl) (by kernel_rfl) (by kernel_rfl) (fun _ _ _ h => h) (Or.inl ⟨by rfl, ?hyt29⟩) (by assumption) ?_; (case hyt29 => ((intro W hSW; (try dsimp only at hSW); obtain ⟨s1, s2, s3, s4, s5, s6, s7, s8⟩ := hSW; go_simp); (all_goals with_reducible rfl))); (try simp only [Act.put, List.setIfInBounds_toArray, List.set_cons_zero, List.set_cons_succ])
            refine wpAnyH_take (i := 30) (oi := ⟨some 117, _, _, _, _, _⟩) (v := ?_) rfl (by kernel_rfl) (by kernel_rfl) (by kernel_rfl) (fun _ _ _ h => h) (Or.inl ⟨by rfl, ?hyt30⟩) (by assumption) ?_; (case hyt30 => ((intro W hSW; (try dsimp only at hSW); obtain ⟨s1, s2, s3, s4, s5, s6, s7, s8⟩ := hSW; go_simp); (all_goals with_reducible rfl))); (try simp only [Act.put, List.setIfInBounds_toArray, List.set_cons_zero, List.set_cons_succ])
            refine wpAnyH_take (i := 31) (oi := ⟨some 118, _, _, _, _, _⟩) (v := ?_) rfl (by kernel_rfl) (by kernel_rfl) (by kernel_rfl) (fun _ _ _ h => h) (Or.inl ⟨by rfl, ?hyt31⟩) (by assumption) ?_; (case hyt31 => ((intro W hSW; (try dsimp only at hSW); obtain ⟨s1, s2, s3, s4, s5, s6, s7, s8⟩ := hSW; go_simp); (all_goals with_reducible rfl))); (try simp only [Act.put, List.setIfInBounds_toArray, List.set_cons_zero, List.set_cons_succ])
            refine wpAnyH_take (i := 32) (oi := ⟨some 119, _, _, _, _, _⟩) (v := ?_) rfl (by kernel_rfl) (by kernel_rfl) (by kernel_rfl) (fun _ _ _ h => h) (Or.inl ⟨by rfl, ?hyt32⟩) (by assumption) ?_; (case hyt32 => ((intro W hSW; (try dsimp only at hSW); obtain ⟨s1, s2, s3, s4, s5, s6, s7, s8⟩ := hSW; go_simp); (all_goals with_reducible rfl))); (try simp only [Act.put, List.setIfInBounds_toArray, List.set_cons_zero, List.set_cons_succ])
            refine wpAnyH_take (i := 33) (oi := ⟨some 120, _, _, _, _, _⟩) (v := ?_) rfl (by kernel_rfl) (by kernel_rfl) (by kernel_rfl) (fun _ _ _ h => h) (Or.inl ⟨by rfl, ?hyt33⟩) (by assumption) ?_; (case hyt33 => ((intro W hSW; (try dsimp only at hSW); obtain ⟨s1, s2, s3, s4, s5, s6, s7, s8⟩ := hSW; go_simp); (all_goals with_reducible rfl))); (try simp only [Act.put, List.setIfInBounds_toArray, List.set_cons_zero, List.set_cons_succ])
            refine wpAnyH_done (by kernel_rfl) ?_ _
            refine NoPanic.normal ?_
            clear hHeld E XN
            go_wp2_with fail
            go_roundw
            case rel => exact ⟨j + 1, by go_num, by omega, Sd2, Lib.hid (hH.out.turn (T := fun _ => False) (Turn.ofBelow hfb.out.drew rfl) (fun _ _ h => h.elim) (fun k h => .inl h)), Lib.hid (by rw [show max 1 (j + 1) = max 1 j by omega]; exact hD.out.below hfb.out.drew), Lib.hid (Turn.heap (S := fun _ => False) (Turn.ofBelow hfb.out.drew rfl) hdef.out (fun h => h)), hSD⟩
            case measure => simp [intOf] <;> omega
          · have hjk1 : ¬ ((j : Int) < ((1 : Nat) : Int)) := by omega
            have hdj : its.drop (max 1 j) = its.getD j It.no :: its.drop (j + 1) := by
              rw [show max 1 j = j by omega, List.drop_eq_getElem_cons hlt]; simp [List.getD, hlt]
            obtain ⟨br, orr, rfl, hlr, hcr⟩ : ∃ br orr, rq = some ⟨br, orr, none⟩ ∧ br < wr.heap.size ∧ ∀ i, i < its.length → wr.cell? ⟨br, orr + i * 3, none⟩ = some (.int .i64 ((its.getD i It.no).skip : Int)) ∧ wr.cell? ⟨br, orr + i * 3 + 1, none⟩ = some (.int .u8 ((its.getD i It.no).kind.toNat : Int)) ∧ wr.cell? ⟨br, orr + i * 3 + 2, none⟩ = some (.string ⟨(its.getD i It.no).body.toArray⟩) := by
              rcases hH.out.row.at_ with h0 | ⟨b', off, e, h1, h2⟩
              · omega
              · exact ⟨b', off, e, h1, h2⟩
            obtain ⟨i0, i1, i2⟩ := hcr j hlt
            have hbne : ∀ k, Sd2 k → br ≠ k := fun k hk => (hH.out.off k hk).2.2.2.2 _ rfl
            rw [hdj] at hD
            generalize its.getD j It.no = x at *
            have A1 : Below wr.heap.size wr (wr.alloc (.cells #[.int .i64 0, .int .u8 0, .slice none 0 0] 39)) := (Below.refl _ _).alloc (Nat.le_refl _) _
            have hlt2 := hD.out.lt
            obtain ⟨hD1, hB1⟩ := Dec.apart hD.out hD.out.bod (Turn.ofBelow (S := fun _ => False) A1 rfl) (fun _ _ h => h.elim) (fun _ _ h => h)
            have X1 := Lib.hid (Box.new wr [.int .i64 0, .int .u8 0, .slice none 0 0] _ 39 rfl wr.heap.size rfl)
            have hH1 := Lib.hid (hH.out.turn (S' := fun k => Sd2 k ∨ k = wr.heap.size) (T := fun _ => False) (Turn.ofBelow A1 rfl) (fun _ _ h => h.elim) (fun k h => h.elim .inl (fun e => .inr (by omega))))
            have hdef2 := hdef
            have hdf1 := Lib.hid (Turn.heap (S := fun _ => False) (Turn.ofBelow A1 rfl) hdef.out (fun h => h))
            have HN := next_any g Sd2 _ _ hD1
            simp only [List.getD_cons_zero, List.length_cons, Nat.zero_lt_succ, decide_true] at HN
            replace HN := Lib.hid HN
            have hlen1 : (wr.alloc (.cells #[.int .i64 0, .int .u8 0, .slice none 0 0] 39)).heap.size = wr.heap.size + 1 := by simp
            replace hlen1 := Lib.hid hlen1
            replace hD1 := Lib.hid hD1
            replace hB1 := Lib.hid hB1
            replace hlt2 := Lib.hid hlt2
            replace hbne := Lib.hid hbne
            have hi0 := Lib.hid i0
            have hi1 := Lib.hid i1
            have hi2 := Lib.hid i2
            have hr2 := Lib.hid r2
            clear hdj hcr hD hH hdef i0 i1 i2 htk
            go_wp2_with fail
            refine (HN.out).mono ?_; rintro e w8 ⟨qb, nb, mb, rfl, hR8, hq8, ⟨S8, hD8, hT8, hS8⟩, hE8⟩
            have X8 := X1.out.turn hT8 (fun hs => by have := hlt2.out _ hs; omega)
            obtain ⟨_, hqx⟩ := hE8 _ hB1.out
            have hH8 := hH1.out.turn (S' := fun k => S8 k ∨ k = wr.heap.size) hT8 (fun _ _ h => .inl h) (fun k h => h.elim (fun h => (hS8 k h).elim (fun h => .inl (.inl h)) .inr) (fun h => .inl (.inr h)))
            have a0 := X8.cell 0 _ rfl
            have a1 := X8.cell 1 _ rfl
            have a2 := X8.cell 2 _ rfl
            have e0 := X8.free 0 (by simp)
            have e1 := X8.free 1 (by simp)
            have e2 := X8.free 2 (by simp)
            have xlt := X8.lt
            have rlt8 := hH8.ref.lt
            have hz1 := hlen1.out
            have zbr : br < (wr.alloc (.cells #[.int .i64 0, .int .u8 0, .slice none 0 0] 39)).heap.size := by rw [hlen1.out]; omega
            have hbn : ¬ Sd2 br := fun hs => hbne.out _ hs rfl
            have i0 := ((hT8.cell (p := ⟨br, orr + j * 3, none⟩) zbr hbn).trans (A1.cell (p := ⟨br, orr + j * 3, none⟩) hlr)).trans hi0.out
            have i1 := ((hT8.cell (p := ⟨br, orr + j * 3 + 1, none⟩) zbr hbn).trans (A1.cell (p := ⟨br, orr + j * 3 + 1, none⟩) hlr)).trans hi1.out
            have i2 := ((hT8.cell (p := ⟨br, orr + j * 3 + 2, none⟩) zbr hbn).trans (A1.cell (p := ⟨br, orr + j * 3 + 2, none⟩) hlr)).trans hi2.out
            have brlt := Nat.lt_of_lt_of_le zbr hT8.size
            have hrx := hH8.le
            have TX := turn_set3 w8 wr.heap.size (.int .i64 (x.skip : Int)) (.int .u8 (x.kind.toNat : Int)) (.slice qb nb mb) (.cells #[.int .i64 (x.skip : Int), .int .u8 (x.kind.toNat : Int), .slice qb nb mb] 39)
            have XY : Box ((((w8.setCell ⟨wr.heap.size, 0, none⟩ (.int .i64 (x.skip : Int))).setCell ⟨wr.heap.size, 1, none⟩ (.int .u8 (x.kind.toNat : Int))).setCell ⟨wr.heap.size, 2, none⟩ (.slice qb nb mb)).alloc (.cells #[.int .i64 (x.skip : Int), .int .u8 (x.kind.toNat : Int), .slice qb nb mb] 39)) wr.heap.size [.int .i64 (x.skip : Int), .int .u8 (x.kind.toNat : Int), .slice qb nb mb] := (((X8.set 0 (.int .i64 (x.skip : Int)) (by simp)).set 1 (.int .u8 (x.kind.toNat : Int)) (by simp)).set 2 (.slice qb nb mb) (by simp)).below ((Below.refl _ _).alloc (Nat.le_refl _) _)
            have hHY := hH8.ref.turn TX (by omega)
            have hRY := hR8.turn TX (fun y hy e => by have := hqx y hy; omega)
            have hrY := hH8.ref.cell 2 _ rfl
            have hzX : wr.heap.size < w8.heap.size := X8.lt
            have brn : ¬ (br = wr.heap.size) := by omega
            have E : ∀ W, Below ((((w8.setCell ⟨wr.heap.size, 0, none⟩ (.int .i64 (x.skip : Int))).setCell ⟨wr.heap.size, 1, none⟩ (.int .u8 (x.kind.toNat : Int))).setCell ⟨wr.heap.size, 2, none⟩ (.slice qb nb mb)).alloc (.cells #[.int .i64 (x.skip : Int), .int .u8 (x.kind.toNat : Int), .slice qb nb mb] 39)).heap.size ((((w8.setCell ⟨wr.heap.size, 0, none⟩ (.int .i64 (x.skip : Int))).setCell ⟨wr.heap.size, 1, none⟩ (.int .u8 (x.kind.toNat : Int))).setCell ⟨wr.heap.size, 2, none⟩ (.slice qb nb mb)).alloc (.cells #[.int .i64 (x.skip : Int), .int .u8 (x.kind.toNat : Int), .slice qb nb mb] 39)) W → (fun W => W.cell? ⟨wr.heap.size, 0, none⟩ = some (.int .i64 (x.skip : Int)) ∧ W.cell? ⟨wr.heap.size, 1, none⟩ = some (.int .u8 (x.kind.toNat : Int)) ∧ W.cell? ⟨wr.heap.size, 2, none⟩ = some (.slice qb nb mb) ∧ W.cell? ⟨R, 2, none⟩ = some (.slice (some ⟨br, orr, none⟩) its.length rc) ∧ W.cell? ⟨br, orr + j * 3, none⟩ = some (.int .i64 (x.skip : Int)) ∧ W.cell? ⟨br, orr + j * 3 + 1, none⟩ = some (.int .u8 (x.kind.toNat : Int)) ∧ W.cell? ⟨br, orr + j * 3 + 2, none⟩ = some (.string ⟨x.body.toArray⟩) ∧ (convert 22 9 (.slice qb nb mb)).run Tryd.prog W = .ok (.string ⟨x.body.toArray⟩) W) W := fun W h => ⟨(XY.below h).cell 0 _ rfl, (XY.below h).cell 1 _ rfl, (XY.below h).cell 2 _ rfl, (hHY.below h).cell 2 _ rfl, ((h.cell (p := ⟨br, orr + j * 3, none⟩) (Nat.lt_of_lt_of_le brlt TX.size)).trans (TX.cell (p := ⟨br, orr + j * 3, none⟩) brlt brn)).trans i0, ((h.cell (p := ⟨br, orr + j * 3 + 1, none⟩) (Nat.lt_of_lt_of_le brlt TX.size)).trans (TX.cell (p := ⟨br, orr + j * 3 + 1, none⟩) brlt brn)).trans i1, ((h.cell (p := ⟨br, orr + j * 3 + 2, none⟩) (Nat.lt_of_lt_of_le brlt TX.size)).trans (TX.cell (p := ⟨br, orr + j * 3 + 2, none⟩) brlt brn)).trans i2, (hRY.below h).conv 22 9 5 Tryd.underlying22 Tryd.underlying5 Tryd.underlying9 (P := Tryd.prog)⟩
            replace E := Lib.hid E
            have hdf8 := Turn.heap hT8 hdf1.out hSD.out
            have hDlt := (Array.getElem?_eq_some_iff.1 hdef2.out).1
            have hd9 := Turn.heap TX hdf8 (by omega)
            have hD9 := (Dec.apart hD8 (hE8 _ hB1.out).1 TX (fun k hk e hs => by
              rcases hS8 k hs with h | h
              · have := hlt2.out _ h; omega
              · omega) (fun k hk e => by omega)).1
            have hH9 := Lib.hid (hH8.turn (S' := S8) (T := fun k => k = wr.heap.size) TX.drew (fun k _ e => .inr e) (fun k h => .inl (.inl h)))
            have hSD8 : ¬ S8 D := fun hs => by
              rcases hS8 D hs with h | h
              · exact hSD.out h
              · omega
            replace hHY := Lib.hid hHY
            replace hRY := Lib.hid hRY
            replace hR8 := Lib.hid hR8
            replace hq8 := Lib.hid hq8
            replace hD8 := Lib.hid hD8
            replace hT8 := Lib.hid hT8
            replace hS8 := Lib.hid hS8
            replace hH8 := Lib.hid hH8
            replace TX := Lib.hid TX
            replace XY := Lib.hid XY
            replace hd9 := Lib.hid hd9
            replace hD9 := Lib.hid hD9
            replace hdf8 := Lib.hid hdf8
            replace hSD8 := Lib.hid hSD8
            clear hE8 X8 hqx i0 i1 i2 hrY
            go_wp2_with fail
            refine wp_region_noPanic ?_
            refine wp_region_held_drew (S := (fun W => W.cell? ⟨wr.heap.size, 0, none⟩ = some (.int .i64 (x.skip : Int)) ∧ W.cell? ⟨wr.heap.size, 1, none⟩ = some (.int .u8 (x.kind.toNat : Int)) ∧ W.cell? ⟨wr.heap.size, 2, none⟩ = some (.slice qb nb mb) ∧ W.cell? ⟨R, 2, none⟩ = some (.slice (some ⟨br, orr, none⟩) its.length rc) ∧ W.cell? ⟨br, orr + j * 3, none⟩ = some (.int .i64 (x.skip : Int)) ∧ W.cell? ⟨br, orr + j * 3 + 1, none⟩ = some (.int .u8 (x.kind.toNat : Int)) ∧ W.cell? ⟨br, orr + j * 3 + 2, none⟩ = some (.string ⟨x.body.toArray⟩) ∧ (convert 22 9 (.slice qb nb mb)).run Tryd.prog W = .ok (.string ⟨x.body.toArray⟩) W)) (by kernel_rfl) (E.out _ (Below.refl _ _).drew) (fun hHeld => ?_)
            refine wpAnyH_take (i := 0) (oi := ⟨some 87, _, _, _, _, _⟩) (v := ?_) rfl (by kernel_rfl) (by kernel_rfl) (by kernel_rfl) (fun _ _ _ h => h) (Or.inl ⟨by rfl, ?hyt0⟩) (by assumption) ?_; (case hyt0 => ((intro W hSW; (try dsimp only at hSW); obtain ⟨s1, s2, s3, s4, s5, s6, s7, s8⟩ := hSW; go_simp); (all_goals with_reducible rfl))); (try simp only [Act.put, List.setIfInBounds_toArray, List.set_cons_zero, List.set_cons_succ])
            refine wpAnyH_take (i := 1) (oi := ⟨some 88, _, _, _, _, _⟩) (v := ?_) rfl (by kernel_rfl) (by kernel_rfl) (by kernel_rfl) (fun _ _ _ h => h) (Or.inl ⟨by rfl, ?hyt1⟩) (by assumption) ?_; (case hyt1 => ((intro W hSW; (try dsimp only at hSW); obtain ⟨s1, s2, s3, s4, s5, s6, s7, s8⟩ := hSW; go_simp); (all_goals with_reducible rfl))); (try simp only [Act.put, List.setIfInBounds_toArray, List.set_cons_zero, List.set_cons_succ])
            refine wpAnyH_take (i := 2) (oi := ⟨some 89, _, _, _, _, _⟩) (v := ?_) rfl (by kernel_rfl) (by kernel_rfl) (by kernel_rfl) (fun _ _ _ h => h) (Or.inl ⟨by rfl, ?hyt2⟩) (by assumption) ?_; (case hyt2 => ((intro W hSW; (try dsimp only at hSW); obtain ⟨s1, s2, s3, s4, s5, s6, s7, s8⟩ := hSW; go_simp); (all_goals with_reducible rfl))); (try simp only [Act.put, List.setIfInBounds_toArray, List.set_cons_zero, List.set_cons_succ])
            refine wpAnyH_take (i := 3) (oi := ⟨some 90, _, _, _, _, _⟩) (v := ?_) rfl (by kernel_rfl) (by kernel_rfl) (by kernel_rfl) (fun _ _ _ h => h) (Or.inl ⟨by rfl, ?hyt3⟩) (by assumption) ?_; (case hyt3 => ((intro W hSW; (try dsimp only at hSW); obtain ⟨s1, s2, s3, s4, s5, s6, s7, s8⟩ := hSW; go_simp); (all_goals with_reducible rfl))); (try simp only [Act.put, List.setIfInBounds_toArray, List.set_cons_zero, List.set_cons_succ])
            refine wpAnyH_take (i := 4) (oi := ⟨some 91, _, _, _, _, _⟩) (v := ?_) rfl (by kernel_rfl) (by kernel_rfl) (by kernel_rfl) (fun _ _ _ h => h) (Or.inl ⟨by rfl, ?hyt4⟩) (by assumption) ?_; (case hyt4 => ((intro W hSW; (try dsimp only at hSW); obtain ⟨s1, s2, s3, s4, s5, s6, s7, s8⟩ := hSW; go_simp); (all_goals with_reducible rfl))); (try simp only [Act.put, List.setIfInBounds_toArray, List.set_cons_zero, List.set_cons_succ])
            refine wpAnyH_take (i := 5) (oi := ⟨some 92, _, _, _, _, _⟩) (v := ?_) rfl (by kernel_rfl) (by kernel_rfl) (by kernel_rfl) (fun _ _ _ h => h) (Or.inl ⟨by rfl, ?hyt5⟩) (by assumption) ?_; (case hyt5 => ((intro W hSW; (try dsimp only at hSW); obtain ⟨s1, s2, s3, s4, s5, s6, s7, s8⟩ := hSW; go_simp); (all_goals with_reducible rfl))); (try simp only [Act.put, List.setIfInBounds_toArray, List.set_cons_zero, List.set_cons_succ])
            refine wpAnyH_take (i := 6) (oi := ⟨some 93, _, _, _, _, _⟩) (v := ?_) rfl (by kernel_rfl) (by kernel_rfl) (by kernel_rfl) (fun _ _ _ h => h) (Or.inl ⟨by rfl, ?hyt6⟩) (by assumption) ?_; (case hyt6 => ((intro W hSW; (try dsimp only at hSW); obtain ⟨s1, s2, s3, s4, s5, s6, s7, s8⟩ := hSW; go_simp); (all_goals with_reducible rfl))); (try simp only [Act.put, List.setIfInBounds_toArray, List.set_cons_zero, List.set_cons_succ])
            refine wpAnyH_take (i := 7) (oi := ⟨some 94, _, _, _, _, _⟩) (v := ?_) rfl (by kernel_rfl) (by kernel_rfl) (by kernel_rfl) (fun _ _ _ h => h) (Or.inl ⟨by rfl, ?hyt7⟩) (by assumption) ?_; (case hyt7 => ((intro W hSW; (try dsimp only at hSW); obtain ⟨s1, s2, s3, s4, s5, s6, s7, s8⟩ := hSW; go_simp); (all_goals with_reducible rfl))); (try simp only [Act.put, List.setIfInBounds_toArray, List.set_cons_zero, List.set_cons_succ])
            refine wpAnyH_take (i := 8) (oi := ⟨some 95, _, _, _, _, _⟩) (v := ?_) rfl (by kernel_rfl) (by kernel_rfl) (by kernel_rfl) (fun _ _ _ h => h) (Or.inl ⟨by rfl, ?hyt8⟩) (by assumption) ?_; (case hyt8 => ((intro W hSW; (try dsimp only at hSW); obtain ⟨s1, s2, s3, s4, s5, s6, s7, s8⟩ := hSW; go_simp); (all_goals with_reducible rfl))); (try simp only [Act.put, List.setIfInBounds_toArray, List.set_cons_zero, List.set_cons_succ])
            refine wpAnyH_take (i := 9) (oi := ⟨some 96, _, _, _, _, _⟩) (v := ?_) rfl (by kernel_rfl) (by kernel_rfl) (by kernel_rfl) (fun _ _ _ h => h) (Or.inl ⟨by rfl, ?hyt9⟩) (by assumption) ?_; (case hyt9 => ((intro W hSW; (try dsimp only at hSW); obtain ⟨s1, s2, s3, s4, s5, s6, s7, s8⟩ := hSW; go_simp); (all_goals with_reducible rfl))); (try simp only [Act.put, List.setIfInBounds_toArray, List.set_cons_zero, List.set_cons_succ])
            refine wpAnyH_take (i := 10) (oi := ⟨some 97, _, _, _, _, _⟩) (v := ?_) rfl (by kernel_rfl) (by kernel_rfl) (by kernel_rfl) (fun _ _ _ h => h) (Or.inl ⟨by rfl, ?hyt10⟩) (by assumption) ?_; (case hyt10 => ((intro W hSW; (try dsimp only at hSW); obtain ⟨s1, s2, s3, s4, s5, s6, s7, s8⟩ := hSW; go_simp); (all_goals with_reducible rfl))); (try simp only [Act.put, List.setIfInBounds_toArray, List.set_cons_zero, List.set_cons_succ])
            refine wpAnyH_take (i := 11) (oi := ⟨some 98, _, _, _, _, _⟩) (v := ?_) rfl (by kernel_rfl) (by kernel_rfl) (by kernel_rfl) (fun _ _ _ h => h) (Or.inl ⟨by rfl, ?hyt11⟩) (by assumption) ?_; (case hyt11 => ((intro W hSW; (try dsimp only at hSW); obtain ⟨s1, s2, s3, s4, s5, s6, s7, s8⟩ := hSW; go_simp); (all_goals with_reducible rfl))); (try simp only [Act.put, List.setIfInBounds_toArray, List.set_cons_zero, List.set_cons_succ])
            refine wpAnyH_take (i := 12) (oi := ⟨some 99, _, _, _, _, _⟩) (v := ?_) rfl (by kernel_rfl) (by kernel_rfl) (by kernel_rfl) (fun _ _ _ h => h) (Or.inl ⟨by rfl, ?hyt12⟩) (by assumption) ?_; (case hyt12 => ((intro W hSW; (try dsimp only at hSW); obtain ⟨s1, s2, s3, s4, s5, s6, s7, s8⟩ := hSW; go_simp); (all_goals with_reducible rfl))); (try simp only [Act.put, List.setIfInBounds_toArray, List.set_cons_zero, List.set_cons_succ])
            refine wpAnyH_take (i := 13) (oi := ⟨some 100, _, _, _, _, _⟩) (v := ?_) rfl (by kernel_rfl) (by kernel_rfl) (by kernel_rfl) (fun _ _ _ h => h) (Or.inl ⟨by rfl, ?hyt13⟩) (by assumption) ?_; (case hyt13 => ((intro W hSW; (try dsimp only at hSW); obtain ⟨s1, s2, s3, s4, s5, s6, s7, s8⟩ := hSW; go_simp); (all_goals with_reducible rfl))); (try simp only [Act.put, List.setIfInBounds_toArray, List.set_cons_zero, List.set_cons_succ])
            refine wpAnyH_take (i := 14) (oi := ⟨some 101, _, _, _, _, _⟩) (v := ?_) rfl (by kernel_rfl) (by kernel_rfl) (by kernel_rfl) (fun _ _ _ h => h) (Or.inl ⟨by rfl, ?hyt14⟩) (by assumption) ?_; (case hyt14 => ((intro W hSW; (try dsimp only at hSW); obtain ⟨s1, s2, s3, s4, s5, s6, s7, s8⟩ := hSW; go_simp); (all_goals with_reducible rfl))); (try simp only [Act.put, List.setIfInBounds_toArray, List.set_cons_zero, List.set_cons_succ])
            refine wpAnyH_take (i := 15) (oi := ⟨some 102, _, _, _, _, _⟩) (v := ?_) rfl (by kernel_rfl) (by kernel_rfl) (by kernel_rfl) (fun _ _ _ h => h) (Or.inl ⟨by rfl, ?hyt15⟩) (by assumption) ?_; (case hyt15 => ((intro W hSW; (try dsimp only at hSW); obtain ⟨s1, s2, s3, s4, s5, s6, s7, s8⟩ := hSW; go_simp); (all_goals with_reducible rfl))); (try simp only [Act.put, List.setIfInBounds_toArray, List.set_cons_zero, List.set_cons_succ])
            refine wpAnyH_take (i := 16) (oi := ⟨some 103, _, _, _, _, _⟩) (v := ?_) rfl (by kernel_rfl) (by kernel_rfl) (by kernel_rfl) (fun _ _ _ h => h) (Or.inl ⟨by rfl, ?hyt16⟩) (by assumption) ?_; (case hyt16 => ((intro W hSW; (try dsimp only at hSW); obtain ⟨s1, s2, s3, s4, s5, s6, s7, s8⟩ := hSW; go_simp); (all_goals with_reducible rfl))); (try simp only [Act.put, List.setIfInBounds_toArray, List.set_cons_zero, List.set_cons_succ])
            refine wpAnyH_take (i := 17) (oi := ⟨some 104, _, _, _, _, _⟩) (v := ?_) rfl (by kernel_rfl) (by kernel_rfl) (by kernel_rfl) (fun _ _ _ h => h) (Or.inl ⟨by rfl, ?hyt17⟩) (by assumption) ?_; (case hyt17 => ((intro W hSW; (try dsimp only at hSW); obtain ⟨s1, s2, s3, s4, s5, s6, s7, s8⟩ := hSW; go_simp); (all_goals with_reducible rfl))); (try simp only [Act.put, List.setIfInBounds_toArray, List.set_cons_zero, List.set_cons_succ])
            refine wpAnyH_take (i := 18) (oi := ⟨some 105, _, _, _, _, _⟩) (v := ?_) rfl (by kernel_rfl) (by kernel_rfl) (by kernel_rfl) (fun _ _ _ h => h) (Or.inl ⟨by rfl, ?hyt18⟩) (by assumption) ?_; (case hyt18 => ((intro W hSW; (try dsimp only at hSW); obtain ⟨s1, s2, s3, s4, s5, s6, s7, s8⟩ := hSW; go_simp); (all_goals with_reducible rfl))); (try simp only [Act.put, List.setIfInBounds_toArray, List.set_cons_zero, List.set_cons_succ])
            refine wpAnyH_take (i := 19) (oi := ⟨some 106, _, _, _, _, _⟩) (v := ?_) rfl (by kernel_rfl) (by kernel_rfl) (by kernel_rfl) (fun _ _ _ h => h) (Or.inl ⟨by rfl, ?hyt19⟩) (by assumption) ?_; (case hyt19 => ((intro W hSW; (try dsimp only at hSW); obtain ⟨s1, s2, s3, s4, s5, s6, s7, s8⟩ := hSW; go_simp); (all_goals with_reducible rfl))); (try simp only [Act.put, List.setIfInBounds_toArray, List.set_cons_zero, List.set_cons_succ])
            refine wpAnyH_take (i := 20) (oi := ⟨some 107, _, _, _, _, _⟩) (v := ?_) rfl (by kernel_rfl) (by kernel_rfl) (by kernel_rfl) (fun _ _ _ h => h) (Or.inl ⟨by rfl, ?hyt20⟩) (by assumption) ?_; (case hyt20 => ((intro W hSW; (try dsimp only at hSW); obtain ⟨s1, s2, s3, s4, s5, s6, s7, s8⟩ := hSW; go_simp); (all_goals with_reducible rfl))); (try simp only [Act.put, List.setIfInBounds_toArray, List.set_cons_zero, List.set_cons_succ])
            refine wpAnyH_take (i := 21) (oi := ⟨some 108, _, _, _, _, _⟩) (v := ?_) rfl (by kernel_rfl) (by kernel_rfl) (by kernel_rfl) (fun _ _ _ h => h) (Or.inl ⟨by rfl, ?hyt21⟩) (by assumption) ?_; (case hyt21 => ((intro W hSW; (try dsimp only at hSW); obtain ⟨s1, s2, s3, s4, s5, s6, s7, s8⟩ := hSW; go_simp); (all_goals with_reducible rfl))); (try simp only [Act.put, List.setIfInBounds_toArray, List.set_cons_zero, List.set_cons_succ])
            refine wpAnyH_take (i := 22) (oi := ⟨some 109, _, _, _, _, _⟩) (v := ?_) rfl (by kernel_rfl) (by kernel_rfl) (by kernel_rfl) (fun _ _ _ h => h) (Or.inl ⟨by rfl, ?hyt22⟩) (by assumption) ?_; (case hyt22 => ((intro W hSW; (try dsimp only at hSW); obtain ⟨s1, s2, s3, s4, s5, s6, s7, s8⟩ := hSW; go_simp); (all_goals with_reducible rfl))); (try simp only [Act.put, List.setIfInBounds_toArray, List.set_cons_zero, List.set_cons_succ])
            refine wpAnyH_take (i := 23) (oi := ⟨some 110, _, _, _, _, _⟩) (v := ?_) rfl (by kernel_rfl) (by kernel_rfl) (by kernel_rfl) (fun _ _ _ h => h) (Or.inl ⟨by rfl, ?hyt23⟩) (by assumption) ?_; (case hyt23 => ((intro W hSW; (try dsimp only at hSW); obtain ⟨s1, s2, s3, s4, s5, s6, s7, s8⟩ := hSW; go_simp); (all_goals with_reducible rfl))); (try simp only [Act.put, List.setIfInBounds_toArray, List.set_cons_zero, List.set_cons_succ])
            refine wpAnyH_take (i := 24) (oi := ⟨some 111, _, _, _, _, _⟩) (v := ?_) rfl (by kernel_rfl) (by kernel_rfl) (by kernel_rfl) (fun _ _ _ h => h) (Or.inl ⟨by rfl, ?hyt24⟩) (by assumption) ?_; (case hyt24 => ((intro W hSW; (try dsimp only at hSW); obtain ⟨s1, s2, s3, s4, s5, s6, s7, s8⟩ := hSW; go_simp); (all_goals with_reducible rfl))); (try simp only [Act.put, List.setIfInBounds_toArray, List.set_cons_zero, List.set_cons_succ])
            refine wpAnyH_take (i := 25) (oi := ⟨some 112, _, _, _, _, _⟩) (v := ?_) rfl (by kernel_rfl) (by kernel_rfl) (by kernel_rfl) (fun _ _ _ h => h) (Or.inl ⟨by rfl, ?hyt25⟩) (by assumption) ?_; (case hyt25 => ((intro W hSW; (try dsimp only at hSW); obtain ⟨s1, s2, s3, s4, s5, s6, s7, s8⟩ := hSW; go_simp); (all_goals with_reducible rfl))); (try simp only [Act.put, List.setIfInBounds_toArray, List.set_cons_zero, List.set_cons_succ])
            refine wpAnyH_take (i := 26) (oi := ⟨some 113, _, _, _, _, _⟩) (v := ?_) rfl (by kernel_rfl) (by kernel_rfl) (by kernel_rfl) (fun _ _ _ h => h) (Or.inl ⟨by rfl, ?hyt26⟩) (by assumption) ?_; (case hyt26 => ((intro W hSW; (try dsimp only at hSW); obtain ⟨s1, s2, s3, s4, s5, s6, s7, s8⟩ := hSW; go_simp); (all_goals with_reducible rfl))); (try simp only [Act.put, List.setIfInBounds_toArray, List.set_cons_zero, List.set_cons_succ])
            refine wpAnyH_take (i := 27) (oi := ⟨some 114, _, _, _, _, _⟩) (v := ?_) rfl (by kernel_rfl) (by kernel_rfl) (by kernel_rfl) (fun _ _ _ h => h) (Or.inl ⟨by rfl, ?hyt27⟩) (by assumption) ?_; (case hyt27 => ((intro W hSW; (try dsimp only at hSW); obtain ⟨s1, s2, s3, s4, s5, s6, s7, s8⟩ := hSW; go_simp); (all_goals with_reducible rfl))); (try simp only [Act.put, List.setIfInBounds_toArray, List.set_cons_zero, List.set_cons_succ])
            refine wpAnyH_take (i := 28) (oi := ⟨some 115, _, _, _, _, _⟩) (v := ?_) rfl (by kernel_rfl) (by kernel_rfl) (by kernel_rfl) (fun _ _ _ h => h) (Or.inl ⟨by rfl, ?hyt28⟩) (by assumption) ?_; (case hyt28 => ((intro W hSW; (try dsimp only at hSW); obtain ⟨s1, s2, s3, s4, s5, s6, s7, s8⟩ := hSW; go_simp); (all_goals with_reducible rfl))); (try simp only [Act.put, List.setIfInBounds_toArray, List.set_cons_zero, List.set_cons_succ])
            refine wpAnyH_take (i := 29) (oi := ⟨some 116, _, _, _, _, _⟩) (v := ?_) rfl (by kernel_rfl) (by kernel_rfl) (by kernel_rfl) (fun _ _ _ h => h) (Or.inl ⟨by rfl, ?hyt29⟩) (by assumption) ?_; (case hyt29 => ((intro W hSW; (try dsimp only at hSW); obtain ⟨s1, s2, s3, s4, s5, s6, s7, s8⟩ := hSW; go_simp); (all_goals with_reducible rfl))); (try simp only [Act.put, List.setIfInBounds_toArray, List.set_cons_zero, List.set_cons_succ])
            refine wpAnyH_take (i := 30) (oi := ⟨some 117, _, _, _, _, _⟩) (v := ?_) rfl (by kernel_rfl) (by kernel_rfl) (by kernel_rfl) (fun _ _ _ h => h) (Or.inl ⟨by rfl, ?hyt30⟩) (by assumption) ?_; (case hyt30 => ((intro W hSW; (try dsimp only at hSW); obtain ⟨s1, s2, s3, s4, s5, s6, s7, s8⟩ := hSW; go_simp); (all_goals with_reducible rfl))); (try simp only [Act.put, List.setIfInBounds_toArray, List.set_cons_zero, List.set_cons_succ])
            refine wpAnyH_take (i := 31) (oi := ⟨some 118, _, _, _, _, _⟩) (v := ?_) rfl (by kernel_rfl) (by kernel_rfl) (by kernel_rfl) (fun _ _ _ h => h) (Or.inl ⟨by rfl, ?hyt31⟩) (by assumption) ?_; (case hyt31 => ((intro W hSW; (try dsimp only at hSW); obtain ⟨s1, s2, s3, s4, s5, s6, s7, s8⟩ := hSW; go_simp); (all_goals with_reducible rfl))); (try simp only [Act.put, List.setIfInBounds_toArray, List.set_cons_zero, List.set_cons_succ])
            refine wpAnyH_take (i := 32) (oi := ⟨some 119, _, _, _, _, _⟩) (v := ?_) rfl (by kernel_rfl) (by kernel_rfl) (by kernel_rfl) (fun _ _ _ h => h) (Or.inl ⟨by rfl, ?hyt32⟩) (by assumption) ?_; (case hyt32 => ((intro W hSW; (try dsimp only at hSW); obtain ⟨s1, s2, s3, s4, s5, s6, s7, s8⟩ := hSW; go_simp); (all_goals with_reducible rfl))); (try simp only [Act.put, List.setIfInBounds_toArray, List.set_cons_zero, List.set_cons_succ])
            refine wpAnyH_take (i := 33) (oi := ⟨some 120, _, _, _, _, _⟩) (v := ?_) rfl (by kernel_rfl) (by kernel_rfl) (by kernel_rfl) (fun _ _ _ h => h) (Or.inl ⟨by rfl, ?hyt33⟩) (by assumption) ?_; (case hyt33 => ((intro W hSW; (try dsimp only at hSW); obtain ⟨s1, s2, s3, s4, s5, s6, s7, s8⟩ := hSW; go_simp); (all_goals with_reducible rfl))); (try simp only [Act.put, List.setIfInBounds_toArray, List.set_cons_zero, List.set_cons_succ])
            refine wpAnyH_done (by kernel_rfl) ?_ _
            refine NoPanic.normal ?_
            clear hHeld E
            go_wp2_with fail
            go_roundw
            case rel => exact ⟨j + 1, by go_num, by omega, S8, hH9, Lib.hid (by rw [show max 1 (j + 1) = j + 1 by omega]; exact hD9.out.below ((Below.refl _ _).drew)), Lib.hid hd9.out, hSD8⟩
            case measure => simp [intOf] <;> omega
        · obtain rfl : j = its.length := by omega
          have hdz : its.drop (max 1 its.length) = [] := by rw [show max 1 its.length = its.length by omega, List.drop_length]
          rw [hdz] at hD
          have HN := next_any g Sd2 _ wr hD.out
          simp only [List.getD_nil, List.length_nil, Nat.lt_irrefl, decide_false] at HN
          replace HN := Lib.hid HN
          clear hdz htk
          go_wp2_with fail
          refine (HN.out).mono ?_; rintro e w8 ⟨q8, n8, c8, rfl, hR8, hq8, ⟨S8, hD8, hT8, hS8⟩, hE8⟩
          replace hT8 := Lib.hid hT8
          clear hR8 hq8 hD8 hE8
          go_wp2_with fail
          have T9 := hT8.out.alloc (.cells #[.int .i64 (It.no.skip : Int), .int .u8 (It.no.kind.toNat : Int), .slice q8 n8 c8] 39)
          have hd9 := Turn.heap T9 hdef.out hSD.out
          have hoff := hH.out.off
          have hwz := hH.out.bel.size
          have hDD2 := hDD.out
          have hz7 := z7.out
          have hle := hH.out.le
          have B9 := hH.out.bel.trans (T9.below hwz (fun k hk hs => by have := hoff k hs; omega))
          have TP := Turn.putObj (w8.alloc (.cells #[.int .i64 (It.no.skip : Int), .int .u8 (It.no.kind.toNat : Int), .slice q8 n8 c8] 39)) D (.deferred none)
          have B10 := B9.trans (TP.below (B := w.heap.size) B9.size (fun k hk e => by omega))
          refine ⟨by simp, .inl ⟨_, _, rfl, run_takeDeferred hd9, ?_⟩⟩
          exact ⟨_, results_tmp rfl _ _ _, rfl, B10⟩
    case inr.inr.inl =>
      have hz4 := hz3.out
      go_loopw [12] (fun i wr => ∃ j : Nat, i = .int .i64 (j : Int) ∧ j ≤ its.length ∧ ∃ Sd : Nat → Prop, Hid (Had w (R + 1) R B0 rq rc [.string ⟨rs.toArray⟩, .int .i64 (sk : Int), .slice rq its.length rc, .bool ov] its (its.take its.length) Sd wr) ∧ Hid (Dec wr g Sd ⟨rs, sk, its.drop (max its.length j), ov⟩) ∧ Hid (wr.heap[D]? = some (.deferred (some []))) ∧ Hid (¬ Sd D)) (fun i wr => its.length - (intOf i).toNat)
      case atStart => exact ⟨0, rfl, by omega, Sd, hH, Lib.hid (by rw [show max its.length 0 = its.length by omega]; exact hD.out), hdef, hSD⟩
      case round =>
        clear hH hD hdef hSD r2 rlt g0 glt
        obtain ⟨j, rfl, hj, Sd2, hH, hD, hdef, hSD⟩ := hrel
        have r2 := hH.out.ref.cell 2 _ rfl
        have rlt := hH.out.ref.lt
        have htk : (its.take its.length).length = its.length := by rw [List.length_take]; omega
        by_cases hlt : j < its.length
        · have hj1 : (j : Int) < (its.length : Int) := by omega
          have hj0 : (0 : Int) ≤ (j : Int) := by omega
          by_cases hjk : j < its.length
          · have hjk1 : (j : Int) < ((its.length : Nat) : Int) := by omega
            obtain ⟨qg, cg, csg, hbG, hoG, hgG, hkG⟩ := hH.out.lst
            have hcl := hgG.len
            rw [htk] at hbG hoG hkG hcl
            have g0 := hbG.cell 0 _ rfl
            have glt := hbG.lt
            obtain ⟨qx, cx, ex, hRG, _, _⟩ := hoG.row
            rw [hcl] at ex hRG
            obtain ⟨rfl, _, rfl⟩ : qg = qx ∧ True ∧ cg = cx := by injection ex with e1 e2 e3; exact ⟨e1, trivial, e3⟩
            obtain ⟨bg, og, rfl, hlg, hcg⟩ := hRG.get (by omega)
            have h3 := hcg j (by omega)
            obtain ⟨qb, nb, mb, eb, hRb, hqb⟩ := hgG.get j (by omega)
            have hxj : (its.take its.length).getD j It.no = its.getD j It.no := by simp [List.getD, List.getElem?_take, hjk]
            rw [hxj] at eb hRb
            rw [eb] at h3
            obtain ⟨br, orr, rfl, hlr, hcr⟩ : ∃ br orr, rq = some ⟨br, orr, none⟩ ∧ br < wr.heap.size ∧ ∀ i, i < its.length → wr.cell? ⟨br, orr + i * 3, none⟩ = some (.int .i64 ((its.getD i It.no).skip : Int)) ∧ wr.cell? ⟨br, orr + i * 3 + 1, none⟩ = some (.int .u8 ((its.getD i It.no).kind.toNat : Int)) ∧ wr.cell? ⟨br, orr + i * 3 + 2, none⟩ = some (.string ⟨(its.getD i It.no).body.toArray⟩) := by
              rcases hH.out.row.at_ with h0 | ⟨b', off, e, h1, h2⟩
              · omega
              · exact ⟨b', off, e, h1, h2⟩
            obtain ⟨i0, i1, i2⟩ := hcr j hlt
            generalize its.getD j It.no = x at *
            have m0 := h3 0 _ rfl
            have m1 := h3 1 _ rfl
            have m2 := h3 2 _ rfl
            simp only [Nat.add_zero] at m0
            have hfb := Lib.hid (Below.alloc (Below.refl wr.heap.size wr) (Nat.le_refl _) (.cells #[.int .i64 (x.skip : Int), .int .u8 (x.kind.toNat : Int), .slice qb nb mb] 39))
            clear hbG hoG hgG hkG ex hRG hcg h3 eb hqb hxj hcr hcl htk
            have rAll : Below wr.heap.size wr (wr.alloc (.cells #[.int .i64 (x.skip : Int), .int .u8 (x.kind.toNat : Int), .slice qb nb mb] 39)) := Below.alloc (Below.refl wr.heap.size wr) (Nat.le_refl _) (.cells #[.int .i64 (x.skip : Int), .int .u8 (x.kind.toNat : Int), .slice qb nb mb] 39)
            have XN := Lib.hid (Box.new wr [.int .i64 (x.skip : Int), .int .u8 (x.kind.toNat : Int), .slice qb nb mb] _ 39 rfl wr.heap.size rfl)
            have E : ∀ W, Below (wr.alloc (.cells #[.int .i64 (x.skip : Int), .int .u8 (x.kind.toNat : Int), .slice qb nb mb] 39)).heap.size (wr.alloc (.cells #[.int .i64 (x.skip : Int), .int .u8 (x.kind.toNat : Int), .slice qb nb mb] 39)) W → (fun W => W.cell? ⟨wr.heap.size, 0, none⟩ = some (.int .i64 (x.skip : Int)) ∧ W.cell? ⟨wr.heap.size, 1, none⟩ = some (.int .u8 (x.kind.toNat : Int)) ∧ W.cell? ⟨wr.heap.size, 2, none⟩ = some (.slice qb nb mb) ∧ W.cell? ⟨R, 2, none⟩ = some (.slice (some ⟨br, orr, none⟩) its.length rc) ∧ W.cell? ⟨br, orr + j * 3, none⟩ = some (.int .i64 (x.skip : Int)) ∧ W.cell? ⟨br, orr + j * 3 + 1, none⟩ = some (.int .u8 (x.kind.toNat : Int)) ∧ W.cell? ⟨br, orr + j * 3 + 2, none⟩ = some (.string ⟨x.body.toArray⟩) ∧ (convert 22 9 (.slice qb nb mb)).run Tryd.prog W = .ok (.string ⟨x.body.toArray⟩) W) W := fun W h => ⟨(XN.out.below h).cell 0 _ rfl, (XN.out.below h).cell 1 _ rfl, (XN.out.below h).cell 2 _ rfl, (((rAll.trans (h.mono rAll.size)).cell (p := ⟨R, 2, none⟩) rlt)).trans r2, ((rAll.trans (h.mono rAll.size)).cell (p := ⟨br, orr + j * 3, none⟩) hlr).trans i0, ((rAll.trans (h.mono rAll.size)).cell (p := ⟨br, orr + j * 3 + 1, none⟩) hlr).trans i1, ((rAll.trans (h.mono rAll.size)).cell (p := ⟨br, orr + j * 3 + 2, none⟩) hlr).trans i2, (hRb.below (rAll.trans (h.mono rAll.size))).conv 22 9 5 Tryd.underlying22 Tryd.underlying5 Tryd.underlying9 (P := Tryd.prog)⟩
            replace E := Lib.hid E
            go_wp2_with fail
            refine wp_region_noPanic ?_
            refine wp_region_held_drew (S := (fun W => W.cell? ⟨wr.heap.size, 0, none⟩ = some (.int .i64 (x.skip : Int)) ∧ W.cell? ⟨wr.heap.size, 1, none⟩ = some (.int .u8 (x.kind.toNat : Int)) ∧ W.cell? ⟨wr.heap.size, 2, none⟩ = some (.slice qb nb mb) ∧ W.cell? ⟨R, 2, none⟩ = some (.slice (some ⟨br, orr, none⟩) its.length rc) ∧ W.cell? ⟨br, orr + j * 3, none⟩ = some (.int .i64 (x.skip : Int)) ∧ W.cell? ⟨br, orr + j * 3 + 1, none⟩ = some (.int .u8 (x.kind.toNat : Int)) ∧ W.cell? ⟨br, orr + j * 3 + 2, none⟩ = some (.string ⟨x.body.toArray⟩) ∧ (convert 22 9 (.slice qb nb mb)).run Tryd.prog W = .ok (.string ⟨x.body.toArray⟩) W)) (by kernel_rfl) (E.out _ (Below.refl _ _).drew) (fun hHeld => ?_)
            refine wpAnyH_take (i := 0) (oi := ⟨some 87, _, _, _, _, _⟩) (v := ?_) rfl (by kernel_rfl) (by kernel_rfl) (by kernel_rfl) (fun _ _ _ h => h) (Or.inl ⟨by rfl, ?hyt0⟩) (by assumption) ?_; (case hyt0 => ((intro W hSW; (try dsimp only at hSW); obtain ⟨s1, s2, s3, s4, s5, s6, s7, s8⟩ := hSW; go_simp); (all_goals with_reducible rfl))); (try simp only [Act.put, List.setIfInBounds_toArray, List.set_cons_zero, List.set_cons_succ])
            refine wpAnyH_take (i := 1) (oi := ⟨some 88, _, _, _, _, _⟩) (v := ?_) rfl (by kernel_rfl) (by kernel_rfl) (by kernel_rfl) (fun _ _ _ h => h) (Or.inl ⟨by rfl, ?hyt1⟩) (by assumption) ?_; (case hyt1 => ((intro W hSW; (try dsimp only at hSW); obtain ⟨s1, s2, s3, s4, s5, s6, s7, s8⟩ := hSW; go_simp); (all_goals with_reducible rfl))); (try simp only [Act.put, List.setIfInBounds_toArray, List.set_cons_zero, List.set_cons_succ])
            refine wpAnyH_take (i := 2) (oi := ⟨some 89, _, _, _, _, _⟩) (v := ?_) rfl (by kernel_rfl) (by kernel_rfl) (by kernel_rfl) (fun _ _ _ h => h) (Or.inl ⟨by rfl, ?hyt2⟩) (by assumption) ?_; (case hyt2 => ((intro W hSW; (try dsimp only at hSW); obtain ⟨s1, s2, s3, s4, s5, s6, s7, s8⟩ := hSW; go_simp); (all_goals with_reducible rfl))); (try simp only [Act.put, List.setIfInBounds_toArray, List.set_cons_zero, List.set_cons_succ])
            refine wpAnyH_take (i := 3) (oi := ⟨some 90, _, _, _, _, _⟩) (v := ?_) rfl (by kernel_rfl) (by kernel_rfl) (by kernel_rfl) (fun _ _ _ h => h) (Or.inl ⟨by rfl, ?hyt3⟩) (by assumption) ?_; (case hyt3 => ((intro W hSW; (try dsimp only at hSW); obtain ⟨s1, s2, s3, s4, s5, s6, s7, s8⟩ := hSW; go_simp); (all_goals with_reducible rfl))); (try simp only [Act.put, List.setIfInBounds_toArray, List.set_cons_zero, List.set_cons_succ])
            refine wpAnyH_take (i := 4) (oi := ⟨some 91, _, _, _, _, _⟩) (v := ?_) rfl (by kernel_rfl) (by kernel_rfl) (by kernel_rfl) (fun _ _ _ h => h) (Or.inl ⟨by rfl, ?hyt4⟩) (by assumption) ?_; (case hyt4 => ((intro W hSW; (try dsimp only at hSW); obtain ⟨s1, s2, s3, s4, s5, s6, s7, s8⟩ := hSW; go_simp); (all_goals with_reducible rfl))); (try simp only [Act.put, List.setIfInBounds_toArray, List.set_cons_zero, List.set_cons_succ])
            refine wpAnyH_take (i := 5) (oi := ⟨some 92, _, _, _, _, _⟩) (v := ?_) rfl (by kernel_rfl) (by kernel_rfl) (by kernel_rfl) (fun _ _ _ h => h) (Or.inl ⟨by rfl, ?hyt5⟩) (by assumption) ?_; (case hyt5 => ((intro W hSW; (try dsimp only at hSW); obtain ⟨s1, s2, s3, s4, s5, s6, s7, s8⟩ := hSW; go_simp); (all_goals with_reducible rfl))); (try simp only [Act.put, List.setIfInBounds_toArray, List.set_cons_zero, List.set_cons_succ])
            refine wpAnyH_take (i := 6) (oi := ⟨some 93, _, _, _, _, _⟩) (v := ?_) rfl (by kernel_rfl) (by kernel_rfl) (by kernel_rfl) (fun _ _ _ h => h) (Or.inl ⟨by rfl, ?hyt6⟩) (by assumption) ?_; (case hyt6 => ((intro W hSW; (try dsimp only at hSW); obtain ⟨s1, s2, s3, s4, s5, s6, s7, s8⟩ := hSW; go_simp); (all_goals with_reducible rfl))); (try simp only [Act.put, List.setIfInBounds_toArray, List.set_cons_zero, List.set_cons_succ])
            refine wpAnyH_take (i := 7) (oi := ⟨some 94, _, _, _, _, _⟩) (v := ?_) rfl (by kernel_rfl) (by kernel_rfl) (by kernel_rfl) (fun _ _ _ h => h) (Or.inl ⟨by rfl, ?hyt7⟩) (by assumption) ?_; (case hyt7 => ((intro W hSW; (try dsimp only at hSW); obtain ⟨s1, s2, s3, s4, s5, s6, s7, s8⟩ := hSW; go_simp); (all_goals with_reducible rfl))); (try simp only [Act.put, List.setIfInBounds_toArray, List.set_cons_zero, List.set_cons_succ])
            refine wpAnyH_take (i := 8) (oi := ⟨some 95, _, _, _, _, _⟩) (v := ?_) rfl (by kernel_rfl) (by kernel_rfl) (by kernel_rfl) (fun _ _ _ h => h) (Or.inl ⟨by rfl, ?hyt8⟩) (by assumption) ?_; (case hyt8 => ((intro W hSW; (try dsimp only at hSW); obtain ⟨s1, s2, s3, s4, s5, s6, s7, s8⟩ := hSW; go_simp); (all_goals with_reducible rfl))); (try simp only [Act.put, List.setIfInBounds_toArray, List.set_cons_zero, List.set_cons_succ])
            refine wpAnyH_take (i := 9) (oi := ⟨some 96, _, _, _, _, _⟩) (v := ?_) rfl (by kernel_rfl) (by kernel_rfl) (by kernel_rfl) (fun _ _ _ h => h) (Or.inl ⟨by rfl, ?hyt9⟩) (by assumption) ?_; (case hyt9 => ((intro W hSW; (try dsimp only at hSW); obtain ⟨s1, s2, s3, s4, s5, s6, s7, s8⟩ := hSW; go_simp); (all_goals with_reducible rfl))); (try simp only [Act.put, List.setIfInBounds_toArray, List.set_cons_zero, List.set_cons_succ])
            refine wpAnyH_take (i := 10) (oi := ⟨some 97, _, _, _, _, _⟩) (v := ?_) rfl (by kernel_rfl) (by kernel_rfl) (by kernel_rfl) (fun _ _ _ h => h) (Or.inl ⟨by rfl, ?hyt10⟩) (by assumption) ?_; (case hyt10 => ((intro W hSW; (try dsimp only at hSW); obtain ⟨s1, s2, s3, s4, s5, s6, s7, s8⟩ := hSW; go_simp); (all_goals with_reducible rfl))); (try simp only [Act.put, List.setIfInBounds_toArray, List.set_cons_zero, List.set_cons_succ])
            refine wpAnyH_take (i := 11) (oi := ⟨some 98, _, _, _, _, _⟩) (v := ?_) rfl (by kernel_rfl) (by kernel_rfl) (by kernel_rfl) (fun _ _ _ h => h) (Or.inl ⟨by rfl, ?hyt11⟩) (by assumption) ?_; (case hyt11 => ((intro W hSW; (try dsimp only at hSW); obtain ⟨s1, s2, s3, s4, s5, s6, s7, s8⟩ := hSW; go_simp); (all_goals with_reducible rfl))); (try simp only [Act.put, List.setIfInBounds_toArray, List.set_cons_zero, List.set_cons_succ])
            refine wpAnyH_take (i := 12) (oi := ⟨some 99, _, _, _, _, _⟩) (v := ?_) rfl (by kernel_rfl) (by kernel_rfl) (by kernel_rfl) (fun _ _ _ h => h) (Or.inl ⟨by rfl, ?hyt12⟩) (by assumption) ?_; (case hyt12 => ((intro W hSW; (try dsimp only at hSW); obtain ⟨s1, s2, s3, s4, s5, s6, s7, s8⟩ := hSW; go_simp); (all_goals with_reducible rfl))); (try simp only [Act.put, List.setIfInBounds_toArray, List.set_cons_zero, List.set_cons_succ])
            refine wpAnyH_take (i := 13) (oi := ⟨some 100, _, _, _, _, _⟩) (v := ?_) rfl (by kernel_rfl) (by kernel_rfl) (by kernel_rfl) (fun _ _ _ h => h) (Or.inl ⟨by rfl, ?hyt13⟩) (by assumption) ?_; (case hyt13 => ((intro W hSW; (try dsimp only at hSW); obtain ⟨s1, s2, s3, s4, s5, s6, s7, s8⟩ := hSW; go_simp); (all_goals with_reducible rfl))); (try simp only [Act.put, List.setIfInBounds_toArray, List.set_cons_zero, List.set_cons_succ])
            refine wpAnyH_take (i := 14) (oi := ⟨some 101, _, _, _, _, _⟩) (v := ?_) rfl (by kernel_rfl) (by kernel_rfl) (by kernel_rfl) (fun _ _ _ h => h) (Or.inl ⟨by rfl, ?hyt14⟩) (by assumption) ?_; (case hyt14 => ((intro W hSW; (try dsimp only at hSW); obtain ⟨s1, s2, s3, s4, s5, s6, s7, s8⟩ := hSW; go_simp); (all_goals with_reducible rfl))); (try simp only [Act.put, List.setIfInBounds_toArray, List.set_cons_zero, List.set_cons_succ])
            refine wpAnyH_take (i := 15) (oi := ⟨some 102, _, _, _, _, _⟩) (v := ?_) rfl (by kernel_rfl) (by kernel_rfl) (by kernel_rfl) (fun _ _ _ h => h) (Or.inl ⟨by rfl, ?hyt15⟩) (by assumption) ?_; (case hyt15 => ((intro W hSW; (try dsimp only at hSW); obtain ⟨s1, s2, s3, s4, s5, s6, s7, s8⟩ := hSW; go_simp); (all_goals with_reducible rfl))); (try simp only [Act.put, List.setIfInBounds_toArray, List.set_cons_zero, List.set_cons_succ])
            refine wpAnyH_take (i := 16) (oi := ⟨some 103, _, _, _, _, _⟩) (v := ?_) rfl (by kernel_rfl) (by kernel_rfl) (by kernel_rfl) (fun _ _ _ h => h) (Or.inl ⟨by rfl, ?hyt16⟩) (by assumption) ?_; (case hyt16 => ((intro W hSW; (try dsimp only at hSW); obtain ⟨s1, s2, s3, s4, s5, s6, s7, s8⟩ := hSW; go_simp); (all_goals with_reducible rfl))); (try simp only [Act.put, List.setIfInBounds_toArray, List.set_cons_zero, List.set_cons_succ])
            refine wpAnyH_take (i := 17) (oi := ⟨some 104, _, _, _, _, _⟩) (v := ?_) rfl (by kernel_rfl) (by kernel_rfl) (by kernel_rfl) (fun _ _ _ h => h) (Or.inl ⟨by rfl, ?hyt17⟩) (by assumption) ?_; (case hyt17 => ((intro W hSW; (try dsimp only at hSW); obtain ⟨s1, s2, s3, s4, s5, s6, s7, s8⟩ := hSW; go_simp); (all_goals with_reducible rfl))); (try simp only [Act.put, List.setIfInBounds_toArray, List.set_cons_zero, List.set_cons_succ])
            refine wpAnyH_take (i := 18) (oi := ⟨some 105, _, _, _, _, _⟩) (v := ?_) rfl (by kernel_rfl) (by kernel_rfl) (by kernel_rfl) (fun _ _ _ h => h) (Or.inl ⟨by rfl, ?hyt18⟩) (by assumption) ?_; (case hyt18 => ((intro W hSW; (try dsimp only at hSW); obtain ⟨s1, s2, s3, s4, s5, s6, s7, s8⟩ := hSW; go_simp); (all_goals with_reducible rfl))); (try simp only [Act.put, List.setIfInBounds_toArray, List.set_cons_zero, List.set_cons_succ])
            refine wpAnyH_take (i := 19) (oi := ⟨some 106, _, _, _, _, _⟩) (v := ?_) rfl (by kernel_rfl) (by kernel_rfl) (by kernel_rfl) (fun _ _ _ h => h) (Or.inl ⟨by rfl, ?hyt19⟩) (by assumption) ?_; (case hyt19 => ((intro W hSW; (try dsimp only at hSW); obtain ⟨s1, s2, s3, s4, s5, s6, s7, s8⟩ := hSW; go_simp); (all_goals with_reducible rfl))); (try simp only [Act.put, List.setIfInBounds_toArray, List.set_cons_zero, List.set_cons_succ])
            refine wpAnyH_take (i := 20) (oi := ⟨some 107, _, _, _, _, _⟩) (v := ?_) rfl (by kernel_rfl) (by kernel_rfl) (by kernel_rfl) (fun _ _ _ h => h) (Or.inl ⟨by rfl, ?hyt20⟩) (by assumption) ?_; (case hyt20 => ((intro W hSW; (try dsimp only at hSW); obtain ⟨s1, s2, s3, s4, s5, s6, s7, s8⟩ := hSW; go_simp); (all_goals with_reducible rfl))); (try simp only [Act.put, List.setIfInBounds_toArray, List.set_cons_zero, List.set_cons_succ])
            refine wpAnyH_take (i := 21) (oi := ⟨some 108, _, _, _, _, _⟩) (v := ?_) rfl (by kernel_rfl) (by kernel_rfl) (by kernel_rfl) (fun _ _ _ h => h) (Or.inl ⟨by rfl, ?hyt21⟩) (by assumption) ?_; (case hyt21 => ((intro W hSW; (try dsimp only at hSW); obtain ⟨s1, s2, s3, s4, s5, s6, s7, s8⟩ := hSW; go_simp); (all_goals with_reducible rfl))); (try simp only [Act.put, List.setIfInBounds_toArray, List.set_cons_zero, List.set_cons_succ])
            refine wpAnyH_take (i := 22) (oi := ⟨some 109, _, _, _, _, _⟩) (v := ?_) rfl (by kernel_rfl) (by kernel_rfl) (by kernel_rfl) (fun _ _ _ h => h) (Or.inl ⟨by rfl, ?hyt22⟩) (by assumption) ?_; (case hyt22 => ((intro W hSW; (try dsimp only at hSW); obtain ⟨s1, s2, s3, s4, s5, s6, s7, s8⟩ := hSW; go_simp); (all_goals with_reducible rfl))); (try simp only [Act.put, List.setIfInBounds_toArray, List.set_cons_zero, List.set_cons_succ])
            refine wpAnyH_take (i := 23) (oi := ⟨some 110, _, _, _, _, _⟩) (v := ?_) rfl (by kernel_rfl) (by kernel_rfl) (by kernel_rfl) (fun _ _ _ h => h) (Or.inl ⟨by rfl, ?hyt23⟩) (by assumption) ?_; (case hyt23 => ((intro W hSW; (try dsimp only at hSW); obtain ⟨s1, s2, s3, s4, s5, s6, s7, s8⟩ := hSW; go_simp); (all_goals with_reducible rfl))); (try simp only [Act.put, List.setIfInBounds_toArray, List.set_cons_zero, List.set_cons_succ])
            refine wpAnyH_take (i := 24) (oi := ⟨some 111, _, _, _, _, _⟩) (v := ?_) rfl (by kernel_rfl) (by kernel_rfl) (by kernel_rfl) (fun _ _ _ h => h) (Or.inl ⟨by rfl, ?hyt24⟩) (by assumption) ?_; (case hyt24 => ((intro W hSW; (try dsimp only at hSW); obtain ⟨s1, s2, s3, s4, s5, s6, s7, s8⟩ := hSW; go_simp); (all_goals with_reducible rfl))); (try simp only [Act.put, List.setIfInBounds_toArray, List.set_cons_zero, List.set_cons_succ])
            refine wpAnyH_take (i := 25) (oi := ⟨some 112, _, _, _, _, _⟩) (v := ?_) rfl (by kernel_rfl) (by kernel_rfl) (by kernel_rfl) (fun _ _ _ h => h) (Or.inl ⟨by rfl, ?hyt25⟩) (by assumption) ?_; (case hyt25 => ((intro W hSW; (try dsimp only at hSW); obtain ⟨s1, s2, s3, s4, s5, s6, s7, s8⟩ := hSW; go_simp); (all_goals with_reducible rfl))); (try simp only [Act.put, List.setIfInBounds_toArray, List.set_cons_zero, List.set_cons_succ])
            refine wpAnyH_take (i := 26) (oi := ⟨some 113, _, _, _, _, _⟩) (v := ?_) rfl (by kernel_rfl) (by kernel_rfl) (by kernel_rfl) (fun _ _ _ h => h) (Or.inl ⟨by rfl, ?hyt26⟩) (by assumption) ?_; (case hyt26 => ((intro W hSW; (try dsimp only at hSW); obtain ⟨s1, s2, s3, s4, s5, s6, s7, s8⟩ := hSW; go_simp); (all_goals with_reducible rfl))); (try simp only [Act.put, List.setIfInBounds_toArray, List.set_cons_zero, List.set_cons_succ])
            refine wpAnyH_take (i := 27) (oi := ⟨some 114, _, _, _, _, _⟩) (v := ?_) rfl (by kernel_rfl) (by kernel_rfl) (by kernel_rfl) (fun _ _ _ h => h) (Or.inl ⟨by rfl, ?hyt27⟩) (by assumption) ?_; (case hyt27 => ((intro W hSW; (try dsimp only at hSW); obtain ⟨s1, s2, s3, s4, s5, s6, s7, s8⟩ := hSW; go_simp); (all_goals with_reducible rfl))); (try simp only [Act.put, List.setIfInBounds_toArray, List.set_cons_zero, List.set_cons_succ])
            refine wpAnyH_take (i := 28) (oi := ⟨some 115, _, _, _, _, _⟩) (v := ?_) rfl (by kernel_rfl) (by kernel_rfl) (by kernel_rfl) (fun _ _ _ h => h) (Or.inl ⟨by rfl, ?hyt28⟩) (by assumption) ?_; (case hyt28 => ((intro W hSW; (try dsimp only at hSW); obtain ⟨s1, s2, s3, s4, s5, s6, s7, s8⟩ := hSW; go_simp); (all_goals with_reducible rfl))); (try simp only [Act.put, List.setIfInBounds_toArray, List.set_cons_zero, List.set_cons_succ])
            refine wpAnyH_take (i := 29) (oi := ⟨some 116, _, _, _, _, _⟩) (v := ?_) rfl (by kernel_rfl) (by kernel_rfl) (by kernel_rfl) (fun _ _ _ h => h) (Or.inl ⟨by rfl, ?hyt29⟩) (by assumption) ?_; (case hyt29 => ((intro W hSW; (try dsimp only at hSW); obtain ⟨s1, s2, s3, s4, s5, s6, s7, s8⟩ := hSW; go_simp); (all_goals with_reducible rfl))); (try simp only [Act.put, List.setIfInBounds_toArray, List.set_cons_zero, List.set_cons_succ])
            refine wpAnyH_take (i := 30) (oi := ⟨some 117, _, _, _, _, _⟩) (v := ?_) rfl (by kernel_rfl) (by kernel_rfl) (by kernel_rfl) (fun _ _ _ h => h) (Or.inl ⟨by rfl, ?hyt30⟩) (by assumption) ?_; (case hyt30 => ((intro W hSW; (try dsimp only at hSW); obtain ⟨s1, s2, s3, s4, s5, s6, s7, s8⟩ := hSW; go_simp); (all_goals with_reducible rfl))); (try simp only [Act.put, List.setIfInBounds_toArray, List.set_cons_zero, List.set_cons_succ])
            refine wpAnyH_take (i := 31) (oi := ⟨some 118, _, _, _, _, _⟩) (v := ?_) rfl (by kernel_rfl) (by kernel_rfl) (by kernel_rfl) (fun _ _ _ h => h) (Or.inl ⟨by rfl, ?hyt31⟩) (by assumption) ?_; (case hyt31 => ((intro W hSW; (try dsimp only at hSW); obtain ⟨s1, s2, s3, s4, s5, s6, s7, s8⟩ := hSW; go_simp); (all_goals with_reducible rfl))); (try simp only [Act.put, List.setIfInBounds_toArray, List.set_cons_zero, List.set_cons_succ])
            refine wpAnyH_take (i := 32) (oi := ⟨some 119, _, _, _, _, _⟩) (v := ?_) rfl (by kernel_rfl) (by kernel_rfl) (by kernel_rfl) (fun _ _ _ h => h) (Or.inl ⟨by rfl, ?hyt32⟩) (by assumption) ?_; (case hyt32 => ((intro W hSW; (try dsimp only at hSW); obtain ⟨s1, s2, s3, s4, s5, s6, s7, s8⟩ := hSW; go_simp); (all_goals with_reducible rfl))); (try simp only [Act.put, List.setIfInBounds_toArray, List.set_cons_zero, List.set_cons_succ])
            refine wpAnyH_take (i := 33) (oi := ⟨some 120, _, _, _, _, _⟩) (v := ?_) rfl (by kernel_rfl) (by kernel_rfl) (by kernel_rfl) (fun _ _ _ h => h) (Or.inl ⟨by rfl, ?hyt33⟩) (by assumption) ?_; (case hyt33 => ((intro W hSW; (try dsimp only at hSW); obtain ⟨s1, s2, s3, s4, s5, s6, s7, s8⟩ := hSW; go_simp); (all_goals with_reducible rfl))); (try simp only [Act.put, List.setIfInBounds_toArray, List.set_cons_zero, List.set_cons_succ])
            refine wpAnyH_done (by kernel_rfl) ?_ _
            refine NoPanic.normal ?_
            clear hHeld E XN
            go_wp2_with fail
            go_roundw
            case rel => exact ⟨j + 1, by go_num, by omega, Sd2, Lib.hid (hH.out.turn (T := fun _ => False) (Turn.ofBelow hfb.out.drew rfl) (fun _ _ h => h.elim) (fun k h => .inl h)), Lib.hid (by rw [show max its.length (j + 1) = max its.length j by omega]; exact hD.out.below hfb.out.drew), Lib.hid (Turn.heap (S := fun _ => False) (Turn.ofBelow hfb.out.drew rfl) hdef.out (fun h => h)), hSD⟩
            case measure => simp [intOf] <;> omega
          · have hjk1 : ¬ ((j : Int) < ((its.length : Nat) : Int)) := by omega
            exfalso; omega
        · obtain rfl : j = its.length := by omega
          have hdz : its.drop (max its.length its.length) = [] := by rw [show max its.length its.length = its.length by omega, List.drop_length]
          rw [hdz] at hD
          have HN := next_any g Sd2 _ wr hD.out
          simp only [List.getD_nil, List.length_nil, Nat.lt_irrefl, decide_false] at HN
          replace HN := Lib.hid HN
          clear hdz htk
          go_wp2_with fail
          refine (HN.out).mono ?_; rintro e w8 ⟨q8, n8, c8, rfl, hR8, hq8, ⟨S8, hD8, hT8, hS8⟩, hE8⟩
          replace hT8 := Lib.hid hT8
          clear hR8 hq8 hD8 hE8
          go_wp2_with fail
          have T9 := hT8.out.alloc (.cells #[.int .i64 (It.no.skip : Int), .int .u8 (It.no.kind.toNat : Int), .slice q8 n8 c8] 39)
          have hd9 := Turn.heap T9 hdef.out hSD.out
          have hoff := hH.out.off
          have hwz := hH.out.bel.size
          have hDD2 := hDD.out
          have hz7 := z7.out
          have hle := hH.out.le
          have B9 := hH.out.bel.trans (T9.below hwz (fun k hk hs => by have := hoff k hs; omega))
          have TP := Turn.putObj (w8.alloc (.cells #[.int .i64 (It.no.skip : Int), .int .u8 (It.no.kind.toNat : Int), .slice q8 n8 c8] 39)) D (.deferred none)
          have B10 := B9.trans (TP.below (B := w.heap.size) B9.size (fun k hk e => by omega))
          refine ⟨by simp, .inl ⟨_, _, rfl, run_takeDeferred hd9, ?_⟩⟩
          exact ⟨_, results_tmp rfl _ _ _, rfl, B10⟩
    case inr.inr.inr =>
      have hz4 := hz3.out
      go_loopw [12] (fun i wr => ∃ j : Nat, i = .int .i64 (j : Int) ∧ j ≤ its.length ∧ ∃ Sd : Nat → Prop, Hid (Had w (R + 1) R B0 rq rc [.string ⟨rs.toArray⟩, .int .i64 (sk : Int), .slice rq its.length rc, .bool ov] its (its.take k) Sd wr) ∧ Hid (Dec wr g Sd ⟨rs, sk, its.drop (max k j), ov⟩) ∧ Hid (wr.heap[D]? = some (.deferred (some []))) ∧ Hid (¬ Sd D)) (fun i wr => its.length - (intOf i).toNat)
      case atStart => exact ⟨0, rfl, by omega, Sd, hH, Lib.hid (by rw [show max k 0 = k by omega]; exact hD.out), hdef, hSD⟩
      case round =>
        clear hH hD hdef hSD r2 rlt g0 glt
        obtain ⟨j, rfl, hj, Sd2, hH, hD, hdef, hSD⟩ := hrel
        have r2 := hH.out.ref.cell 2 _ rfl
        have rlt := hH.out.ref.lt
        have htk : (its.take k).length = k := by rw [List.length_take]; omega
        by_cases hlt : j < its.length
        · have hj1 : (j : Int) < (its.length : Int) := by omega
          have hj0 : (0 : Int) ≤ (j : Int) := by omega
          by_cases hjk : j < k
          · have hjk1 : (j : Int) < ((k : Nat) : Int) := by omega
            obtain ⟨qg, cg, csg, hbG, hoG, hgG, hkG⟩ := hH.out.lst
            have hcl := hgG.len
            rw [htk] at hbG hoG hkG hcl
            have g0 := hbG.cell 0 _ rfl
            have glt := hbG.lt
            obtain ⟨qx, cx, ex, hRG, _, _⟩ := hoG.row
            rw [hcl] at ex hRG
            obtain ⟨rfl, _, rfl⟩ : qg = qx ∧ True ∧ cg = cx := by injection ex with e1 e2 e3; exact ⟨e1, trivial, e3⟩
            obtain ⟨bg, og, rfl, hlg, hcg⟩ := hRG.get (by omega)
            have h3 := hcg j (by omega)
            obtain ⟨qb, nb, mb, eb, hRb, hqb⟩ := hgG.get j (by omega)
            have hxj : (its.take k).getD j It.no = its.getD j It.no := by simp [List.getD, List.getElem?_take, hjk]
            rw [hxj] at eb hRb
            rw [eb] at h3
            obtain ⟨br, orr, rfl, hlr, hcr⟩ : ∃ br orr, rq = some ⟨br, orr, none⟩ ∧ br < wr.heap.size ∧ ∀ i, i < its.length → wr.cell? ⟨br, orr + i * 3, none⟩ = some (.int .i64 ((its.getD i It.no).skip : Int)) ∧ wr.cell? ⟨br, orr + i * 3 + 1, none⟩ = some (.int .u8 ((its.getD i It.no).kind.toNat : Int)) ∧ wr.cell? ⟨br, orr + i * 3 + 2, none⟩ = some (.string ⟨(its.getD i It.no).body.toArray⟩) := by
              rcases hH.out.row.at_ with h0 | ⟨b', off, e, h1, h2⟩
              · omega
              · exact ⟨b', off, e, h1, h2⟩
            obtain ⟨i0, i1, i2⟩ := hcr j hlt
            generalize its.getD j It.no = x at *
            have m0 := h3 0 _ rfl
            have m1 := h3 1 _ rfl
            have m2 := h3 2 _ rfl
            simp only [Nat.add_zero] at m0
            have hfb := Lib.hid (Below.alloc (Below.refl wr.heap.size wr) (Nat.le_refl _) (.cells #[.int .i64 (x.skip : Int), .int .u8 (x.kind.toNat : Int), .slice qb nb mb] 39))
            clear hbG hoG hgG hkG ex hRG hcg h3 eb hqb hxj hcr hcl htk
            have rAll : Below wr.heap.size wr (wr.alloc (.cells #[.int .i64 (x.skip : Int), .int .u8 (x.kind.toNat : Int), .slice qb nb mb] 39)) := Below.alloc (Below.refl wr.heap.size wr) (Nat.le_refl _) (.cells #[.int .i64 (x.skip : Int), .int .u8 (x.kind.toNat : Int), .slice qb nb mb] 39)
            have XN := Lib.hid (Box.new wr [.int .i64 (x.skip : Int), .int .u8 (x.kind.toNat : Int), .slice qb nb mb] _ 39 rfl wr.heap.size rfl)
            have E : ∀ W, Below (wr.alloc (.cells #[.int .i64 (x.skip : Int), .int .u8 (x.kind.toNat : Int), .slice qb nb mb] 39)).heap.size (wr.alloc (.cells #[.int .i64 (x.skip : Int), .int .u8 (x.kind.toNat : Int), .slice qb nb mb] 39)) W → (fun W => W.cell? ⟨wr.heap.size, 0, none⟩ = some (.int .i64 (x.skip : Int)) ∧ W.cell? ⟨wr.heap.size, 1, none⟩ = some (.int .u8 (x.kind.toNat : Int)) ∧ W.cell? ⟨wr.heap.size, 2, none⟩ = some (.slice qb nb mb) ∧ W.cell? ⟨R, 2, none⟩ = some (.slice (some ⟨br, orr, none⟩) its.length rc) ∧ W.cell? ⟨br, orr + j * 3, none⟩ = some (.int .i64 (x.skip : Int)) ∧ W.cell? ⟨br, orr + j * 3 + 1, none⟩ = some (.int .u8 (x.kind.toNat : Int)) ∧ W.cell? ⟨br, orr + j * 3 + 2, none⟩ = some (.string ⟨x.body.toArray⟩) ∧ (convert 22 9 (.slice qb nb mb)).run Tryd.prog W = .ok (.string ⟨x.body.toArray⟩) W) W := fun W h => ⟨(XN.out.below h).cell 0 _ rfl, (XN.out.below h).cell 1 _ rfl, (XN.out.below h).cell 2 _ rfl, (((rAll.trans (h.mono rAll.size)).cell (p := ⟨R, 2, none⟩) rlt)).trans r2, ((rAll.trans (h.mono rAll.size)).cell (p := ⟨br, orr + j * 3, none⟩) hlr).trans i0, ((rAll.trans (h.mono rAll.size)).cell (p := ⟨br, orr + j * 3 + 1, none⟩) hlr).trans i1, ((rAll.trans (h.mono rAll.size)).cell (p := ⟨br, orr + j * 3 + 2, none⟩) hlr).trans i2, (hRb.below (rAll.trans (h.mono rAll.size))).conv 22 9 5 Tryd.underlying22 Tryd.underlying5 Tryd.underlying9 (P := Tryd.prog)⟩
            replace E := Lib.hid E
            go_wp2_with fail
            refine wp_region_noPanic ?_
            refine wp_region_held_drew (S := (fun W => W.cell? ⟨wr.heap.size, 0, none⟩ = some (.int .i64 (x.skip : Int)) ∧ W.cell? ⟨wr.heap.size, 1, none⟩ = some (.int .u8 (x.kind.toNat : Int)) ∧ W.cell? ⟨wr.heap.size, 2, none⟩ = some (.slice qb nb mb) ∧ W.cell? ⟨R, 2, none⟩ = some (.slice (some ⟨br, orr, none⟩) its.length rc) ∧ W.cell? ⟨br, orr + j * 3, none⟩ = some (.int .i64 (x.skip : Int)) ∧ W.cell? ⟨br, orr + j * 3 + 1, none⟩ = some (.int .u8 (x.kind.toNat : Int)) ∧ W.cell? ⟨br, orr + j * 3 + 2, none⟩ = some (.string ⟨x.body.toArray⟩) ∧ (convert 22 9 (.slice qb nb mb)).run Tryd.prog W = .ok (.string ⟨x.body.toArray⟩) W)) (by kernel_rfl) (E.out _ (Below.refl _ _).drew) (fun hHeld => ?_)
            refine wpAnyH_take (i := 0) (oi := ⟨some 87, _, _, _, _, _⟩) (v := ?_) rfl (by kernel_rfl) (by kernel_rfl) (by kernel_rfl) (fun _ _ _ h => h) (Or.inl ⟨by rfl, ?hyt0⟩) (by assumption) ?_; (case hyt0 => ((intro W hSW; (try dsimp only at hSW); obtain ⟨s1, s2, s3, s4, s5, s6, s7, s8⟩ := hSW; go_simp); (all_goals with_reducible rfl))); (try simp only [Act.put, List.setIfInBounds_toArray, List.set_cons_zero, List.set_cons_succ])
            refine wpAnyH_take (i := 1) (oi := ⟨some 88, _, _, _, _, _⟩) (v := ?_) rfl (by kernel_rfl) (by kernel_rfl) (by kernel_rfl) (fun _ _ _ h => h) (Or.inl ⟨by rfl, ?hyt1⟩) (by assumption) ?_; (case hyt1 => ((intro W hSW; (try dsimp only at hSW); obtain ⟨s1, s2, s3, s4, s5, s6, s7, s8⟩ := hSW; go_simp); (all_goals with_reducible rfl))); (try simp only [Act.put, List.setIfInBounds_toArray, List.set_cons_zero, List.set_cons_succ])
            refine wpAnyH_take (i := 2) (oi := ⟨some 89, _, _, _, _, _⟩) (v := ?_) rfl (by kernel_rfl) (by kernel_rfl) (by kernel_rfl) (fun _ _ _ h => h) (Or.inl ⟨by rfl, ?hyt2⟩) (by assumption) ?_; (case hyt2 => ((intro W hSW; (try dsimp only at hSW); obtain ⟨s1, s2, s3, s4, s5, s6, s7, s8⟩ := hSW; go_simp); (all_goals with_reducible rfl))); (try simp only [Act.put, List.setIfInBounds_toArray, List.set_cons_zero, List.set_cons_succ])
            refine wpAnyH_take (i := 3) (oi := ⟨some 90, _, _, _, _, _⟩) (v := ?_) rfl (by kernel_rfl) (by kernel_rfl) (by kernel_rfl) (fun _ _ _ h => h) (Or.inl ⟨by rfl, ?hyt3⟩) (by assumption) ?_; (case hyt3 => ((intro W hSW; (try dsimp only at hSW); obtain ⟨s1, s2, s3, s4, s5, s6, s7, s8⟩ := hSW; go_simp); (all_goals with_reducible rfl))); (try simp only [Act.put, List.setIfInBounds_toArray, List.set_cons_zero, List.set_cons_succ])
            refine wpAnyH_take (i := 4) (oi := ⟨some 91, _, _, _, _, _⟩) (v := ?_) rfl (by kernel_rfl) (by kernel_rfl) (by kernel_rfl) (fun _ _ _ h => h) (Or.inl ⟨by rfl, ?hyt4⟩) (by assumption) ?_; (case hyt4 => ((intro W hSW; (try dsimp only at hSW); obtain ⟨s1, s2, s3, s4, s5, s6, s7, s8⟩ := hSW; go_simp); (all_goals with_reducible rfl))); (try simp only [Act.put, List.setIfInBounds_toArray, List.set_cons_zero, List.set_cons_succ])
            refine wpAnyH_take (i := 5) (oi := ⟨some 92, _, _, _, _, _⟩) (v := ?_) rfl (by kernel_rfl) (by kernel_rfl) (by kernel_rfl) (fun _ _ _ h => h) (Or.inl ⟨by rfl, ?hyt5⟩) (by assumption) ?_; (case hyt5 => ((intro W hSW; (try dsimp only at hSW); obtain ⟨s1, s2, s3, s4, s5, s6, s7, s8⟩ := hSW; go_simp); (all_goals with_reducible rfl))); (try simp only [Act.put, List.setIfInBounds_toArray, List.set_cons_zero, List.set_cons_succ])
            refine wpAnyH_take (i := 6) (oi := ⟨some 93, _, _, _, _, _⟩) (v := ?_) rfl (by kernel_rfl) (by kernel_rfl) (by kernel_rfl) (fun _ _ _ h => h) (Or.inl ⟨by rfl, ?hyt6⟩) (by assumption) ?_; (case hyt6 => ((intro W hSW; (try dsimp only at hSW); obtain ⟨s1, s2, s3, s4, s5, s6, s7, s8⟩ := hSW; go_simp); (all_goals with_reducible rfl))); (try simp only [Act.put, List.setIfInBounds_toArray, List.set_cons_zero, List.set_cons_succ])
            refine wpAnyH_take (i := 7) (oi := ⟨some 94, _, _, _, _, _⟩) (v := ?_) rfl (by kernel_rfl) (by kernel_rfl) (by kernel_rfl) (fun _ _ _ h => h) (Or.inl ⟨by rfl, ?hyt7⟩) (by assumption) ?_; (case hyt7 => ((intro W hSW; (try dsimp only at hSW); obtain ⟨s1, s2, s3, s4, s5, s6, s7, s8⟩ := hSW; go_simp); (all_goals with_reducible rfl))); (try simp only [Act.put, List.setIfInBounds_toArray, List.set_cons_zero, List.set_cons_succ])
            refine wpAnyH_take (i := 8) (oi := ⟨some 95, _, _, _, _, _⟩) (v := ?_) rfl (by kernel_rfl) (by kernel_rfl) (by kernel_rfl) (fun _ _ _ h => h) (Or.inl ⟨by rfl, ?hyt8⟩) (by assumption) ?_; (case hyt8 => ((intro W hSW; (try dsimp only at hSW); obtain ⟨s1, s2, s3, s4, s5, s6, s7, s8⟩ := hSW; go_simp); (all_goals with_reducible rfl))); (try simp only [Act.put, List.setIfInBounds_toArray, List.set_cons_zero, List.set_cons_succ])
            refine wpAnyH_take (i := 9) (oi := ⟨some 96, _, _, _, _, _⟩) (v := ?_) rfl (by kernel_rfl) (by kernel_rfl) (by kernel_rfl) (fun _ _ _ h => h) (Or.inl ⟨by rfl, ?hyt9⟩) (by assumption) ?_; (case hyt9 => ((intro W hSW; (try dsimp only at hSW); obtain ⟨s1, s2, s3, s4, s5, s6, s7, s8⟩ := hSW; go_simp); (all_goals with_reducible rfl))); (try simp only [Act.put, List.setIfInBounds_toArray, List.set_cons_zero, List.set_cons_succ])
            refine wpAnyH_take (i := 10) (oi := ⟨some 97, _, _, _, _, _⟩) (v := ?_) rfl (by kernel_rfl) (by kernel_rfl) (by kernel_rfl) (fun _ _ _ h => h) (Or.inl ⟨by rfl, ?hyt10⟩) (by assumption) ?_; (case hyt10 => ((intro W hSW; (try dsimp only at hSW); obtain ⟨s1, s2, s3, s4, s5, s6, s7, s8⟩ := hSW; go_simp); (all_goals with_reducible rfl))); (try simp only [Act.put, List.setIfInBounds_toArray, List.set_cons_zero, List.set_cons_succ])
            refine wpAnyH_take (i := 11) (oi := ⟨some 98, _, _, _, _, _⟩) (v := ?_) rfl (by kernel_rfl) (by kernel_rfl) (by kernel_rfl) (fun _ _ _ h => h) (Or.inl ⟨by rfl, ?hyt11⟩) (by assumption) ?_; (case hyt11 => ((intro W hSW; (try dsimp only at hSW); obtain ⟨s1, s2, s3, s4, s5, s6, s7, s8⟩ := hSW; go_simp); (all_goals with_reducible rfl))); (try simp only [Act.put, List.setIfInBounds_toArray, List.set_cons_zero, List.set_cons_succ])
            refine wpAnyH_take (i := 12) (oi := ⟨some 99, _, _, _, _, _⟩) (v := ?_) rfl (by kernel_rfl) (by kernel_rfl) (by kernel_rfl) (fun _ _ _ h => h) (Or.inl ⟨by rfl, ?hyt12⟩) (by assumption) ?_; (case hyt12 => ((intro W hSW; (try dsimp only at hSW); obtain ⟨s1, s2, s3, s4, s5, s6, s7, s8⟩ := hSW; go_simp); (all_goals with_reducible rfl))); (try simp only [Act.put, List.setIfInBounds_toArray, List.set_cons_zero, List.set_cons_succ])
            refine wpAnyH_take (i := 13) (oi := ⟨some 100, _, _, _, _, _⟩) (v := ?_) rfl (by kernel_rfl) (by kernel_rfl) (by kernel_rfl) (fun _ _ _ h => h) (Or.inl ⟨by rfl, ?hyt13⟩) (by assumption) ?_; (case hyt13 => ((intro W hSW; (try dsimp only at hSW); obtain ⟨s1, s2, s3, s4, s5, s6, s7, s8⟩ := hSW; go_simp); (all_goals with_reducible rfl))); (try simp only [Act.put, List.setIfInBounds_toArray, List.set_cons_zero, List.set_cons_succ])
            refine wpAnyH_take (i := 14) (oi := ⟨some 101, _, _, _, _, _⟩) (v := ?_) rfl (by kernel_rfl) (by kernel_rfl) (by kernel_rfl) (fun _ _ _ h => h) (Or.inl ⟨by rfl, ?hyt14⟩) (by assumption) ?_; (case hyt14 => ((intro W hSW; (try dsimp only at hSW); obtain ⟨s1, s2, s3, s4, s5, s6, s7, s8⟩ := hSW; go_simp); (all_goals with_reducible rfl))); (try simp only [Act.put, List.setIfInBounds_toArray, List.set_cons_zero, List.set_cons_succ])
            refine wpAnyH_take (i := 15) (oi := ⟨some 102, _, _, _, _, _⟩) (v := ?_) rfl (by kernel_rfl) (by kernel_rfl) (by kernel_rfl) (fun _ _ _ h => h) (Or.inl ⟨by rfl, ?hyt15⟩) (by assumption) ?_; (case hyt15 => ((intro W hSW; (try dsimp only at hSW); obtain ⟨s1, s2, s3, s4, s5, s6, s7, s8⟩ := hSW; go_simp); (all_goals with_reducible rfl))); (try simp only [Act.put, List.setIfInBounds_toArray, List.set_cons_zero, List.set_cons_succ])
            refine wpAnyH_take (i := 16) (oi := ⟨some 103, _, _, _, _, _⟩) (v := ?_) rfl (by kernel_rfl) (by kernel_rfl) (by kernel_rfl) (fun _ _ _ h => h) (Or.inl ⟨by rfl, ?hyt16⟩) (by assumption) ?_; (case hyt16 => ((intro W hSW; (try dsimp only at hSW); obtain ⟨s1, s2, s3, s4, s5, s6, s7, s8⟩ := hSW; go_simp); (all_goals with_reducible rfl))); (try simp only [Act.put, List.setIfInBounds_toArray, List.set_cons_zero, List.set_cons_succ])
            refine wpAnyH_take (i := 17) (oi := ⟨some 104, _, _, _, _, _⟩) (v := ?_) rfl (by kernel_rfl) (by kernel_rfl) (by kernel_rfl) (fun _ _ _ h => h) (Or.inl ⟨by rfl, ?hyt17⟩) (by assumption) ?_; (case hyt17 => ((intro W hSW; (try dsimp only at hSW); obtain ⟨s1, s2, s3, s4, s5, s6, s7, s8⟩ := hSW; go_simp); (all_goals with_reducible rfl))); (try simp only [Act.put, List.setIfInBounds_toArray, List.set_cons_zero, List.set_cons_succ])
            refine wpAnyH_take (i := 18) (oi := ⟨some 105, _, _, _, _, _⟩) (v := ?_) rfl (by kernel_rfl) (by kernel_rfl) (by kernel_rfl) (fun _ _ _ h => h) (Or.inl ⟨by rfl, ?hyt18⟩) (by assumption) ?_; (case hyt18 => ((intro W hSW; (try dsimp only at hSW); obtain ⟨s1, s2, s3, s4, s5, s6, s7, s8⟩ := hSW; go_simp); (all_goals with_reducible rfl))); (try simp only [Act.put, List.setIfInBounds_toArray, List.set_cons_zero, List.set_cons_succ])
            refine wpAnyH_take (i := 19) (oi := ⟨some 106, _, _, _, _, _⟩) (v := ?_) rfl (by kernel_rfl) (by kernel_rfl) (by kernel_rfl) (fun _ _ _ h => h) (Or.inl ⟨by rfl, ?hyt19⟩) (by assumption) ?_; (case hyt19 => ((intro W hSW; (try dsimp only at hSW); obtain ⟨s1, s2, s3, s4, s5, s6, s7, s8⟩ := hSW; go_simp); (all_goals with_reducible rfl))); (try simp only [Act.put, List.setIfInBounds_toArray, List.set_cons_zero, List.set_cons_succ])
            refine wpAnyH_take (i := 20) (oi := ⟨some 107, _, _, _, _, _⟩) (v := ?_) rfl (by kernel_rfl) (by kernel_rfl) (by kernel_rfl) (fun _ _ _ h => h) (Or.inl ⟨by rfl, ?hyt20⟩) (by assumption) ?_; (case hyt20 => ((intro W hSW; (try dsimp only at hSW); obtain ⟨s1, s2, s3, s4, s5, s6, s7, s8⟩ := hSW; go_simp); (all_goals with_reducible rfl))); (try simp only [Act.put, List.setIfInBounds_toArray, List.set_cons_zero, List.set_cons_succ])
            refine wpAnyH_take (i := 21) (oi := ⟨some 108, _, _, _, _, _⟩) (v := ?_) rfl (by kernel_rfl) (by kernel_rfl) (by kernel_rfl) (fun _ _ _ h => h) (Or.inl ⟨by rfl, ?hyt21⟩) (by assumption) ?_; (case hyt21 => ((intro W hSW; (try dsimp only at hSW); obtain ⟨s1, s2, s3, s4, s5, s6, s7, s8⟩ := hSW; go_simp); (all_goals with_reducible rfl))); (try simp only [Act.put, List.setIfInBounds_toArray, List.set_cons_zero, List.set_cons_succ])
            refine wpAnyH_take (i := 22) (oi := ⟨some 109, _, _, _, _, _⟩) (v := ?_) rfl (by kernel_rfl) (by kernel_rfl) (by kernel_rfl) (fun _ _ _ h => h) (Or.inl ⟨by rfl, ?hyt22⟩) (by assumption) ?_; (case hyt22 => ((intro W hSW; (try dsimp only at hSW); obtain ⟨s1, s2, s3, s4, s5, s6, s7, s8⟩ := hSW; go_simp); (all_goals with_reducible rfl))); (try simp only [Act.put, List.setIfInBounds_toArray, List.set_cons_zero, List.set_cons_succ])
            refine wpAnyH_take (i := 23) (oi := ⟨some 110, _, _, _, _, _⟩) (v := ?_) rfl (by kernel_rfl) (by kernel_rfl) (by kernel_rfl) (fun _ _ _ h => h) (Or.inl ⟨by rfl, ?hyt23⟩) (by assumption) ?_; (case hyt23 => ((intro W hSW; (try dsimp only at hSW); obtain ⟨s1, s2, s3, s4, s5, s6, s7, s8⟩ := hSW; go_simp); (all_goals with_reducible rfl))); (try simp only [Act.put, List.setIfInBounds_toArray, List.set_cons_zero, List.set_cons_succ])
            refine wpAnyH_take (i := 24) (oi := ⟨some 111, _, _, _, _, _⟩) (v := ?_) rfl (by kernel_rfl) (by kernel_rfl) (by kernel_rfl) (fun _ _ _ h => h) (Or.inl ⟨by rfl, ?hyt24⟩) (by assumption) ?_; (case hyt24 => ((intro W hSW; (try dsimp only at hSW); obtain ⟨s1, s2, s3, s4, s5, s6, s7, s8⟩ := hSW; go_simp); (all_goals with_reducible rfl))); (try simp only [Act.put, List.setIfInBounds_toArray, List.set_cons_zero, List.set_cons_succ])
            refine wpAnyH_take (i := 25) (oi := ⟨some 112, _, _, _, _, _⟩) (v := ?_) rfl (by kernel_rfl) (by kernel_rfl) (by kernel_rfl) (fun _ _ _ h => h) (Or.inl ⟨by rfl, ?hyt25⟩) (by assumption) ?_; (case hyt25 => ((intro W hSW; (try dsimp only at hSW); obtain ⟨s1, s2, s3, s4, s5, s6, s7, s8⟩ := hSW; go_simp); (all_goals with_reducible rfl))); (try simp only [Act.put, List.setIfInBounds_toArray, List.set_cons_zero, List.set_cons_succ])
            refine wpAnyH_take (i := 26) (oi := ⟨some 113, _, _, _, _, _⟩) (v := ?_) rfl (by kernel_rfl) (by kernel_rfl) (by kernel_rfl) (fun _ _ _ h => h) (Or.inl ⟨by rfl, ?hyt26⟩) (by assumption) ?_; (case hyt26 => ((intro W hSW; (try dsimp only at hSW); obtain ⟨s1, s2, s3, s4, s5, s6, s7, s8⟩ := hSW; go_simp); (all_goals with_reducible rfl))); (try simp only [Act.put, List.setIfInBounds_toArray, List.set_cons_zero, List.set_cons_succ])
            refine wpAnyH_take (i := 27) (oi := ⟨some 114, _, _, _, _, _⟩) (v := ?_) rfl (by kernel_rfl) (by kernel_rfl) (by kernel_rfl) (fun _ _ _ h => h) (Or.inl ⟨by rfl, ?hyt27⟩) (by assumption) ?_; (case hyt27 => ((intro W hSW; (try dsimp only at hSW); obtain ⟨s1, s2, s3, s4, s5, s6, s7, s8⟩ := hSW; go_simp); (all_goals with_reducible rfl))); (try simp only [Act.put, List.setIfInBounds_toArray, List.set_cons_zero, List.set_cons_succ])
            refine wpAnyH_take (i := 28) (oi := ⟨some 115, _, _, _, _, _⟩) (v := ?_) rfl (by kernel_rfl) (by kernel_rfl) (by kernel_rfl) (fun _ _ _ h => h) (Or.inl ⟨by rfl, ?hyt28⟩) (by assumption) ?_; (case hyt28 => ((intro W hSW; (try dsimp only at hSW); obtain ⟨s1, s2, s3, s4, s5, s6, s7, s8⟩ := hSW; go_simp); (all_goals with_reducible rfl))); (try simp only [Act.put, List.setIfInBounds_toArray, List.set_cons_zero, List.set_cons_succ])
            refine wpAnyH_take (i := 29) (oi := ⟨some 116, _, _, _, _, _⟩) (v := ?_) rfl (by kernel_rfl) (by kernel_rfl) (by kernel_rfl) (fun _ _ _ h => h) (Or.inl ⟨by rfl, ?hyt29⟩) (by assumption) ?_; (case hyt29 => ((intro W hSW; (try dsimp only at hSW); obtain ⟨s1, s2, s3, s4, s5, s6, s7, s8⟩ := hSW; go_simp); (all_goals with_reducible rfl))); (try simp only [Act.put, List.setIfInBounds_toArray, List.set_cons_zero, List.set_cons_succ])
            refine wpAnyH_take (i := 30) (oi := ⟨some 117, _, _, _, _, _⟩) (v := ?_) rfl (by kernel_rfl) (by kernel_rfl) (by kernel_rfl) (fun _ _ _ h => h) (Or.inl ⟨by rfl, ?hyt30⟩) (by assumption) ?_; (case hyt30 => ((intro W hSW; (try dsimp only at hSW); obtain ⟨s1, s2, s3, s4, s5, s6, s7, s8⟩ := hSW; go_simp); (all_goals with_reducible rfl))); (try simp only [Act.put, List.setIfInBounds_toArray, List.set_cons_zero, List.set_cons_succ])
            refine wpAnyH_take (i := 31) (oi := ⟨some 118, _, _, _, _, _⟩) (v := ?_) rfl (by kernel_rfl) (by kernel_rfl) (by kernel_rfl) (fun _ _ _ h => h) (Or.inl ⟨by rfl, ?hyt31⟩) (by assumption) ?_; (case hyt31 => ((intro W hSW; (try dsimp only at hSW); obtain ⟨s1, s2, s3, s4, s5, s6, s7, s8⟩ := hSW; go_simp); (all_goals with_reducible rfl))); (try simp only [Act.put, List.setIfInBounds_toArray, List.set_cons_zero, List.set_cons_succ])
            refine wpAnyH_take (i := 32) (oi := ⟨some 119, _, _, _, _, _⟩) (v := ?_) rfl (by kernel_rfl) (by kernel_rfl) (by kernel_rfl) (fun _ _ _ h => h) (Or.inl ⟨by rfl, ?hyt32⟩) (by assumption) ?_; (case hyt32 => ((intro W hSW; (try dsimp only at hSW); obtain ⟨s1, s2, s3, s4, s5, s6, s7, s8⟩ := hSW; go_simp); (all_goals with_reducible rfl))); (try simp only [Act.put, List.setIfInBounds_toArray, List.set_cons_zero, List.set_cons_succ])
            refine wpAnyH_take (i := 33) (oi := ⟨some 120, _, _, _, _, _⟩) (v := ?_) rfl (by kernel_rfl) (by kernel_rfl) (by kernel_rfl) (fun _ _ _ h => h) (Or.inl ⟨by rfl, ?hyt33⟩) (by assumption) ?_; (case hyt33 => ((intro W hSW; (try dsimp only at hSW); obtain ⟨s1, s2, s3, s4, s5, s6, s7, s8⟩ := hSW; go_simp); (all_goals with_reducible rfl))); (try simp only [Act.put, List.setIfInBounds_toArray, List.set_cons_zero, List.set_cons_succ])
            refine wpAnyH_done (by kernel_rfl) ?_ _
            refine NoPanic.normal ?_
            clear hHeld E XN
            go_wp2_with fail
            go_roundw
            case rel => exact ⟨j + 1, by go_num, by omega, Sd2, Lib.hid (hH.out.turn (T := fun _ => False) (Turn.ofBelow hfb.out.drew rfl) (fun _ _ h => h.elim) (fun k h => .inl h)), Lib.hid (by rw [show max k (j + 1) = max k j by omega]; exact hD.out.below hfb.out.drew), Lib.hid (Turn.heap (S := fun _ => False) (Turn.ofBelow hfb.out.drew rfl) hdef.out (fun h => h)), hSD⟩
            case measure => simp [intOf] <;> omega
          · have hjk1 : ¬ ((j : Int) < ((k : Nat) : Int)) := by omega
            have hdj : its.drop (max k j) = its.getD j It.no :: its.drop (j + 1) := by
              rw [show max k j = j by omega, List.drop_eq_getElem_cons hlt]; simp [List.getD, hlt]
            obtain ⟨br, orr, rfl, hlr, hcr⟩ : ∃ br orr, rq = some ⟨br, orr, none⟩ ∧ br < wr.heap.size ∧ ∀ i, i < its.length → wr.cell? ⟨br, orr + i * 3, none⟩ = some (.int .i64 ((its.getD i It.no).skip : Int)) ∧ wr.cell? ⟨br, orr + i * 3 + 1, none⟩ = some (.int .u8 ((its.getD i It.no).kind.toNat : Int)) ∧ wr.cell? ⟨br, orr + i * 3 + 2, none⟩ = some (.string ⟨(its.getD i It.no).body.toArray⟩) := by
              rcases hH.out.row.at_ with h0 | ⟨b', off, e, h1, h2⟩
              · omega
              · exact ⟨b', off, e, h1, h2⟩
            obtain ⟨i0, i1, i2⟩ := hcr j hlt
            have hbne : ∀ k, Sd2 k → br ≠ k := fun k hk => (hH.out.off k hk).2.2.2.2 _ rfl
            rw [hdj] at hD
            generalize its.getD j It.no = x at *
            have A1 : Below wr.heap.size wr (wr.alloc (.cells #[.int .i64 0, .int .u8 0, .slice none 0 0] 39)) := (Below.refl _ _).alloc (Nat.le_refl _) _
            have hlt2 := hD.out.lt
            obtain ⟨hD1, hB1⟩ := Dec.apart hD.out hD.out.bod (Turn.ofBelow (S := fun _ => False) A1 rfl) (fun _ _ h => h.elim) (fun _ _ h => h)
            have X1 := Lib.hid (Box.new wr [.int .i64 0, .int .u8 0, .slice none 0 0] _ 39 rfl wr.heap.size rfl)
            have hH1 := Lib.hid (hH.out.turn (S' := fun k => Sd2 k ∨ k = wr.heap.size) (T := fun _ => False) (Turn.ofBelow A1 rfl) (fun _ _ h => h.elim) (fun k h => h.elim .inl (fun e => .inr (by omega))))
            have hdef2 := hdef
            have hdf1 := Lib.hid (Turn.heap (S := fun _ => False) (Turn.ofBelow A1 rfl) hdef.out (fun h => h))
            have HN := next_any g Sd2 _ _ hD1
            simp only [List.getD_cons_zero, List.length_cons, Nat.zero_lt_succ, decide_true] at HN
            replace HN := Lib.hid HN
            have hlen1 : (wr.alloc (.cells #[.int .i64 0, .int .u8 0, .slice none 0 0] 39)).heap.size = wr.heap.size + 1 := by simp
            replace hlen1 := Lib.hid hlen1
            replace hD1 := Lib.hid hD1
            replace hB1 := Lib.hid hB1
            replace hlt2 := Lib.hid hlt2
            replace hbne := Lib.hid hbne
            have hi0 := Lib.hid i0
            have hi1 := Lib.hid i1
            have hi2 := Lib.hid i2
            have hr2 := Lib.hid r2
            clear hdj hcr hD hH hdef i0 i1 i2 htk
            go_wp2_with fail
            refine (HN.out).mono ?_; rintro e w8 ⟨qb, nb, mb, rfl, hR8, hq8, ⟨S8, hD8, hT8, hS8⟩, hE8⟩
            have X8 := X1.out.turn hT8 (fun hs => by have := hlt2.out _ hs; omega)
            obtain ⟨_, hqx⟩ := hE8 _ hB1.out
            have hH8 := hH1.out.turn (S' := fun k => S8 k ∨ k = wr.heap.size) hT8 (fun _ _ h => .inl h) (fun k h => h.elim (fun h => (hS8 k h).elim (fun h => .inl (.inl h)) .inr) (fun h => .inl (.inr h)))
            have a0 := X8.cell 0 _ rfl
            have a1 := X8.cell 1 _ rfl
            have a2 := X8.cell 2 _ rfl
            have e0 := X8.free 0 (by simp)
            have e1 := X8.free 1 (by simp)
            have e2 := X8.free 2 (by simp)
            have xlt := X8.lt
            have rlt8 := hH8.ref.lt
            have hz1 := hlen1.out
            have zbr : br < (wr.alloc (.cells #[.int .i64 0, .int .u8 0, .slice none 0 0] 39)).heap.size := by rw [hlen1.out]; omega
            have hbn : ¬ Sd2 br := fun hs => hbne.out _ hs rfl
            have i0 := ((hT8.cell (p := ⟨br, orr + j * 3, none⟩) zbr hbn).trans (A1.cell (p := ⟨br, orr + j * 3, none⟩) hlr)).trans hi0.out
            have i1 := ((hT8.cell (p := ⟨br, orr + j * 3 + 1, none⟩) zbr hbn).trans (A1.cell (p := ⟨br, orr + j * 3 + 1, none⟩) hlr)).trans hi1.out
            have i2 := ((hT8.cell (p := ⟨br, orr + j * 3 + 2, none⟩) zbr hbn).trans (A1.cell (p := ⟨br, orr + j * 3 + 2, none⟩) hlr)).trans hi2.out
            have brlt := Nat.lt_of_lt_of_le zbr hT8.size
            have hrx := hH8.le
            have TX := turn_set3 w8 wr.heap.size (.int .i64 (x.skip : Int)) (.int .u8 (x.kind.toNat : Int)) (.slice qb nb mb) (.cells #[.int .i64 (x.skip : Int), .int .u8 (x.kind.toNat : Int), .slice qb nb mb] 39)
            have XY : Box ((((w8.setCell ⟨wr.heap.size, 0, none⟩ (.int .i64 (x.skip : Int))).setCell ⟨wr.heap.size, 1, none⟩ (.int .u8 (x.kind.toNat : Int))).setCell ⟨wr.heap.size, 2, none⟩ (.slice qb nb mb)).alloc (.cells #[.int .i64 (x.skip : Int), .int .u8 (x.kind.toNat : Int), .slice qb nb mb] 39)) wr.heap.size [.int .i64 (x.skip : Int), .int .u8 (x.kind.toNat : Int), .slice qb nb mb] := (((X8.set 0 (.int .i64 (x.skip : Int)) (by simp)).set 1 (.int .u8 (x.kind.toNat : Int)) (by simp)).set 2 (.slice qb nb mb) (by simp)).below ((Below.refl _ _).alloc (Nat.le_refl _) _)
            have hHY := hH8.ref.turn TX (by omega)
            have hRY := hR8.turn TX (fun y hy e => by have := hqx y hy; omega)
            have hrY := hH8.ref.cell 2 _ rfl
            have hzX : wr.heap.size < w8.heap.size := X8.lt
            have brn : ¬ (br = wr.heap.size) := by omega
            have E : ∀ W, Below ((((w8.setCell ⟨wr.heap.size, 0, none⟩ (.int .i64 (x.skip : Int))).setCell ⟨wr.heap.size, 1, none⟩ (.int .u8 (x.kind.toNat : Int))).setCell ⟨wr.heap.size, 2, none⟩ (.slice qb nb mb)).alloc (.cells #[.int .i64 (x.skip : Int), .int .u8 (x.kind.toNat : Int), .slice qb nb mb] 39)).heap.size ((((w8.setCell ⟨wr.heap.size, 0, none⟩ (.int .i64 (x.skip : Int))).setCell ⟨wr.heap.size, 1, none⟩ (.int .u8 (x.kind.toNat : Int))).setCell ⟨wr.heap.size, 2, none⟩ (.slice qb nb mb)).alloc (.cells #[.int .i64 (x.skip : Int), .int .u8 (x.kind.toNat : Int), .slice qb nb mb] 39)) W → (fun W => W.cell? ⟨wr.heap.size, 0, none⟩ = some (.int .i64 (x.skip : Int)) ∧ W.cell? ⟨wr.heap.size, 1, none⟩ = some (.int .u8 (x.kind.toNat : Int)) ∧ W.cell? ⟨wr.heap.size, 2, none⟩ = some (.slice qb nb mb) ∧ W.cell? ⟨R, 2, none⟩ = some (.slice (some ⟨br, orr, none⟩) its.length rc) ∧ W.cell? ⟨br, orr + j * 3, none⟩ = some (.int .i64 (x.skip : Int)) ∧ W.cell? ⟨br, orr + j * 3 + 1, none⟩ = some (.int .u8 (x.kind.toNat : Int)) ∧ W.cell? ⟨br, orr + j * 3 + 2, none⟩ = some (.string ⟨x.body.toArray⟩) ∧ (convert 22 9 (.slice qb nb mb)).run Tryd.prog W = .ok (.string ⟨x.body.toArray⟩) W) W := fun W h => ⟨(XY.below h).cell 0 _ rfl, (XY.below h).cell 1 _ rfl, (XY.below h).cell 2 _ rfl, (hHY.below h).cell 2 _ rfl, ((h.cell (p := ⟨br, orr + j * 3, none⟩) (Nat.lt_of_lt_of_le brlt TX.size)).trans (TX.cell (p := ⟨br, orr + j * 3, none⟩) brlt brn)).trans i0, ((h.cell (p := ⟨br, orr + j * 3 + 1, none⟩) (Nat.lt_of_lt_of_le brlt TX.size)).trans (TX.cell (p := ⟨br, orr + j * 3 + 1, none⟩) brlt brn)).trans i1, ((h.cell (p := ⟨br, orr + j * 3 + 2, none⟩) (Nat.lt_of_lt_of_le brlt TX.size)).trans (TX.cell (p := ⟨br, orr + j * 3 + 2, none⟩) brlt brn)).trans i2, (hRY.below h).conv 22 9 5 Tryd.underlying22 Tryd.underlying5 Tryd.underlying9 (P := Tryd.prog)⟩
            replace E := Lib.hid E
            have hdf8 := Turn.heap hT8 hdf1.out hSD.out
            have hDlt := (Array.getElem?_eq_some_iff.1 hdef2.out).1
            have hd9 := Turn.heap TX hdf8 (by omega)
            have hD9 := (Dec.apart hD8 (hE8 _ hB1.out).1 TX (fun k hk e hs => by
              rcases hS8 k hs with h | h
              · have := hlt2.out _ h; omega
              · omega) (fun k hk e => by omega)).1
            have hH9 := Lib.hid (hH8.turn (S' := S8) (T := fun k => k = wr.heap.size) TX.drew (fun k _ e => .inr e) (fun k h => .inl (.inl h)))
            have hSD8 : ¬ S8 D := fun hs => by
              rcases hS8 D hs with h | h
              · exact hSD.out h
              · omega
            replace hHY := Lib.hid hHY
            replace hRY := Lib.hid hRY
            replace hR8 := Lib.hid hR8
            replace hq8 := Lib.hid hq8
            replace hD8 := Lib.hid hD8
            replace hT8 := Lib.hid hT8
            replace hS8 := Lib.hid hS8
            replace hH8 := Lib.hid hH8
            replace TX := Lib.hid TX
            replace XY := Lib.hid XY
            replace hd9 := Lib.hid hd9
            replace hD9 := Lib.hid hD9
            replace hdf8 := Lib.hid hdf8
            replace hSD8 := Lib.hid hSD8
            clear hE8 X8 hqx i0 i1 i2 hrY
            go_wp2_with fail
            refine wp_region_noPanic ?_
            refine wp_region_held_drew (S := (fun W => W.cell? ⟨wr.heap.size, 0, none⟩ = some (.int .i64 (x.skip : Int)) ∧ W.cell? ⟨wr.heap.size, 1, none⟩ = some (.int .u8 (x.kind.toNat : Int)) ∧ W.cell? ⟨wr.heap.size, 2, none⟩ = some (.slice qb nb mb) ∧ W.cell? ⟨R, 2, none⟩ = some (.slice (some ⟨br, orr, none⟩) its.length rc) ∧ W.cell? ⟨br, orr + j * 3, none⟩ = some (.int .i64 (x.skip : Int)) ∧ W.cell? ⟨br, orr + j * 3 + 1, none⟩ = some (.int .u8 (x.kind.toNat : Int)) ∧ W.cell? ⟨br, orr + j * 3 + 2, none⟩ = some (.string ⟨x.body.toArray⟩) ∧ (convert 22 9 (.slice qb nb mb)).run Tryd.prog W = .ok (.string ⟨x.body.toArray⟩) W)) (by kernel_rfl) (E.out _ (Below.refl _ _).drew) (fun hHeld => ?_)
            refine wpAnyH_take (i := 0) (oi := ⟨some 87, _, _, _, _, _⟩) (v := ?_) rfl (by kernel_rfl) (by kernel_rfl) (by kernel_rfl) (fun _ _ _ h => h) (Or.inl ⟨by rfl, ?hyt0⟩) (by assumption) ?_; (case hyt0 => ((intro W hSW; (try dsimp only at hSW); obtain ⟨s1, s2, s3, s4, s5, s6, s7, s8⟩ := hSW; go_simp); (all_goals with_reducible rfl))); (try simp only [Act.put, List.setIfInBounds_toArray, List.set_cons_zero, List.set_cons_succ])
            refine wpAnyH_take (i := 1) (oi := ⟨some 88, _, _, _, _, _⟩) (v := ?_) rfl (by kernel_rfl) (by kernel_rfl) (by kernel_rfl) (fun _ _ _ h => h) (Or.inl ⟨by rfl, ?hyt1⟩) (by assumption) ?_; (case hyt1 => ((intro W hSW; (try dsimp only at hSW); obtain ⟨s1, s2, s3, s4, s5, s6, s7, s8⟩ := hSW; go_simp); (all_goals with_reducible rfl))); (try simp only [Act.put, List.setIfInBounds_toArray, List.set_cons_zero, List.set_cons_succ])
            refine wpAnyH_take (i := 2) (oi := ⟨some 89, _, _, _, _, _⟩) (v := ?_) rfl (by kernel_rfl) (by kernel_rfl) (by kernel_rfl) (fun _ _ _ h => h) (Or.inl ⟨by rfl, ?hyt2⟩) (by assumption) ?_; (case hyt2 => ((intro W hSW; (try dsimp only at hSW); obtain ⟨s1, s2, s3, s4, s5, s6, s7, s8⟩ := hSW; go_simp); (all_goals with_reducible rfl))); (try simp only [Act.put, List.setIfInBounds_toArray, List.set_cons_zero, List.set_cons_succ])
            refine wpAnyH_take (i := 3) (oi := ⟨some 90, _, _, _, _, _⟩) (v := ?_) rfl (by kernel_rfl) (by kernel_rfl) (by kernel_rfl) (fun _ _ _ h => h) (Or.inl ⟨by rfl, ?hyt3⟩) (by assumption) ?_; (case hyt3 => ((intro W hSW; (try dsimp only at hSW); obtain ⟨s1, s2, s3, s4, s5, s6, s7, s8⟩ := hSW; go_simp); (all_goals with_reducible rfl))); (try simp only [Act.put, List.setIfInBounds_toArray, List.set_cons_zero, List.set_cons_succ])
            refine wpAnyH_take (i := 4) (oi := ⟨some 91, _, _, _, _, _⟩) (v := ?_) rfl (by kernel_rfl) (by kernel_rfl) (by kernel_rfl) (fun _ _ _ h => h) (Or.inl ⟨by rfl, ?hyt4⟩) (by assumption) ?_; (case hyt4 => ((intro W hSW; (try dsimp only at hSW); obtain ⟨s1, s2, s3, s4, s5, s6, s7, s8⟩ := hSW; go_simp); (all_goals with_reducible rfl))); (try simp only [Act.put, List.setIfInBounds_toArray, List.set_cons_zero, List.set_cons_succ])
            refine wpAnyH_take (i := 5) (oi := ⟨some 92, _, _, _, _, _⟩) (v := ?_) rfl (by kernel_rfl) (by kernel_rfl) (by kernel_rfl) (fun _ _ _ h => h) (Or.inl ⟨by rfl, ?hyt5⟩) (by assumption) ?_; (case hyt5 => ((intro W hSW; (try dsimp only at hSW); obtain ⟨s1, s2, s3, s4, s5, s6, s7, s8⟩ := hSW; go_simp); (all_goals with_reducible rfl))); (try simp only [Act.put, List.setIfInBounds_toArray, List.set_cons_zero, List.set_cons_succ])
            refine wpAnyH_take (i := 6) (oi := ⟨some 93, _, _, _, _, _⟩) (v := ?_) rfl (by kernel_rfl) (by kernel_rfl) (by kernel_rfl) (fun _ _ _ h => h) (Or.inl ⟨by rfl, ?hyt6⟩) (by assumption) ?_; (case hyt6 => ((intro W hSW; (try dsimp only at hSW); obtain ⟨s1, s2, s3, s4, s5, s6, s7, s8⟩ := hSW; go_simp); (all_goals with_reducible rfl))); (try simp only [Act.put, List.setIfInBounds_toArray, List.set_cons_zero, List.set_cons_succ])
            refine wpAnyH_take (i := 7) (oi := ⟨some 94, _, _, _, _, _⟩) (v := ?_) rfl (by kernel_rfl) (by kernel_rfl) (by kernel_rfl) (fun _ _ _ h => h) (Or.inl ⟨by rfl, ?hyt7⟩) (by assumption) ?_; (case hyt7 => ((intro W hSW; (try dsimp only at hSW); obtain ⟨s1, s2, s3, s4, s5, s6, s7, s8⟩ := hSW; go_simp); (all_goals with_reducible rfl))); (try simp only [Act.put, List.setIfInBounds_toArray, List.set_cons_zero, List.set_cons_succ])
            refine wpAnyH_take (i := 8) (oi := ⟨some 95, _, _, _, _, _⟩) (v := ?_) rfl (by kernel_rfl) (by kernel_rfl) (by kernel_rfl) (fun _ _ _ h => h) (Or.inl ⟨by rfl, ?hyt8⟩) (by assumption) ?_; (case hyt8 => ((intro W hSW; (try dsimp only at hSW); obtain ⟨s1, s2, s3, s4, s5, s6, s7, s8⟩ := hSW; go_simp); (all_goals with_reducible rfl))); (try simp only [Act.put, List.setIfInBounds_toArray, List.set_cons_zero, List.set_cons_succ])
            refine wpAnyH_take (i := 9) (oi := ⟨some 96, _, _, _, _, _⟩) (v := ?_) rfl (by kernel_rfl) (by kernel_rfl) (by kernel_rfl) (fun _ _ _ h => h) (Or.inl ⟨by rfl, ?hyt9⟩) (by assumption) ?_; (case hyt9 => ((intro W hSW; (try dsimp only at hSW); obtain ⟨s1, s2, s3, s4, s5, s6, s7, s8⟩ := hSW; go_simp); (all_goals with_reducible rfl))); (try simp only [Act.put, List.setIfInBounds_toArray, List.set_cons_zero, List.set_cons_succ])
            refine wpAnyH_take (i := 10) (oi := ⟨some 97, _, _, _, _, _⟩) (v := ?_) rfl (by kernel_rfl) (by kernel_rfl) (by kernel_rfl) (fun _ _ _ h => h) (Or.inl ⟨by rfl, ?hyt10⟩) (by assumption) ?_; (case hyt10 => ((intro W hSW; (try dsimp only at hSW); obtain ⟨s1, s2, s3, s4, s5, s6, s7, s8⟩ := hSW; go_simp); (all_goals with_reducible rfl))); (try simp only [Act.put, List.setIfInBounds_toArray, List.set_cons_zero, List.set_cons_succ])
            refine wpAnyH_take (i := 11) (oi := ⟨some 98, _, _, _, _, _⟩) (v := ?_) rfl (by kernel_rfl) (by kernel_rfl) (by kernel_rfl) (fun _ _ _ h => h) (Or.inl ⟨by rfl, ?hyt11⟩) (by assumption) ?_; (case hyt11 => ((intro W hSW; (try dsimp only at hSW); obtain ⟨s1, s2, s3, s4, s5, s6, s7, s8⟩ := hSW; go_simp); (all_goals with_reducible rfl))); (try simp only [Act.put, List.setIfInBounds_toArray, List.set_cons_zero, List.set_cons_succ])
            refine wpAnyH_take (i := 12) (oi := ⟨some 99, _, _, _, _, _⟩) (v := ?_) rfl (by kernel_rfl) (by kernel_rfl) (by kernel_rfl) (fun _ _ _ h => h) (Or.inl ⟨by rfl, ?hyt12⟩) (by assumption) ?_; (case hyt12 => ((intro W hSW; (try dsimp only at hSW); obtain ⟨s1, s2, s3, s4, s5, s6, s7, s8⟩ := hSW; go_simp); (all_goals with_reducible rfl))); (try simp only [Act.put, List.setIfInBounds_toArray, List.set_cons_zero, List.set_cons_succ])
            refine wpAnyH_take (i := 13) (oi := ⟨some 100, _, _, _, _, _⟩) (v := ?_) rfl (by kernel_rfl) (by kernel_rfl) (by kernel_rfl) (fun _ _ _ h => h) (Or.inl ⟨by rfl, ?hyt13⟩) (by assumption) ?_; (case hyt13 => ((intro W hSW; (try dsimp only at hSW); obtain ⟨s1, s2, s3, s4, s5, s6, s7, s8⟩ := hSW; go_simp); (all_goals with_reducible rfl))); (try simp only [Act.put, List.setIfInBounds_toArray, List.set_cons_zero, List.set_cons_succ])
            refine wpAnyH_take (i := 14) (oi := ⟨some 101, _, _, _, _, _⟩) (v := ?_) rfl (by kernel_rfl) (by kernel_rfl) (by kernel_rfl) (fun _ _ _ h => h) (Or.inl ⟨by rfl, ?hyt14⟩) (by assumption) ?_; (case hyt14 => ((intro W hSW; (try dsimp only at hSW); obtain ⟨s1, s2, s3, s4, s5, s6, s7, s8⟩ := hSW; go_simp); (all_goals with_reducible rfl))); (try simp only [Act.put, List.setIfInBounds_toArray, List.set_cons_zero, List.set_cons_succ])
            refine wpAnyH_take (i := 15) (oi := ⟨some 102, _, _, _, _, _⟩) (v := ?_) rfl (by kernel_rfl) (by kernel_rfl) (by kernel_rfl) (fun _ _ _ h => h) (Or.inl ⟨by rfl, ?hyt15⟩) (by assumption) ?_; (case hyt15 => ((intro W hSW; (try dsimp only at hSW); obtain ⟨s1, s2, s3, s4, s5, s6, s7, s8⟩ := hSW; go_simp); (all_goals with_reducible rfl))); (try simp only [Act.put, List.setIfInBounds_toArray, List.set_cons_zero, List.set_cons_succ])
            refine wpAnyH_take (i := 16) (oi := ⟨some 103, _, _, _, _, _⟩) (v := ?_) rfl (by kernel_rfl) (by kernel_rfl) (by kernel_rfl) (fun _ _ _ h => h) (Or.inl ⟨by rfl, ?hyt16⟩) (by assumption) ?_; (case hyt16 => ((intro W hSW; (try dsimp only at hSW); obtain ⟨s1, s2, s3, s4, s5, s6, s7, s8⟩ := hSW; go_simp); (all_goals with_reducible rfl))); (try simp only [Act.put, List.setIfInBounds_toArray, List.set_cons_zero, List.set_cons_succ])
            refine wpAnyH_take (i := 17) (oi := ⟨some 104, _, _, _, _, _⟩) (v := ?_) rfl (by kernel_rfl) (by kernel_rfl) (by kernel_rfl) (fun _ _ _ h => h) (Or.inl ⟨by rfl, ?hyt17⟩) (by assumption) ?_; (case hyt17 => ((intro W hSW; (try dsimp only at hSW); obtain ⟨s1, s2, s3, s4, s5, s6, s7, s8⟩ := hSW; go_simp); (all_goals with_reducible rfl))); (try simp only [Act.put, List.setIfInBounds_toArray, List.set_cons_zero, List.set_cons_succ])
            refine wpAnyH_take (i := 18) (oi := ⟨some 105, _, _, _, _, _⟩) (v := ?_) rfl (by kernel_rfl) (by kernel_rfl) (by kernel_rfl) (fun _ _ _ h => h) (Or.inl ⟨by rfl, ?hyt18⟩) (by assumption) ?_; (case hyt18 => ((intro W hSW; (try dsimp only at hSW); obtain ⟨s1, s2, s3, s4, s5, s6, s7, s8⟩ := hSW; go_simp); (all_goals with_reducible rfl))); (try simp only [Act.put, List.setIfInBounds_toArray, List.set_cons_zero, List.set_cons_succ])
            refine wpAnyH_take (i := 19) (oi := ⟨some 106, _, _, _, _, _⟩) (v := ?_) rfl (by kernel_rfl) (by kernel_rfl) (by kernel_rfl) (fun _ _ _ h => h) (Or.inl ⟨by rfl, ?hyt19⟩) (by assumption) ?_; (case hyt19 => ((intro W hSW; (try dsimp only at hSW); obtain ⟨s1, s2, s3, s4, s5, s6, s7, s8⟩ := hSW; go_simp); (all_goals with_reducible rfl))); (try simp only [Act.put, List.setIfInBounds_toArray, List.set_cons_zero, List.set_cons_succ])
            refine wpAnyH_take (i := 20) (oi := ⟨some 107, _, _, _, _, _⟩) (v := ?_) rfl (by kernel_rfl) (by kernel_rfl) (by kernel_rfl) (fun _ _ _ h => h) (Or.inl ⟨by rfl, ?hyt20⟩) (by assumption) ?_; (case hyt20 => ((intro W hSW; (try dsimp only at hSW); obtain ⟨s1, s2, s3, s4, s5, s6, s7, s8⟩ := hSW; go_simp); (all_goals with_reducible rfl))); (try simp only [Act.put, List.setIfInBounds_toArray, List.set_cons_zero, List.set_cons_succ])
            refine wpAnyH_take (i := 21) (oi := ⟨some 108, _, _, _, _, _⟩) (v := ?_) rfl (by kernel_rfl) (by kernel_rfl) (by kernel_rfl) (fun _ _ _ h => h) (Or.inl ⟨by rfl, ?hyt21⟩) (by assumption) ?_; (case hyt21 => ((intro W hSW; (try dsimp only at hSW); obtain ⟨s1, s2, s3, s4, s5, s6, s7, s8⟩ := hSW; go_simp); (all_goals with_reducible rfl))); (try simp only [Act.put, List.setIfInBounds_toArray, List.set_cons_zero, List.set_cons_succ])
            refine wpAnyH_take (i := 22) (oi := ⟨some 109, _, _, _, _, _⟩) (v := ?_) rfl (by kernel_rfl) (by kernel_rfl) (by kernel_rfl) (fun _ _ _ h => h) (Or.inl ⟨by rfl, ?hyt22⟩) (by assumption) ?_; (case hyt22 => ((intro W hSW; (try dsimp only at hSW); obtain ⟨s1, s2, s3, s4, s5, s6, s7, s8⟩ := hSW; go_simp); (all_goals with_reducible rfl))); (try simp only [Act.put, List.setIfInBounds_toArray, List.set_cons_zero, List.set_cons_succ])
            refine wpAnyH_take (i := 23) (oi := ⟨some 110, _, _, _, _, _⟩) (v := ?_) rfl (by kernel_rfl) (by kernel_rfl) (by kernel_rfl) (fun _ _ _ h => h) (Or.inl ⟨by rfl, ?hyt23⟩) (by assumption) ?_; (case hyt23 => ((intro W hSW; (try dsimp only at hSW); obtain ⟨s1, s2, s3, s4, s5, s6, s7, s8⟩ := hSW; go_simp); (all_goals with_reducible rfl))); (try simp only [Act.put, List.setIfInBounds_toArray, List.set_cons_zero, List.set_cons_succ])
            refine wpAnyH_take (i := 24) (oi := ⟨some 111, _, _, _, _, _⟩) (v := ?_) rfl (by kernel_rfl) (by kernel_rfl) (by kernel_rfl) (fun _ _ _ h => h) (Or.inl ⟨by rfl, ?hyt24⟩) (by assumption) ?_; (case hyt24 => ((intro W hSW; (try dsimp only at hSW); obtain ⟨s1, s2, s3, s4, s5, s6, s7, s8⟩ := hSW; go_simp); (all_goals with_reducible rfl))); (try simp only [Act.put, List.setIfInBounds_toArray, List.set_cons_zero, List.set_cons_succ])
            refine wpAnyH_take (i := 25) (oi := ⟨some 112, _, _, _, _, _⟩) (v := ?_) rfl (by kernel_rfl) (by kernel_rfl) (by kernel_rfl) (fun _ _ _ h => h) (Or.inl ⟨by rfl, ?hyt25⟩) (by assumption) ?_; (case hyt25 => ((intro W hSW; (try dsimp only at hSW); obtain ⟨s1, s2, s3, s4, s5, s6, s7, s8⟩ := hSW; go_simp); (all_goals with_reducible rfl))); (try simp only [Act.put, List.setIfInBounds_toArray, List.set_cons_zero, List.set_cons_succ])
            refine wpAnyH_take (i := 26) (oi := ⟨some 113, _, _, _, _, _⟩) (v := ?_) rfl (by kernel_rfl) (by kernel_rfl) (by kernel_rfl) (fun _ _ _ h => h) (Or.inl ⟨by rfl, ?hyt26⟩) (by assumption) ?_; (case hyt26 => ((intro W hSW; (try dsimp only at hSW); obtain ⟨s1, s2, s3, s4, s5, s6, s7, s8⟩ := hSW; go_simp); (all_goals with_reducible rfl))); (try simp only [Act.put, List.setIfInBounds_toArray, List.set_cons_zero, List.set_cons_succ])
            refine wpAnyH_take (i := 27) (oi := ⟨some 114, _, _, _, _, _⟩) (v := ?_) rfl (by kernel_rfl) (by kernel_rfl) (by kernel_rfl) (fun _ _ _ h => h) (Or.inl ⟨by rfl, ?hyt27⟩) (by assumption) ?_; (case hyt27 => ((intro W hSW; (try dsimp only at hSW); obtain ⟨s1, s2, s3, s4, s5, s6, s7, s8⟩ := hSW; go_simp); (all_goals with_reducible rfl))); (try simp only [Act.put, List.setIfInBounds_toArray, List.set_cons_zero, List.set_cons_succ])
            refine wpAnyH_take (i := 28) (oi := ⟨some 115, _, _, _, _, _⟩) (v := ?_) rfl (by kernel_rfl) (by kernel_rfl) (by kernel_rfl) (fun _ _ _ h => h) (Or.inl ⟨by rfl, ?hyt28⟩) (by assumption) ?_; (case hyt28 => ((intro W hSW; (try dsimp only at hSW); obtain ⟨s1, s2, s3, s4, s5, s6, s7, s8⟩ := hSW; go_simp); (all_goals with_reducible rfl))); (try simp only [Act.put, List.setIfInBounds_toArray, List.set_cons_zero, List.set_cons_succ])
            refine wpAnyH_take (i := 29) (oi := ⟨some 116, _, _, _, _, _⟩) (v := ?_) rfl (by kernel_rfl) (by kernel_rfl) (by kernel_rfl) (fun _ _ _ h => h) (Or.inl ⟨by rfl, ?hyt29⟩) (by assumption) ?_; (case hyt29 => ((intro W hSW; (try dsimp only at hSW); obtain ⟨s1, s2, s3, s4, s5, s6, s7, s8⟩ := hSW; go_simp); (all_goals with_reducible rfl))); (try simp only [Act.put, List.setIfInBounds_toArray, List.set_cons_zero, List.set_cons_succ])
            refine wpAnyH_take (i := 30) (oi := ⟨some 117, _, _, _, _, _⟩) (v := ?_) rfl (by kernel_rfl) (by kernel_rfl) (by kernel_rfl) (fun _ _ _ h => h) (Or.inl ⟨by rfl, ?hyt30⟩) (by assumption) ?_; (case hyt30 => ((intro W hSW; (try dsimp only at hSW); obtain ⟨s1, s2, s3, s4, s5, s6, s7, s8⟩ := hSW; go_simp); (all_goals with_reducible rfl))); (try simp only [Act.put, List.setIfInBounds_toArray, List.set_cons_zero, List.set_cons_succ])
            refine wpAnyH_take (i := 31) (oi := ⟨some 118, _, _, _, _, _⟩) (v := ?_) rfl (by kernel_rfl) (by kernel_rfl) (by kernel_rfl) (fun _ _ _ h => h) (Or.inl ⟨by rfl, ?hyt31⟩) (by assumption) ?_; (case hyt31 => ((intro W hSW; (try dsimp only at hSW); obtain ⟨s1, s2, s3, s4, s5, s6, s7, s8⟩ := hSW; go_simp); (all_goals with_reducible rfl))); (try simp only [Act.put, List.setIfInBounds_toArray, List.set_cons_zero, List.set_cons_succ])
            refine wpAnyH_take (i := 32) (oi := ⟨some 119, _, _, _, _, _⟩) (v := ?_) rfl (by kernel_rfl) (by kernel_rfl) (by kernel_rfl) (fun _ _ _ h => h) (Or.inl ⟨by rfl, ?hyt32⟩) (by assumption) ?_; (case hyt32 => ((intro W hSW; (try dsimp only at hSW); obtain ⟨s1, s2, s3, s4, s5, s6, s7, s8⟩ := hSW; go_simp); (all_goals with_reducible rfl))); (try simp only [Act.put, List.setIfInBounds_toArray, List.set_cons_zero, List.set_cons_succ])
            refine wpAnyH_take (i := 33) (oi := ⟨some 120, _, _, _, _, _⟩) (v := ?_) rfl (by kernel_rfl) (by kernel_rfl) (by kernel_rfl) (fun _ _ _ h => h) (Or.inl ⟨by rfl, ?hyt33⟩) (by assumption) ?_; (case hyt33 => ((intro W hSW; (try dsimp only at hSW); obtain ⟨s1, s2, s3, s4, s5, s6, s7, s8⟩ := hSW; go_simp); (all_goals with_reducible rfl))); (try simp only [Act.put, List.setIfInBounds_toArray, List.set_cons_zero, List.set_cons_succ])
            refine wpAnyH_done (by kernel_rfl) ?_ _
            refine NoPanic.normal ?_
            clear hHeld E
            go_wp2_with fail
            go_roundw
            case rel => exact ⟨j + 1, by go_num, by omega, S8, hH9, Lib.hid (by rw [show max k (j + 1) = j + 1 by omega]; exact hD9.out.below ((Below.refl _ _).drew)), Lib.hid hd9.out, hSD8⟩
            case measure => simp [intOf] <;> omega
        · obtain rfl : j = its.length := by omega
          have hdz : its.drop (max k its.length) = [] := by rw [show max k its.length = its.length by omega, List.drop_length]
          rw [hdz] at hD
          have HN := next_any g Sd2 _ wr hD.out
          simp only [List.getD_nil, List.length_nil, Nat.lt_irrefl, decide_false] at HN
          replace HN := Lib.hid HN
          clear hdz htk
          go_wp2_with fail
          refine (HN.out).mono ?_; rintro e w8 ⟨q8, n8, c8, rfl, hR8, hq8, ⟨S8, hD8, hT8, hS8⟩, hE8⟩
          replace hT8 := Lib.hid hT8
          clear hR8 hq8 hD8 hE8
          go_wp2_with fail
          have T9 := hT8.out.alloc (.cells #[.int .i64 (It.no.skip : Int), .int .u8 (It.no.kind.toNat : Int), .slice q8 n8 c8] 39)
          have hd9 := Turn.heap T9 hdef.out hSD.out
          have hoff := hH.out.off
          have hwz := hH.out.bel.size
          have hDD2 := hDD.out
          have hz7 := z7.out
          have hle := hH.out.le
          have B9 := hH.out.bel.trans (T9.below hwz (fun k hk hs => by have := hoff k hs; omega))
          have TP := Turn.putObj (w8.alloc (.cells #[.int .i64 (It.no.skip : Int), .int .u8 (It.no.kind.toNat : Int), .slice q8 n8 c8] 39)) D (.deferred none)
          have B10 := B9.trans (TP.below (B := w.heap.size) B9.size (fun k hk e => by omega))
          refine ⟨by simp, .inl ⟨_, _, rfl, run_takeDeferred hd9, ?_⟩⟩
          exact ⟨_, results_tmp rfl _ _ _, rfl, B10⟩
  refine range_items_d (by omega) g (R + 3) B0 rfl rfl S4 rs sk ov its hD7 hB7 (XB.cell 0 _ rfl) (fun h => by have := hlt4 _ h; omega) (by omega) (by omega)
    (FII w (R + 1) R B0 rq rc [.string ⟨rs.toArray⟩, .int .i64 (sk : Int), .slice rq its.length rc, .bool ov] its n) (FIX w (R + 1) R B0 rq rc [.string ⟨rs.toArray⟩, .int .i64 (sk : Int), .slice rq its.length rc, .bool ov] its n g W0.heap.size rs sk ov 0) (FII.steady _ _ _ _ _ _ _ _ _) (fun c pre S W o h => h.put o)
    ⟨⟨⟨none, 0, [], XL, OwnG.nil _ _ _ _, trivial, fun k e => by cases e⟩, XR, hRw, B7, by omega, fun k hk => ?hoff, ⟨by omega, by omega, by omega, by omega, hq6⟩⟩, by simpa using XN, .inl rfl⟩
    (fun x q m c X => { tmps := #[.slice a0 len cap, .int .u8 (n : Int), undef, undef, .bool false, .bool true, .pointer (some ⟨g, 0, none⟩), .pointer (some ⟨R, 0, none⟩), .pointer (some ⟨R + 1, 0, none⟩), .pointer (some ⟨R + 2, 0, none⟩), .pointer (some ⟨X, 0, none⟩), undef, undef, undef, undef, undef, undef, undef, .bool true, .bool true, .bool false, .slice a0 len cap, .int .i64 (len : Int), .bool (decide (1000 < (len : Int))), .pointer (some ⟨g, 0, none⟩), .pointer (some ⟨g, 0, none⟩), .slice a0 len cap, .tuple #[], .pointer (some ⟨g, 0, none⟩), .tuple #[], .agg #[.string ⟨#[]⟩, .int .i64 0, .slice none 0 0, .bool false], .slice a0 len cap, .string ⟨b.toArray⟩, .agg #[.string ⟨rs1.toArray⟩, .int .i64 (sk1 : Int), .slice q5 n5 c5, .bool ov1], .agg #[.string ⟨rs.toArray⟩, .int .i64 (sk : Int), .slice rq its.length rc, .bool ov], .int .u8 (n : Int), .int .i64 (n : Int), .pointer (some ⟨g, 0, none⟩), .func (.func 70) #[] #[.pointer (some ⟨R + 3, 0, none⟩)], itA x q m c, undef, undef, undef, undef, undef, undef, undef, undef, undef, undef, undef, undef, undef, undef, undef, undef, undef, undef, undef, undef, undef, undef, undef, undef, undef, undef, undef, undef, undef, undef, undef, undef, undef, undef, undef, undef, undef, undef, undef, undef, undef, undef, undef, undef, undef, undef, undef, undef, undef, undef, undef, undef, undef, undef, undef, undef, undef, undef, undef, undef, undef, undef, undef, undef, undef, undef, undef, undef, undef, undef, undef, undef, undef, undef, undef, undef, undef, undef, undef, undef, undef, undef, undef, undef, undef, undef, undef, undef], defers := [] })
    ?hassign ?hbody ?hdone ?hstop
  case hoff =>
    rcases hk with hk | rfl
    · have h1 := hS4 k hk
      have h2 := hlt4 k hk
      exact ⟨by omega, by omega, by omega, by omega, fun y e => by have := hq6b y e; omega⟩
    · exact ⟨by omega, by omega, by omega, by omega, fun y e => by have := hq6 y e; omega⟩
  case hassign =>
    intro l x q m c W K hK
    unfold itA at hK ⊢
    gi_wp2
    exact hK
  case hbody =>
    rintro l pre x rest S q m c X W hits ⟨hH, hleft, hfew⟩ hSlt hX hXlt hXS x0 x1 x2 hRx hqS ⟨Sd, hDd, hBd, hSdS, hSD1⟩
    obtain ⟨q1, c1, cs, hbL, hoL, hgL, hkL⟩ := hH.lst
    have l0 := hbL.cell 0 _ rfl
    have f0 := hbL.free 0 (by simp)
    have n0 := hleft.cell 0 _ rfl
    have g0 := hleft.free 0 (by simp)
    have hl2 := hH.lt2
    have hl3 := hH.le
    have hln : pre.length ≤ 2000 := by rw [hits] at hnits; simp at hnits; omega
    have hcl := Lib.hid hgL.len
    have hwr : IntKind.i64.wrap ((n : Int) - (pre.length : Int) - 1) = (n : Int) - (pre.length : Int) - 1 := IntWalk.i64_in _ (by omega)
    replace hits := Lib.hid hits
    replace hH := Lib.hid hH
    replace hleft := Lib.hid hleft
    replace hfew := Lib.hid hfew
    replace hbL := Lib.hid hbL
    replace hoL := Lib.hid hoL
    replace hgL := Lib.hid hgL
    replace hRx := Lib.hid hRx
    replace hqS := Lib.hid hqS
    replace hDd := Lib.hid hDd
    replace hBd := Lib.hid hBd
    replace hSdS := Lib.hid hSdS
    replace z7 := Lib.hid z7
    have hlL : R + 1 < W.heap.size := hbL.out.lt
    have hz7 := z7.out
    clear CONT hKK XR XL XN XB hRw B7 hD7 hB7 hkL hz7
    replace l0 := Lib.hid l0
    have l00 := l0.out
    by_cases hbr : n ≤ pre.length + 1
    · have hle : (n : Int) - (pre.length : Int) - 1 ≤ 0 := by omega
      · have tok1 : True := trivial
        gi_wp2_with (gi_at_builtin; have _t := tok1; refine append_gIn 32 39 _ 3 40 infoIt (by rfl) (by omega) Tryd.underlying32 rfl _ _ rfl (R + 1 + 2) (.slice q1 pre.length c1) cs rfl (hoL.out.below ((Below.refl _ _).alloc (Nat.le_refl _) _)) ⟨W.heap.size, 0, none⟩ 1 1 [[.int .i64 (x.skip : Int), .int .u8 (x.kind.toNat : Int), .slice q m c]] rfl (by decide) rfl (by simp) (Box.news1 (Box.new _ _ _ _ rfl _ rfl)) (by intro u hu; simp at hu; rcases hu with rfl | rfl | rfl <;> rfl) (by rw [hcl.out]; unfold maxLen; omega) (by rw [hcl.out]; omega) (by simp; omega) ?_; intro q8 c8 w8 ho8 hg8 hk8; clear tok1; rw [hcl.out] at ho8 hk8 ⊢; have T8 : Turn (fun k => (Value.slice q1 pre.length c1).ownBlock = some k) W w8 := ((Turn.refl _ W).alloc _).trans (Turn.ofGrown (S := fun k => (Value.slice q1 pre.length c1).ownBlock = some k) hg8 (fun k e _ => e)) (fun _ _ h => h); have X8 := hbL.out.turn T8 (fun e => by have := (hoL.out.owns.lt _ e).1; omega); have N8 := hleft.out.turn T8 (fun e => by have := (hoL.out.owns.lt _ e).1; omega); have l8 := X8.cell 0 _ rfl; have f8 := X8.free 0 (by simp); have lt8 := X8.lt; have m8 := N8.cell 0 _ rfl; have p8 := N8.free 0 (by simp); have mt8 := N8.lt; clear X8 N8; replace T8 := Lib.hid T8; replace ho8 := Lib.hid ho8; replace hk8 := Lib.hid hk8; clear hg8)
        have hz7 := z7.out
        obtain ⟨T, T2, hTS, hTB, hH2⟩ := Had.push (x := x) (c := [.int .i64 (x.skip : Int), .int .u8 (x.kind.toNat : Int), .slice q m c]) (q' := q8) (c' := c8) (u0 := undef) (u1 := .int .i64 ((n : Int) - (pre.length : Int) - 1)) hH.out hSlt ⟨q, m, c, rfl, hRx.out, hqS.out⟩ rfl ⟨q1, c1, cs, l0.out, hoL.out, hgL.out, ho8.out, T8.out, by
          rcases hk8.out with h | h
          · exact .inl h
          · exact .inr ⟨_, h, by simp⟩⟩
        obtain ⟨d1, d2⟩ := Dec.apart hDd.out hBd.out T2 (fun k hk ht hs => hTS k hk ht (hSdS.out k hs).1) (fun k hk ht => by have := hTB k ht; omega)
        have hlq : (pre ++ [x]).length = max n 1 := by
          have hf := hfew.out
          have e : (pre ++ [x]).length = pre.length + 1 := by simp
          rw [e]
          rcases hf with h | h
          · rw [h] at hbr ⊢
            simp at hbr ⊢
            omega
          · omega
        exact ⟨⟨T, T2, hTS, fun _ _ => Nat.zero_le _⟩, ⟨rfl, hH2, hlq, ⟨rest, Sd, by rw [hits.out]; simp, d1, d2, fun k hk => ⟨(hSdS.out k hk).1, (hSdS.out k hk).2.2.1, (hSdS.out k hk).2.2.2⟩⟩, ⟨hSD1, by omega⟩⟩⟩
    · have hle : ¬ ((n : Int) - (pre.length : Int) - 1 ≤ 0) := by omega
      · have tok1 : True := trivial
        gi_wp2_with (gi_at_builtin; have _t := tok1; refine append_gIn 32 39 _ 3 40 infoIt (by rfl) (by omega) Tryd.underlying32 rfl _ _ rfl (R + 1 + 2) (.slice q1 pre.length c1) cs rfl (hoL.out.below ((Below.refl _ _).alloc (Nat.le_refl _) _)) ⟨W.heap.size, 0, none⟩ 1 1 [[.int .i64 (x.skip : Int), .int .u8 (x.kind.toNat : Int), .slice q m c]] rfl (by decide) rfl (by simp) (Box.news1 (Box.new _ _ _ _ rfl _ rfl)) (by intro u hu; simp at hu; rcases hu with rfl | rfl | rfl <;> rfl) (by rw [hcl.out]; unfold maxLen; omega) (by rw [hcl.out]; omega) (by simp; omega) ?_; intro q8 c8 w8 ho8 hg8 hk8; clear tok1; rw [hcl.out] at ho8 hk8 ⊢; have T8 : Turn (fun k => (Value.slice q1 pre.length c1).ownBlock = some k) W w8 := ((Turn.refl _ W).alloc _).trans (Turn.ofGrown (S := fun k => (Value.slice q1 pre.length c1).ownBlock = some k) hg8 (fun k e _ => e)) (fun _ _ h => h); have X8 := hbL.out.turn T8 (fun e => by have := (hoL.out.owns.lt _ e).1; omega); have N8 := hleft.out.turn T8 (fun e => by have := (hoL.out.owns.lt _ e).1; omega); have l8 := X8.cell 0 _ rfl; have f8 := X8.free 0 (by simp); have lt8 := X8.lt; have m8 := N8.cell 0 _ rfl; have p8 := N8.free 0 (by simp); have mt8 := N8.lt; clear X8 N8; replace T8 := Lib.hid T8; replace ho8 := Lib.hid ho8; replace hk8 := Lib.hid hk8; clear hg8)
        have hz7 := z7.out
        obtain ⟨T, T2, hTS, hTB, hH2⟩ := Had.push (x := x) (c := [.int .i64 (x.skip : Int), .int .u8 (x.kind.toNat : Int), .slice q m c]) (q' := q8) (c' := c8) (u0 := undef) (u1 := .int .i64 ((n : Int) - (pre.length : Int) - 1)) hH.out hSlt ⟨q, m, c, rfl, hRx.out, hqS.out⟩ rfl ⟨q1, c1, cs, l0.out, hoL.out, hgL.out, ho8.out, T8.out, by
          rcases hk8.out with h | h
          · exact .inl h
          · exact .inr ⟨_, h, by simp⟩⟩
        have hlf := (hleft.out.turn T8.out (fun e => by have := (hoL.out.owns.lt _ e).1; omega)).turn (Box.setTurn w8 (R + 1) 0 (.slice q8 (pre.length + 1) c8)) (by omega)
        refine ⟨⟨T, T2, hTS, hTB⟩, ⟨hH2, ?_, .inr (by simp; omega)⟩⟩
        have := hlf.set 0 (.int .i64 ((n : Int) - (pre.length : Int) - 1)) (by simp)
        have e : (n : Int) - (((pre ++ [x]).length : Nat) : Int) = (n : Int) - (pre.length : Int) - 1 := by simp; omega
        rw [e]
        exact this
  case hdone =>
    rintro S W ⟨hH, hleft, hfew⟩ ⟨Sd, hDd, hSdS⟩ hD hSD
    have hz := List.drop_length (l := its)
    refine CONT its.length Sd W undef undef ?_ (by rw [List.take_length]; exact hH.sub (fun k hk => (hSdS k hk).1)) (by rw [hz]; exact hDd) hD (fun hs => (hSdS _ hs).2 rfl)
    rcases hfew with h | h
    · rw [h]; simp
    · omega
  case hstop =>
    rintro cd pre S W ⟨rfl, hH, hln, ⟨rest, Sd, hits, hDd, hBd, hSdS⟩, _⟩ hD hSD
    have hle : pre.length ≤ its.length := by rw [hits]; simp
    have ht : its.take pre.length = pre := by rw [hits]; simp
    have hdr : its.drop pre.length = rest := by rw [hits]; simp
    have hC := Lib.hid (CONT pre.length Sd W undef undef (by omega) (by rw [ht]; exact hH.sub (fun k hk => (hSdS k hk).1)) (by rw [hdr]; exact hDd) hD (fun hs => (hSdS _ hs).2.1 rfl))
    clear hits hln z7 ht hdr
    gi_wp2
    exact hC.out
end Go.Proofs.YtdmpopdacbdnlaaDoor
