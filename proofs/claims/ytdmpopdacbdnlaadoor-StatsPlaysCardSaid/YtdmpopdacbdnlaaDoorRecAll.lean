/- record.All: contract. -/
import Derived.Test.YtdmpopdacbdnlaaDoorFrRange
import Derived.Test.YtdmpopdacbdnlaaDoorRowGIn
import Derived.Test.YtdmpopdacbdnlaaDoorRecTake
import Derived.Test.YtdmpopdacbdnlaaDoorRecAllM
import Derived.Test.YtdmpopdacbdnlaaDoorRecRPut
namespace Go.Proofs.YtdmpopdacbdnlaaDoor
open Go.RowKit Go.Shelf
attribute [local go_sem] Oper.semAt_some
set_option linter.unusedVariables false
set_option linter.unusedSimpArgs false
set_option maxHeartbeats 4000000
set_option maxRecDepth 20000
theorem Dec.more {w w' : World} {g : Nat} {S : Nat → Prop} {d' : St} {L : Nat} (h : DecTo w w' g S d') (hL : L ≤ w.heap.size) (hS : ∀ k, S k → L ≤ k) : ∃ S', Dec w' g S' d' ∧ (∀ k, S' k → L ≤ k) ∧ Below L w w' := by
  obtain ⟨S', hD, hT, hS'⟩ := h
  exact ⟨S', hD, fun k hk => (hS' k hk).elim (hS k) (fun h => by omega), hT.below hL (fun k hk hs => by have := hS k hs; omega)⟩
theorem Turn.ofBelowN {n : Nat} {a b : World} (h : Below n a b) : Turn (fun k => n ≤ k) a b := ⟨h.os, h.tape, h.output, h.size, fun i _ hn => h.block i (by omega)⟩
theorem OwnG.blk {t : TypeId} {m base : Nat} {w : World} {q : Option Addr} {n c : Nat} {cs : List (List Value)} (h : OwnG t m base w (.slice q n c) cs) : ∀ k, (Value.slice q n c).ownBlock = some k → base ≤ k ∧ k < w.heap.size := by
  intro k hk
  exact h.owns.lt k hk
/-- between two rounds -/
structure RAI (w : World) (L : Nat) (pre : List It) (S : Nat → Prop) (W : World) : Prop where
  fine : ∀ x ∈ pre, x.fine
  lst : ∃ q n c, Box W L [.slice q n c] ∧ n = pre.length ∧ OwnG 69 8 (L + 1) W (.slice q n c) ((pre.map It.took).map recVs) ∧ ∀ k, (Value.slice q n c).ownBlock = some k → ¬ S k
  r0 : Box W w.heap.size [.slice none 0 0]
  r1 : Box W (w.heap.size + 1) [.int .i64 0]
  bel : Below w.heap.size w W
  off : ∀ k, S k → w.heap.size + 2 ≤ k ∧ k ≠ L
  le : w.heap.size + 2 ≤ L
theorem RAI.steady (w : World) (L : Nat) : Steady (RAI w L) := by
  rintro pre S W S' W' ⟨h1, ⟨q, n, c, hb, hn, ho, hk⟩, h2, h3, h4, h5, h6⟩ t hS
  have l0 := h3.lt
  have l1 := hb.lt
  refine ⟨h1, ⟨q, n, c, hb.turn t (fun h => (h5 _ h).2 rfl), hn, ho.turn t hk, fun k e hs => ?_⟩, h2.turn t (fun h => by have := (h5 _ h).1; omega), h3.turn t (fun h => by have := (h5 _ h).1; omega), h4.trans (t.below h4.size (fun k hk h => by have := (h5 _ h).1; omega)), fun k h => ?_, h6⟩
  · have := (ho.blk k e).2
    exact (hS k hs).elim (hk k e) (fun h => by omega)
  · rcases hS k h with h | h
    · exact h5 k h
    · exact ⟨by omega, by omega⟩
/-- a round has returned -/
structure RAX (w : World) (b : List UInt8) (cd : Code) (S : Nat → Prop) (W : World) : Prop where
  isRet : cd = .ret
  res : ∃ z, recAll b = ([], z) ∧ Box W (w.heap.size + 1) [.int .i64 z]
  r0 : Box W w.heap.size [.slice none 0 0]
  bel : Below w.heap.size w W
  off : ∀ k, S k → w.heap.size + 2 ≤ k
theorem RAX.steady (w : World) (b : List UInt8) (cd : Code) : Steady (fun _ => RAX w b cd) := by
  rintro pre S W S' W' ⟨h1, ⟨z, hz, hb⟩, h2, h4, h5⟩ t hS
  have l1 := hb.lt
  refine ⟨h1, ⟨z, hz, hb.turn t (fun h => by have := h5 _ h; omega)⟩, h2.turn t (fun h => by have := h5 _ h; omega), h4.trans (t.below h4.size (fun k hk h => by have := h5 _ h; omega)), fun k h => ?_⟩
  rcases hS k h with h | h
  · exact h5 k h
  · omega
theorem infoRec : (Tryd.prog.info? 69).map (fun i => (i.zero, i.size, i.bytes)) = some (some (.agg #[.int .u8 0, .int .i64 0, .int .u64 0, .int .i64 0, .int .i64 0, .int .i64 0, .bool false, .string ByteArray.empty]), 8, 72) := by kernel_rfl
theorem recVs_one (r : Rec) : ∀ u ∈ [recVs r].flatten, u.oneCell' = true := by
  intro u hu
  simp only [recVs, List.flatten_cons, List.flatten_nil, List.append_nil, List.mem_cons, List.not_mem_nil, or_false] at hu
  rcases hu with rfl | rfl | rfl | rfl | rfl | rfl | rfl | rfl <;> rfl
theorem Box.news {w : World} {g : Nat} {vs : List Value} (h : Box w g vs) : ∀ j u, [vs].flatten[j]? = some u → w.cell? ((⟨g, 0, none⟩ : Addr).add j) = some u := by
  intro j u hu
  rw [List.flatten_cons, List.flatten_nil, List.append_nil] at hu
  rw [WideShapes.add_plain, Nat.zero_add]
  exact h.cell j u hu
theorem mayturn_res {w W : World} {S : Nat → Prop} {u v : Value} (h : ∀ k, S k → w.heap.size + 2 ≤ k) : MayTurn 0 S W ((W.setCell ⟨w.heap.size, 0, none⟩ u).setCell ⟨w.heap.size + 1, 0, none⟩ v) :=
  ⟨fun k => k = w.heap.size ∨ k = w.heap.size + 1, ((Turn.refl _ W).setCell _ (fun _ => .inl rfl) _).setCell _ (fun _ => .inr rfl) _, fun k _ hk hs => by have := h k hs; omega, fun _ _ => Nat.zero_le _⟩
theorem boxes_res {w W : World} {u v u0 v0 : Value} (h2 : Box W w.heap.size [u0]) (h3 : Box W (w.heap.size + 1) [v0]) :
    Box ((W.setCell ⟨w.heap.size, 0, none⟩ u).setCell ⟨w.heap.size + 1, 0, none⟩ v) w.heap.size [u] ∧ Box ((W.setCell ⟨w.heap.size, 0, none⟩ u).setCell ⟨w.heap.size + 1, 0, none⟩ v) (w.heap.size + 1) [v] :=
  ⟨(h2.set 0 u (by simp)).turn (Box.setTurn _ (w.heap.size + 1) 0 _) (by omega), (h3.turn (Box.setTurn _ w.heap.size 0 _) (by omega)).set 0 v (by simp)⟩
theorem below_res {w W : World} {u v : Value} (h : Below w.heap.size w W) : Below w.heap.size w ((W.setCell ⟨w.heap.size, 0, none⟩ u).setCell ⟨w.heap.size + 1, 0, none⟩ v) :=
  (h.setCell (p := ⟨w.heap.size, 0, none⟩) (by simp) u).setCell (p := ⟨w.heap.size + 1, 0, none⟩) (by simp) v
theorem recall_any (q0 : Option Addr) (n c0 : Nat) (b : List UInt8) (w : World) (h : RowB w q0 n c0 b) (hl : n ≤ 100000) (hT : Forms 0 w) (hTab : Tab w) :
    Calls Tryd.prog 62 #[.slice q0 n c0] w fun e w' => ∃ v, e = .returned (.tuple #[v, .int .i64 (recAll b).2]) ∧ OwnG 69 8 w.heap.size w' v ((recAll b).1.map recVs) ∧ Below w.heap.size w w' := by
  refine (callsIn_wide (n := 8)).1 ?_
  refine callsIn_of_wp_marks Tryd.func62 rfl trivial ?_ rfl
  simp only [Tryd.ntmps62, List.size_toArray, List.length_cons, List.length_nil, Nat.reduceAdd, Nat.reduceSub, Array.replicate_succ, Array.replicate_zero, List.push_toArray, List.append_toArray, List.nil_append, List.cons_append]
  have A0 : Below w.heap.size w ((w.alloc (.cells #[.slice none 0 0] 59)).alloc (.cells #[.int .i64 0] 98)) := ((Below.refl _ _).alloc (Nat.le_refl _) _).alloc (by simp) _
  gi_wp2_with (refine ⟨trivial, ?_⟩; gi_at_call 16; refine (callsIn_wide.2 (new_any _)).mono ?_; rintro e w1 ⟨g, rfl, hgg, ⟨S1, hD1, hS1⟩, hb1⟩)
  have z0 : ((w.alloc (.cells #[.slice none 0 0] 59)).alloc (.cells #[.int .i64 0] 98)).heap.size = w.heap.size + 2 := by simp
  have R2 : Hid (Box ((w.alloc (.cells #[.slice none 0 0] 59)).alloc (.cells #[.int .i64 0] 98)) w.heap.size [.slice none 0 0]) := Lib.hid ((Box.new w _ _ _ rfl _ rfl).below ((Below.refl _ _).alloc (Nat.le_refl _) _))
  have R3 : Hid (Box ((w.alloc (.cells #[.slice none 0 0] 59)).alloc (.cells #[.int .i64 0] 98)) (w.heap.size + 1) [.int .i64 0]) := Lib.hid (Box.new _ _ _ _ rfl _ (by simp))
  generalize (w.alloc (.cells #[.slice none 0 0] 59)).alloc (.cells #[.int .i64 0] 98) = w0 at *
  have B1 := A0.trans (hb1.mono A0.size)
  have zb1 := hb1.size
  have hS1' : ∀ k, S1 k → w.heap.size + 2 ≤ k := fun k hk => by have := hS1 k hk; omega
  have hnb := h.length
  have HG := give_any g S1 St.new w1 hD1 (hTab.below B1) (fun hs => by have := hS1' _ hs; have := hTab.lt; omega) q0 n c0 b (h.below B1) (by simp [St.new]; omega)
  replace HG := Lib.hid (HG.mono (R' := fun e w' => e = .returned (.tuple #[]) ∧ ∃ S', Dec w' g S' (St.new.give b) ∧ (∀ k, S' k → w.heap.size + 2 ≤ k) ∧ Below (w.heap.size + 2) w1 w') (fun e w' hh => ⟨hh.1, Dec.more hh.2 (by omega) hS1'⟩))
  replace R2 := Lib.hid (R2.out.below hb1)
  replace R3 := Lib.hid (R3.out.below hb1)
  clear hD1 hS1 hb1
  gi_wp2_with (refine ⟨trivial, ?_⟩; gi_at_call 17; refine (callsIn_wide.2 HG.out).mono ?_; rintro e w2 ⟨rfl, S2, hD2, hS2, hb2⟩)
  have B2 := B1.trans (hb2.mono (by omega))
  have zb2 := hb2.size
  have hgn := St.give_n St.new b
  have HE := end_any g S2 (St.new.give b) w2 hD2 (hTab.below B2) (fun hs => by have := hS2 _ hs; have := hTab.lt; omega) (by have e1 : St.new.found.length = 0 := rfl; have e2 : St.new.skips = 0 := rfl; have e3 : St.new.rest.length = 0 := rfl; omega)
  replace HE := Lib.hid (HE.mono (R' := fun e w' => e = .returned (.tuple #[]) ∧ ∃ S', Dec w' g S' (St.new.give b).fin ∧ (∀ k, S' k → w.heap.size + 2 ≤ k) ∧ Below (w.heap.size + 2) w2 w') (fun e w' hh => ⟨hh.1, Dec.more hh.2 (by omega) hS2⟩))
  clear hD2
  gi_wp2_with (refine ⟨trivial, ?_⟩; gi_at_call 18; refine (callsIn_wide.2 HE.out).mono ?_; rintro e w3 ⟨rfl, S3, hD3, hS3, hb3⟩)
  gi_wp2_with (refine ⟨trivial, ?_⟩; gi_at_call 21; refine (callsIn_wide.2 (items_any g _)).mono ?_; rintro e w4 ⟨rfl, rfl⟩)
  have B3 := B2.trans (hb3.mono (by omega))
  have zb3 := hb3.size
  have R2' := (R2.out.turn (Turn.ofBelowN hb2) (by omega)).turn (Turn.ofBelowN hb3) (by omega)
  have R3' := (R3.out.turn (Turn.ofBelowN hb2) (by omega)).turn (Turn.ofBelowN hb3) (by omega)
  have A4 : Below w3.heap.size w3 ((w3.alloc (.cells #[.slice none 0 0] 59)).alloc (.cells #[.pointer (some ⟨g, 0, none⟩)] 24)) := ((Below.refl _ _).alloc (Nat.le_refl _) _).alloc (by simp) _
  have XL : Box ((w3.alloc (.cells #[.slice none 0 0] 59)).alloc (.cells #[.pointer (some ⟨g, 0, none⟩)] 24)) w3.heap.size [.slice none 0 0] := (Box.new w3 _ _ _ rfl _ rfl).below ((Below.refl _ _).alloc (Nat.le_refl _) _)
  have XB : Box ((w3.alloc (.cells #[.slice none 0 0] 59)).alloc (.cells #[.pointer (some ⟨g, 0, none⟩)] 24)) (w3.heap.size + 1) [.pointer (some ⟨g, 0, none⟩)] := Box.new _ _ _ _ rfl _ (by simp)
  have R2'' := R2'.below A4
  have R3'' := R3'.below A4
  obtain ⟨rs, sk, its, ov, hd⟩ : ∃ rs sk its ov, (St.new.give b).fin = ⟨rs, sk, its, ov⟩ := ⟨_, _, _, _, rfl⟩
  have hits : recItems b = its := by unfold recItems; rw [hd]
  have hnits := recItems_len b
  have hbod := recItems_bodies b
  rw [hits] at hnits hbod
  rw [hd] at hD3
  have hlt3 := hD3.lt
  obtain ⟨hD4, hB4⟩ := Dec.apart hD3 hD3.bod (Turn.ofBelow (S := fun _ => False) A4 rfl) (fun _ _ h => h.elim) (fun _ _ h => h)
  have B4 := B3.trans (A4.mono B3.size)
  have z4 : ((w3.alloc (.cells #[.slice none 0 0] 59)).alloc (.cells #[.pointer (some ⟨g, 0, none⟩)] 24)).heap.size = w3.heap.size + 2 := by simp
  have hT4 := hT.below B4
  clear HG HE hd hgn R2 R3 R2' R3' hD3 A4 hb2 hb3 B1 B2 B3 A0 hS1'
  generalize (w3.alloc (.cells #[.slice none 0 0] 59)).alloc (.cells #[.pointer (some ⟨g, 0, none⟩)] 24) = W0 at *
  have zw3 : w.heap.size + 2 ≤ w3.heap.size := by omega
  generalize w3.heap.size = L at *
  refine range_items (by omega) g (L + 1) L rfl rfl S3 rs sk ov its hD4 hB4 (XB.cell 0 _ rfl) (fun h => by have := hlt3 _ h; omega) (by omega) (by omega)
    (RAI w L) (fun cd _ => RAX w b cd) (RAI.steady w L) (RAX.steady w b)
    ⟨(by intro x hx; cases hx), ⟨none, 0, 0, XL, rfl, OwnG.nil _ _ _ _, fun k e => by cases e⟩, R2'', R3'', B4, fun k hk => ?hoff, zw3⟩
    (fun x q m c X => { tmps := #[.slice q0 n c0, undef, .pointer (some ⟨w.heap.size, 0, none⟩), .pointer (some ⟨w.heap.size + 1, 0, none⟩), .pointer (some ⟨g, 0, none⟩), .pointer (some ⟨L, 0, none⟩), .pointer (some ⟨X, 0, none⟩), undef, undef, .pointer (some ⟨g, 0, none⟩), .pointer (some ⟨g, 0, none⟩), .slice q0 n c0, .tuple #[], .pointer (some ⟨g, 0, none⟩), .tuple #[], .pointer (some ⟨g, 0, none⟩), .func (.func 70) #[] #[.pointer (some ⟨L + 1, 0, none⟩)], itA x q m c, undef, undef, undef, undef, undef, undef, undef, undef, undef, undef, undef, undef, undef, undef, undef, undef, undef, undef, undef, undef, undef], defers := [] })
    ?hassign ?hbody ?hdone ?hstop
  case hoff =>
    rcases hk with hk | rfl
    · exact ⟨hS3 k hk, by have := hlt3 _ hk; omega⟩
    · exact ⟨by omega, by omega⟩
  case hassign =>
    intro l x q m c W K hK
    unfold itA at hK ⊢
    gi_wp2
    exact hK
  case hbody =>
    rintro l pre x rest S q m c X W hits2 ⟨h1, ⟨q1, m1, c1, hb, hm, ho, hk⟩, h2, h3, h4, h5, h6⟩ hSlt hX hXlt hXS x0 x1 x2 hR hqS
    subst hm
    have bl := hbod x (by rw [hits2]; simp)
    have hlen := hR.length
    have hln : pre.length < 200001 := by rw [hits2] at hnits; simp at hnits; omega
    have heq : recItems b = pre ++ x :: rest := by rw [hits, hits2]
    have l0 := hb.cell 0 _ rfl
    have f0 := hb.free 0 (by simp)
    have r0 := h2.cell 0 _ rfl
    have r1 := h3.cell 0 _ rfl
    have k0 := h2.free 0 (by simp)
    have k1 := h3.free 0 (by simp)
    have hlL := hb.lt
    by_cases hs : x.skip = 0
    · have hs0 : (x.skip : Int) = 0 := by omega
      rw [hs0] at x0
      have HT := rectake_any x.kind q m c x.body W hR (by omega) (hT.below h4)
      unfold TookR recA at HT
      obtain ⟨⟨Zr, Zz⟩, hZ⟩ : ∃ Z, takeR x.kind x.body = Z := ⟨_, rfl⟩
      rw [hZ] at HT
      simp only at HT
      replace HT := Lib.hid HT
      replace hZ := Lib.hid hZ
      replace h1 := Lib.hid h1
      replace heq := Lib.hid heq
      replace ho := Lib.hid ho
      replace hb := Lib.hid hb
      replace h2 := Lib.hid h2
      replace h3 := Lib.hid h3
      replace hs := Lib.hid hs
      replace hk := Lib.hid hk
      clear hits2 hits hR hqS XL XB hB4 hD4
      have hl2 := h3.out.lt
      have hl1 := h2.out.lt
      by_cases z0 : Zz = 0
      · subst z0
        gi_wp2_with (first | (refine ⟨trivial, ?_⟩; gi_at_call 60; refine (CallsIn.inRound l (callsIn_wide.2 HT.out)).mono ?_; rintro e w5 ⟨rfl, hb5⟩; clear HT; have s5 := hb5.size; have lt5 : L < w5.heap.size := (by omega); replace l0 := (hb5.cell (p := ⟨L, 0, none⟩) hlL).trans l0; replace f0 := (hb5.frozen (p := ⟨L, 0, none⟩) hlL).trans f0; have tok1 : True := trivial) | (gi_at_builtin; have _t := tok1; refine append_gIn 59 69 _ 8 72 infoRec (by rfl) (by omega) Tryd.underlying59 rfl _ _ rfl (L + 1) (.slice q1 pre.length c1) ((pre.map It.took).map recVs) rfl ((ho.out.below hb5).below (((Below.refl _ _).alloc (Nat.le_refl _) _).alloc (by simp) _)) ⟨w5.heap.size + 1, 0, none⟩ 1 1 [recVs Zr] rfl (by decide) rfl (by simp [recVs]) (Box.news (Box.new _ _ _ _ rfl _ (by simp))) (recVs_one Zr) (by simp; unfold maxLen; omega) (by simp; omega) (by simp; omega) ?_; intro q8 c8 w8 ho8 hg8 hk8; clear tok1; rw [List.length_map, List.length_map] at ho8 hk8; have T8 : Turn (fun k => (Value.slice q1 pre.length c1).ownBlock = some k) W w8 := (((Turn.ofBelow hb5 rfl).alloc _).alloc _).trans (Turn.ofGrown (S := fun k => (Value.slice q1 pre.length c1).ownBlock = some k) hg8 (fun k e _ => e)) (fun _ _ h => h); have X8 := Lib.hid (hb.out.turn T8 (fun e => by have := (ho.out.blk _ e).1; omega)); have l8 := X8.out.cell 0 _ rfl; have f8 := X8.out.free 0 (by simp); have lt8 := X8.out.lt; replace T8 := Lib.hid T8; replace ho8 := Lib.hid ho8; replace hk8 := Lib.hid hk8))
        have hone : ∀ k, (Value.slice q1 pre.length c1).ownBlock = some k → L + 1 ≤ k ∧ k < W.heap.size := ho.out.blk
        have T9 : Turn (fun k => (Value.slice q1 pre.length c1).ownBlock = some k ∨ k = L) W (w8.setCell ⟨L, 0, none⟩ (.slice q8 (pre.length + 1) c8)) := (T8.out.mono (fun _ _ h => .inl h)).setCell _ (fun _ => .inr rfl) _
        have s8 := T8.out.size
        have n8 : ∀ k, (Value.slice q8 (pre.length + 1) c8).ownBlock = some k → ¬ S k := fun k e hsk => by
          rcases hk8.out with h | h
          · exact hk.out k (h.symm.trans e) hsk
          · rw [h] at e
            have := hSlt k hsk
            simp at e
            omega
        refine ⟨⟨_, T9, fun k hkl ht hsk => ?_, fun k ht => ?_⟩, ⟨fun y hy => ?_, ⟨q8, pre.length + 1, c8, X8.out.set 0 _ (by simp), by simp, ?_, n8⟩, h2.out.turn T9 ?_, h3.out.turn T9 ?_, h4.trans (T9.below h4.size ?_), h5, h6⟩⟩
        · rcases ht with h | h
          · exact hk.out k h hsk
          · exact (h5 k hsk).2 h
        · rcases ht with h | h
          · have := (hone k h).1; omega
          · omega
        · rcases List.mem_append.1 hy with hy | hy
          · exact h1.out y hy
          · rw [List.mem_singleton] at hy; subst hy
            exact ⟨hs.out, by rw [hZ.out]⟩
        · have e1 : (pre ++ [x]).map It.took = pre.map It.took ++ [Zr] := by rw [List.map_append]; simp [It.took, hZ.out]
          rw [e1, List.map_append]
          exact ho8.out.turn (Box.setTurn w8 L 0 _) (fun k e => by have := (ho8.out.blk k e).1; omega)
        · rintro (h | h)
          · have := (hone _ h).1; omega
          · omega
        · rintro (h | h)
          · have := (hone _ h).1; omega
          · omega
        · rintro k hkk (h | h)
          · have := (hone _ h).1; omega
          · omega
      · have z1 : (Zz == 0) = false := by rw [beq_eq_false_iff_ne]; exact z0
        gi_wp2_with (refine ⟨trivial, ?_⟩; gi_at_call 60; refine (CallsIn.inRound l (callsIn_wide.2 HT.out)).mono ?_; rintro e w5 ⟨rfl, hb5⟩; have s5 := hb5.size; have lt0 : w.heap.size < w5.heap.size := (by omega); have lt1 : w.heap.size + 1 < w5.heap.size := (by omega); replace r0 := (hb5.cell (p := ⟨w.heap.size, 0, none⟩) hl1).trans r0; replace k0 := (hb5.frozen (p := ⟨w.heap.size, 0, none⟩) hl1).trans k0; replace r1 := (hb5.cell (p := ⟨w.heap.size + 1, 0, none⟩) hl2).trans r1; replace k1 := (hb5.frozen (p := ⟨w.heap.size + 1, 0, none⟩) hl2).trans k1; have hbH := Lib.hid hb5)
        have hb5 := hbH.out
        have s5 := hb5.size
        have X2 := h2.out.below hb5
        have X3 := h3.out.below hb5
        have T5 := boxes_res (u := .slice none 0 0) (v := .int .i64 Zz) X2 X3
        have B5 := below_res (u := .slice none 0 0) (v := .int .i64 Zz) (h4.trans (hb5.mono h4.size))
        obtain ⟨T, hT6, hT7, hT8⟩ := mayturn_res (w := w) (W := w5) (u := .slice none 0 0) (v := .int .i64 Zz) (S := S) (fun k hk => (h5 k hk).1)
        generalize (w5.setCell ⟨w.heap.size, 0, none⟩ (.slice none 0 0)).setCell ⟨w.heap.size + 1, 0, none⟩ (.int .i64 Zz) = W6 at *
        have AB : Below W6.heap.size W6 (W6.alloc (.cells #[.int .u8 (Zr.kind.toNat : Int), .int .i64 Zr.source, .int .u64 (Zr.seq : Int), .int .i64 Zr.at_, .int .i64 Zr.num, .int .i64 Zr.code, .bool Zr.yes, .string ⟨Zr.text.toArray⟩] 69)) := (Below.refl _ _).alloc (Nat.le_refl _) _
        refine ⟨⟨T, ((Turn.ofBelow (S := T) hb5 rfl).trans hT6 (fun _ _ h => h)).trans (Turn.ofBelow (S := T) AB rfl) (fun _ _ h => h), fun k hkl ht => hT7 k (by omega) ht, hT8⟩, ⟨rfl, ⟨Zz, by have := recAll_bad heq.out h1.out hs.out (by rw [hZ.out]; exact z0); rw [hZ.out] at this; exact this, T5.2.below AB⟩, T5.1.below AB, B5.trans (AB.mono B5.size), fun k hk => (h5 k hk).1⟩⟩
    · have hs1 : (0 : Int) < (x.skip : Int) := by omega
      clear hR hqS
      gi_wp2
      have T5 := boxes_res (u := .slice none 0 0) (v := .int .i64 11) h2 h3
      exact ⟨mayturn_res (fun k hk => (h5 k hk).1), ⟨rfl, ⟨11, recAll_skip heq h1 (by omega), T5.2⟩, T5.1, below_res h4, fun k hk => (h5 k hk).1⟩⟩
  case hdone =>
    rintro S W ⟨h1, ⟨q, m, c, hb, hm, ho, hk⟩, h2, h3, h4, h5, h6⟩ hD hSD
    have l0 := hb.cell 0 _ rfl
    have f0 := hb.free 0 (by simp)
    have r0 := h2.cell 0 _ rfl
    have r1 := h3.cell 0 _ rfl
    have k0 := h2.free 0 (by simp)
    have k1 := h3.free 0 (by simp)
    have hSD0 := (h5 _ hSD).1
    gi_wp2
    subst hm
    have E5 := boxes_res (u := .slice q its.length c) (v := .int .i64 0) h2 h3
    have T5 : Turn (fun k => k = w.heap.size ∨ k = w.heap.size + 1) W ((W.setCell ⟨w.heap.size, 0, none⟩ (.slice q its.length c)).setCell ⟨w.heap.size + 1, 0, none⟩ (.int .i64 0)) := ((Turn.refl _ W).setCell _ (fun _ => .inl rfl) _).setCell _ (fun _ => .inr rfl) _
    have hD5 := Turn.heap T5 hD (by omega)
    have B5 := below_res (u := .slice q its.length c) (v := .int .i64 0) h4
    have O5 := ho.turn T5 (fun k e => by have := (ho.blk k e).1; omega)
    have TP := Turn.putObj ((W.setCell ⟨w.heap.size, 0, none⟩ (.slice q its.length c)).setCell ⟨w.heap.size + 1, 0, none⟩ (.int .i64 0)) W0.heap.size (.deferred none)
    have F0 := E5.1.turn TP (by omega)
    have F1 := E5.2.turn TP (by omega)
    have O6 := (O5.turn TP (fun k e he => hk k e (he ▸ hSD))).lower (base' := w.heap.size) (by omega)
    have B6 := B5.trans (TP.below (B := w.heap.size) B5.size (fun k hk he => by omega))
    refine ⟨by simp, .inl ⟨_, _, rfl, run_takeDeferred hD5, ?_⟩⟩
    have c0' := F0.cell 0 _ rfl
    have c1' := F1.cell 0 _ rfl
    have hra := recAll_ok (b := b) (by rw [hits]; exact h1)
    rw [hits] at hra
    refine ⟨.tuple #[.slice q its.length c, .int .i64 0], by simp [results, Tryd.results62, go_sem, c0', c1'], .slice q its.length c, ?_⟩
    rw [hra]
    exact ⟨rfl, O6, B6⟩
  case hstop =>
    rintro cd pre S W ⟨rfl, ⟨z, hz, h3⟩, h2, h4, h5⟩ hD hSD
    have hSD0 := h5 _ hSD
    gi_wp2
    have TP := Turn.putObj W W0.heap.size (.deferred none)
    have F0 := h2.turn TP (by omega)
    have F1 := h3.turn TP (by omega)
    have B6 := h4.trans (TP.below (B := w.heap.size) h4.size (fun k hk he => by omega))
    refine ⟨by simp, .inl ⟨_, _, rfl, run_takeDeferred hD, ?_⟩⟩
    have c0' := F0.cell 0 _ rfl
    have c1' := F1.cell 0 _ rfl
    refine ⟨.tuple #[.slice none 0 0, .int .i64 z], by simp [results, Tryd.results62, go_sem, c0', c1'], .slice none 0 0, ?_⟩
    rw [hz]
    exact ⟨rfl, OwnG.nil _ _ _ _, B6⟩
end Go.Proofs.YtdmpopdacbdnlaaDoor
