/- The walk of LedgerPlays. -/
import Derived.Test.YtkdekdogfplbmaaLdRef4
import Derived.Test.YtkdekdogfplbmaaLdApart
namespace Go.Proofs.Ytkdekdogfplbmaa
open Go.RowKit
set_option linter.unusedVariables false
set_option linter.unusedSimpArgs false
set_option maxRecDepth 20000
set_option maxHeartbeats 8000000

theorem ref24_tell (q : Option Addr) (n c : Nat) (r : RS) (z since now : Int) (y : Bool) (h1 : -9223372036854775808 ≤ z ∧ z ≤ 9223372036854775807) (h2 : -9223372036854775808 ≤ since ∧ since ≤ 9223372036854775807) (h3 : -9223372036854775808 ≤ now ∧ now ≤ 9223372036854775807) (w : World) (hR : RowY w q n r.ys) (hn : n ≤ 100000) :
    Calls Try.prog 23 #[rsV q n c r.done r.patience, .int .i64 z, .int .i64 since, .int .i64 now, .bool y] w (RSteps w q (r.tellS z since now y) (r.tellR z since now y)) := by
  unfold RS.tellS RS.tellR
  by_cases hs : r.still z since now y
  · rw [if_pos hs, if_pos hs]; exact ref24_tell_still q n c r z since now y h1 h2 h3 w hR hs
  · rw [if_neg hs, if_neg hs]; exact ref24_tell_go q n c r z since now y h1 h2 h3 w hR hs hn
theorem ref24_fin (q : Option Addr) (n c : Nat) (r : RS) (z since now : Int) (y : Bool) (h1 : -9223372036854775808 ≤ z ∧ z ≤ 9223372036854775807) (h2 : -9223372036854775808 ≤ since ∧ since ≤ 9223372036854775807) (h3 : -9223372036854775808 ≤ now ∧ now ≤ 9223372036854775807) (w : World) (hR : RowY w q n r.ys) (hn : n ≤ 100000) :
    Calls Try.prog 22 #[rsV q n c r.done r.patience, .int .i64 z, .int .i64 since, .int .i64 now, .bool y] w (RSteps w q (r.finS z) (r.finR z since now y)) := by
  unfold RS.finS RS.finR
  by_cases hs : z ≤ r.done
  · rw [if_pos hs, if_pos hs]; exact ref24_fin_still q n c r z since now y w hR hs
  · rw [if_neg hs, if_neg hs]; exact ref24_fin_go q n c r z since now y h1 h2 h3 w hR hs hn _ rfl
def RS.playS (r : RS) (a : Ac) : RS := if a.fin then r.finS a.at_ else r.tellS a.at_ a.since a.now a.yes
def RS.playR (r : RS) (a : Ac) : List Rc := if a.fin then r.finR a.at_ a.since a.now a.yes else r.tellR a.at_ a.since a.now a.yes
theorem RS.play_ok {r : RS} {s : LS} (h : r.ok s) (a : Ac) : (r.playS a).ok (s.playS a) ∧ r.playR a = s.playR a := by
  unfold RS.playS LS.playS RS.playR LS.playR
  cases a.fin with
  | true => exact RS.fin_ok h _ _ _ _
  | false => exact RS.tell_ok h _ _ _ _
theorem RS.play_len (r : RS) (a : Ac) : (r.playS a).ys.length ≤ r.ys.length + 1 := by
  unfold RS.playS
  split
  · exact RS.len_fin _ _
  · exact RS.len_tell _ _ _ _ _
theorem plain24 (r : Rc) (w : World) : Calls Try.prog 24 #[rcA r] w fun e w' => e = .returned (rcA r) ∧ Below w.heap.size w w' := by
  unfold rcA
  go_enter Try.func24, Try.ntmps24
  go_wp2_with fail
  exact bodyPost_ret (v := .agg #[.int .u8 (r.kind : Int), .int .i64 0, .int .u64 0, .int .i64 r.at_, .int .i64 r.num, .int .i64 0, .bool r.yes, .string ⟨#[]⟩]) (by simp [results, Try.results24, go_sem]) rfl ⟨rfl, (by repeat (first | with_reducible exact Below.refl _ _ | with_reducible refine Below.drew ?_ | with_reducible refine Below.alloc ?_ (by (try simp) <;> omega) _ | with_reducible refine Below.setCell ?_ (by (try simp) <;> omega) _))⟩
theorem neqX (W : World) (r : Rc) : (binOp .neq 59 (rcA r) (rcA r)).run Try.prog W = .ok (.bool false) W := by
  unfold rcA
  rw [run_neq_struct]
  simp [go_sem, Op.eqFields]
/-- what stays true in the inner loops -/
structure PlInv (w0 : World) (g b bx n : Nat) (s : LS) (r : RS) (q6 : Option Addr) (n6 c6 : Nat) (q5 q7 : Option Addr) (rs : List Rc) (W : World) : Prop where
  led : Led W g b n s
  box : Box3 W bx (.slice q6 n6 c6) (.int .i64 r.done) (.int .i64 r.patience)
  ys : RowY W q6 n6 r.ys
  got : RowC W q5 rs.length rs
  want : RowC W q7 rs.length rs
  bel : Below w0.heap.size w0 W
theorem PlInv.below {w0 W W' : World} {g b bx n : Nat} {s : LS} {r : RS} {q6 : Option Addr} {n6 c6 : Nat} {q5 q7 : Option Addr} {rs : List Rc} (h : PlInv w0 g b bx n s r q6 n6 c6 q5 q7 rs W) (hb : Below W.heap.size W W') : PlInv w0 g b bx n s r q6 n6 c6 q5 q7 rs W' :=
  ⟨h.led.below hb, h.box.below hb, RowG.below h.ys hb, RowG.below h.got hb, RowG.below h.want hb, h.bel.trans (hb.mono h.bel.size)⟩
theorem ledgerPlays_walk (p : Int) (hp : -9223372036854775808 ≤ p ∧ p ≤ 9223372036854775807) (a : Option Addr) (len cap : Nat) (cs : List (List Value)) (w : World) (z : RowG 5 w a len cs) (y : ∀ c ∈ cs, OkAll [.int .i64, .int .i64, .int .i64, .bool, .bool] c) :
    Calls Try.prog 8 #[.int .i64 p, .slice a len cap] w fun e w' => e = .returned (.bool true) ∧ Below w.heap.size w w' := by
  obtain ⟨l, hR, hok⟩ := acts_of z y
  clear z y
  have hll := hR.length
  rw [List.length_map] at hll
  have hsm : len ≤ 9223372036854775807 := by have := hR.small; unfold maxLen at this; omega
  have HLL := Lib.hid hll
  clear hll
  go_enter Try.func8, Try.ntmps8
  go_wp2_with fail
  refine (ld_awake _).mono ?_; rintro e w1 ⟨rfl, hb1⟩
  have z1 := hb1.size
  by_cases hl : 120 < len
  · go_wp2_with fail
    go_ret
    exact ⟨rfl, hb1⟩
  go_wp2_with fail
  refine (ledger_new p hp _).mono ?_; rintro e w2 ⟨rfl, hL2, hb2, z2⟩
  go_wp2_with fail
  refine (ref24_new p _).mono ?_; rintro e w3 ⟨rfl, hb3⟩
  unfold rsV
  have z3 := hb3.size
  have B3 : Below w.heap.size w w3 := (hb1.trans (hb2.mono z1)).trans (hb3.mono (by omega))
  have hb4 := (Below.refl w3.heap.size w3).alloc (Nat.le_refl _) (.cells #[.slice none 0 0, .int .i64 (-1), .int .i64 p] 54)
  have hL4 := (hL2.below hb3).below hb4
  have hX4 := Box3.new w3 (.slice none 0 0) (.int .i64 (-1)) (.int .i64 p) 54
  have B4 := B3.trans (hb4.mono B3.size)
  go_wp2_with fail
  go_loopw [9] (fun i wr => ∃ (k : Nat) (s : LS) (r : RS) (q : Option Addr) (n c : Nat), k ≤ len ∧ i = .int .i64 k ∧ r.ok s ∧ Led wr (w1.heap.size + 1) w1.heap.size k s ∧ Box3 wr w3.heap.size (.slice q n c) (.int .i64 r.done) (.int .i64 r.patience) ∧ RowY wr q n r.ys ∧ (∀ x, q = some x → w3.heap.size < x.block) ∧ r.ys.length ≤ k ∧ Below w.heap.size w wr) (fun i wr => len - (intOf i).toNat)
  case atStart => exact ⟨0, LS.new p, RS.new p, none, 0, 0, Nat.zero_le _, rfl, RS.new_ok p, hL4, hX4, RowG.empty _ _ _, (fun x e => by cases e), Nat.le_refl _, B4⟩
  case round =>
    obtain ⟨k, s, r, q, n, c, hk, rfl, hOK, hL, hX, hY, hq, hyl, hB⟩ := hrel
    clear hL4 hX4 hL2
    have hyn := hY.length
    rw [List.length_map] at hyn
    have hn1 : n ≤ k := by omega
    clear hyn
    have HL := Lib.hid hL; clear hL
    have HX := Lib.hid hX; clear hX
    have HY := Lib.hid hY; clear hY
    have HOK := Lib.hid hOK; clear hOK
    by_cases hlt : k < len
    · obtain ⟨ab, ao, rfl, hab, hat⟩ := RowA.at_ hR (by omega)
      have hac := (hat k hlt).turn (S := fun _ => False) (Turn.ofBelow hB rfl) hab (fun h => h)
      have hok1 := ok_getD hok (i := k) (by have := HLL.out; omega)
      have HAT := Lib.hid hat
      clear hat
      generalize hacq : l.getD k acD = ac at *
      have HACQ := Lib.hid hacq
      clear hacq
      obtain ⟨k0, k1, k2, k3, k4⟩ := id hac
      have habr : ab < wr.heap.size := by have := hB.size; omega
      have hzL := HL.out.lt
      have hzX := HX.out.lt
      go_wp2_with fail
      refine (play_any _ _ _ _ ac hok1 _ HL.out (by omega)).mono ?_; rintro e w5 hs
      obtain ⟨q5, c5, rfl, hRC, hx, hL5, hT5, hcap⟩ := hs.done
      have z5 := hT5.size
      have B5 : Below w.heap.size w w5 := hB.trans (hT5.below (by omega) (fun k hk e => by omega))
      clear k0 k1 k2 k3 k4
      have hac5 := hac.turn hT5 habr (by omega)
      have hX5 := HX.out.turn hT5 (by omega)
      have hY5 := RowG.turn HY.out hT5 (fun x e h => by have := hq x e; omega)
      obtain ⟨k0, k1, k2, k3, k4⟩ := id hac5
      have HL5 := Lib.hid hL5; clear hL5 hs hac HL
      have HY5 := Lib.hid hY5; clear hY5 HY HX
      obtain ⟨h1, h2, h3⟩ := id hok1
      have i0 : (0 : Int) ≤ (k : Int) := by omega
      have i1 : (k : Int) < (len : Int) := by omega
      have x0 := hX5.c0
      have x1 := hX5.c1
      have x2 := hX5.c2
      have HX5 := Lib.hid hX5; clear hX5
      have HP := Lib.hid (RS.play_ok HOK.out ac)
      have hfin := fun W h => ref24_fin q n c r ac.at_ ac.since ac.now ac.yes h1 h2 h3 W h (by omega)
      have htel := fun W h => ref24_tell q n c r ac.at_ ac.since ac.now ac.yes h1 h2 h3 W h (by omega)
      unfold rsV at hfin htel
      have HF := Lib.hid hfin
      have HT := Lib.hid htel
      clear hfin htel
      have hpl := RS.play_len r ac
      have hr3 := playR_len s ac
      generalize hsr : s.playR ac = rs at *
      have HSR := Lib.hid hsr
      clear hsr
      cases hf : ac.fin
      case' true =>
        have HFN := Lib.hid hf
        rw [hf] at k4
        clear hf
        go_wp2_with fail
        refine wp_region_noPanic ?_; refine wp_region_held_drew (S := fun W => W.cell? ⟨ab, ao + k * 5, none⟩ = some (.int .i64 ac.at_) ∧ W.cell? ⟨ab, ao + k * 5 + 1, none⟩ = some (.int .i64 ac.since) ∧ W.cell? ⟨ab, ao + k * 5 + 2, none⟩ = some (.int .i64 ac.now) ∧ W.cell? ⟨ab, ao + k * 5 + 3, none⟩ = some (.bool ac.yes)) (by kernel_rfl) ⟨k0, k1, k2, k3⟩ (fun hHeld => ?_); refine wpAnyH_take (i := 1) (oi := ⟨some 49, _, _, _, _, _⟩) (v := ?_) rfl (by kernel_rfl) (by kernel_rfl) (by kernel_rfl) (fun _ _ _ h => h) (Or.inl ⟨by rfl, ?hyt1⟩) (by assumption) ?_; (case hyt1 => ((intro W hSW; (try dsimp only at hSW); obtain ⟨s1, s2, s3, s4⟩ := hSW; go_simp); (all_goals with_reducible rfl))); (try simp only [Act.put, List.setIfInBounds_toArray, List.set_cons_zero, List.set_cons_succ]); refine wpAnyH_take (i := 2) (oi := ⟨some 50, _, _, _, _, _⟩) (v := ?_) rfl (by kernel_rfl) (by kernel_rfl) (by kernel_rfl) (fun _ _ _ h => h) (Or.inl ⟨by rfl, ?hyt2⟩) (by assumption) ?_; (case hyt2 => ((intro W hSW; (try dsimp only at hSW); obtain ⟨s1, s2, s3, s4⟩ := hSW; go_simp); (all_goals with_reducible rfl))); (try simp only [Act.put, List.setIfInBounds_toArray, List.set_cons_zero, List.set_cons_succ]); refine wpAnyH_take (i := 3) (oi := ⟨some 51, _, _, _, _, _⟩) (v := ?_) rfl (by kernel_rfl) (by kernel_rfl) (by kernel_rfl) (fun _ _ _ h => h) (Or.inl ⟨by rfl, ?hyt3⟩) (by assumption) ?_; (case hyt3 => ((intro W hSW; (try dsimp only at hSW); obtain ⟨s1, s2, s3, s4⟩ := hSW; go_simp); (all_goals with_reducible rfl))); (try simp only [Act.put, List.setIfInBounds_toArray, List.set_cons_zero, List.set_cons_succ]); refine wpAnyH_take (i := 4) (oi := ⟨some 52, _, _, _, _, _⟩) (v := ?_) rfl (by kernel_rfl) (by kernel_rfl) (by kernel_rfl) (fun _ _ _ h => h) (Or.inl ⟨by rfl, ?hyt4⟩) (by assumption) ?_; (case hyt4 => ((intro W hSW; (try dsimp only at hSW); obtain ⟨s1, s2, s3, s4⟩ := hSW; go_simp); (all_goals with_reducible rfl))); (try simp only [Act.put, List.setIfInBounds_toArray, List.set_cons_zero, List.set_cons_succ]); refine wpAnyH_take (i := 5) (oi := ⟨some 53, _, _, _, _, _⟩) (v := ?_) rfl (by kernel_rfl) (by kernel_rfl) (by kernel_rfl) (fun _ _ _ h => h) (Or.inl ⟨by rfl, ?hyt5⟩) (by assumption) ?_; (case hyt5 => ((intro W hSW; (try dsimp only at hSW); obtain ⟨s1, s2, s3, s4⟩ := hSW; go_simp); (all_goals with_reducible rfl))); (try simp only [Act.put, List.setIfInBounds_toArray, List.set_cons_zero, List.set_cons_succ]); refine wpAnyH_take (i := 6) (oi := ⟨some 54, _, _, _, _, _⟩) (v := ?_) rfl (by kernel_rfl) (by kernel_rfl) (by kernel_rfl) (fun _ _ _ h => h) (Or.inl ⟨by rfl, ?hyt6⟩) (by assumption) ?_; (case hyt6 => ((intro W hSW; (try dsimp only at hSW); obtain ⟨s1, s2, s3, s4⟩ := hSW; go_simp); (all_goals with_reducible rfl))); (try simp only [Act.put, List.setIfInBounds_toArray, List.set_cons_zero, List.set_cons_succ]); refine wpAnyH_take (i := 7) (oi := ⟨some 55, _, _, _, _, _⟩) (v := ?_) rfl (by kernel_rfl) (by kernel_rfl) (by kernel_rfl) (fun _ _ _ h => h) (Or.inl ⟨by rfl, ?hyt7⟩) (by assumption) ?_; (case hyt7 => ((intro W hSW; (try dsimp only at hSW); obtain ⟨s1, s2, s3, s4⟩ := hSW; go_simp); (all_goals with_reducible rfl))); (try simp only [Act.put, List.setIfInBounds_toArray, List.set_cons_zero, List.set_cons_succ]); refine wpAnyH_take (i := 8) (oi := ⟨some 56, _, _, _, _, _⟩) (v := ?_) rfl (by kernel_rfl) (by kernel_rfl) (by kernel_rfl) (fun _ _ _ h => h) (Or.inl ⟨by rfl, ?hyt8⟩) (by assumption) ?_; (case hyt8 => ((intro W hSW; (try dsimp only at hSW); obtain ⟨s1, s2, s3, s4⟩ := hSW; go_simp); (all_goals with_reducible rfl))); (try simp only [Act.put, List.setIfInBounds_toArray, List.set_cons_zero, List.set_cons_succ]); refine wpAnyH_take (i := 9) (oi := ⟨some 57, _, _, _, _, _⟩) (v := ?_) rfl (by kernel_rfl) (by kernel_rfl) (by kernel_rfl) (fun _ _ _ h => h) (Or.inl ⟨by rfl, ?hyt9⟩) (by assumption) ?_; (case hyt9 => ((intro W hSW; (try dsimp only at hSW); obtain ⟨s1, s2, s3, s4⟩ := hSW; go_simp); (all_goals with_reducible rfl))); (try simp only [Act.put, List.setIfInBounds_toArray, List.set_cons_zero, List.set_cons_succ]); refine wpAnyH_take (i := 10) (oi := ⟨some 58, _, _, _, _, _⟩) (v := ?_) rfl (by kernel_rfl) (by kernel_rfl) (by kernel_rfl) (fun _ _ _ h => h) (Or.inl ⟨by rfl, ?hyt10⟩) (by assumption) ?_; (case hyt10 => ((intro W hSW; (try dsimp only at hSW); obtain ⟨s1, s2, s3, s4⟩ := hSW; go_simp); (all_goals with_reducible rfl))); (try simp only [Act.put, List.setIfInBounds_toArray, List.set_cons_zero, List.set_cons_succ]); refine wpAnyH_take (i := 11) (oi := ⟨some 59, _, _, _, _, _⟩) (v := ?_) rfl (by kernel_rfl) (by kernel_rfl) (by kernel_rfl) (fun _ _ _ h => h) (Or.inl ⟨by rfl, ?hyt11⟩) (by assumption) ?_; (case hyt11 => ((intro W hSW; (try dsimp only at hSW); obtain ⟨s1, s2, s3, s4⟩ := hSW; go_simp); (all_goals with_reducible rfl))); (try simp only [Act.put, List.setIfInBounds_toArray, List.set_cons_zero, List.set_cons_succ]); refine wpAnyH_take (i := 12) (oi := ⟨some 60, _, _, _, _, _⟩) (v := ?_) rfl (by kernel_rfl) (by kernel_rfl) (by kernel_rfl) (fun _ _ _ h => h) (Or.inl ⟨by rfl, ?hyt12⟩) (by assumption) ?_; (case hyt12 => ((intro W hSW; (try dsimp only at hSW); obtain ⟨s1, s2, s3, s4⟩ := hSW; go_simp); (all_goals with_reducible rfl))); (try simp only [Act.put, List.setIfInBounds_toArray, List.set_cons_zero, List.set_cons_succ]); refine wpAnyH_take (i := 13) (oi := ⟨some 61, _, _, _, _, _⟩) (v := ?_) rfl (by kernel_rfl) (by kernel_rfl) (by kernel_rfl) (fun _ _ _ h => h) (Or.inl ⟨by rfl, ?hyt13⟩) (by assumption) ?_; (case hyt13 => ((intro W hSW; (try dsimp only at hSW); obtain ⟨s1, s2, s3, s4⟩ := hSW; go_simp); (all_goals with_reducible rfl))); (try simp only [Act.put, List.setIfInBounds_toArray, List.set_cons_zero, List.set_cons_succ]); refine wpAnyH_take (i := 14) (oi := ⟨some 62, _, _, _, _, _⟩) (v := ?_) rfl (by kernel_rfl) (by kernel_rfl) (by kernel_rfl) (fun _ _ _ h => h) (Or.inl ⟨by rfl, ?hyt14⟩) (by assumption) ?_; (case hyt14 => ((intro W hSW; (try dsimp only at hSW); obtain ⟨s1, s2, s3, s4⟩ := hSW; go_simp); (all_goals with_reducible rfl))); (try simp only [Act.put, List.setIfInBounds_toArray, List.set_cons_zero, List.set_cons_succ]); refine wpAnyH_take (i := 15) (oi := ⟨some 63, _, _, _, _, _⟩) (v := ?_) rfl (by kernel_rfl) (by kernel_rfl) (by kernel_rfl) (fun _ _ _ h => h) (Or.inl ⟨by rfl, ?hyt15⟩) (by assumption) ?_; (case hyt15 => ((intro W hSW; (try dsimp only at hSW); obtain ⟨s1, s2, s3, s4⟩ := hSW; go_simp); (all_goals with_reducible rfl))); (try simp only [Act.put, List.setIfInBounds_toArray, List.set_cons_zero, List.set_cons_succ]); refine wpAnyH_take (i := 16) (oi := ⟨some 64, _, _, _, _, _⟩) (v := ?_) rfl (by kernel_rfl) (by kernel_rfl) (by kernel_rfl) (fun _ _ _ h => h) (Or.inl ⟨by rfl, ?hyt16⟩) (by assumption) ?_; (case hyt16 => ((intro W hSW; (try dsimp only at hSW); obtain ⟨s1, s2, s3, s4⟩ := hSW; go_simp); (all_goals with_reducible rfl))); (try simp only [Act.put, List.setIfInBounds_toArray, List.set_cons_zero, List.set_cons_succ]); refine wpAnyH_take (i := 17) (oi := ⟨some 65, _, _, _, _, _⟩) (v := ?_) rfl (by kernel_rfl) (by kernel_rfl) (by kernel_rfl) (fun _ _ _ h => h) (Or.inl ⟨by rfl, ?hyt17⟩) (by assumption) ?_; (case hyt17 => ((intro W hSW; (try dsimp only at hSW); obtain ⟨s1, s2, s3, s4⟩ := hSW; go_simp); (all_goals with_reducible rfl))); (try simp only [Act.put, List.setIfInBounds_toArray, List.set_cons_zero, List.set_cons_succ]); refine wpAnyH_take (i := 18) (oi := ⟨some 66, _, _, _, _, _⟩) (v := ?_) rfl (by kernel_rfl) (by kernel_rfl) (by kernel_rfl) (fun _ _ _ h => h) (Or.inl ⟨by rfl, ?hyt18⟩) (by assumption) ?_; (case hyt18 => ((intro W hSW; (try dsimp only at hSW); obtain ⟨s1, s2, s3, s4⟩ := hSW; go_simp); (all_goals with_reducible rfl))); (try simp only [Act.put, List.setIfInBounds_toArray, List.set_cons_zero, List.set_cons_succ]); refine wpAnyH_take (i := 19) (oi := ⟨some 67, _, _, _, _, _⟩) (v := ?_) rfl (by kernel_rfl) (by kernel_rfl) (by kernel_rfl) (fun _ _ _ h => h) (Or.inl ⟨by rfl, ?hyt19⟩) (by assumption) ?_; (case hyt19 => ((intro W hSW; (try dsimp only at hSW); obtain ⟨s1, s2, s3, s4⟩ := hSW; go_simp); (all_goals with_reducible rfl))); (try simp only [Act.put, List.setIfInBounds_toArray, List.set_cons_zero, List.set_cons_succ]); refine wpAnyH_take (i := 20) (oi := ⟨some 68, _, _, _, _, _⟩) (v := ?_) rfl (by kernel_rfl) (by kernel_rfl) (by kernel_rfl) (fun _ _ _ h => h) (Or.inl ⟨by rfl, ?hyt20⟩) (by assumption) ?_; (case hyt20 => ((intro W hSW; (try dsimp only at hSW); obtain ⟨s1, s2, s3, s4⟩ := hSW; go_simp); (all_goals with_reducible rfl))); (try simp only [Act.put, List.setIfInBounds_toArray, List.set_cons_zero, List.set_cons_succ]); refine wpAnyH_ready (rs := [0]) (by kernel_rfl) (by simp) ?_; refine AllReadyH.cons (o := ⟨some 48, _, _, _, _, _⟩) rfl (fun K hK => ?_) AllReadyH.nil; go_simp; refine hK.out _ _ ⟨k0, k1, k2, k3⟩ (fun hHeld1 => ?_); clear hK K hHeld; (try simp only [Act.put, List.setIfInBounds_toArray, List.set_cons_zero, List.set_cons_succ]); refine wpAnyH_ready (rs := [21]) (by kernel_rfl) (by simp) ?_; refine AllReadyH.cons (o := ⟨some 69, _, _, _, _, _⟩) rfl (fun K hK => ?_) AllReadyH.nil; go_simp; (go_at_call 22); refine (HF.out _ (RowG.below HY5.out ((Below.refl _ _).drew))).mono ?_; (rintro e w6 ⟨q6, n6, c6, v6, rfl, hR6, hq6, hO6, hb6⟩); unfold rsV; have D6 := (Below.refl w5.heap.size w5).drew.trans hb6; have X6 := HX5.out.below D6; have A6 := hac5.turn (S := fun _ => False) (Turn.ofBelow D6 rfl) (by omega) (fun h => h); have e6 : r.finS ac.at_ = r.playS ac := (by unfold RS.playS; rw [HFN.out]; rfl); have e7 : r.finR ac.at_ ac.since ac.now ac.yes = rs := (by rw [← HP.out.2]; unfold RS.playR; rw [HFN.out]; rfl); rw [e6] at hR6 ⊢; rw [e7] at hO6; clear e6 e7; obtain ⟨q7, c7, rfl, hR7, _, hx7⟩ := OwnG.row hO6; rw [List.length_map] at hR7; clear hO6; (try go_simp); refine hK.out _ _ ⟨A6.c0, A6.c1, A6.c2, A6.c3⟩ (fun hHeld2 => ?_); clear hK K hHeld1; (try simp only [Act.put, List.setIfInBounds_toArray, List.set_cons_zero, List.set_cons_succ]); refine wpAnyH_take (i := 22) (oi := ⟨some 47, _, _, _, _, _⟩) (v := ?_) rfl (by kernel_rfl) (by kernel_rfl) (by kernel_rfl) (fun _ _ _ h => h) (Or.inl ⟨by rfl, ?hyt22⟩) (by assumption) ?_; (case hyt22 => ((intro W hSW; (try dsimp only at hSW); obtain ⟨s1, s2, s3, s4⟩ := hSW; go_simp); (all_goals with_reducible rfl))); (try simp only [Act.put, List.setIfInBounds_toArray, List.set_cons_zero, List.set_cons_succ]); refine wpAnyH_take (i := 23) (oi := ⟨some 70, _, _, _, _, _⟩) (v := ?_) rfl (by kernel_rfl) (by kernel_rfl) (by kernel_rfl) (fun _ _ _ h => h) (Or.inl ⟨by rfl, ?hyt23⟩) (by assumption) ?_; (case hyt23 => ((intro W hSW; (try dsimp only at hSW); obtain ⟨s1, s2, s3, s4⟩ := hSW; go_simp); (all_goals with_reducible rfl))); (try simp only [Act.put, List.setIfInBounds_toArray, List.set_cons_zero, List.set_cons_succ]); refine wpAnyH_take (i := 24) (oi := ⟨some 71, _, _, _, _, _⟩) (v := ?_) rfl (by kernel_rfl) (by kernel_rfl) (by kernel_rfl) (fun _ _ _ h => h) (Or.inl ⟨by rfl, ?hyt24⟩) (by assumption) ?_; (case hyt24 => ((intro W hSW; (try dsimp only at hSW); obtain ⟨s1, s2, s3, s4⟩ := hSW; go_simp); (all_goals with_reducible rfl))); (try simp only [Act.put, List.setIfInBounds_toArray, List.set_cons_zero, List.set_cons_succ]); have g0 := X6.c0; have g1 := X6.c1; have g2 := X6.c2; have g3 := X6.f0; have g4 := X6.f1; have g5 := X6.f2; refine wpAnyH_ready (rs := [25]) (by kernel_rfl) (by simp) ?_; refine AllReadyH.cons (o := ⟨none, _, _, _, _, _⟩) rfl (fun K hK => ?_) AllReadyH.nil; go_simp; obtain ⟨Z7, T7⟩ := X6.store (.slice q6 n6 c6) (.int .i64 (r.playS ac).done) (.int .i64 (r.playS ac).patience); have A7 := A6.turn T7 (Nat.lt_of_lt_of_le (show ab < w5.heap.size by omega) D6.size) (by omega); have TT : Turn (fun j => j = w3.heap.size) w5 _ := ((Turn.ofBelow (S := fun j => j = w3.heap.size) D6 rfl)).trans T7 (fun _ _ h => h); have L7 := HL5.out.turn TT (by omega) (by omega); have C7 : RowC _ q5 rs.length rs := RowG.turn hRC TT (fun x e h => by have := (hx x e).1; omega); have hq7 : ∀ x, q6 = some x → w3.heap.size < x.block := (fun x e => by (rcases hq6 with h | h; (rw [h] at e; exact hq x e); (have := h x e; simp at this; omega))); have R7 : RowY _ q6 n6 (r.playS ac).ys := RowG.turn hR6 T7 (fun x e h => by have := hq7 x e; omega); have E7 : RowC _ q7 rs.length rs := RowG.turn hR7 T7 (fun x e h => by (have := (hx7 x e).1; simp at this; omega)); have B7 := (B5.trans (D6.mono B5.size)).trans (T7.below (B5.trans (D6.mono B5.size)).size (fun k hk e => by omega)); clear g0 g1 g2 g3 g4 g5 X6 A6 T7 TT hR6 hR7; generalize ((w6.setCell ⟨w3.heap.size, 0, none⟩ (.slice q6 n6 c6)).setCell ⟨w3.heap.size, 1, none⟩ (.int .i64 (r.playS ac).done)).setCell ⟨w3.heap.size, 2, none⟩ (.int .i64 (r.playS ac).patience) = w7 at *; refine hK.out _ _ ⟨A7.c0, A7.c1, A7.c2, A7.c3⟩ (fun hHeld3 => ?_); clear hK K hHeld2; (try simp only [Act.put, List.setIfInBounds_toArray, List.set_cons_zero, List.set_cons_succ]); refine wpAnyH_take (i := 26) (oi := ⟨some 11, _, _, _, _, _⟩) (v := ?_) rfl (by kernel_rfl) (by kernel_rfl) (by kernel_rfl) (fun _ _ _ h => h) (Or.inl ⟨by rfl, ?hyt26⟩) (by assumption) ?_; (case hyt26 => ((intro W hSW; (try dsimp only at hSW); obtain ⟨s1, s2, s3, s4⟩ := hSW; go_simp); (all_goals with_reducible rfl))); (try simp only [Act.put, List.setIfInBounds_toArray, List.set_cons_zero, List.set_cons_succ]); refine wpAnyH_done (by kernel_rfl) ?_ _; refine NoPanic.normal ?_; clear hHeld3
      case' false =>
        have HFN := Lib.hid hf
        rw [hf] at k4
        clear hf
        go_wp2_with fail
        refine wp_region_noPanic ?_; refine wp_region_held_drew (S := fun W => W.cell? ⟨ab, ao + k * 5, none⟩ = some (.int .i64 ac.at_) ∧ W.cell? ⟨ab, ao + k * 5 + 1, none⟩ = some (.int .i64 ac.since) ∧ W.cell? ⟨ab, ao + k * 5 + 2, none⟩ = some (.int .i64 ac.now) ∧ W.cell? ⟨ab, ao + k * 5 + 3, none⟩ = some (.bool ac.yes)) (by kernel_rfl) ⟨k0, k1, k2, k3⟩ (fun hHeld => ?_); refine wpAnyH_take (i := 1) (oi := ⟨some 74, _, _, _, _, _⟩) (v := ?_) rfl (by kernel_rfl) (by kernel_rfl) (by kernel_rfl) (fun _ _ _ h => h) (Or.inl ⟨by rfl, ?hyt1⟩) (by assumption) ?_; (case hyt1 => ((intro W hSW; (try dsimp only at hSW); obtain ⟨s1, s2, s3, s4⟩ := hSW; go_simp); (all_goals with_reducible rfl))); (try simp only [Act.put, List.setIfInBounds_toArray, List.set_cons_zero, List.set_cons_succ]); refine wpAnyH_take (i := 2) (oi := ⟨some 75, _, _, _, _, _⟩) (v := ?_) rfl (by kernel_rfl) (by kernel_rfl) (by kernel_rfl) (fun _ _ _ h => h) (Or.inl ⟨by rfl, ?hyt2⟩) (by assumption) ?_; (case hyt2 => ((intro W hSW; (try dsimp only at hSW); obtain ⟨s1, s2, s3, s4⟩ := hSW; go_simp); (all_goals with_reducible rfl))); (try simp only [Act.put, List.setIfInBounds_toArray, List.set_cons_zero, List.set_cons_succ]); refine wpAnyH_take (i := 3) (oi := ⟨some 76, _, _, _, _, _⟩) (v := ?_) rfl (by kernel_rfl) (by kernel_rfl) (by kernel_rfl) (fun _ _ _ h => h) (Or.inl ⟨by rfl, ?hyt3⟩) (by assumption) ?_; (case hyt3 => ((intro W hSW; (try dsimp only at hSW); obtain ⟨s1, s2, s3, s4⟩ := hSW; go_simp); (all_goals with_reducible rfl))); (try simp only [Act.put, List.setIfInBounds_toArray, List.set_cons_zero, List.set_cons_succ]); refine wpAnyH_take (i := 4) (oi := ⟨some 77, _, _, _, _, _⟩) (v := ?_) rfl (by kernel_rfl) (by kernel_rfl) (by kernel_rfl) (fun _ _ _ h => h) (Or.inl ⟨by rfl, ?hyt4⟩) (by assumption) ?_; (case hyt4 => ((intro W hSW; (try dsimp only at hSW); obtain ⟨s1, s2, s3, s4⟩ := hSW; go_simp); (all_goals with_reducible rfl))); (try simp only [Act.put, List.setIfInBounds_toArray, List.set_cons_zero, List.set_cons_succ]); refine wpAnyH_take (i := 5) (oi := ⟨some 78, _, _, _, _, _⟩) (v := ?_) rfl (by kernel_rfl) (by kernel_rfl) (by kernel_rfl) (fun _ _ _ h => h) (Or.inl ⟨by rfl, ?hyt5⟩) (by assumption) ?_; (case hyt5 => ((intro W hSW; (try dsimp only at hSW); obtain ⟨s1, s2, s3, s4⟩ := hSW; go_simp); (all_goals with_reducible rfl))); (try simp only [Act.put, List.setIfInBounds_toArray, List.set_cons_zero, List.set_cons_succ]); refine wpAnyH_take (i := 6) (oi := ⟨some 79, _, _, _, _, _⟩) (v := ?_) rfl (by kernel_rfl) (by kernel_rfl) (by kernel_rfl) (fun _ _ _ h => h) (Or.inl ⟨by rfl, ?hyt6⟩) (by assumption) ?_; (case hyt6 => ((intro W hSW; (try dsimp only at hSW); obtain ⟨s1, s2, s3, s4⟩ := hSW; go_simp); (all_goals with_reducible rfl))); (try simp only [Act.put, List.setIfInBounds_toArray, List.set_cons_zero, List.set_cons_succ]); refine wpAnyH_take (i := 7) (oi := ⟨some 80, _, _, _, _, _⟩) (v := ?_) rfl (by kernel_rfl) (by kernel_rfl) (by kernel_rfl) (fun _ _ _ h => h) (Or.inl ⟨by rfl, ?hyt7⟩) (by assumption) ?_; (case hyt7 => ((intro W hSW; (try dsimp only at hSW); obtain ⟨s1, s2, s3, s4⟩ := hSW; go_simp); (all_goals with_reducible rfl))); (try simp only [Act.put, List.setIfInBounds_toArray, List.set_cons_zero, List.set_cons_succ]); refine wpAnyH_take (i := 8) (oi := ⟨some 81, _, _, _, _, _⟩) (v := ?_) rfl (by kernel_rfl) (by kernel_rfl) (by kernel_rfl) (fun _ _ _ h => h) (Or.inl ⟨by rfl, ?hyt8⟩) (by assumption) ?_; (case hyt8 => ((intro W hSW; (try dsimp only at hSW); obtain ⟨s1, s2, s3, s4⟩ := hSW; go_simp); (all_goals with_reducible rfl))); (try simp only [Act.put, List.setIfInBounds_toArray, List.set_cons_zero, List.set_cons_succ]); refine wpAnyH_take (i := 9) (oi := ⟨some 82, _, _, _, _, _⟩) (v := ?_) rfl (by kernel_rfl) (by kernel_rfl) (by kernel_rfl) (fun _ _ _ h => h) (Or.inl ⟨by rfl, ?hyt9⟩) (by assumption) ?_; (case hyt9 => ((intro W hSW; (try dsimp only at hSW); obtain ⟨s1, s2, s3, s4⟩ := hSW; go_simp); (all_goals with_reducible rfl))); (try simp only [Act.put, List.setIfInBounds_toArray, List.set_cons_zero, List.set_cons_succ]); refine wpAnyH_take (i := 10) (oi := ⟨some 83, _, _, _, _, _⟩) (v := ?_) rfl (by kernel_rfl) (by kernel_rfl) (by kernel_rfl) (fun _ _ _ h => h) (Or.inl ⟨by rfl, ?hyt10⟩) (by assumption) ?_; (case hyt10 => ((intro W hSW; (try dsimp only at hSW); obtain ⟨s1, s2, s3, s4⟩ := hSW; go_simp); (all_goals with_reducible rfl))); (try simp only [Act.put, List.setIfInBounds_toArray, List.set_cons_zero, List.set_cons_succ]); refine wpAnyH_take (i := 11) (oi := ⟨some 84, _, _, _, _, _⟩) (v := ?_) rfl (by kernel_rfl) (by kernel_rfl) (by kernel_rfl) (fun _ _ _ h => h) (Or.inl ⟨by rfl, ?hyt11⟩) (by assumption) ?_; (case hyt11 => ((intro W hSW; (try dsimp only at hSW); obtain ⟨s1, s2, s3, s4⟩ := hSW; go_simp); (all_goals with_reducible rfl))); (try simp only [Act.put, List.setIfInBounds_toArray, List.set_cons_zero, List.set_cons_succ]); refine wpAnyH_take (i := 12) (oi := ⟨some 85, _, _, _, _, _⟩) (v := ?_) rfl (by kernel_rfl) (by kernel_rfl) (by kernel_rfl) (fun _ _ _ h => h) (Or.inl ⟨by rfl, ?hyt12⟩) (by assumption) ?_; (case hyt12 => ((intro W hSW; (try dsimp only at hSW); obtain ⟨s1, s2, s3, s4⟩ := hSW; go_simp); (all_goals with_reducible rfl))); (try simp only [Act.put, List.setIfInBounds_toArray, List.set_cons_zero, List.set_cons_succ]); refine wpAnyH_take (i := 13) (oi := ⟨some 86, _, _, _, _, _⟩) (v := ?_) rfl (by kernel_rfl) (by kernel_rfl) (by kernel_rfl) (fun _ _ _ h => h) (Or.inl ⟨by rfl, ?hyt13⟩) (by assumption) ?_; (case hyt13 => ((intro W hSW; (try dsimp only at hSW); obtain ⟨s1, s2, s3, s4⟩ := hSW; go_simp); (all_goals with_reducible rfl))); (try simp only [Act.put, List.setIfInBounds_toArray, List.set_cons_zero, List.set_cons_succ]); refine wpAnyH_take (i := 14) (oi := ⟨some 87, _, _, _, _, _⟩) (v := ?_) rfl (by kernel_rfl) (by kernel_rfl) (by kernel_rfl) (fun _ _ _ h => h) (Or.inl ⟨by rfl, ?hyt14⟩) (by assumption) ?_; (case hyt14 => ((intro W hSW; (try dsimp only at hSW); obtain ⟨s1, s2, s3, s4⟩ := hSW; go_simp); (all_goals with_reducible rfl))); (try simp only [Act.put, List.setIfInBounds_toArray, List.set_cons_zero, List.set_cons_succ]); refine wpAnyH_take (i := 15) (oi := ⟨some 88, _, _, _, _, _⟩) (v := ?_) rfl (by kernel_rfl) (by kernel_rfl) (by kernel_rfl) (fun _ _ _ h => h) (Or.inl ⟨by rfl, ?hyt15⟩) (by assumption) ?_; (case hyt15 => ((intro W hSW; (try dsimp only at hSW); obtain ⟨s1, s2, s3, s4⟩ := hSW; go_simp); (all_goals with_reducible rfl))); (try simp only [Act.put, List.setIfInBounds_toArray, List.set_cons_zero, List.set_cons_succ]); refine wpAnyH_take (i := 16) (oi := ⟨some 89, _, _, _, _, _⟩) (v := ?_) rfl (by kernel_rfl) (by kernel_rfl) (by kernel_rfl) (fun _ _ _ h => h) (Or.inl ⟨by rfl, ?hyt16⟩) (by assumption) ?_; (case hyt16 => ((intro W hSW; (try dsimp only at hSW); obtain ⟨s1, s2, s3, s4⟩ := hSW; go_simp); (all_goals with_reducible rfl))); (try simp only [Act.put, List.setIfInBounds_toArray, List.set_cons_zero, List.set_cons_succ]); refine wpAnyH_take (i := 17) (oi := ⟨some 90, _, _, _, _, _⟩) (v := ?_) rfl (by kernel_rfl) (by kernel_rfl) (by kernel_rfl) (fun _ _ _ h => h) (Or.inl ⟨by rfl, ?hyt17⟩) (by assumption) ?_; (case hyt17 => ((intro W hSW; (try dsimp only at hSW); obtain ⟨s1, s2, s3, s4⟩ := hSW; go_simp); (all_goals with_reducible rfl))); (try simp only [Act.put, List.setIfInBounds_toArray, List.set_cons_zero, List.set_cons_succ]); refine wpAnyH_take (i := 18) (oi := ⟨some 91, _, _, _, _, _⟩) (v := ?_) rfl (by kernel_rfl) (by kernel_rfl) (by kernel_rfl) (fun _ _ _ h => h) (Or.inl ⟨by rfl, ?hyt18⟩) (by assumption) ?_; (case hyt18 => ((intro W hSW; (try dsimp only at hSW); obtain ⟨s1, s2, s3, s4⟩ := hSW; go_simp); (all_goals with_reducible rfl))); (try simp only [Act.put, List.setIfInBounds_toArray, List.set_cons_zero, List.set_cons_succ]); refine wpAnyH_take (i := 19) (oi := ⟨some 92, _, _, _, _, _⟩) (v := ?_) rfl (by kernel_rfl) (by kernel_rfl) (by kernel_rfl) (fun _ _ _ h => h) (Or.inl ⟨by rfl, ?hyt19⟩) (by assumption) ?_; (case hyt19 => ((intro W hSW; (try dsimp only at hSW); obtain ⟨s1, s2, s3, s4⟩ := hSW; go_simp); (all_goals with_reducible rfl))); (try simp only [Act.put, List.setIfInBounds_toArray, List.set_cons_zero, List.set_cons_succ]); refine wpAnyH_take (i := 20) (oi := ⟨some 93, _, _, _, _, _⟩) (v := ?_) rfl (by kernel_rfl) (by kernel_rfl) (by kernel_rfl) (fun _ _ _ h => h) (Or.inl ⟨by rfl, ?hyt20⟩) (by assumption) ?_; (case hyt20 => ((intro W hSW; (try dsimp only at hSW); obtain ⟨s1, s2, s3, s4⟩ := hSW; go_simp); (all_goals with_reducible rfl))); (try simp only [Act.put, List.setIfInBounds_toArray, List.set_cons_zero, List.set_cons_succ]); refine wpAnyH_ready (rs := [0]) (by kernel_rfl) (by simp) ?_; refine AllReadyH.cons (o := ⟨some 73, _, _, _, _, _⟩) rfl (fun K hK => ?_) AllReadyH.nil; go_simp; refine hK.out _ _ ⟨k0, k1, k2, k3⟩ (fun hHeld1 => ?_); clear hK K hHeld; (try simp only [Act.put, List.setIfInBounds_toArray, List.set_cons_zero, List.set_cons_succ]); refine wpAnyH_ready (rs := [21]) (by kernel_rfl) (by simp) ?_; refine AllReadyH.cons (o := ⟨some 94, _, _, _, _, _⟩) rfl (fun K hK => ?_) AllReadyH.nil; go_simp; (go_at_call 23); refine (HT.out _ (RowG.below HY5.out ((Below.refl _ _).drew))).mono ?_; (rintro e w6 ⟨q6, n6, c6, v6, rfl, hR6, hq6, hO6, hb6⟩); unfold rsV; have D6 := (Below.refl w5.heap.size w5).drew.trans hb6; have X6 := HX5.out.below D6; have A6 := hac5.turn (S := fun _ => False) (Turn.ofBelow D6 rfl) (by omega) (fun h => h); have e6 : r.tellS ac.at_ ac.since ac.now ac.yes = r.playS ac := (by unfold RS.playS; rw [HFN.out]; rfl); have e7 : r.tellR ac.at_ ac.since ac.now ac.yes = rs := (by rw [← HP.out.2]; unfold RS.playR; rw [HFN.out]; rfl); rw [e6] at hR6 ⊢; rw [e7] at hO6; clear e6 e7; obtain ⟨q7, c7, rfl, hR7, _, hx7⟩ := OwnG.row hO6; rw [List.length_map] at hR7; clear hO6; (try go_simp); refine hK.out _ _ ⟨A6.c0, A6.c1, A6.c2, A6.c3⟩ (fun hHeld2 => ?_); clear hK K hHeld1; (try simp only [Act.put, List.setIfInBounds_toArray, List.set_cons_zero, List.set_cons_succ]); refine wpAnyH_take (i := 22) (oi := ⟨some 72, _, _, _, _, _⟩) (v := ?_) rfl (by kernel_rfl) (by kernel_rfl) (by kernel_rfl) (fun _ _ _ h => h) (Or.inl ⟨by rfl, ?hyt22⟩) (by assumption) ?_; (case hyt22 => ((intro W hSW; (try dsimp only at hSW); obtain ⟨s1, s2, s3, s4⟩ := hSW; go_simp); (all_goals with_reducible rfl))); (try simp only [Act.put, List.setIfInBounds_toArray, List.set_cons_zero, List.set_cons_succ]); refine wpAnyH_take (i := 23) (oi := ⟨some 95, _, _, _, _, _⟩) (v := ?_) rfl (by kernel_rfl) (by kernel_rfl) (by kernel_rfl) (fun _ _ _ h => h) (Or.inl ⟨by rfl, ?hyt23⟩) (by assumption) ?_; (case hyt23 => ((intro W hSW; (try dsimp only at hSW); obtain ⟨s1, s2, s3, s4⟩ := hSW; go_simp); (all_goals with_reducible rfl))); (try simp only [Act.put, List.setIfInBounds_toArray, List.set_cons_zero, List.set_cons_succ]); refine wpAnyH_take (i := 24) (oi := ⟨some 96, _, _, _, _, _⟩) (v := ?_) rfl (by kernel_rfl) (by kernel_rfl) (by kernel_rfl) (fun _ _ _ h => h) (Or.inl ⟨by rfl, ?hyt24⟩) (by assumption) ?_; (case hyt24 => ((intro W hSW; (try dsimp only at hSW); obtain ⟨s1, s2, s3, s4⟩ := hSW; go_simp); (all_goals with_reducible rfl))); (try simp only [Act.put, List.setIfInBounds_toArray, List.set_cons_zero, List.set_cons_succ]); have g0 := X6.c0; have g1 := X6.c1; have g2 := X6.c2; have g3 := X6.f0; have g4 := X6.f1; have g5 := X6.f2; refine wpAnyH_ready (rs := [25]) (by kernel_rfl) (by simp) ?_; refine AllReadyH.cons (o := ⟨none, _, _, _, _, _⟩) rfl (fun K hK => ?_) AllReadyH.nil; go_simp; obtain ⟨Z7, T7⟩ := X6.store (.slice q6 n6 c6) (.int .i64 (r.playS ac).done) (.int .i64 (r.playS ac).patience); have A7 := A6.turn T7 (Nat.lt_of_lt_of_le (show ab < w5.heap.size by omega) D6.size) (by omega); have TT : Turn (fun j => j = w3.heap.size) w5 _ := ((Turn.ofBelow (S := fun j => j = w3.heap.size) D6 rfl)).trans T7 (fun _ _ h => h); have L7 := HL5.out.turn TT (by omega) (by omega); have C7 : RowC _ q5 rs.length rs := RowG.turn hRC TT (fun x e h => by have := (hx x e).1; omega); have hq7 : ∀ x, q6 = some x → w3.heap.size < x.block := (fun x e => by (rcases hq6 with h | h; (rw [h] at e; exact hq x e); (have := h x e; simp at this; omega))); have R7 : RowY _ q6 n6 (r.playS ac).ys := RowG.turn hR6 T7 (fun x e h => by have := hq7 x e; omega); have E7 : RowC _ q7 rs.length rs := RowG.turn hR7 T7 (fun x e h => by (have := (hx7 x e).1; simp at this; omega)); have B7 := (B5.trans (D6.mono B5.size)).trans (T7.below (B5.trans (D6.mono B5.size)).size (fun k hk e => by omega)); clear g0 g1 g2 g3 g4 g5 X6 A6 T7 TT hR6 hR7; generalize ((w6.setCell ⟨w3.heap.size, 0, none⟩ (.slice q6 n6 c6)).setCell ⟨w3.heap.size, 1, none⟩ (.int .i64 (r.playS ac).done)).setCell ⟨w3.heap.size, 2, none⟩ (.int .i64 (r.playS ac).patience) = w7 at *; refine hK.out _ _ ⟨A7.c0, A7.c1, A7.c2, A7.c3⟩ (fun hHeld3 => ?_); clear hK K hHeld2; (try simp only [Act.put, List.setIfInBounds_toArray, List.set_cons_zero, List.set_cons_succ]); refine wpAnyH_take (i := 26) (oi := ⟨some 11, _, _, _, _, _⟩) (v := ?_) rfl (by kernel_rfl) (by kernel_rfl) (by kernel_rfl) (fun _ _ _ h => h) (Or.inl ⟨by rfl, ?hyt26⟩) (by assumption) ?_; (case hyt26 => ((intro W hSW; (try dsimp only at hSW); obtain ⟨s1, s2, s3, s4⟩ := hSW; go_simp); (all_goals with_reducible rfl))); (try simp only [Act.put, List.setIfInBounds_toArray, List.set_cons_zero, List.set_cons_succ]); refine wpAnyH_done (by kernel_rfl) ?_ _; refine NoPanic.normal ?_; clear hHeld3
      all_goals
        clear k0 k1 k2 k3 k4
        obtain ⟨k0, k1, k2, k3, k4⟩ := A7
        have I7 : PlInv w (w1.heap.size + 1) w1.heap.size w3.heap.size (k + 1) (s.playS ac) (r.playS ac) q6 n6 c6 q5 q7 rs w7 := ⟨L7, Z7, R7, C7, E7, B7⟩
        have HI7 := Lib.hid I7
        clear I7 L7 Z7 R7 C7 E7 HL5 HX5 HY5 hRC
        go_wp2_with fail
        refine (play_none ac w7).mono ?_; rintro e w8 ⟨rfl, hb8⟩
        have I8 := HI7.out.below hb8
        have HI8 := Lib.hid I8
        clear I8 HI7 k0 k1 k2 k3 k4
        go_wp2_with fail
        go_loopw [12] (fun i W => ∃ j : Nat, j ≤ rs.length ∧ i = .int .i64 j ∧ PlInv w (w1.heap.size + 1) w1.heap.size w3.heap.size (k + 1) (s.playS ac) (r.playS ac) q6 n6 c6 q5 q7 rs W) (fun i W => rs.length - (intOf i).toNat)
        case atStart => exact ⟨0, Nat.zero_le _, rfl, HI8.out⟩
        case round =>
          obtain ⟨j, hj, rfl, hI⟩ := hrel
          clear HI8
          have HI := Lib.hid hI
          clear hI
          by_cases hjl : j < rs.length
          · obtain ⟨b1, o1, rfl, _, hat1⟩ := HI.out.got.at_ (by omega)
            obtain ⟨b2, o2, rfl, _, hat2⟩ := HI.out.want.at_ (by omega)
            have y1 := hat1 j hjl
            have y2 := hat2 j hjl
            clear hat1 hat2
            have hlb1 := World.block_lt_of_cell? _ _ y1.c0
            have hlb2 := World.block_lt_of_cell? _ _ y2.c0
            generalize rs.getD j rcD = rc at *
            have hne := fun W => neqX W rc
            unfold rcA at hne
            have j0 : (0 : Int) ≤ (j : Int) := by omega
            have j1 : (j : Int) < (rs.length : Int) := by omega
            have HJ1 := Lib.hid (show j + 1 ≤ rs.length by omega)
            have HJ2 := Lib.hid (show rs.length - (j + 1) < rs.length - j by omega)
            have HY1 := Lib.hid y1
            have HY2 := Lib.hid y2
            clear y1 y2
            go_wp2_with fail
            refine wp_region_noPanic ?_
            refine wp_region_held_drew (S := fun W => RcAt W b1 (o1 + j * 8) rc ∧ RcAt W b2 (o2 + j * 8) rc) (by kernel_rfl) ⟨HY1.out.turn (Turn.ofBelow (S := fun _ => False) (Below.refl _ _).drew rfl) hlb1 (fun h => h), HY2.out.turn (Turn.ofBelow (S := fun _ => False) (Below.refl _ _).drew rfl) hlb2 (fun h => h)⟩ (fun hHeld => ?_)
            refine wpAnyH_take (i := 0) (oi := ⟨some 118, _, _, _, _, _⟩) (v := ?_) rfl (by kernel_rfl) (by kernel_rfl) (by kernel_rfl) (fun _ _ _ h => h) (Or.inl ⟨by rfl, ?hyt0⟩) (by assumption) ?_; (case hyt0 => ((intro W hSW; (try dsimp only at hSW); obtain ⟨⟨s0, s1, s2, s3, s4, s5, s6, s7⟩, ⟨u0, u1, u2, u3, u4, u5, u6, u7⟩⟩ := hSW; go_simp); (all_goals with_reducible rfl))); (try simp only [Act.put, List.setIfInBounds_toArray, List.set_cons_zero, List.set_cons_succ])
            refine wpAnyH_take (i := 1) (oi := ⟨some 119, _, _, _, _, _⟩) (v := ?_) rfl (by kernel_rfl) (by kernel_rfl) (by kernel_rfl) (fun _ _ _ h => h) (Or.inl ⟨by rfl, ?hyt1⟩) (by assumption) ?_; (case hyt1 => ((intro W hSW; (try dsimp only at hSW); obtain ⟨⟨s0, s1, s2, s3, s4, s5, s6, s7⟩, ⟨u0, u1, u2, u3, u4, u5, u6, u7⟩⟩ := hSW; go_simp); (all_goals with_reducible rfl))); (try simp only [Act.put, List.setIfInBounds_toArray, List.set_cons_zero, List.set_cons_succ])
            refine wpAnyH_take (i := 2) (oi := ⟨some 120, _, _, _, _, _⟩) (v := ?_) rfl (by kernel_rfl) (by kernel_rfl) (by kernel_rfl) (fun _ _ _ h => h) (Or.inl ⟨by rfl, ?hyt2⟩) (by assumption) ?_; (case hyt2 => ((intro W hSW; (try dsimp only at hSW); obtain ⟨⟨s0, s1, s2, s3, s4, s5, s6, s7⟩, ⟨u0, u1, u2, u3, u4, u5, u6, u7⟩⟩ := hSW; go_simp); (all_goals with_reducible rfl))); (try simp only [Act.put, List.setIfInBounds_toArray, List.set_cons_zero, List.set_cons_succ])
            refine wpAnyH_take (i := 3) (oi := ⟨some 121, _, _, _, _, _⟩) (v := ?_) rfl (by kernel_rfl) (by kernel_rfl) (by kernel_rfl) (fun _ _ _ h => h) (Or.inl ⟨by rfl, ?hyt3⟩) (by assumption) ?_; (case hyt3 => ((intro W hSW; (try dsimp only at hSW); obtain ⟨⟨s0, s1, s2, s3, s4, s5, s6, s7⟩, ⟨u0, u1, u2, u3, u4, u5, u6, u7⟩⟩ := hSW; go_simp); (all_goals with_reducible rfl))); (try simp only [Act.put, List.setIfInBounds_toArray, List.set_cons_zero, List.set_cons_succ])
            refine wpAnyH_take (i := 5) (oi := ⟨some 123, _, _, _, _, _⟩) (v := ?_) rfl (by kernel_rfl) (by kernel_rfl) (by kernel_rfl) (fun _ _ _ h => h) (Or.inl ⟨by rfl, ?hyt5⟩) (by assumption) ?_; (case hyt5 => ((intro W hSW; (try dsimp only at hSW); obtain ⟨⟨s0, s1, s2, s3, s4, s5, s6, s7⟩, ⟨u0, u1, u2, u3, u4, u5, u6, u7⟩⟩ := hSW; go_simp); (all_goals with_reducible rfl))); (try simp only [Act.put, List.setIfInBounds_toArray, List.set_cons_zero, List.set_cons_succ])
            refine wpAnyH_take (i := 6) (oi := ⟨some 124, _, _, _, _, _⟩) (v := ?_) rfl (by kernel_rfl) (by kernel_rfl) (by kernel_rfl) (fun _ _ _ h => h) (Or.inl ⟨by rfl, ?hyt6⟩) (by assumption) ?_; (case hyt6 => ((intro W hSW; (try dsimp only at hSW); obtain ⟨⟨s0, s1, s2, s3, s4, s5, s6, s7⟩, ⟨u0, u1, u2, u3, u4, u5, u6, u7⟩⟩ := hSW; go_simp); (all_goals with_reducible rfl))); (try simp only [Act.put, List.setIfInBounds_toArray, List.set_cons_zero, List.set_cons_succ])
            refine wpAnyH_take (i := 7) (oi := ⟨some 125, _, _, _, _, _⟩) (v := ?_) rfl (by kernel_rfl) (by kernel_rfl) (by kernel_rfl) (fun _ _ _ h => h) (Or.inl ⟨by rfl, ?hyt7⟩) (by assumption) ?_; (case hyt7 => ((intro W hSW; (try dsimp only at hSW); obtain ⟨⟨s0, s1, s2, s3, s4, s5, s6, s7⟩, ⟨u0, u1, u2, u3, u4, u5, u6, u7⟩⟩ := hSW; go_simp); (all_goals with_reducible rfl))); (try simp only [Act.put, List.setIfInBounds_toArray, List.set_cons_zero, List.set_cons_succ])
            refine wpAnyH_take (i := 8) (oi := ⟨some 126, _, _, _, _, _⟩) (v := ?_) rfl (by kernel_rfl) (by kernel_rfl) (by kernel_rfl) (fun _ _ _ h => h) (Or.inl ⟨by rfl, ?hyt8⟩) (by assumption) ?_; (case hyt8 => ((intro W hSW; (try dsimp only at hSW); obtain ⟨⟨s0, s1, s2, s3, s4, s5, s6, s7⟩, ⟨u0, u1, u2, u3, u4, u5, u6, u7⟩⟩ := hSW; go_simp); (all_goals with_reducible rfl))); (try simp only [Act.put, List.setIfInBounds_toArray, List.set_cons_zero, List.set_cons_succ])
            refine wpAnyH_ready (rs := [4]) (by kernel_rfl) (by simp) ?_; refine AllReadyH.cons (o := ⟨some 122, _, _, _, _, _⟩) rfl (fun K hK => ?_) AllReadyH.nil; go_simp
            go_at_call 24
            refine (plain24 rc _).mono ?_; rintro e w9 ⟨rfl, hb9⟩
            unfold rcA
            have D9 := (Below.refl _ _).drew.trans hb9
            (try go_simp)
            refine hK.out _ _ ⟨HY1.out.turn (Turn.ofBelow (S := fun _ => False) D9 rfl) hlb1 (fun h => h), HY2.out.turn (Turn.ofBelow (S := fun _ => False) D9 rfl) hlb2 (fun h => h)⟩ (fun hHeld2 => ?_)
            clear hK K hHeld
            (try simp only [Act.put, List.setIfInBounds_toArray, List.set_cons_zero, List.set_cons_succ])
            refine wpAnyH_take (i := 9) (oi := ⟨some 127, _, _, _, _, _⟩) (v := ?_) rfl (by kernel_rfl) (by kernel_rfl) (by kernel_rfl) (fun _ _ _ h => h) (Or.inl ⟨by rfl, ?hyt9⟩) (by assumption) ?_; (case hyt9 => ((intro W hSW; (try dsimp only at hSW); obtain ⟨⟨s0, s1, s2, s3, s4, s5, s6, s7⟩, ⟨u0, u1, u2, u3, u4, u5, u6, u7⟩⟩ := hSW; go_simp); (all_goals with_reducible rfl))); (try simp only [Act.put, List.setIfInBounds_toArray, List.set_cons_zero, List.set_cons_succ])
            refine wpAnyH_done (by kernel_rfl) ?_ _
            refine NoPanic.normal ?_
            clear hHeld2
            go_wp2_with fail
            go_roundw
            case rel => exact ⟨j + 1, HJ1.out, by go_num, HI.out.below D9⟩
            case measure => have h9 := HJ2.out; simp [intOf]; omega
          · go_wp2_with fail
            go_loopw [13] (fun i W => ∃ j : Nat, j ≤ k + 1 ∧ i = .int .i64 j ∧ PlInv w (w1.heap.size + 1) w1.heap.size w3.heap.size (k + 1) (s.playS ac) (r.playS ac) q6 n6 c6 q5 q7 rs W) (fun i W => k + 1 - (intOf i).toNat)
            case atStart => exact ⟨0, Nat.zero_le _, rfl, HI.out⟩
            case round =>
              obtain ⟨j2, hj2, rfl, hI2⟩ := hrel
              clear HI
              have HI := Lib.hid hI2
              clear hI2
              by_cases hjk : j2 ≤ k
              · have y1 := (HAT.out j2 (by omega)).turn (Turn.ofBelow (S := fun _ => False) HI.out.bel rfl) hab (fun h => h)
                have hok2 := ok_getD hok (i := j2) (by have := HLL.out; omega)
                have hlb1 := World.block_lt_of_cell? _ _ y1.c0
                generalize l.getD j2 acD = aj at *
                have m0 := y1.c0
                clear y1
                have hsd := fun W h => ref24_said q6 n6 c6 (r.playS ac).ys (r.playS ac).done (r.playS ac).patience aj.at_ W h
                unfold rsV at hsd
                rw [HP.out.1.2.2] at hsd
                have hld := fun W h => ledger_said (w1.heap.size + 1) w1.heap.size (k + 1) (s.playS ac) aj.at_ hok2.1 W h
                generalize (s.playS ac).said aj.at_ = o at *
                have HSD := Lib.hid hsd
                have HLD := Lib.hid hld
                clear hsd hld
                have j0 : (0 : Int) ≤ (j2 : Int) := by omega
                have j1 : (j2 : Int) < (len : Int) := by omega
                go_wp2_with fail
                refine (HLD.out _ HI.out.led).mono ?_; rintro e w' ⟨rfl, rfl⟩
                have u0 := HI.out.box.c0
                have u1 := HI.out.box.c1
                have u2 := HI.out.box.c2
                go_wp2_with fail
                refine wp_region_noPanic ?_
                refine wp_region_held_drew (S := fun W => W.cell? ⟨w3.heap.size, 0, none⟩ = some (.slice q6 n6 c6) ∧ W.cell? ⟨w3.heap.size, 1, none⟩ = some (.int .i64 (r.playS ac).done) ∧ W.cell? ⟨w3.heap.size, 2, none⟩ = some (.int .i64 (r.playS ac).patience) ∧ W.cell? ⟨ab, ao + j2 * 5, none⟩ = some (.int .i64 aj.at_)) (by kernel_rfl) ⟨u0, u1, u2, m0⟩ (fun hHeld => ?_)
                refine wpAnyH_take (i := 0) (oi := ⟨some 144, _, _, _, _, _⟩) (v := ?_) rfl (by kernel_rfl) (by kernel_rfl) (by kernel_rfl) (fun _ _ _ h => h) (Or.inl ⟨by rfl, ?hyt0⟩) (by assumption) ?_; (case hyt0 => ((intro W hSW; (try dsimp only at hSW); obtain ⟨s1, s2, s3, s4⟩ := hSW; go_simp); (all_goals with_reducible rfl))); (try simp only [Act.put, List.setIfInBounds_toArray, List.set_cons_zero, List.set_cons_succ])
                refine wpAnyH_take (i := 1) (oi := ⟨some 145, _, _, _, _, _⟩) (v := ?_) rfl (by kernel_rfl) (by kernel_rfl) (by kernel_rfl) (fun _ _ _ h => h) (Or.inl ⟨by rfl, ?hyt1⟩) (by assumption) ?_; (case hyt1 => ((intro W hSW; (try dsimp only at hSW); obtain ⟨s1, s2, s3, s4⟩ := hSW; go_simp); (all_goals with_reducible rfl))); (try simp only [Act.put, List.setIfInBounds_toArray, List.set_cons_zero, List.set_cons_succ])
                refine wpAnyH_take (i := 2) (oi := ⟨some 146, _, _, _, _, _⟩) (v := ?_) rfl (by kernel_rfl) (by kernel_rfl) (by kernel_rfl) (fun _ _ _ h => h) (Or.inl ⟨by rfl, ?hyt2⟩) (by assumption) ?_; (case hyt2 => ((intro W hSW; (try dsimp only at hSW); obtain ⟨s1, s2, s3, s4⟩ := hSW; go_simp); (all_goals with_reducible rfl))); (try simp only [Act.put, List.setIfInBounds_toArray, List.set_cons_zero, List.set_cons_succ])
                refine wpAnyH_take (i := 3) (oi := ⟨some 147, _, _, _, _, _⟩) (v := ?_) rfl (by kernel_rfl) (by kernel_rfl) (by kernel_rfl) (fun _ _ _ h => h) (Or.inl ⟨by rfl, ?hyt3⟩) (by assumption) ?_; (case hyt3 => ((intro W hSW; (try dsimp only at hSW); obtain ⟨s1, s2, s3, s4⟩ := hSW; go_simp); (all_goals with_reducible rfl))); (try simp only [Act.put, List.setIfInBounds_toArray, List.set_cons_zero, List.set_cons_succ])
                refine wpAnyH_take (i := 4) (oi := ⟨some 148, _, _, _, _, _⟩) (v := ?_) rfl (by kernel_rfl) (by kernel_rfl) (by kernel_rfl) (fun _ _ _ h => h) (Or.inl ⟨by rfl, ?hyt4⟩) (by assumption) ?_; (case hyt4 => ((intro W hSW; (try dsimp only at hSW); obtain ⟨s1, s2, s3, s4⟩ := hSW; go_simp); (all_goals with_reducible rfl))); (try simp only [Act.put, List.setIfInBounds_toArray, List.set_cons_zero, List.set_cons_succ])
                refine wpAnyH_take (i := 5) (oi := ⟨some 149, _, _, _, _, _⟩) (v := ?_) rfl (by kernel_rfl) (by kernel_rfl) (by kernel_rfl) (fun _ _ _ h => h) (Or.inl ⟨by rfl, ?hyt5⟩) (by assumption) ?_; (case hyt5 => ((intro W hSW; (try dsimp only at hSW); obtain ⟨s1, s2, s3, s4⟩ := hSW; go_simp); (all_goals with_reducible rfl))); (try simp only [Act.put, List.setIfInBounds_toArray, List.set_cons_zero, List.set_cons_succ])
                refine wpAnyH_ready (rs := [6]) (by kernel_rfl) (by simp) ?_; refine AllReadyH.cons (o := ⟨some 150, _, _, _, _, _⟩) rfl (fun K hK => ?_) AllReadyH.nil; go_simp
                go_at_call 26
                refine (HSD.out _ (RowG.below HI.out.ys (Below.refl _ _).drew)).mono ?_; rintro e w9 ⟨rfl, hb9⟩
                have D9 := (Below.refl _ _).drew.trans hb9
                have I9 := HI.out.below D9
                (try go_simp)
                refine hK.out _ _ ⟨I9.box.c0, I9.box.c1, I9.box.c2, (D9.cell (p := ⟨ab, ao + j2 * 5, none⟩) hlb1).trans m0⟩ (fun hHeld2 => ?_)
                clear hK K hHeld
                (try simp only [Act.put, List.setIfInBounds_toArray, List.set_cons_zero, List.set_cons_succ])
                refine wpAnyH_take (i := 7) (oi := ⟨some 143, _, _, _, _, _⟩) (v := ?_) rfl (by kernel_rfl) (by kernel_rfl) (by kernel_rfl) (fun _ _ _ h => h) (Or.inl ⟨by rfl, ?hyt7⟩) (by assumption) ?_; (case hyt7 => ((intro W hSW; (try dsimp only at hSW); obtain ⟨s1, s2, s3, s4⟩ := hSW; go_simp); (all_goals with_reducible rfl))); (try simp only [Act.put, List.setIfInBounds_toArray, List.set_cons_zero, List.set_cons_succ])
                refine wpAnyH_take (i := 8) (oi := ⟨some 151, _, _, _, _, _⟩) (v := ?_) rfl (by kernel_rfl) (by kernel_rfl) (by kernel_rfl) (fun _ _ _ h => h) (Or.inl ⟨by rfl, ?hyt8⟩) (by assumption) ?_; (case hyt8 => ((intro W hSW; (try dsimp only at hSW); obtain ⟨s1, s2, s3, s4⟩ := hSW; go_simp); (all_goals with_reducible rfl))); (try simp only [Act.put, List.setIfInBounds_toArray, List.set_cons_zero, List.set_cons_succ])
                refine wpAnyH_take (i := 9) (oi := ⟨some 152, _, _, _, _, _⟩) (v := ?_) rfl (by kernel_rfl) (by kernel_rfl) (by kernel_rfl) (fun _ _ _ h => h) (Or.inl ⟨by rfl, ?hyt9⟩) (by assumption) ?_; (case hyt9 => ((intro W hSW; (try dsimp only at hSW); obtain ⟨s1, s2, s3, s4⟩ := hSW; go_simp); (all_goals with_reducible rfl))); (try simp only [Act.put, List.setIfInBounds_toArray, List.set_cons_zero, List.set_cons_succ])
                refine wpAnyH_take (i := 10) (oi := ⟨some 16, _, _, _, _, _⟩) (v := ?_) rfl (by kernel_rfl) (by kernel_rfl) (by kernel_rfl) (fun _ _ _ h => h) (Or.inl ⟨by rfl, ?hyt10⟩) (by assumption) ?_; (case hyt10 => ((intro W hSW; (try dsimp only at hSW); obtain ⟨s1, s2, s3, s4⟩ := hSW; go_simp); (all_goals with_reducible rfl))); (try simp only [Act.put, List.setIfInBounds_toArray, List.set_cons_zero, List.set_cons_succ])
                refine wpAnyH_take (i := 11) (oi := ⟨some 17, _, _, _, _, _⟩) (v := ?_) rfl (by kernel_rfl) (by kernel_rfl) (by kernel_rfl) (fun _ _ _ h => h) (Or.inl ⟨by rfl, ?hyt11⟩) (by assumption) ?_; (case hyt11 => ((intro W hSW; (try dsimp only at hSW); obtain ⟨s1, s2, s3, s4⟩ := hSW; go_simp); (all_goals with_reducible rfl))); (try simp only [Act.put, List.setIfInBounds_toArray, List.set_cons_zero, List.set_cons_succ])
                refine wpAnyH_done (by kernel_rfl) ?_ _
                refine NoPanic.normal ?_
                clear hHeld2 u0 u1 u2 m0
                go_wp2_with fail
                go_roundw
                case rel => exact ⟨j2 + 1, by omega, by go_num, I9⟩
                case measure => simp [intOf]; omega
              · have u1 := HI.out.box.c1
                rw [HP.out.1.2.1] at u1
                go_wp2_with fail
                go_quiet ((go_at_call 27; exact Calls.quiet_of_same (done_same _ _ _ _ _ (HI.out.led.drewN _))))
                go_wp2_with fail
                go_roundw
                case rel =>
                  have I9 := HI.out.below (below_dr (Below.refl _ _) nq)
                  exact ⟨k + 1, s.playS ac, r.playS ac, q6, n6, c6, by omega, by go_num, HP.out.1, I9.led, I9.box, I9.ys, hq7, by omega, I9.bel⟩
                case measure => simp [intOf]; omega
    · go_wp2_with fail
      refine (ledger_said_none _ _).mono ?_; rintro e w' ⟨rfl, rfl⟩
      go_wp2_with fail
      refine (ledger_done_none _).mono ?_; rintro e w' ⟨rfl, rfl⟩
      go_wp2_with fail
      go_ret
      exact ⟨rfl, hB⟩
end Go.Proofs.Ytkdekdogfplbmaa
