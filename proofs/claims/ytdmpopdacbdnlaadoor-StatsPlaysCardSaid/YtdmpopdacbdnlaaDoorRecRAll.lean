/- lookoutref07.All: contract. -/
import Derived.Test.YtdmpopdacbdnlaaDoorRecW
import Derived.Test.YtdmpopdacbdnlaaDoorRecRTake
import Derived.Test.YtdmpopdacbdnlaaDoorFrRActs
namespace Go.Proofs.YtdmpopdacbdnlaaDoor
open Go.RowKit
set_option linter.unusedVariables false
set_option linter.unusedSimpArgs false
set_option maxHeartbeats 4000000
set_option maxRecDepth 20000
theorem infoX : (Tryd.prog.info? 71).map (fun i => (i.zero, i.size, i.bytes)) = some (some (.agg #[.int .u8 0, .int .i64 0, .int .u64 0, .int .i64 0, .int .i64 0, .int .i64 0, .bool false, .string ByteArray.empty]), 8, 72) := by kernel_rfl
theorem take_succI {l : List It} {k : Nat} (h : k < l.length) : l.take (k + 1) = l.take k ++ [l.getD k It.no] := by
  rw [List.take_succ_eq_append_getElem h]; simp [List.getD, h]
theorem split_at {l : List It} {k : Nat} (h : k < l.length) : l = l.take k ++ l.getD k It.no :: l.drop (k + 1) := by
  have e : l.drop k = l.getD k It.no :: l.drop (k + 1) := by rw [List.drop_eq_getElem_cons h]; simp [List.getD, h]
  rw [← e, List.take_append_drop]
theorem getD_mem {l : List It} {k : Nat} (h : k < l.length) : l.getD k It.no ∈ l := by
  simp [List.getD, h]
theorem rrecall_any (b : List UInt8) (hl : b.length ≤ 100000) (w : World) :
    Calls Tryd.prog 63 #[.string ⟨b.toArray⟩] w fun e w' => ∃ v, e = .returned (.tuple #[v, .int .i64 (recAll b).2]) ∧ OwnG 71 8 w.heap.size w' v ((recAll b).1.map recVs) ∧ Below w.heap.size w w' := by
  have HG := give_r St.new b none 0 0 w (RowR.none w) (fun x e => by cases e) (by simp [St.new]; omega)
  have e1 : St.new.found.length = 0 := rfl
  have e2 : St.new.skips = 0 := rfl
  have e3 : St.new.rest.length = 0 := rfl
  have hgn := St.give_n St.new b
  have HE := fun q n c W hR hq => end_r (St.new.give b) q n c W hR hq (by omega)
  have hnits := recItems_len b
  have hbod := recItems_bodies b
  obtain ⟨⟨rs, sk, its, ov⟩, hd⟩ : ∃ d, (St.new.give b).fin = d := ⟨_, rfl⟩
  have hits : recItems b = its := by unfold recItems; rw [hd]
  rw [hd] at HE
  rw [hits] at hnits hbod
  clear hd hgn
  generalize St.new.give b = d1 at *
  obtain ⟨rs1, sk1, its1, ov1⟩ := d1
  simp only [St.new] at HG HE
  replace HG := Lib.hid HG
  replace HE := Lib.hid HE
  replace hits := Lib.hid hits
  replace hbod := Lib.hid hbod
  go_enter Tryd.func63, Tryd.ntmps63
  go_wp2_with fail
  refine HG.out.mono ?_
  rintro e w1 ⟨v1, rfl, ⟨q1, n1, c1, rfl, hR1, hq1⟩, hb1⟩
  have HE1 := Lib.hid (HE.out q1 n1 c1 w1 hR1 (fun x e => (hq1 x e).1))
  clear HG HE hR1 hq1
  go_wp2_with fail
  refine HE1.out.mono ?_
  rintro e w2 ⟨v2, rfl, ⟨q, n, c, rfl, hR2, hq2⟩, hb2⟩
  have B2 := hb1.trans (hb2.mono hb1.size)
  replace hq2 : ∀ x, q = some x → x.block < w2.heap.size := fun x e => (hq2 x e).1
  have hlen := hR2.length
  simp only at hR2 hlen
  clear HE1 hb1 hb2
  have A3 : Below w2.heap.size w2 (w2.alloc (.cells #[.string ⟨rs.toArray⟩, .int .i64 (sk : Int), .slice q n c, .bool ov] 29)) := (Below.refl _ _).alloc (Nat.le_refl _) _
  have XD : Hid (Box (w2.alloc (.cells #[.string ⟨rs.toArray⟩, .int .i64 (sk : Int), .slice q n c, .bool ov] 29)) w2.heap.size [.string ⟨rs.toArray⟩, .int .i64 (sk : Int), .slice q n c, .bool ov]) := Lib.hid (Box.new _ _ _ _ rfl _ rfl)
  replace hR2 := Lib.hid (hR2.below A3)
  have B3 := B2.trans (A3.mono B2.size)
  have hm : n ≤ 9223372036854775807 := by omega
  replace hq2 := Lib.hid hq2
  have z2 := B2.size
  subst hlen
  go_wp2_with fail
  go_loopw [5, 6] (fun v i wr => ∃ k : Nat, k ≤ its.length ∧ i = .int .i64 k ∧ Hid (∀ x ∈ its.take k, x.fine) ∧ (∃ q1 c1, v = .slice q1 k c1 ∧ Hid (OwnG 71 8 (w2.heap.size + 1) wr (.slice q1 k c1) (((its.take k).map It.took).map recVs))) ∧ Hid (Box wr w2.heap.size [.string ⟨rs.toArray⟩, .int .i64 (sk : Int), .slice q its.length c, .bool ov]) ∧ Hid (RowR wr q its.length c its) ∧ Below w.heap.size w wr) (fun v i wr => its.length - (intOf i).toNat)
  case atStart => exact ⟨0, Nat.zero_le _, rfl, Lib.hid (by simp), ⟨none, 0, rfl, Lib.hid (OwnG.nil _ _ _ _)⟩, XD, hR2, B3⟩
  case round =>
    clear XD hR2 A3 B3
    obtain ⟨k, hk, rfl, hfine, ⟨q1, c1, rfl, hO⟩, XD, hR, hbr⟩ := hrel
    have d2 := XD.out.cell 2 _ rfl
    have dlt := XD.out.lt
    by_cases hlt : k < its.length
    · have hi0 : (0 : Int) ≤ (k : Int) := by omega
      have hi1 : (k : Int) < (its.length : Int) := by omega
      obtain ⟨b', off, rfl, hbl, hcell⟩ : ∃ b' off, q = some ⟨b', off, none⟩ ∧ b' < wr.heap.size ∧ ∀ i, i < its.length → wr.cell? ⟨b', off + i * 3, none⟩ = some (.int .i64 ((its.getD i It.no).skip : Int)) ∧ wr.cell? ⟨b', off + i * 3 + 1, none⟩ = some (.int .u8 ((its.getD i It.no).kind.toNat : Int)) ∧ wr.cell? ⟨b', off + i * 3 + 2, none⟩ = some (.string ⟨(its.getD i It.no).body.toArray⟩) := by
        rcases hR.out.at_ with h0 | ⟨b', off, e, h1, h2⟩
        · omega
        · exact ⟨b', off, e, h1, h2⟩
      obtain ⟨i0, i1, i2⟩ := hcell k hlt
      clear hcell
      have hbq := hq2.out _ rfl
      simp only at hbq
      have hsp := Lib.hid (split_at hlt)
      have hsu := Lib.hid (take_succI hlt)
      have hbl3 := hbod.out _ (getD_mem hlt)
      generalize its.getD k It.no = x at *
      have HT := fun W => rrectake_any x.kind x.body W (by omega)
      unfold TookR recA at HT
      obtain ⟨⟨Zr, Zz⟩, hZ⟩ : ∃ Z, takeR x.kind x.body = Z := ⟨_, rfl⟩
      rw [hZ] at HT
      simp only at HT
      replace HT := Lib.hid HT
      replace hZ := Lib.hid hZ
      by_cases hs : x.skip = 0
      · have hs0 : (x.skip : Int) = 0 := by omega
        rw [hs0] at i0
        replace hs := Lib.hid hs
        have E : ∀ W, Below wr.heap.size wr W → W.cell? ⟨w2.heap.size, 2, none⟩ = some (.slice (some ⟨b', off, none⟩) its.length c) ∧ W.cell? ⟨b', off + k * 3 + 1, none⟩ = some (.int .u8 (x.kind.toNat : Int)) ∧ W.cell? ⟨b', off + k * 3 + 2, none⟩ = some (.string ⟨x.body.toArray⟩) := fun W h => ⟨(h.cell (p := ⟨w2.heap.size, 2, none⟩) dlt).trans d2, (h.cell (p := ⟨b', off + k * 3 + 1, none⟩) hbl).trans i1, (h.cell (p := ⟨b', off + k * 3 + 2, none⟩) hbl).trans i2⟩
        replace E := Lib.hid E
        have D0 : Below wr.heap.size wr wr.drew := (Below.refl _ _).drew
        go_wp2_with fail
        clear d2 i0 i1 i2
        refine wp_region_noPanic ?_
        refine wp_region_held_drew (S := fun W => W.cell? ⟨w2.heap.size, 2, none⟩ = some (.slice (some ⟨b', off, none⟩) its.length c) ∧ W.cell? ⟨b', off + k * 3 + 1, none⟩ = some (.int .u8 (x.kind.toNat : Int)) ∧ W.cell? ⟨b', off + k * 3 + 2, none⟩ = some (.string ⟨x.body.toArray⟩)) (by kernel_rfl) (E.out _ D0) (fun hHeld => ?_)
        refine wpAnyH_take (i := 0) (oi := ⟨some 28, _, _, _, _, _⟩) (v := ?_) rfl (by kernel_rfl) (by kernel_rfl) (by kernel_rfl) (fun _ _ _ h => h) (Or.inl ⟨by rfl, ?hyt0⟩) (by assumption) ?_; (case hyt0 => ((intro W hSW; (try dsimp only at hSW); obtain ⟨hSW, hSW2, hSW3⟩ := hSW; go_simp); (all_goals with_reducible rfl))); (try simp only [Act.put, List.setIfInBounds_toArray, List.set_cons_zero, List.set_cons_succ])
        refine wpAnyH_take (i := 1) (oi := ⟨some 29, _, _, _, _, _⟩) (v := ?_) rfl (by kernel_rfl) (by kernel_rfl) (by kernel_rfl) (fun _ _ _ h => h) (Or.inl ⟨by rfl, ?hyt1⟩) (by assumption) ?_; (case hyt1 => ((intro W hSW; (try dsimp only at hSW); obtain ⟨hSW, hSW2, hSW3⟩ := hSW; go_simp); (all_goals with_reducible rfl))); (try simp only [Act.put, List.setIfInBounds_toArray, List.set_cons_zero, List.set_cons_succ])
        refine wpAnyH_take (i := 2) (oi := ⟨some 30, _, _, _, _, _⟩) (v := ?_) rfl (by kernel_rfl) (by kernel_rfl) (by kernel_rfl) (fun _ _ _ h => h) (Or.inl ⟨by rfl, ?hyt2⟩) (by assumption) ?_; (case hyt2 => ((intro W hSW; (try dsimp only at hSW); obtain ⟨hSW, hSW2, hSW3⟩ := hSW; go_simp); (all_goals with_reducible rfl))); (try simp only [Act.put, List.setIfInBounds_toArray, List.set_cons_zero, List.set_cons_succ])
        refine wpAnyH_take (i := 3) (oi := ⟨some 31, _, _, _, _, _⟩) (v := ?_) rfl (by kernel_rfl) (by kernel_rfl) (by kernel_rfl) (fun _ _ _ h => h) (Or.inl ⟨by rfl, ?hyt3⟩) (by assumption) ?_; (case hyt3 => ((intro W hSW; (try dsimp only at hSW); obtain ⟨hSW, hSW2, hSW3⟩ := hSW; go_simp); (all_goals with_reducible rfl))); (try simp only [Act.put, List.setIfInBounds_toArray, List.set_cons_zero, List.set_cons_succ])
        refine wpAnyH_take (i := 4) (oi := ⟨some 32, _, _, _, _, _⟩) (v := ?_) rfl (by kernel_rfl) (by kernel_rfl) (by kernel_rfl) (fun _ _ _ h => h) (Or.inl ⟨by rfl, ?hyt4⟩) (by assumption) ?_; (case hyt4 => ((intro W hSW; (try dsimp only at hSW); obtain ⟨hSW, hSW2, hSW3⟩ := hSW; go_simp); (all_goals with_reducible rfl))); (try simp only [Act.put, List.setIfInBounds_toArray, List.set_cons_zero, List.set_cons_succ])
        refine wpAnyH_take (i := 5) (oi := ⟨some 33, _, _, _, _, _⟩) (v := ?_) rfl (by kernel_rfl) (by kernel_rfl) (by kernel_rfl) (fun _ _ _ h => h) (Or.inl ⟨by rfl, ?hyt5⟩) (by assumption) ?_; (case hyt5 => ((intro W hSW; (try dsimp only at hSW); obtain ⟨hSW, hSW2, hSW3⟩ := hSW; go_simp); (all_goals with_reducible rfl))); (try simp only [Act.put, List.setIfInBounds_toArray, List.set_cons_zero, List.set_cons_succ])
        refine wpAnyH_take (i := 6) (oi := ⟨some 34, _, _, _, _, _⟩) (v := ?_) rfl (by kernel_rfl) (by kernel_rfl) (by kernel_rfl) (fun _ _ _ h => h) (Or.inl ⟨by rfl, ?hyt6⟩) (by assumption) ?_; (case hyt6 => ((intro W hSW; (try dsimp only at hSW); obtain ⟨hSW, hSW2, hSW3⟩ := hSW; go_simp); (all_goals with_reducible rfl))); (try simp only [Act.put, List.setIfInBounds_toArray, List.set_cons_zero, List.set_cons_succ])
        refine wpAnyH_take (i := 7) (oi := ⟨some 35, _, _, _, _, _⟩) (v := ?_) rfl (by kernel_rfl) (by kernel_rfl) (by kernel_rfl) (fun _ _ _ h => h) (Or.inl ⟨by rfl, ?hyt7⟩) (by assumption) ?_; (case hyt7 => ((intro W hSW; (try dsimp only at hSW); obtain ⟨hSW, hSW2, hSW3⟩ := hSW; go_simp); (all_goals with_reducible rfl))); (try simp only [Act.put, List.setIfInBounds_toArray, List.set_cons_zero, List.set_cons_succ])
        refine wpAnyH_take (i := 8) (oi := ⟨some 36, _, _, _, _, _⟩) (v := ?_) rfl (by kernel_rfl) (by kernel_rfl) (by kernel_rfl) (fun _ _ _ h => h) (Or.inl ⟨by rfl, ?hyt8⟩) (by assumption) ?_; (case hyt8 => ((intro W hSW; (try dsimp only at hSW); obtain ⟨hSW, hSW2, hSW3⟩ := hSW; go_simp); (all_goals with_reducible rfl))); (try simp only [Act.put, List.setIfInBounds_toArray, List.set_cons_zero, List.set_cons_succ])
        refine wpAnyH_take (i := 9) (oi := ⟨some 37, _, _, _, _, _⟩) (v := ?_) rfl (by kernel_rfl) (by kernel_rfl) (by kernel_rfl) (fun _ _ _ h => h) (Or.inl ⟨by rfl, ?hyt9⟩) (by assumption) ?_; (case hyt9 => ((intro W hSW; (try dsimp only at hSW); obtain ⟨hSW, hSW2, hSW3⟩ := hSW; go_simp); (all_goals with_reducible rfl))); (try simp only [Act.put, List.setIfInBounds_toArray, List.set_cons_zero, List.set_cons_succ])
        refine wpAnyH_take (i := 10) (oi := ⟨some 38, _, _, _, _, _⟩) (v := ?_) rfl (by kernel_rfl) (by kernel_rfl) (by kernel_rfl) (fun _ _ _ h => h) (Or.inl ⟨by rfl, ?hyt10⟩) (by assumption) ?_; (case hyt10 => ((intro W hSW; (try dsimp only at hSW); obtain ⟨hSW, hSW2, hSW3⟩ := hSW; go_simp); (all_goals with_reducible rfl))); (try simp only [Act.put, List.setIfInBounds_toArray, List.set_cons_zero, List.set_cons_succ])
        refine wpAnyH_take (i := 11) (oi := ⟨some 39, _, _, _, _, _⟩) (v := ?_) rfl (by kernel_rfl) (by kernel_rfl) (by kernel_rfl) (fun _ _ _ h => h) (Or.inl ⟨by rfl, ?hyt11⟩) (by assumption) ?_; (case hyt11 => ((intro W hSW; (try dsimp only at hSW); obtain ⟨hSW, hSW2, hSW3⟩ := hSW; go_simp); (all_goals with_reducible rfl))); (try simp only [Act.put, List.setIfInBounds_toArray, List.set_cons_zero, List.set_cons_succ])
        refine wpAnyH_ready (rs := [12, 16]) (by kernel_rfl) (by simp) ?_
        refine AllReadyH.cons (o := ⟨some 40, _, _, _, _, _⟩) rfl (fun K hK => ?oA) (AllReadyH.cons (o := ⟨some 7, _, _, _, _, _⟩) rfl (fun K hK => ?oB) AllReadyH.nil)
        case' oA =>
          go_simp
          go_at_call 61
          refine (HT.out _).mono ?_; rintro e w4 ⟨rfl, hb4⟩
          have D4 : Below wr.heap.size wr w4 := D0.trans (hb4.mono D0.size)
          (try go_simp); refine hK.out _ _ (E.out _ D4) (fun hHeld2 => ?_); clear hK K hHeld; (try simp only [Act.put, List.setIfInBounds_toArray, List.set_cons_zero, List.set_cons_succ])
          refine wpAnyH_take (i := 13) (oi := ⟨some 27, _, _, _, _, _⟩) (v := ?_) rfl (by kernel_rfl) (by kernel_rfl) (by kernel_rfl) (fun _ _ _ h => h) (Or.inl ⟨by rfl, ?hyt13⟩) (by assumption) ?_; (case hyt13 => ((intro W hSW; (try dsimp only at hSW); obtain ⟨hSW, hSW2, hSW3⟩ := hSW; go_simp); (all_goals with_reducible rfl))); (try simp only [Act.put, List.setIfInBounds_toArray, List.set_cons_zero, List.set_cons_succ])
          refine wpAnyH_take (i := 14) (oi := ⟨some 41, _, _, _, _, _⟩) (v := ?_) rfl (by kernel_rfl) (by kernel_rfl) (by kernel_rfl) (fun _ _ _ h => h) (Or.inl ⟨by rfl, ?hyt14⟩) (by assumption) ?_; (case hyt14 => ((intro W hSW; (try dsimp only at hSW); obtain ⟨hSW, hSW2, hSW3⟩ := hSW; go_simp); (all_goals with_reducible rfl))); (try simp only [Act.put, List.setIfInBounds_toArray, List.set_cons_zero, List.set_cons_succ])
          refine wpAnyH_take (i := 15) (oi := ⟨some 42, _, _, _, _, _⟩) (v := ?_) rfl (by kernel_rfl) (by kernel_rfl) (by kernel_rfl) (fun _ _ _ h => h) (Or.inl ⟨by rfl, ?hyt15⟩) (by assumption) ?_; (case hyt15 => ((intro W hSW; (try dsimp only at hSW); obtain ⟨hSW, hSW2, hSW3⟩ := hSW; go_simp); (all_goals with_reducible rfl))); (try simp only [Act.put, List.setIfInBounds_toArray, List.set_cons_zero, List.set_cons_succ])
          refine wpAnyH_ready (rs := [16]) (by kernel_rfl) (by simp) ?_; refine AllReadyH.cons (o := ⟨some 7, _, _, _, _, _⟩) rfl (fun K hK => ?_) AllReadyH.nil; go_simp
          (try go_simp); refine hK.out _ _ (E.out _ (Below.alloc D4 D4.size _)) (fun hHeld3 => ?_); clear hK K hHeld2; (try simp only [Act.put, List.setIfInBounds_toArray, List.set_cons_zero, List.set_cons_succ])
          refine wpAnyH_ready (rs := [17]) (by kernel_rfl) (by simp) ?_; refine AllReadyH.cons (o := ⟨none, _, _, _, _, _⟩) rfl (fun K hK => ?_) AllReadyH.nil; go_simp
          have D6 := Below.alloc D4 D4.size (.cells #[.int .u8 (Zr.kind.toNat : Int), .int .i64 Zr.source, .int .u64 (Zr.seq : Int), .int .i64 Zr.at_, .int .i64 Zr.num, .int .i64 Zr.code, .bool Zr.yes, .string ⟨Zr.text.toArray⟩] 71)
          (try go_simp); refine hK.out _ _ (E.out _ D6) (fun hHeld4 => ?_); clear hK K hHeld3; (try simp only [Act.put, List.setIfInBounds_toArray, List.set_cons_zero, List.set_cons_succ])
          refine wpAnyH_take (i := 18) (oi := ⟨some 8, _, _, _, _, _⟩) (v := ?_) rfl (by kernel_rfl) (by kernel_rfl) (by kernel_rfl) (fun _ _ _ h => h) (Or.inl ⟨by rfl, ?hyt18⟩) (by assumption) ?_; (case hyt18 => ((intro W hSW; (try dsimp only at hSW); obtain ⟨hSW, hSW2, hSW3⟩ := hSW; go_simp); (all_goals with_reducible rfl))); (try simp only [Act.put, List.setIfInBounds_toArray, List.set_cons_zero, List.set_cons_succ])
          refine wpAnyH_done (by kernel_rfl) ?_ _
          refine NoPanic.normal ?_
          have XX : Box (w4.alloc (.cells #[.int .u8 (Zr.kind.toNat : Int), .int .i64 Zr.source, .int .u64 (Zr.seq : Int), .int .i64 Zr.at_, .int .i64 Zr.num, .int .i64 Zr.code, .bool Zr.yes, .string ⟨Zr.text.toArray⟩] 71)) w4.heap.size (recVs Zr) := Box.new _ _ _ _ rfl _ rfl
          clear hHeld4
          generalize hX : w4.heap.size = X at XX ⊢
          generalize w4.alloc (.cells #[.int .u8 (Zr.kind.toNat : Int), .int .i64 Zr.source, .int .u64 (Zr.seq : Int), .int .i64 Zr.at_, .int .i64 Zr.num, .int .i64 Zr.code, .bool Zr.yes, .string ⟨Zr.text.toArray⟩] 71) = W5 at D6 XX ⊢
          clear D4 hb4 hX
        case' oB =>
          go_simp
          have D1 : Below wr.heap.size wr ((wr.alloc (.cells #[.int .u8 0, .int .i64 0, .int .u64 0, .int .i64 0, .int .i64 0, .int .i64 0, .bool false, .string ⟨#[]⟩] 71)).drew) := ((Below.refl _ _).alloc (Nat.le_refl _) _).drew
          have Y1 : Box ((wr.alloc (.cells #[.int .u8 0, .int .i64 0, .int .u64 0, .int .i64 0, .int .i64 0, .int .i64 0, .bool false, .string ⟨#[]⟩] 71)).drew) wr.heap.size (recVs (Rec.zero 0)) := (Box.new wr _ _ _ rfl _ rfl).below (Below.refl _ _).drew
          (try go_simp); refine hK.out _ _ (E.out _ D1) (fun hHeld2 => ?_); clear hK K hHeld; (try simp only [Act.put, List.setIfInBounds_toArray, List.set_cons_zero, List.set_cons_succ])
          refine wpAnyH_ready (rs := [12]) (by kernel_rfl) (by simp) ?_; refine AllReadyH.cons (o := ⟨some 40, _, _, _, _, _⟩) rfl (fun K hK => ?_) AllReadyH.nil; go_simp
          go_at_call 61
          refine (HT.out _).mono ?_; rintro e w4 ⟨rfl, hb4⟩
          have D4 : Below wr.heap.size wr w4 := D1.trans (hb4.mono D1.size)
          have Y4 := Y1.below hb4
          have y4 := Y4.lt
          obtain ⟨k0, k1, k2, k3, k4, k5, k6, k7⟩ := Y4.rec_
          simp only [Nat.zero_add] at k0 k1 k2 k3 k4 k5 k6 k7
          have f0 := Y4.free 0 (by decide)
          have f1 := Y4.free 1 (by decide)
          have f2 := Y4.free 2 (by decide)
          have f3 := Y4.free 3 (by decide)
          have f4 := Y4.free 4 (by decide)
          have f5 := Y4.free 5 (by decide)
          have f6 := Y4.free 6 (by decide)
          have f7 := Y4.free 7 (by decide)
          (try go_simp); refine hK.out _ _ (E.out _ D4) (fun hHeld3 => ?_); clear hK K hHeld2; (try simp only [Act.put, List.setIfInBounds_toArray, List.set_cons_zero, List.set_cons_succ])
          refine wpAnyH_take (i := 13) (oi := ⟨some 27, _, _, _, _, _⟩) (v := ?_) rfl (by kernel_rfl) (by kernel_rfl) (by kernel_rfl) (fun _ _ _ h => h) (Or.inl ⟨by rfl, ?hyt13⟩) (by assumption) ?_; (case hyt13 => ((intro W hSW; (try dsimp only at hSW); obtain ⟨hSW, hSW2, hSW3⟩ := hSW; go_simp); (all_goals with_reducible rfl))); (try simp only [Act.put, List.setIfInBounds_toArray, List.set_cons_zero, List.set_cons_succ])
          refine wpAnyH_take (i := 14) (oi := ⟨some 41, _, _, _, _, _⟩) (v := ?_) rfl (by kernel_rfl) (by kernel_rfl) (by kernel_rfl) (fun _ _ _ h => h) (Or.inl ⟨by rfl, ?hyt14⟩) (by assumption) ?_; (case hyt14 => ((intro W hSW; (try dsimp only at hSW); obtain ⟨hSW, hSW2, hSW3⟩ := hSW; go_simp); (all_goals with_reducible rfl))); (try simp only [Act.put, List.setIfInBounds_toArray, List.set_cons_zero, List.set_cons_succ])
          refine wpAnyH_take (i := 15) (oi := ⟨some 42, _, _, _, _, _⟩) (v := ?_) rfl (by kernel_rfl) (by kernel_rfl) (by kernel_rfl) (fun _ _ _ h => h) (Or.inl ⟨by rfl, ?hyt15⟩) (by assumption) ?_; (case hyt15 => ((intro W hSW; (try dsimp only at hSW); obtain ⟨hSW, hSW2, hSW3⟩ := hSW; go_simp); (all_goals with_reducible rfl))); (try simp only [Act.put, List.setIfInBounds_toArray, List.set_cons_zero, List.set_cons_succ])
          refine wpAnyH_ready (rs := [17]) (by kernel_rfl) (by simp) ?_; refine AllReadyH.cons (o := ⟨none, _, _, _, _, _⟩) rfl (fun K hK => ?_) AllReadyH.nil; go_simp
          have XX := Y4.set8 Zr
          have D6 := (((((((D4.setCell (p := ⟨wr.heap.size, 0, none⟩) (Nat.le_refl _) (.int .u8 (Zr.kind.toNat : Int))).setCell (p := ⟨wr.heap.size, 1, none⟩) (Nat.le_refl _) (.int .i64 Zr.source)).setCell (p := ⟨wr.heap.size, 2, none⟩) (Nat.le_refl _) (.int .u64 (Zr.seq : Int))).setCell (p := ⟨wr.heap.size, 3, none⟩) (Nat.le_refl _) (.int .i64 Zr.at_)).setCell (p := ⟨wr.heap.size, 4, none⟩) (Nat.le_refl _) (.int .i64 Zr.num)).setCell (p := ⟨wr.heap.size, 5, none⟩) (Nat.le_refl _) (.int .i64 Zr.code)).setCell (p := ⟨wr.heap.size, 6, none⟩) (Nat.le_refl _) (.bool Zr.yes)).setCell (p := ⟨wr.heap.size, 7, none⟩) (Nat.le_refl _) (.string ⟨Zr.text.toArray⟩)
          (try go_simp); refine hK.out _ _ (E.out _ D6) (fun hHeld4 => ?_); clear hK K hHeld3; (try simp only [Act.put, List.setIfInBounds_toArray, List.set_cons_zero, List.set_cons_succ])
          refine wpAnyH_take (i := 18) (oi := ⟨some 8, _, _, _, _, _⟩) (v := ?_) rfl (by kernel_rfl) (by kernel_rfl) (by kernel_rfl) (fun _ _ _ h => h) (Or.inl ⟨by rfl, ?hyt18⟩) (by assumption) ?_; (case hyt18 => ((intro W hSW; (try dsimp only at hSW); obtain ⟨hSW, hSW2, hSW3⟩ := hSW; go_simp); (all_goals with_reducible rfl))); (try simp only [Act.put, List.setIfInBounds_toArray, List.set_cons_zero, List.set_cons_succ])
          refine wpAnyH_done (by kernel_rfl) ?_ _
          refine NoPanic.normal ?_
          clear hHeld4 Y4 y4 k0 k1 k2 k3 k4 k5 k6 k7 f0 f1 f2 f3 f4 f5 f6 f7 D4 hb4 D1 Y1
          generalize (((((((w4.setCell ⟨wr.heap.size, 0, none⟩ (.int .u8 (Zr.kind.toNat : Int))).setCell ⟨wr.heap.size, 1, none⟩ (.int .i64 Zr.source)).setCell ⟨wr.heap.size, 2, none⟩ (.int .u64 (Zr.seq : Int))).setCell ⟨wr.heap.size, 3, none⟩ (.int .i64 Zr.at_)).setCell ⟨wr.heap.size, 4, none⟩ (.int .i64 Zr.num)).setCell ⟨wr.heap.size, 5, none⟩ (.int .i64 Zr.code)).setCell ⟨wr.heap.size, 6, none⟩ (.bool Zr.yes)).setCell ⟨wr.heap.size, 7, none⟩ (.string ⟨Zr.text.toArray⟩) = W5 at D6 XX ⊢
          generalize hX : wr.heap.size = X at XX ⊢
          clear hX
        all_goals
          have Bw := hbr.trans (D6.mono hbr.size)
          have O5 := Lib.hid (hO.out.below D6)
          have XD5 := Lib.hid (XD.out.below D6)
          have R5 := Lib.hid (hR.out.below D6)
          have lt5 := XX.lt
          have zw5 := D6.size
          by_cases z0 : Zz = 0
          · subst z0
            obtain ⟨x0, x1, x2, x3, x4, x5, x6, x7⟩ := XX.rec_
            simp only [Nat.zero_add] at x0 x1 x2 x3 x4 x5 x6 x7
            have hk8 : ((((its.take k).map It.took).map recVs) ++ [recVs Zr]).length = k + 1 := by simp; omega
            replace hk8 := Lib.hid hk8
            clear XX XD hR hO D0 E
            have tok1 : True := trivial
            go_wp2_with (at_builtin; have _t := tok1; refine append_g 63 71 _ 8 72 infoX (by rfl) (by omega) Tryd.underlying63 rfl _ _ rfl (w2.heap.size + 1) (.slice q1 k c1) (((its.take k).map It.took).map recVs) rfl (O5.out.below ((Below.refl _ _).alloc (Nat.le_refl _) _)) ⟨W5.heap.size, 0, none⟩ 1 1 [recVs Zr] rfl rfl (by simp [recVs]) (Box.news (Box.new _ _ _ _ rfl _ rfl)) (recVs_one Zr) (by simp; unfold maxLen; omega) (by simp; omega) (by simp; omega) ?_; intro v8 w8 hO8 hG8; clear tok1; obtain ⟨q8, c8, rfl, _, _, _⟩ := hO8.row; rw [hk8.out] at hO8 ⊢; have B8 : Below (w2.heap.size + 1) W5 w8 := ((Below.refl (w2.heap.size + 1) W5).alloc (by omega) _).grown hG8 (by simp; omega) (fun j hj => (O5.out.owns.lt j hj).1); replace hO8 := Lib.hid hO8; replace B8 := Lib.hid B8; clear hG8)
            go_roundw
            case rel =>
              have T8 := Turn.ofBelowN B8.out
              refine ⟨k + 1, by omega, by go_num, Lib.hid ?_, ⟨q8, c8, rfl, Lib.hid ?_⟩, Lib.hid (XD5.out.turn T8 (by omega)), Lib.hid (R5.out.turn T8 (fun y hy => by have := hq2.out y hy; omega)), Bw.trans (B8.out.mono (by omega))⟩
              · intro y hy
                rw [hsu.out] at hy
                rcases List.mem_append.1 hy with hy | hy
                · exact hfine.out y hy
                · rw [List.mem_singleton] at hy; subst hy
                  exact ⟨hs.out, by rw [hZ.out]⟩
              · have e : ((its.take (k + 1)).map It.took) = (its.take k).map It.took ++ [Zr] := by rw [hsu.out, List.map_append]; simp [It.took, hZ.out]
                rw [e, List.map_append]
                exact hO8.out
            case measure => simp [intOf] <;> omega
          · have z1 : (Zz == 0) = false := by rw [beq_eq_false_iff_ne]; exact z0
            clear XX
            go_wp2_with fail
            go_ret2
            have hra := recAll_bad (b := b) (pre := its.take k) (x := x) (rest := its.drop (k + 1)) (by rw [hits.out]; exact hsp.out) hfine.out hs.out (by rw [hZ.out]; exact z0)
            rw [hZ.out] at hra
            refine ⟨.slice none 0 0, ?_⟩
            rw [hra]
            exact ⟨rfl, OwnG.nil _ _ _ _, Bw⟩
      · have hs1 : (0 : Int) < (x.skip : Int) := by omega
        go_wp2_with fail
        go_ret2
        have hra := recAll_skip (b := b) (pre := its.take k) (x := x) (rest := its.drop (k + 1)) (by rw [hits.out]; exact hsp.out) hfine.out (by omega)
        refine ⟨.slice none 0 0, ?_⟩
        rw [hra]
        exact ⟨rfl, OwnG.nil _ _ _ _, hbr⟩
    · obtain rfl : k = its.length := by omega
      have hO2 := hO.out
      have hf2 := hfine.out
      rw [List.take_length] at hO2 hf2
      replace hO2 := Lib.hid hO2
      go_wp2_with fail
      go_ret2
      have hra := recAll_ok (b := b) (by rw [hits.out]; exact hf2)
      rw [hits.out] at hra
      refine ⟨.slice q1 its.length c1, ?_⟩
      rw [hra]
      exact ⟨rfl, hO2.out.lower (by omega), hbr⟩
end Go.Proofs.YtdmpopdacbdnlaaDoor
