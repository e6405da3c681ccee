/- The contracts of the reference's ledger: Said, back, without. -/
import Derived.Test.YtkdekdogfplbmaaLdPlay
import Derived.Test.YtkdekdogfplbmaaLdRefM
namespace Go.Proofs.Ytkdekdogfplbmaa
open Go.RowKit
set_option linter.unusedVariables false
set_option linter.unusedSimpArgs false
set_option maxRecDepth 20000
set_option maxHeartbeats 2000000

def RowY (w : World) (q : Option Addr) (n : Nat) (ys : List (Int × Bool)) : Prop := RowG 2 w q n (ys.map yV)
structure YAt (w : World) (b o : Nat) (y : Int × Bool) : Prop where
  c0 : w.cell? ⟨b, o, none⟩ = some (.int .i64 y.1)
  c1 : w.cell? ⟨b, o + 1, none⟩ = some (.bool y.2)
theorem RowY.at_ {w : World} {q : Option Addr} {n : Nat} {l : List (Int × Bool)} (h : RowY w q n l) (h0 : 0 < n) : ∃ b off, q = some ⟨b, off, none⟩ ∧ b < w.heap.size ∧ ∀ i, i < n → YAt w b (off + i * 2) (l.getD i (0, false)) := by
  have hl := h.length
  rw [List.length_map] at hl
  obtain ⟨b, off, e, hb, hc⟩ := h.get h0
  refine ⟨b, off, e, hb, fun i hi => ?_⟩
  have hg : (l.map yV).getD i [] = yV (l.getD i (0, false)) := by
    simp [List.getD, List.getElem?_map, List.getElem?_eq_getElem (show i < l.length by omega)]
  have hc' := hc i hi
  rw [hg] at hc'
  exact ⟨hc' 0 _ rfl, hc' 1 _ rfl⟩
theorem y_getD {l : List (Int × Bool)} {i : Nat} (hi : i < l.length) : l.getD i (0, false) = l[i] := by simp [List.getD, hi]
def OwnY (base : Nat) (w : World) (v : Value) (l : List (Int × Bool)) : Prop := OwnG 80 2 base w v (l.map yV)
def OwnX (base : Nat) (w : World) (v : Value) (l : List Rc) : Prop := OwnG 59 8 base w v (l.map rcV)
theorem infoX : (Try.prog.info? 59).map (fun i => (i.zero, i.size, i.bytes)) = some (some (.agg #[.int .u8 0, .int .i64 0, .int .u64 0, .int .i64 0, .int .i64 0, .int .i64 0, .bool false, .string ByteArray.empty]), 8, 72) := by kernel_rfl
theorem infoY : (Try.prog.info? 80).map (fun i => (i.zero, i.size, i.bytes)) = some (some (.agg #[.int .i64 0, .bool false]), 2, 16) := by kernel_rfl
theorem append_x {w : World} {ops : Array Oper} {rest : List Oper} {o : Oper} {a : Act} {Q : Exit → Act → World → Prop} (hgd : o.guard = none) (s x : Operand) (ho : o.op = .call { callee := .builtin .append, args := #[s, x], argTypes := #[56, 56] })
    (base : Nat) (v : Value) (l : List Rc) (hs : a.eval s = v) (hO : OwnX base w v l) (ad : Addr) (k c : Nat) (ns : List Rc) (hk : ns.length = k) (hx : a.eval x = .slice (some ad) k c)
    (hnews : ∀ j u, (ns.map rcV).flatten[j]? = some u → w.cell? (ad.add j) = some u) (hroom : l.length + k ≤ 1000000) (hbase : base ≤ w.heap.size)
    (h : ∀ v' w', OwnX base w' v' (l ++ ns) → Turn (fun j => v.ownBlock = some j) w w' → wpList Try.prog ops Q rest (a.put o.dst v') w') : wpList Try.prog ops Q (o :: rest) a w := by
  refine append_g 56 59 _ 8 72 infoX (by rfl) (by omega) Try.underlying56 hgd s x ho base v (l.map rcV) hs hO ad k c (ns.map rcV) (by simp [hk]) hx (by simp [rcV_len]) hnews (rcV_one ns) (by simp; unfold maxLen; omega) (by simp; omega) hbase (fun v' w' h1 h2 => h v' w' ?_ (Turn.ofGrown h2 (fun j e _ => e)))
  unfold OwnX
  rw [List.map_append]
  exact h1
theorem yV_one (l : List (Int × Bool)) : ∀ u ∈ (l.map yV).flatten, u.oneCell' = true := by
  intro u hu
  simp only [List.mem_flatten, List.mem_map] at hu
  obtain ⟨_, ⟨r, _, rfl⟩, hu⟩ := hu
  simp only [yV, List.mem_cons, List.not_mem_nil, or_false] at hu
  rcases hu with rfl | rfl <;> rfl
theorem news_y {w : World} {g : Nat} {r : Int × Bool} (h0 : w.cell? ⟨g, 0, none⟩ = some (.int .i64 r.1)) (h1 : w.cell? ⟨g, 1, none⟩ = some (.bool r.2)) : ∀ j u, ([r].map yV).flatten[j]? = some u → w.cell? ((⟨g, 0, none⟩ : Addr).add j) = some u := by
  intro j u hu
  rw [WideShapes.add_plain, Nat.zero_add]
  rcases j with _ | _ | j
  all_goals simp [yV] at hu
  all_goals subst hu
  all_goals assumption
theorem append_y {w : World} {ops : Array Oper} {rest : List Oper} {o : Oper} {a : Act} {Q : Exit → Act → World → Prop} (hgd : o.guard = none) (s x : Operand) (ho : o.op = .call { callee := .builtin .append, args := #[s, x], argTypes := #[52, 52] })
    (base : Nat) (v : Value) (l : List (Int × Bool)) (hs : a.eval s = v) (hO : OwnY base w v l) (g c : Nat) (y : Int × Bool) (hx : a.eval x = .slice (some ⟨g, 0, none⟩) 1 c)
    (h0 : w.cell? ⟨g, 0, none⟩ = some (.int .i64 y.1)) (h1 : w.cell? ⟨g, 1, none⟩ = some (.bool y.2)) (hroom : l.length ≤ 1000000) (hbase : base ≤ w.heap.size)
    (h : ∀ v' w', OwnY base w' v' (l ++ [y]) → Turn (fun j => v.ownBlock = some j) w w' → wpList Try.prog ops Q rest (a.put o.dst v') w') : wpList Try.prog ops Q (o :: rest) a w := by
  refine append_g 52 80 _ 2 16 infoY (by rfl) (by omega) Try.underlying52 hgd s x ho base v (l.map yV) hs hO ⟨g, 0, none⟩ 1 c ([y].map yV) (by simp) hx (by simp [yV]) (news_y h0 h1) (yV_one [y]) (by simp; unfold maxLen; omega) (by simp; omega) hbase (fun v' w' h1 h2 => h v' w' ?_ (Turn.ofGrown h2 (fun j e _ => e)))
  unfold OwnY
  rw [List.map_append]
  exact h1
def rsV (q : Option Addr) (n c : Nat) (d p : Int) : Value := .agg #[.slice q n c, .int .i64 d, .int .i64 p]
theorem ref24_said (q : Option Addr) (n c : Nat) (ys : List (Int × Bool)) (d p z : Int) (w : World) (hR : RowY w q n ys) :
    Calls Try.prog 26 #[rsV q n c d p, .int .i64 z] w fun e w' => e = .returned (.tuple #[.bool ((look ys z).getD false), .bool (look ys z).isSome]) ∧ Below w.heap.size w w' := by
  unfold rsV
  have hsm : n ≤ 9223372036854775807 := by have := hR.small; unfold maxLen at this; omega
  have hll := hR.length
  rw [List.length_map] at hll
  have HLL := Lib.hid hll; clear hll
  have hR2 := fun X t => RowG.below hR ((Below.refl w.heap.size w).alloc (Nat.le_refl _) (.cells #[X, .int .i64 d, .int .i64 p] t))
  have HR2 := Lib.hid (hR2 (.slice q n c) 54)
  clear hR2
  go_enter Try.func26, Try.ntmps26
  go_wp2_with fail
  go_loop [6] (fun i => ∃ k : Nat, k ≤ n ∧ i = .int .i64 k ∧ look (ys.take k) z = none) (fun i => n - (intOf i).toNat)
  case atStart => exact ⟨0, Nat.zero_le _, rfl, rfl⟩
  case round =>
    obtain ⟨k, hk, rfl, hlk⟩ := hrel
    by_cases hlt : k < n
    · obtain ⟨b, o, rfl, hb, hat⟩ := RowY.at_ HR2.out (by omega)
      obtain ⟨c0, c1⟩ := hat k hlt
      have hkl : k < ys.length := by have := HLL.out; omega
      have hl1 := look_at hkl hlk
      rw [y_getD hkl] at c0 c1
      have htk : ys.take (k + 1) = ys.take k ++ [ys[k]] := List.take_succ_eq_append_getElem hkl
      have hl2 : look (ys.take (k + 1)) z = if ys[k].1 = z then some ys[k].2 else none := by
        rw [htk, look_append, hlk]; rfl
      have HL1 := Lib.hid hl1
      have HL2 := Lib.hid hl2
      clear hl1 hl2 hlk htk hat
      generalize ys[k] = y at *
      obtain ⟨y1, y2⟩ := y
      simp only at c0 c1
      by_cases e : y1 = z
      · subst e
        go_wp2_with fail
        go_ret2
        exact ⟨by have h := HL1.out; simp at h; rw [h]; rfl, (by repeat (first | with_reducible exact Below.refl _ _ | with_reducible refine Below.drew ?_ | with_reducible refine Below.alloc ?_ (by (try simp) <;> omega) _ | with_reducible refine Below.setCell ?_ (by (try simp) <;> omega) _))⟩
      · have e1 : (y1 == z) = false := by simpa using e
        have HE := Lib.hid e
        clear e
        go_wp2_with fail
        go_round
        case rel => exact ⟨k + 1, by omega, by go_num, by rw [HL2.out, if_neg HE.out]⟩
        case measure => simp [intOf]; omega
    · have hl3 : look ys z = none := by
        have e : ys.take k = ys := List.take_of_length_le (by have := HLL.out; omega)
        rw [e] at hlk; exact hlk
      have HL3 := Lib.hid hl3
      clear hl3 hlk
      go_wp2_with fail
      go_ret2
      exact ⟨by rw [HL3.out]; rfl, (by repeat (first | with_reducible exact Below.refl _ _ | with_reducible refine Below.drew ?_ | with_reducible refine Below.alloc ?_ (by (try simp) <;> omega) _ | with_reducible refine Below.setCell ?_ (by (try simp) <;> omega) _))⟩
/-- is it kept? -/
def keepB (alone : Bool) (z : Int) (y : Int × Bool) : Bool := if alone then decide (y.1 ≠ z) else decide (z < y.1)
theorem ref24_without (q : Option Addr) (n c : Nat) (ys : List (Int × Bool)) (d p z : Int) (alone : Bool) (w : World) (hR : RowY w q n ys) (hn : n ≤ 100000) :
    Calls Try.prog 36 #[rsV q n c d p, .int .i64 z, .bool alone] w fun e w' => ∃ v, e = .returned v ∧ OwnY w.heap.size w' v (ys.filter (keepB alone z)) ∧ Below w.heap.size w w' := by
  unfold rsV
  have hll := hR.length
  rw [List.length_map] at hll
  have HLL := Lib.hid hll; clear hll
  go_enter Try.func36, Try.ntmps36
  go_wp2_with fail
  go_loopw [7, 8] (fun v i wr => ∃ k : Nat, k ≤ n ∧ i = .int .i64 k ∧ OwnY (w.heap.size + 1) wr v ((ys.take k).filter (keepB alone z)) ∧ wr.cell? ⟨w.heap.size, 0, none⟩ = some (.slice q n c) ∧ w.heap.size < wr.heap.size ∧ Below w.heap.size w wr) (fun v i wr => n - (intOf i).toNat)
  case atStart => exact ⟨0, Nat.zero_le _, rfl, OwnG.nil _ _ _ _, by simp [go_sem], by simp, (by repeat (first | with_reducible exact Below.refl _ _ | with_reducible refine Below.drew ?_ | with_reducible refine Below.alloc ?_ (by (try simp) <;> omega) _ | with_reducible refine Below.setCell ?_ (by (try simp) <;> omega) _))⟩
  case round =>
    obtain ⟨k, hk, rfl, hO, cq, hz, hB⟩ := hrel
    by_cases hlt : k < n
    · obtain ⟨b, o, rfl, hb, hat⟩ := RowY.at_ (RowG.below hR hB) (by omega)
      obtain ⟨c0, c1⟩ := hat k hlt
      have hkl : k < ys.length := by have := HLL.out; omega
      rw [y_getD hkl] at c0 c1
      have htk : (ys.take (k + 1)).filter (keepB alone z) = (ys.take k).filter (keepB alone z) ++ if keepB alone z ys[k] = true then [ys[k]] else [] := by
        rw [List.take_succ_eq_append_getElem hkl, List.filter_append]
        congr 1
        by_cases h : keepB alone z ys[k] = true
        · rw [if_pos h, List.filter_cons_of_pos h]; rfl
        · rw [if_neg h, List.filter_cons_of_neg h]; rfl
      have hfl : ((ys.take k).filter (keepB alone z)).length ≤ k := Nat.le_trans (List.length_filter_le _ _) (List.length_take_le _ _)
      have HTK := Lib.hid htk
      clear htk hat
      generalize ys[k] = y at *
      generalize (ys.take k).filter (keepB alone z) = fl at *
      obtain ⟨y1, y2⟩ := y
      simp only at c0 c1
      have HO := Lib.hid hO
      clear hO
      have gone : keepB alone z (y1, y2) = false → OwnY (w.heap.size + 1) wr u7 ((ys.take (k + 1)).filter (keepB alone z)) := fun h => by rw [HTK.out, h]; simpa using HO.out
      have GONE := Lib.hid gone; clear gone
      by_cases e : y1 = z
      · have hkp : keepB alone z (y1, y2) = false := by subst e; cases alone <;> simp [keepB]
        have HK := Lib.hid hkp
        subst e
        clear hkp
        go_wp2_with fail
        go_roundw
        case rel => exact ⟨k + 1, by omega, by go_num, GONE.out HK.out, cq, hz, hB⟩
        case measure => simp [intOf]; omega
      · have e1 : (y1 == z) = false := by simpa using e
        have HE := Lib.hid e
        clear e
        have keep : keepB alone z (y1, y2) = true → ∀ v' w', OwnY (w.heap.size + 1) w' v' (fl ++ [(y1, y2)]) → OwnY (w.heap.size + 1) w' v' ((ys.take (k + 1)).filter (keepB alone z)) := fun h v' w' h' => by rw [HTK.out, h]; simpa using h'
        have KEEP := Lib.hid keep; clear keep
        cases alone with
        | true =>
          have HK := Lib.hid (show keepB true z (y1, y2) = true by simpa [keepB] using HE.out)
          go_wp2_with (at_builtin; refine append_y rfl _ _ rfl (w.heap.size + 1) u7 fl rfl (OwnG.below HO.out ((Below.refl _ _).alloc (Nat.le_refl _) _)) wr.heap.size 1 (y1, y2) rfl (by simp [go_sem]) (by simp [go_sem]) (by omega) (by simp; omega) ?_; intro v2 w2 hO2 ht2; have t2 := ((Turn.refl (fun j => u7.ownBlock = some j) wr).alloc (.cells #[.int .i64 y1, .bool y2] 80)).trans ht2 (fun x hx h => h); have tn : ∀ j, u7.ownBlock = some j → w.heap.size + 1 ≤ j := fun j e => (HO.out.owns.lt _ e).1)
          go_roundw
          case rel => exact ⟨k + 1, by omega, by go_num, KEEP.out HK.out _ _ hO2, (t2.cell (p := ⟨w.heap.size, 0, none⟩) hz (fun e => by have h7 : w.heap.size + 1 ≤ w.heap.size := tn _ e; omega)).trans cq, by have := t2.size; omega, hB.trans (t2.below hB.size (fun k hk e => by have := tn _ e; omega))⟩
          case measure => simp [intOf]; omega
        | false =>
          by_cases e2 : y1 < z
          · have HK := Lib.hid (show keepB false z (y1, y2) = false by simp [keepB]; omega)
            go_wp2_with fail
            go_roundw
            case rel => exact ⟨k + 1, by omega, by go_num, GONE.out HK.out, cq, hz, hB⟩
            case measure => simp [intOf]; omega
          · have HK := Lib.hid (show keepB false z (y1, y2) = true by (have := HE.out; simp [keepB]; omega))
            go_wp2_with (at_builtin; refine append_y rfl _ _ rfl (w.heap.size + 1) u7 fl rfl (OwnG.below HO.out ((Below.refl _ _).alloc (Nat.le_refl _) _)) wr.heap.size 1 (y1, y2) rfl (by simp [go_sem]) (by simp [go_sem]) (by omega) (by simp; omega) ?_; intro v2 w2 hO2 ht2; have t2 := ((Turn.refl (fun j => u7.ownBlock = some j) wr).alloc (.cells #[.int .i64 y1, .bool y2] 80)).trans ht2 (fun x hx h => h); have tn : ∀ j, u7.ownBlock = some j → w.heap.size + 1 ≤ j := fun j e => (HO.out.owns.lt _ e).1)
            go_roundw
            case rel => exact ⟨k + 1, by omega, by go_num, KEEP.out HK.out _ _ hO2, (t2.cell (p := ⟨w.heap.size, 0, none⟩) hz (fun e => by have h7 : w.heap.size + 1 ≤ w.heap.size := tn _ e; omega)).trans cq, by have := t2.size; omega, hB.trans (t2.below hB.size (fun k hk e => by have := tn _ e; omega))⟩
            case measure => simp [intOf]; omega
    · have e : ys.take k = ys := List.take_of_length_le (by have := HLL.out; omega)
      rw [e] at hO
      clear e
      go_wp2_with fail
      go_ret
      exact ⟨_, rfl, OwnG.lower hO (by omega), hB⟩
end Go.Proofs.Ytkdekdogfplbmaa
