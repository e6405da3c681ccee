/- MsgTakeM, MsgProps, MsgTake, MsgTake2, MsgRTake, MsgRTake2. -/
import Derived.Test.YtfphffkgacajdaaDoorMsgG
import Derived.Test.YtfphffkgacajdaaDoorOctG
import Derived.Test.YtfphffkgacajdaaDoorKitG
import Derived.Deep.RegionLaw
/- What message.Take makes of bytes: what is put is taken as it was, and the other way round; what is cut. No program. -/
namespace Go.Proofs.YtfphffkgacajdaaDoor
open Go.RowKit Oct
set_option linter.unusedVariables false
set_option linter.unusedSimpArgs false
/-- one proposition of a reader -/
def propR (bs : List UInt8) (e : Int) : Pr × List UInt8 × Int :=
  (⟨(rText bs e 12).1, plainOf ((rNum (rText bs e 12).2.1 (rText bs e 12).2.2).1 : Int)⟩, (rNum (rText bs e 12).2.1 (rText bs e 12).2.2).2.1, (rNum (rText bs e 12).2.1 (rText bs e 12).2.2).2.2)
/-- so many of them -/
def propsR (bs : List UInt8) (e : Int) : Nat → List Pr × List UInt8 × Int
  | 0 => ([], bs, e)
  | k + 1 => ((propsR bs e k).1 ++ [(propR (propsR bs e k).2.1 (propsR bs e k).2.2).1], (propR (propsR bs e k).2.1 (propsR bs e k).2.2).2.1, (propR (propsR bs e k).2.1 (propsR bs e k).2.2).2.2)
theorem propsR_len (bs : List UInt8) (e : Int) (k : Nat) : (propsR bs e k).1.length = k := by
  induction k with
  | zero => rfl
  | succ k ih => unfold propsR; rw [List.length_append, ih]; rfl
def msg0 : Msg := ⟨0, 0, 0, []⟩
/-- of an event: the number, the moment, how many propositions, what is left -/
def evR (bs : List UInt8) : Nat × Int × Nat × List UInt8 × Int :=
  ((rNum bs 0).1, (rMom (rNum bs 0).2.1 (rNum bs 0).2.2).1,
   (rNum (rMom (rNum bs 0).2.1 (rNum bs 0).2.2).2.1 (rMom (rNum bs 0).2.1 (rNum bs 0).2.2).2.2).1,
   (rNum (rMom (rNum bs 0).2.1 (rNum bs 0).2.2).2.1 (rMom (rNum bs 0).2.1 (rNum bs 0).2.2).2.2).2)
/-- what is left, and whether the message may be -/
def finM (m : Msg) (bs : List UInt8) (e : Int) : Msg × Int :=
  if endOf bs e ≠ 0 then (msg0, endOf bs e) else if mayM m = false then (msg0, 11) else (m, 0)
def takeM (k : UInt8) (bs : List UInt8) : Msg × Int :=
  if k = 1 then finM ⟨1, (rNum bs 0).1, 0, []⟩ (rNum bs 0).2.1 (rNum bs 0).2.2
  else if k = 2 then
    if 8 < (evR bs).2.2.1 then (msg0, 13)
    else finM ⟨2, (evR bs).1, (evR bs).2.1, (propsR (evR bs).2.2.2.1 (evR bs).2.2.2.2 (evR bs).2.2.1).1⟩ (propsR (evR bs).2.2.2.1 (evR bs).2.2.2.2 (evR bs).2.2.1).2.1 (propsR (evR bs).2.2.2.1 (evR bs).2.2.2.2 (evR bs).2.2.1).2.2
  else if k = 3 then finM ⟨3, 0, (rMom bs 0).1, []⟩ (rMom bs 0).2.1 (rMom bs 0).2.2
  else if k = 4 then finM ⟨4, 0, 0, []⟩ bs 0
  else (msg0, 1)

/-! put, then taken -/
theorem propB_put (p : Pr) (hn : p.name.length ≤ 12) (hp : p.ok) (R : List UInt8) : propR (propB p ++ R) 0 = (p, R, 0) := by
  obtain ⟨n, v⟩ := p
  have hv := hp.value
  simp only at hn hv
  have hsz : (⟨n.toArray⟩ : ByteArray).size = n.length := ba_sizeP n
  have hr := sign_range hv.1 hv.2
  have ht : rText (propB ⟨n, v⟩ ++ R) 0 12 = (n, enc (signOf v).toNat ++ R, 0) := by
    unfold propB
    rw [List.append_assoc, text_enc _ (by rw [hsz]; omega), if_neg (by rw [hsz]; omega)]
  unfold propR
  rw [ht, num_enc (by omega)]
  simp only
  rw [Int.toNat_of_nonneg hr.1, plain_sign]
theorem getD_drop {ps : List Pr} {k : Nat} (h : k < ps.length) : ps.drop k = ps.getD k prD :: ps.drop (k + 1) := by
  rw [List.drop_eq_getElem_cons h]; simp [List.getD, h]
theorem propsB_cons (p : Pr) (ps : List Pr) : propsB (p :: ps) = propB p ++ propsB ps := by simp [propsB]
theorem propsR_put (ps : List Pr) (hn : ∀ i, i < ps.length → (ps.getD i prD).name.length ≤ 12) (ho : okPs ps) (R : List UInt8) : ∀ k, k ≤ ps.length → propsR (propsB ps ++ R) 0 k = (ps.take k, propsB (ps.drop k) ++ R, 0)
  | 0, _ => by simp [propsR]
  | k + 1, h => by
    have ih := propsR_put ps hn ho R k (by omega)
    unfold propsR
    rw [ih, getD_drop (by omega), propsB_cons, List.append_assoc, propB_put _ (hn k (by omega)) (ho k)]
    simp only
    rw [List.take_succ_eq_append_getElem (by omega)]
    simp [List.getD, show k < ps.length by omega]
theorem mom_enc {u : Nat} (hu : u ≤ 9223372036854775807) (R : List UInt8) : rMom (enc u ++ R) 0 = ((u : Int), R, 0) := by
  unfold rMom
  rw [num_enc (by omega), if_neg (by simp only; omega)]
theorem finM_end (m : Msg) (hm : mayM m = true) (R : List UInt8) : finM m R 0 = if R = [] then (m, 0) else (msg0, 12) := by
  unfold finM endOf
  rw [if_neg (show ¬ (0 : Int) ≠ 0 by simp)]
  cases R with
  | nil => simp [hm]
  | cons x R => simp
theorem right_names {m : Msg} (h : rightB m.props = true) : ∀ i, i < m.props.length → (m.props.getD i prD).name.length ≤ 12 := fun i hi => (name_len (right_name h hi)).2
/-- What was put is taken as it was; with more behind, some is left. -/
theorem take_putM (m : Msg) (hok : m.ok) (hm : mayM m = true) (R : List UInt8) : takeM m.kind (putM m ++ R) = if R = [] then (m, 0) else (msg0, 12) := by
  have hm0 := hm
  obtain ⟨k, s, a, l⟩ := m
  have hs := hok.seq
  have ha := hok.at_
  have hp := hok.props
  simp only at hs ha hp
  unfold mayM at hm
  simp only at hm
  by_cases k1 : k = 1
  · subst k1
    rw [if_pos rfl] at hm
    obtain ⟨rfl, rfl⟩ := of_decide_eq_true hm
    unfold takeM putM
    simp only [if_true]
    rw [num_enc (by omega)]
    exact finM_end _ hm0 R
  rw [if_neg k1] at hm
  by_cases k2 : k = 2
  · subst k2
    rw [if_pos rfl, Bool.and_eq_true, Bool.and_eq_true, decide_eq_true_iff, decide_eq_true_iff] at hm
    obtain ⟨h8, hr, h0⟩ := hm
    obtain ⟨u, rfl⟩ : ∃ u : Nat, a = (u : Int) := ⟨a.toNat, by omega⟩
    have hput : putM ⟨2, s, (u : Int), l⟩ = enc s ++ enc u ++ enc l.length ++ propsB l := by
      unfold putM
      rw [if_neg (by simp), if_neg (by simp), if_neg (by simp)]
      simp only [Int.toNat_natCast]
    have hev : evR (putM ⟨2, s, (u : Int), l⟩ ++ R) = (s, (u : Int), l.length, propsB l ++ R, 0) := by
      rw [hput]
      unfold evR
      simp only [List.append_assoc]
      rw [num_enc (by omega)]
      simp only
      rw [mom_enc (by omega)]
      simp only
      rw [num_enc (by omega)]
    unfold takeM
    simp only
    rw [if_neg (by simp), if_pos trivial, hev]
    simp only
    rw [if_neg (by omega), propsR_put l (right_names (m := ⟨2, s, (u : Int), l⟩) hr) hp R l.length (Nat.le_refl _), List.take_length, List.drop_length]
    simp only [propsB, List.flatMap_nil, List.nil_append]
    exact finM_end _ hm0 R
  rw [if_neg k2] at hm
  by_cases k3 : k = 3
  · subst k3
    rw [if_pos rfl] at hm
    obtain ⟨h0, rfl, rfl⟩ := of_decide_eq_true hm
    obtain ⟨u, rfl⟩ : ∃ u : Nat, a = (u : Int) := ⟨a.toNat, by omega⟩
    unfold takeM putM
    simp only [if_true, Int.toNat_natCast]
    rw [if_neg (by simp), if_neg (by simp), if_neg (by simp), mom_enc (by omega)]
    exact finM_end _ hm0 R
  rw [if_neg k3] at hm
  by_cases k4 : k = 4
  · subst k4
    rw [if_pos rfl] at hm
    obtain ⟨rfl, rfl, rfl⟩ := of_decide_eq_true hm
    unfold takeM putM
    simp only [if_true]
    rw [if_neg (by simp), if_neg (by simp), if_neg (by simp), if_neg (by simp), if_neg (by simp)]
    exact finM_end _ hm0 R
  rw [if_neg k4] at hm
  cases hm

/-! cut -/
theorem cut_num2 {p : List UInt8} {e : Int} {u : Nat} (hu : u < 18446744073709551616) {R : List UInt8} (h : Cut p e (enc u ++ R)) : rNum p e = (0, [], 10) ∨ ∃ m, m < R.length ∧ rNum p e = (u, R.take m, 0) := by
  rcases h with ⟨rfl, rfl⟩ | ⟨rfl, m, hm, rfl⟩
  · exact .inl rfl
  · by_cases hc : m < (enc u).length
    · left
      rw [List.take_append_of_le_length (Nat.le_of_lt hc)]
      unfold rNum
      rw [take_cut hu hc]
      rfl
    · right
      rw [List.take_append, List.take_of_length_le (by omega), num_enc hu]
      rw [List.length_append] at hm
      exact ⟨m - (enc u).length, by omega, rfl⟩
theorem cut_mom {p : List UInt8} {e : Int} {u : Nat} (hu : u ≤ 9223372036854775807) {R : List UInt8} (h : Cut p e (enc u ++ R)) : Cut (rMom p e).2.1 (rMom p e).2.2 R := by
  unfold rMom
  rcases cut_num2 (by omega) h with hh | ⟨m, hm, hh⟩
  · rw [hh, if_neg (by simp)]
    exact .inl ⟨rfl, rfl⟩
  · rw [hh, if_neg (by simp only; omega)]
    exact .inr ⟨rfl, m, hm, rfl⟩
theorem cut_textM {p : List UInt8} {e : Int} {s : ByteArray} {most : Int} (hs : (s.size : Int) ≤ most) (hs2 : s.size ≤ 1000) {R : List UInt8} (h : Cut p e (encText s ++ R)) : Cut (rText p e most).2.1 (rText p e most).2.2 R := by
  have hl : s.data.toList.length = s.size := by rw [Array.length_toList]; rfl
  unfold encText at h
  rw [List.append_assoc] at h
  unfold rText
  rcases cut_num2 (by omega) h with hh | ⟨m, hm, hh⟩
  · rw [hh, if_pos (by simp)]
    exact .inl ⟨rfl, rfl⟩
  · rw [hh, if_neg (by simp), if_neg (by simp only; omega)]
    have hlen : ((s.data.toList ++ R).take m).length = m := by rw [List.length_take]; omega
    by_cases hd : m < s.size
    · left
      rw [if_pos (by simp only [hlen]; exact hd)]
      exact ⟨rfl, rfl⟩
    · right
      rw [if_neg (by simp only [hlen]; exact hd)]
      rw [List.length_append] at hm
      refine ⟨rfl, m - s.size, by omega, ?_⟩
      show ((s.data.toList ++ R).take m).drop s.size = _
      rw [List.take_append, List.take_of_length_le (by omega), ← hl, List.drop_left]
theorem cut_prop {q : Pr} (hn : q.name.length ≤ 12) (hq : q.ok) {p : List UInt8} {e : Int} {R : List UInt8} (h : Cut p e (propB q ++ R)) : Cut (propR p e).2.1 (propR p e).2.2 R := by
  have hr := sign_range hq.value.1 hq.value.2
  have hsz : (⟨q.name.toArray⟩ : ByteArray).size = q.name.length := ba_sizeP q.name
  unfold propB at h
  rw [List.append_assoc] at h
  have h1 := cut_textM (most := 12) (by omega) (by omega) h
  exact cut_num (by omega) h1
theorem cut_props (ps : List Pr) (hn : ∀ i, i < ps.length → (ps.getD i prD).name.length ≤ 12) (ho : okPs ps) {p : List UInt8} {e : Int} (h : Cut p e (propsB ps)) : ∀ k, k ≤ ps.length → Cut (propsR p e k).2.1 (propsR p e k).2.2 (propsB (ps.drop k))
  | 0, _ => by simpa [propsR] using h
  | k + 1, hk => by
    have ih := cut_props ps hn ho h k (by omega)
    rw [getD_drop (by omega), propsB_cons] at ih
    exact cut_prop (hn k (by omega)) (ho k) ih
theorem propsR_end (k : Nat) : (propsR [] 10 k).2 = ([], 10) := by
  induction k with
  | zero => rfl
  | succ k ih =>
    unfold propsR
    rw [ih]
    rfl
theorem finM_cut (m : Msg) : finM m [] 10 = (msg0, 10) := rfl
theorem take_cutM (m : Msg) (hok : m.ok) (hm : mayM m = true) (j : Nat) (hj : j < (putM m).length) : takeM m.kind ((putM m).take j) = (msg0, 10) := by
  have hc : Cut ((putM m).take j) 0 (putM m) := .inr ⟨rfl, j, hj, rfl⟩
  generalize (putM m).take j = p at *
  obtain ⟨k, s, a, l⟩ := m
  have hs := hok.seq
  have ha := hok.at_
  have hp := hok.props
  simp only at hs ha hp
  unfold mayM at hm
  simp only at hm
  unfold takeM
  simp only
  by_cases k1 : k = 1
  · subst k1
    rw [if_pos rfl] at hm ⊢
    have hput : putM ⟨1, s, a, l⟩ = enc s ++ [] := by unfold putM; rw [if_pos rfl, List.append_nil]
    rw [hput] at hc
    obtain ⟨h1, h2⟩ := cut_end (cut_num (by omega) hc)
    rw [h1, h2]; rfl
  rw [if_neg k1] at hm ⊢
  by_cases k2 : k = 2
  · subst k2
    rw [if_pos rfl] at hm ⊢
    rw [Bool.and_eq_true, Bool.and_eq_true, decide_eq_true_iff, decide_eq_true_iff] at hm
    obtain ⟨h8, hr, h0⟩ := hm
    obtain ⟨u, rfl⟩ : ∃ u : Nat, a = (u : Int) := ⟨a.toNat, by omega⟩
    have hput : putM ⟨2, s, (u : Int), l⟩ = enc s ++ (enc u ++ (enc l.length ++ propsB l)) := by
      unfold putM
      rw [if_neg (by simp), if_neg (by simp), if_neg (by simp)]
      simp only [Int.toNat_natCast, List.append_assoc]
    rw [hput] at hc
    have h3 := cut_num2 (by omega) (cut_mom (by omega) (cut_num (by omega) hc))
    have hev : (evR p).2.2 = rNum (rMom (rNum p 0).2.1 (rNum p 0).2.2).2.1 (rMom (rNum p 0).2.1 (rNum p 0).2.2).2.2 := rfl
    rcases h3 with hh | ⟨m, hlt, hh⟩
    · rw [hh] at hev
      rw [hev]
      simp only
      rw [if_neg (by omega)]
      rfl
    · rw [hh] at hev
      rw [hev]
      simp only
      rw [if_neg (by omega)]
      have hcp := cut_props l (right_names (m := ⟨2, s, (u : Int), l⟩) hr) hp (p := (propsB l).take m) (e := 0) (.inr ⟨rfl, m, hlt, rfl⟩) l.length (Nat.le_refl _)
      rw [List.drop_length] at hcp
      obtain ⟨h1, h2⟩ := cut_end hcp
      rw [h1, h2]; rfl
  rw [if_neg k2] at hm ⊢
  by_cases k3 : k = 3
  · subst k3
    rw [if_pos rfl] at hm ⊢
    obtain ⟨h0, rfl, rfl⟩ := of_decide_eq_true hm
    obtain ⟨u, rfl⟩ : ∃ u : Nat, a = (u : Int) := ⟨a.toNat, by omega⟩
    have hput : putM ⟨3, 0, (u : Int), []⟩ = enc u ++ [] := by unfold putM; rw [if_neg (by simp), if_pos rfl, List.append_nil]; rfl
    rw [hput] at hc
    obtain ⟨h1, h2⟩ := cut_end (cut_mom (by omega) hc)
    rw [h1, h2]; rfl
  rw [if_neg k3] at hm ⊢
  by_cases k4 : k = 4
  · subst k4
    have hput : putM ⟨4, s, a, l⟩ = [] := by unfold putM; rw [if_neg (by simp), if_neg (by simp), if_pos rfl]
    rw [hput] at hj
    simp at hj
  rw [if_neg k4] at hm
  cases hm

/-! taken, then put -/
theorem num_back {bs : List UInt8} {e : Int} (h : (rNum bs e).2.2 = 0) : e = 0 ∧ bs = enc (rNum bs e).1 ++ (rNum bs e).2.1 := by
  by_cases he : e = 0
  · subst he
    refine ⟨rfl, ?_⟩
    unfold rNum at h ⊢
    rw [if_neg (by simp)] at h ⊢
    by_cases ht : (takeOf bs).2.2 = 0
    · rw [if_neg (by simpa using ht)]
      simp only
      rw [enc_take bs ht, List.take_append_drop]
    · rw [if_pos ht] at h
      exact absurd h ht
  · unfold rNum at h
    rw [if_pos he] at h
    exact absurd h he
theorem mom_back {bs : List UInt8} {e : Int} (h : (rMom bs e).2.2 = 0) : e = 0 ∧ 0 ≤ (rMom bs e).1 ∧ (rMom bs e).1 ≤ 9223372036854775807 ∧ bs = enc (rMom bs e).1.toNat ++ (rMom bs e).2.1 := by
  unfold rMom at h ⊢
  split at h
  · cases h
  · rename_i hlt
    rw [if_neg hlt]
    obtain ⟨h1, h2⟩ := num_back h
    refine ⟨h1, by simp only; omega, by simp only; omega, ?_⟩
    simpa using h2
theorem text_back {bs : List UInt8} {e most : Int} (h : (rText bs e most).2.2 = 0) : e = 0 ∧ ((rText bs e most).1.length : Int) ≤ max most 0 ∧ bs = encText ⟨(rText bs e most).1.toArray⟩ ++ (rText bs e most).2.1 := by
  unfold rText at h ⊢
  by_cases h0 : (rNum bs e).2.2 ≠ 0
  · rw [if_pos h0] at h
    exact absurd h h0
  rw [if_neg h0] at h ⊢
  obtain ⟨h1, h2⟩ := num_back (show (rNum bs e).2.2 = 0 by simpa using h0)
  by_cases hm : max most 0 < ((rNum bs e).1 : Int)
  · rw [if_pos hm] at h
    cases h
  rw [if_neg hm] at h ⊢
  by_cases hs : (rNum bs e).2.1.length < (rNum bs e).1
  · rw [if_pos hs] at h
    cases h
  rw [if_neg hs]
  have hlen : ((rNum bs e).2.1.take (rNum bs e).1).length = (rNum bs e).1 := by rw [List.length_take]; omega
  refine ⟨h1, by simp only; omega, ?_⟩
  simp only
  unfold encText
  rw [ba_sizeP, hlen]
  simp only [List.toList_toArray]
  rw [List.append_assoc, List.take_append_drop]
  exact h2
theorem prop_back {bs : List UInt8} {e : Int} (h : (propR bs e).2.2 = 0) : e = 0 ∧ bs = propB (propR bs e).1 ++ (propR bs e).2.1 := by
  obtain ⟨h1, h2⟩ := num_back h
  obtain ⟨h3, _, h5⟩ := text_back h1
  refine ⟨h3, ?_⟩
  unfold propR propB
  simp only
  rw [sign_plain (by omega), Int.toNat_natCast, List.append_assoc, ← h2]
  exact h5
theorem props_back {bs : List UInt8} {e : Int} : ∀ k, (propsR bs e k).2.2 = 0 → e = 0 ∧ bs = propsB (propsR bs e k).1 ++ (propsR bs e k).2.1
  | 0, h => ⟨h, by simp [propsR, propsB]⟩
  | k + 1, h => by
    obtain ⟨h1, h2⟩ := prop_back (bs := (propsR bs e k).2.1) (e := (propsR bs e k).2.2) h
    obtain ⟨h3, h4⟩ := props_back k h1
    refine ⟨h3, ?_⟩
    have hb : propsB (propsR bs e (k + 1)).1 = propsB (propsR bs e k).1 ++ propB (propR (propsR bs e k).2.1 (propsR bs e k).2.2).1 := by
      show propsB ((propsR bs e k).1 ++ _) = _
      simp [propsB]
    rw [hb, List.append_assoc]
    rw [show (propsR bs e (k + 1)).2.1 = (propR (propsR bs e k).2.1 (propsR bs e k).2.2).2.1 from rfl, ← h2]
    exact h4
theorem finM_back {m y : Msg} {bs : List UInt8} {e : Int} (h : finM m bs e = (y, 0)) : y = m ∧ mayM m = true ∧ bs = [] ∧ e = 0 := by
  unfold finM at h
  by_cases h0 : endOf bs e = 0
  · rw [if_neg (by simpa using h0)] at h
    by_cases hm : mayM m = false
    · rw [if_pos hm] at h
      have := (Prod.mk.inj h).2
      omega
    · rw [if_neg hm] at h
      unfold endOf at h0
      by_cases he : e = 0
      · rw [if_neg (by simpa using he)] at h0
        by_cases hb : 0 < bs.length
        · rw [if_pos hb] at h0; omega
        · exact ⟨(Prod.mk.inj h).1.symm, by simpa using hm, List.eq_nil_of_length_eq_zero (by omega), he⟩
      · rw [if_pos he] at h0
        exact absurd h0 he
  · rw [if_pos h0] at h
    exact absurd (Prod.mk.inj h).2 h0
/-- What is taken may be, is of that kind, and is put as just those bytes. -/
theorem takeM_back {k : UInt8} {bs : List UInt8} {y : Msg} (h : takeM k bs = (y, 0)) : mayM y = true ∧ y.kind = k ∧ putM y = bs := by
  unfold takeM at h
  by_cases k1 : k = 1
  · subst k1
    rw [if_pos rfl] at h
    obtain ⟨rfl, hm, h1, h2⟩ := finM_back h
    obtain ⟨_, h3⟩ := num_back h2
    refine ⟨hm, rfl, ?_⟩
    rw [h1, List.append_nil] at h3
    exact h3.symm
  rw [if_neg k1] at h
  by_cases k2 : k = 2
  · subst k2
    rw [if_pos rfl] at h
    by_cases h8 : 8 < (evR bs).2.2.1
    · rw [if_pos h8] at h
      have := (Prod.mk.inj h).2
      omega
    rw [if_neg h8] at h
    obtain ⟨rfl, hm, h1, h2⟩ := finM_back h
    obtain ⟨h3, h4⟩ := props_back _ h2
    have h5 := num_back h3
    obtain ⟨h6, h7⟩ := h5
    obtain ⟨h9, g0, g1, g2⟩ := mom_back h6
    obtain ⟨_, g3⟩ := num_back h9
    refine ⟨hm, rfl, ?_⟩
    have hput : ∀ s a l, putM ⟨2, s, a, l⟩ = enc s ++ (enc a.toNat ++ (enc l.length ++ propsB l)) := by
      intro s a l
      unfold putM
      rw [if_neg (by simp), if_neg (by simp), if_neg (by simp)]
      simp only [List.append_assoc]
    rw [hput, propsR_len]
    rw [h1, List.append_nil] at h4
    rw [← h4]
    rw [show enc (evR bs).2.2.1 ++ (evR bs).2.2.2.1 = (rMom (rNum bs 0).2.1 (rNum bs 0).2.2).2.1 from h7.symm]
    rw [show enc (evR bs).2.1.toNat ++ (rMom (rNum bs 0).2.1 (rNum bs 0).2.2).2.1 = (rNum bs 0).2.1 from g2.symm]
    exact g3.symm
  rw [if_neg k2] at h
  by_cases k3 : k = 3
  · subst k3
    rw [if_pos rfl] at h
    obtain ⟨rfl, hm, h1, h2⟩ := finM_back h
    obtain ⟨_, _, _, h3⟩ := mom_back h2
    refine ⟨hm, rfl, ?_⟩
    rw [h1, List.append_nil] at h3
    exact h3.symm
  rw [if_neg k3] at h
  by_cases k4 : k = 4
  · subst k4
    rw [if_pos rfl] at h
    obtain ⟨rfl, hm, h1, h2⟩ := finM_back h
    exact ⟨hm, rfl, h1.symm⟩
  rw [if_neg k4] at h
  have := (Prod.mk.inj h).2
  omega
end Go.Proofs.YtfphffkgacajdaaDoor
/- message.props. -/
namespace Go.Proofs.YtfphffkgacajdaaDoor
open Go.RowKit Oct
set_option linter.unusedVariables false
set_option linter.unusedSimpArgs false
set_option maxHeartbeats 4000000
set_option maxRecDepth 20000
theorem infoPr : (Tryd.prog.info? 80).map (fun i => (i.zero, i.size, i.bytes)) = some (some (.agg #[.string ByteArray.empty, .int .i64 0]), 2, 24) := by kernel_rfl
theorem news_pr {w : World} {g : Nat} {p : Pr} (h0 : w.cell? ⟨g, 0, none⟩ = some (.string ⟨p.name.toArray⟩)) (h1 : w.cell? ⟨g, 1, none⟩ = some (.int .i64 p.value)) : ∀ j u, ([prV p].flatten)[j]? = some u → w.cell? ((⟨g, 0, none⟩ : Addr).add j) = some u := by
  intro j u hu
  simp only [prV, List.flatten_cons, List.flatten_nil, List.append_nil] at hu
  rw [WideShapes.add_plain, Nat.zero_add]
  match j, hu with
  | 0, hu => simp at hu; subst hu; exact h0
  | 1, hu => simp at hu; subst hu; exact h1
  | j + 2, hu => simp at hu
theorem prV_one (p : Pr) : ∀ u ∈ [prV p].flatten, u.oneCell' = true := by
  intro u hu
  simp only [prV, List.flatten_cons, List.flatten_nil, List.append_nil, List.mem_cons, List.not_mem_nil, or_false] at hu
  rcases hu with rfl | rfl <;> rfl
theorem _root_.Go.Proofs.YtfphffkgacajdaaDoor.Turn.ofGrownS {w w' : World} {g : Nat} (h : w.grownBy w' (some g)) : Turn (fun k => k = g) w w' := Turn.ofGrown h (fun k e _ => by cases e; rfl)
theorem Rd.turnM {S : Nat → Prop} {w w' : World} {g : Nat} {bs : List UInt8} {e : Int} (h : Rd w g bs e) (ht : Turn S w w') (hS : ∀ k, k ≤ g → ¬ S k) : Rd w' g bs e := by
  obtain ⟨hlt, ⟨q, len, cap, c0, hR, hq⟩, c1, f0, f1⟩ := h
  exact ⟨Nat.lt_of_lt_of_le hlt ht.size, ⟨q, len, cap, (ht.cell (p := ⟨g, 0, none⟩) hlt (hS g (Nat.le_refl _))).trans c0, hR.turn ht (fun x e => hS _ (Nat.le_of_lt (hq x e))), hq⟩, (ht.cell (p := ⟨g, 1, none⟩) hlt (hS g (Nat.le_refl _))).trans c1, (ht.frozen (p := ⟨g, 0, none⟩) hlt (hS g (Nat.le_refl _))).trans f0, (ht.frozen (p := ⟨g, 1, none⟩) hlt (hS g (Nat.le_refl _))).trans f1⟩
theorem props_any (g : Nat) (bs : List UInt8) (e0 : Int) (k0 : Nat) (hk0 : k0 ≤ 1000) (w : World) (h : Rd w g bs e0) :
    Calls Tryd.prog 55 #[.pointer (some ⟨g, 0, none⟩), .int .i64 (k0 : Int)] w fun x w' => ∃ v', x = .returned v' ∧ OwnG 80 2 w.heap.size w' v' ((propsR bs e0 k0).1.map prV) ∧ Rd w' g (propsR bs e0 k0).2.1 (propsR bs e0 k0).2.2 ∧ Turn (fun j => j = g) w w' := by
  have hmf : ∀ (fn : Fn) (first cap : Array Value) (w : World), (Instr.makeFunc fn first cap).run Tryd.prog w = .ok (.func fn first cap) w := fun _ _ _ _ => rfl
  have hlt := h.lt
  go_enter Tryd.func55, Tryd.ntmps55
  go_wp2_with fail
  go_loopw [6, 11] (fun v i wr => ∃ k : Nat, k ≤ k0 ∧ i = .int .i64 k ∧ OwnG 80 2 w.heap.size wr v ((propsR bs e0 k).1.map prV) ∧ Rd wr g (propsR bs e0 k).2.1 (propsR bs e0 k).2.2 ∧ Turn (fun j => j = g) w wr) (fun v i wr => k0 - (intOf i).toNat)
  case atStart => exact ⟨0, Nat.zero_le _, rfl, OwnG.nil _ _ _ _, h, Turn.refl _ _⟩
  case round =>
    obtain ⟨k, hk, rfl, hO, hR, hT⟩ := hrel
    by_cases hlt : k < k0
    · have hps : (propsR bs e0 (k + 1)).1 = (propsR bs e0 k).1 ++ [(propR (propsR bs e0 k).2.1 (propsR bs e0 k).2.2).1] := rfl
      have hpr : (propsR bs e0 (k + 1)).2 = (propR (propsR bs e0 k).2.1 (propsR bs e0 k).2.2).2 := rfl
      have hpl := propsR_len bs e0 k
      generalize propsR bs e0 k = s at *
      obtain ⟨ps, b1, x1⟩ := s
      simp only at *
      have hTX := Lib.hid (text_any g b1 x1 12 (by omega) wr hR)
      have hp0 : propR b1 x1 = (⟨(rText b1 x1 12).1, plainOf ((rNum (rText b1 x1 12).2.1 (rText b1 x1 12).2.2).1 : Int)⟩, (rNum (rText b1 x1 12).2.1 (rText b1 x1 12).2.2).2.1, (rNum (rText b1 x1 12).2.1 (rText b1 x1 12).2.2).2.2) := rfl
      generalize rText b1 x1 12 = tx at *
      obtain ⟨t, b2, x2⟩ := tx
      simp only at *
      replace hps := Lib.hid hps
      replace hpr := Lib.hid hpr
      replace hp0 := Lib.hid hp0
      replace hpl := Lib.hid hpl
      go_wp2_with fail
      refine hTX.out.mono ?_; rintro e w2 ⟨rfl, hR2, hg2⟩
      have T2 := Turn.ofGrownS hg2
      have hI2 := Lib.hid (int_any g b2 x2 w2 hR2)
      generalize rNum b2 x2 = rn at *
      obtain ⟨nv, b3, x3⟩ := rn
      simp only at *
      have zr := hT.size
      have hO2 := Lib.hid (OwnG.turn hO T2 (fun j e e2 => by have := (hO.owns.lt j e).1; omega))
      go_wp2_with fail
      refine hI2.out.mono ?_; rintro e w3 ⟨rfl, hR3, hg3⟩
      have T3 := Turn.ofGrownS hg3
      have hO3 := Lib.hid (OwnG.turn hO2.out T3 (fun j e e2 => by have := (hO2.out.owns.lt j e).1; omega))
      have T23 := hT.trans (T2.trans T3 (fun _ _ h => h)) (fun _ _ h => h)
      have z23 := T23.size
      clear hI2 hO2 hR2 hg2 hg3 T2 T3 hR hO hTX
      go_wp2_with (at_builtin; refine append_g 23 80 _ 2 24 infoPr (by rfl) (by omega) Tryd.underlying23 rfl _ _ rfl w.heap.size u6 (ps.map prV) rfl (OwnG.below hO3.out ((Below.refl _ _).alloc (Nat.le_refl _) _)) ⟨w3.heap.size, 0, none⟩ 1 1 [prV ⟨t, plainOf (nv : Int)⟩] rfl rfl (by simp [prV]) (news_pr (by simp [go_sem]) (by simp [go_sem])) (prV_one _) (by rw [List.length_map, hpl.out]; unfold maxLen; omega) (by rw [List.length_map, hpl.out]; omega) (by simp; omega) ?_; intro v4 w4 hO4 hG4)
      have A4 : Turn (fun j => u6.ownBlock = some j) w3 w4 := ((Turn.refl _ w3).alloc _).trans (Turn.ofGrown (S := fun j => u6.ownBlock = some j) hG4 (fun j e _ => e)) (fun _ _ h => h)
      have hlt3 := hR3.lt
      have hR4 := Rd.turnM hR3 A4 (fun j hj e => by have := (hO3.out.owns.lt j e).1; omega)
      have T4 := T23.trans (T := fun j => u6.ownBlock = some j) A4 (fun j hj e => by have := (hO3.out.owns.lt j e).1; omega)
      go_roundw
      case rel => first | exact ⟨k + 1, by omega, by go_num, by rw [hps.out, List.map_append, hp0.out]; exact hO4, by rw [hpr.out, hp0.out]; exact hR4, T4⟩ | exact ⟨k + 1, by omega, by omega, by rw [hps.out, List.map_append, hp0.out]; exact hO4, by rw [hpr.out, hp0.out]; exact hR4, T4⟩
      case measure => simp [intOf] <;> omega
    · obtain rfl : k = k0 := by omega
      go_wp2_with fail
      go_ret
      exact ⟨_, rfl, hO, hR, hT⟩
end Go.Proofs.YtfphffkgacajdaaDoor
/- message.Take. -/
namespace Go.Proofs.YtfphffkgacajdaaDoor
open Go.RowKit Oct
set_option linter.unusedVariables false
set_option linter.unusedSimpArgs false
set_option maxHeartbeats 4000000
set_option maxRecDepth 20000
theorem prD_ok : prD.ok := ⟨by decide, by simp [prD]⟩
theorem ok_nil (k : UInt8) (s : Nat) (a : Int) (hs : s ≤ 18446744073709551615) (ha : -9223372036854775808 ≤ a ∧ a ≤ 9223372036854775807) : (⟨k, s, a, []⟩ : Msg).ok :=
  ⟨hs, ha, fun i => by simpa [List.getD] using prD_ok, fun i => by simp [List.getD, prD]⟩
theorem rText_len (bs : List UInt8) (e : Int) : (rText bs e 12).1.length ≤ 12 := by
  unfold rText
  split
  · simp
  · split
    · simp
    · split
      · simp
      · rename_i h1 h2 h3
        simp only [List.length_take]
        omega
theorem propsR_mem (bs : List UInt8) (e : Int) : ∀ k, ∀ p ∈ (propsR bs e k).1, p.name.length ≤ 12 ∧ (-9223372036854775808 ≤ p.value ∧ p.value ≤ 9223372036854775807)
  | 0, p, hp => by simp [propsR] at hp
  | k + 1, p, hp => by
    unfold propsR at hp
    rcases List.mem_append.1 hp with hp | hp
    · exact propsR_mem bs e k p hp
    · rw [List.mem_singleton] at hp
      subst hp
      exact ⟨rText_len _ _, plain_range (by omega) (by have := rNum_lt (rText (propsR bs e k).2.1 (propsR bs e k).2.2 12).2.1 (rText (propsR bs e k).2.1 (propsR bs e k).2.2 12).2.2; omega)⟩
theorem ok_props (k : UInt8) (s : Nat) (a : Int) (bs : List UInt8) (e : Int) (n : Nat) (hs : s ≤ 18446744073709551615) (ha : -9223372036854775808 ≤ a ∧ a ≤ 9223372036854775807) : (⟨k, s, a, (propsR bs e n).1⟩ : Msg).ok := by
  have hm := propsR_mem bs e n
  have one : ∀ i, ((propsR bs e n).1.getD i prD).name.length ≤ 12 ∧ (-9223372036854775808 ≤ ((propsR bs e n).1.getD i prD).value ∧ ((propsR bs e n).1.getD i prD).value ≤ 9223372036854775807) := fun i => by
    by_cases hi : i < (propsR bs e n).1.length
    · have := hm ((propsR bs e n).1[i]) (List.getElem_mem hi)
      simpa [List.getD, hi] using this
    · simp [List.getD, hi, prD]
  exact ⟨hs, ha, fun i => ⟨by have := (one i).1; unfold maxLen; simp only; omega, (one i).2⟩, fun i => Nat.le_trans (one i).1 (by omega)⟩
theorem rMom_range (bs : List UInt8) (e : Int) : 0 ≤ (rMom bs e).1 ∧ (rMom bs e).1 ≤ 9223372036854775807 := by
  unfold rMom
  split
  · simp
  · rename_i h; simp only; omega
/-- what Take hands back -/
def TookM (w : World) (r : Msg × Int) (e : Ending) (w' : World) : Prop := ∃ q n c, e = .returned (.tuple #[msgV r.1 q n c, .int .i64 r.2]) ∧ RowQ w' q n r.1.props ∧ Below w.heap.size w w'
theorem RowQ.nil (w : World) : RowQ w none 0 [] := RowG.empty 2 w none
theorem took_arg {w w' : World} (hb : Below w.heap.size w w') : TookM w (msg0, 1) (.returned (.tuple #[.agg #[.int .u8 0, .int .u64 0, .int .i64 0, .slice none 0 0], .int .i64 1])) w' := ⟨none, 0, 0, rfl, RowQ.nil _, hb⟩
theorem took_long {w w' : World} (hb : Below w.heap.size w w') : TookM w (msg0, 13) (.returned (.tuple #[.agg #[.int .u8 0, .int .u64 0, .int .i64 0, .slice none 0 0], .int .i64 13])) w' := ⟨none, 0, 0, rfl, RowQ.nil _, hb⟩
theorem took_end {w w' : World} {m : Msg} {b : List UInt8} {e z : Int} (hz : endOf b e = z) (h0 : z ≠ 0) (hb : Below w.heap.size w w') : TookM w (finM m b e) (.returned (.tuple #[.agg #[.int .u8 0, .int .u64 0, .int .i64 0, .slice none 0 0], .int .i64 z])) w' := by
  unfold finM
  rw [hz, if_pos h0]
  exact ⟨none, 0, 0, rfl, RowQ.nil _, hb⟩
theorem took_form {w w' : World} {m : Msg} {b : List UInt8} {e : Int} (hz : endOf b e = 0) (hm : mayM m = false) (hb : Below w.heap.size w w') : TookM w (finM m b e) (.returned (.tuple #[.agg #[.int .u8 0, .int .u64 0, .int .i64 0, .slice none 0 0], .int .i64 11])) w' := by
  unfold finM
  rw [hz, if_neg (by simp), if_pos hm]
  exact ⟨none, 0, 0, rfl, RowQ.nil _, hb⟩
theorem took_ok {w w' : World} {m : Msg} {b : List UInt8} {e : Int} {q : Option Addr} {n c : Nat} (hz : endOf b e = 0) (hm : mayM m = true) (hR : RowQ w' q n m.props) (hb : Below w.heap.size w w') : TookM w (finM m b e) (.returned (.tuple #[msgV m q n c, .int .i64 0])) w' := by
  unfold finM
  rw [hz, if_neg (by simp), if_neg (by simp [hm])]
  exact ⟨q, n, c, rfl, hR, hb⟩
theorem mtake_not (k : UInt8) (q : Option Addr) (n c : Nat) (w : World) (hk : k.toNat < 1 ∨ 4 < k.toNat) :
    Calls Tryd.prog 23 #[.int .u8 (k.toNat : Int), .slice q n c] w (TookM w (msg0, 1)) := by
  rcases hk with hk | hk
  · have h1 : (k.toNat : Int) < 1 := by omega
    generalize (k.toNat : Int) = kk at *
    go_enter Tryd.func23, Tryd.ntmps23
    go_wp2_with fail
    exact bodyPost_ret (v := .tuple #[.agg #[.int .u8 0, .int .u64 0, .int .i64 0, .slice none 0 0], .int .i64 1]) (by simp [results, Tryd.results23, go_sem]) rfl (took_arg (by repeat (first | with_reducible exact Below.refl _ _ | with_reducible refine Below.drew ?_ | with_reducible refine Below.alloc ?_ (by (try simp) <;> omega) _ | with_reducible refine Below.setCell ?_ (by (try simp) <;> omega) _)))
  · have h1 : ¬ (k.toNat : Int) < 1 := by omega
    have h2 : (4 : Int) < (k.toNat : Int) := by omega
    generalize (k.toNat : Int) = kk at *
    go_enter Tryd.func23, Tryd.ntmps23
    go_wp2_with fail
    exact bodyPost_ret (v := .tuple #[.agg #[.int .u8 0, .int .u64 0, .int .i64 0, .slice none 0 0], .int .i64 1]) (by simp [results, Tryd.results23, go_sem]) rfl (took_arg (by repeat (first | with_reducible exact Below.refl _ _ | with_reducible refine Below.drew ?_ | with_reducible refine Below.alloc ?_ (by (try simp) <;> omega) _ | with_reducible refine Below.setCell ?_ (by (try simp) <;> omega) _)))
theorem mtake1 (q : Option Addr) (n c : Nat) (bs : List UInt8) (w : World) (h : RowB w q n c bs) (hl : n ≤ 1000000000) :
    Calls Tryd.prog 23 #[.int .u8 1, .slice q n c] w (TookM w (finM ⟨1, (rNum bs 0).1, 0, []⟩ (rNum bs 0).2.1 (rNum bs 0).2.2)) := by
  have hmf : ∀ (fn : Fn) (first cap : Array Value) (w : World), (Instr.makeFunc fn first cap).run Tryd.prog w = .ok (.func fn first cap) w := fun _ _ _ _ => rfl
  replace h := Lib.hid h
  go_enter Tryd.func23, Tryd.ntmps23
  go_wp2_with fail
  refine (open_any q n c bs _ (h.out.below (by repeat (first | with_reducible exact Below.refl _ _ | with_reducible refine Below.drew ?_ | with_reducible refine Below.alloc ?_ (by (try simp) <;> omega) _ | with_reducible refine Below.setCell ?_ (by (try simp) <;> omega) _))) hl).mono ?_; rintro e w2 ⟨g, rfl, hgg, hRd, hb2⟩
  go_wp2_with fail
  have XR2 := Lib.hid ((Box.new w [.int .u8 0, .int .u64 0, .int .i64 0, .slice none 0 0] _ 25 rfl w.heap.size rfl).below hb2); have B2 : Below w.heap.size w w2 := Below.trans ((Below.refl _ _).alloc (Nat.le_refl _) _) (hb2.mono (by simp)); have hRl := hRd.lt; have hgw : w.heap.size + 1 ≤ g := (by simpa using hgg); clear hgg; have zR : w.heap.size < w2.heap.size := XR2.out.lt; obtain ⟨W3, eW3⟩ : ∃ W, w2.alloc (.cells #[.int .u8 1, .int .u64 0, .int .i64 0, .slice none 0 0] 25) = W := ⟨_, rfl⟩; rw [eW3]; have b3 : Below w2.heap.size w2 W3 := (by rw [← eW3]; exact (Below.refl _ _).alloc (Nat.le_refl _) _); have XM : Hid (Box W3 w2.heap.size [.int .u8 1, .int .u64 0, .int .i64 0, .slice none 0 0]) := Lib.hid (by rw [← eW3]; exact Box.new w2 _ _ _ rfl _ rfl); have XR := Lib.hid (XR2.out.below b3); have z3 : W3.heap.size = w2.heap.size + 1 := (by rw [← eW3]; simp); replace hRd := Rd.turnM hRd (S := fun _ => False) (Turn.ofBelow b3 rfl) (fun _ _ h => h); have BT := B2.trans (b3.mono B2.size); clear XR2 B2 b3 hb2 eW3
  have hnl := rNum_lt bs 0
  have HN := Lib.hid (num_any g bs 0 W3 hRd)
  generalize rNum bs 0 = rn at *
  obtain ⟨nv, b4, x4⟩ := rn
  simp only at *
  have okT := Lib.hid (ok_nil 1 nv 0 (by omega) (by omega))
  refine HN.out.mono ?_; rintro e w4 ⟨rfl, hRd4, hg4⟩
  clear HN
  have T4 := Turn.ofGrownS hg4
  replace XM := Lib.hid (XM.out.turn T4 (by omega)); replace XR := Lib.hid (XR.out.turn T4 (by omega)); replace BT := BT.trans (T4.below BT.size (fun k hk e => by omega)); have c9 := XM.out.cell 1 _ rfl; have k9 := XM.out.free 1 (by simp); replace XM := Lib.hid (XM.out.set 1 (.int .u64 (nv : Int)) (by simp)); replace XR := Lib.hid (XR.out.turn (Box.setTurn w4 w2.heap.size 1 (.int .u64 (nv : Int))) (by omega)); replace BT := BT.setCell (p := ⟨w2.heap.size, 1, none⟩) (Nat.le_of_lt zR) (.int .u64 (nv : Int))
  go_wp2_with fail
  have hRdT := Rd.turnM hRd4 (Box.setTurn w4 w2.heap.size 1 (.int .u64 (nv : Int))) (fun j hj e => by omega)
  have hRow : Hid (RowQ (w4.setCell ⟨w2.heap.size, 1, none⟩ (.int .u64 (nv : Int))) none 0 []) := Lib.hid (RowQ.nil _)
  have hoff : Hid (∀ x : Addr, (none : Option Addr) = some x → w.heap.size < x.block) := Lib.hid (fun x e => by cases e)
  have HMAY := Lib.hid (fun W hr => mmay_any ⟨1, nv, 0, []⟩ none 0 0 W okT.out hr)
  generalize hmm : mayM ⟨1, nv, 0, []⟩ = bm at *
  replace hmm := Lib.hid hmm
  unfold msgV at HMAY
  simp only at HMAY
  have HE := Lib.hid (end_any g b4 x4 (w4.setCell ⟨w2.heap.size, 1, none⟩ (.int .u64 (nv : Int))) hRdT); generalize hze : endOf b4 x4 = z at HE; replace hze := Lib.hid hze; refine HE.out.mono ?_; (rintro e w' ⟨rfl, rfl⟩); clear HE; (try clear c9 k9); by_cases z0 : z = 0; (· (subst z0; have m0 := XM.out.cell 0 _ rfl; have m1 := XM.out.cell 1 _ rfl; have m2 := XM.out.cell 2 _ rfl; have m3 := XM.out.cell 3 _ rfl; go_wp2_with fail; refine (HMAY.out _ hRow.out).mono ?_; (rintro e w6 ⟨rfl, hb6⟩); clear m0 m1 m2 m3; have B6 := BT.trans (hb6.mono BT.size); have XM6 := XM.out.below hb6; have XR6 := XR.out.below hb6; have hRow6 := Lib.hid (RowG.below hRow.out hb6); have m0 := XM6.cell 0 _ rfl; have m1 := XM6.cell 1 _ rfl; have m2 := XM6.cell 2 _ rfl; have m3 := XM6.cell 3 _ rfl; have r0 := XR6.cell 0 _ rfl; have r1 := XR6.cell 1 _ rfl; have r2 := XR6.cell 2 _ rfl; have r3 := XR6.cell 3 _ rfl; have k0 := XR6.free 0 (by simp); have k1 := XR6.free 1 (by simp); have k2 := XR6.free 2 (by simp); have k3 := XR6.free 3 (by simp); clear XM6 XR6; cases bm with | false => (go_wp2_with fail; exact bodyPost_ret (v := .tuple #[.agg #[.int .u8 0, .int .u64 0, .int .i64 0, .slice none 0 0], .int .i64 11]) (by simp [results, Tryd.results23, go_sem, r0, r1, r2, r3]) rfl (took_form hze.out hmm.out (by repeat (first | exact BT | exact B6 | with_reducible refine Below.setCell ?_ (by simp) _)))) | true => (go_wp2_with fail; exact bodyPost_ret (v := .tuple #[(.agg #[.int .u8 1, .int .u64 (nv : Int), .int .i64 0, .slice none 0 0]), .int .i64 0]) (by simp [results, Tryd.results23, go_sem, r0, r1, r2, r3]) rfl (took_ok hze.out hmm.out (RowG.turn (S := fun k => k = w.heap.size) hRow6.out (Turn.set4 w6 w.heap.size _ _ _ _) (fun x e hs => by have := hoff.out x e; omega)) (by repeat (first | exact BT | exact B6 | with_reducible refine Below.setCell ?_ (by simp) _)))))); (· (have z1 : (z == 0) = false := (by rw [beq_eq_false_iff_ne]; exact z0); have r0 := XR.out.cell 0 _ rfl; have r1 := XR.out.cell 1 _ rfl; have r2 := XR.out.cell 2 _ rfl; have r3 := XR.out.cell 3 _ rfl; have k0 := XR.out.free 0 (by simp); have k1 := XR.out.free 1 (by simp); have k2 := XR.out.free 2 (by simp); have k3 := XR.out.free 3 (by simp); go_wp2_with fail; exact bodyPost_ret (v := .tuple #[.agg #[.int .u8 0, .int .u64 0, .int .i64 0, .slice none 0 0], .int .i64 z]) (by simp [results, Tryd.results23, go_sem, r0, r1, r2, r3]) rfl (took_end hze.out z0 (by repeat (first | exact BT | exact B6 | with_reducible refine Below.setCell ?_ (by simp) _)))))
theorem mtake3 (q : Option Addr) (n c : Nat) (bs : List UInt8) (w : World) (h : RowB w q n c bs) (hl : n ≤ 1000000000) :
    Calls Tryd.prog 23 #[.int .u8 3, .slice q n c] w (TookM w (finM ⟨3, 0, (rMom bs 0).1, []⟩ (rMom bs 0).2.1 (rMom bs 0).2.2)) := by
  have hmf : ∀ (fn : Fn) (first cap : Array Value) (w : World), (Instr.makeFunc fn first cap).run Tryd.prog w = .ok (.func fn first cap) w := fun _ _ _ _ => rfl
  replace h := Lib.hid h
  go_enter Tryd.func23, Tryd.ntmps23
  go_wp2_with fail
  refine (open_any q n c bs _ (h.out.below (by repeat (first | with_reducible exact Below.refl _ _ | with_reducible refine Below.drew ?_ | with_reducible refine Below.alloc ?_ (by (try simp) <;> omega) _ | with_reducible refine Below.setCell ?_ (by (try simp) <;> omega) _))) hl).mono ?_; rintro e w2 ⟨g, rfl, hgg, hRd, hb2⟩
  go_wp2_with fail
  have XR2 := Lib.hid ((Box.new w [.int .u8 0, .int .u64 0, .int .i64 0, .slice none 0 0] _ 25 rfl w.heap.size rfl).below hb2); have B2 : Below w.heap.size w w2 := Below.trans ((Below.refl _ _).alloc (Nat.le_refl _) _) (hb2.mono (by simp)); have hRl := hRd.lt; have hgw : w.heap.size + 1 ≤ g := (by simpa using hgg); clear hgg; have zR : w.heap.size < w2.heap.size := XR2.out.lt; obtain ⟨W3, eW3⟩ : ∃ W, w2.alloc (.cells #[.int .u8 3, .int .u64 0, .int .i64 0, .slice none 0 0] 25) = W := ⟨_, rfl⟩; rw [eW3]; have b3 : Below w2.heap.size w2 W3 := (by rw [← eW3]; exact (Below.refl _ _).alloc (Nat.le_refl _) _); have XM : Hid (Box W3 w2.heap.size [.int .u8 3, .int .u64 0, .int .i64 0, .slice none 0 0]) := Lib.hid (by rw [← eW3]; exact Box.new w2 _ _ _ rfl _ rfl); have XR := Lib.hid (XR2.out.below b3); have z3 : W3.heap.size = w2.heap.size + 1 := (by rw [← eW3]; simp); replace hRd := Rd.turnM hRd (S := fun _ => False) (Turn.ofBelow b3 rfl) (fun _ _ h => h); have BT := B2.trans (b3.mono B2.size); clear XR2 B2 b3 hb2 eW3
  have hnl := rMom_range bs 0
  have HN := Lib.hid (moment_any g bs 0 W3 hRd)
  generalize rMom bs 0 = rn at *
  obtain ⟨nv, b4, x4⟩ := rn
  simp only at *
  have okT := Lib.hid (ok_nil 3 0 nv (by omega) (by omega))
  refine HN.out.mono ?_; rintro e w4 ⟨rfl, hRd4, hg4⟩
  clear HN
  have T4 := Turn.ofGrownS hg4
  replace XM := Lib.hid (XM.out.turn T4 (by omega)); replace XR := Lib.hid (XR.out.turn T4 (by omega)); replace BT := BT.trans (T4.below BT.size (fun k hk e => by omega)); have c9 := XM.out.cell 2 _ rfl; have k9 := XM.out.free 2 (by simp); replace XM := Lib.hid (XM.out.set 2 (.int .i64 nv) (by simp)); replace XR := Lib.hid (XR.out.turn (Box.setTurn w4 w2.heap.size 2 (.int .i64 nv)) (by omega)); replace BT := BT.setCell (p := ⟨w2.heap.size, 2, none⟩) (Nat.le_of_lt zR) (.int .i64 nv)
  go_wp2_with fail
  have hRdT := Rd.turnM hRd4 (Box.setTurn w4 w2.heap.size 2 (.int .i64 nv)) (fun j hj e => by omega)
  have hRow : Hid (RowQ (w4.setCell ⟨w2.heap.size, 2, none⟩ (.int .i64 nv)) none 0 []) := Lib.hid (RowQ.nil _)
  have hoff : Hid (∀ x : Addr, (none : Option Addr) = some x → w.heap.size < x.block) := Lib.hid (fun x e => by cases e)
  have HMAY := Lib.hid (fun W hr => mmay_any ⟨3, 0, nv, []⟩ none 0 0 W okT.out hr)
  generalize hmm : mayM ⟨3, 0, nv, []⟩ = bm at *
  replace hmm := Lib.hid hmm
  unfold msgV at HMAY
  simp only at HMAY
  have HE := Lib.hid (end_any g b4 x4 (w4.setCell ⟨w2.heap.size, 2, none⟩ (.int .i64 nv)) hRdT); generalize hze : endOf b4 x4 = z at HE; replace hze := Lib.hid hze; refine HE.out.mono ?_; (rintro e w' ⟨rfl, rfl⟩); clear HE; (try clear c9 k9); by_cases z0 : z = 0; (· (subst z0; have m0 := XM.out.cell 0 _ rfl; have m1 := XM.out.cell 1 _ rfl; have m2 := XM.out.cell 2 _ rfl; have m3 := XM.out.cell 3 _ rfl; go_wp2_with fail; refine (HMAY.out _ hRow.out).mono ?_; (rintro e w6 ⟨rfl, hb6⟩); clear m0 m1 m2 m3; have B6 := BT.trans (hb6.mono BT.size); have XM6 := XM.out.below hb6; have XR6 := XR.out.below hb6; have hRow6 := Lib.hid (RowG.below hRow.out hb6); have m0 := XM6.cell 0 _ rfl; have m1 := XM6.cell 1 _ rfl; have m2 := XM6.cell 2 _ rfl; have m3 := XM6.cell 3 _ rfl; have r0 := XR6.cell 0 _ rfl; have r1 := XR6.cell 1 _ rfl; have r2 := XR6.cell 2 _ rfl; have r3 := XR6.cell 3 _ rfl; have k0 := XR6.free 0 (by simp); have k1 := XR6.free 1 (by simp); have k2 := XR6.free 2 (by simp); have k3 := XR6.free 3 (by simp); clear XM6 XR6; cases bm with | false => (go_wp2_with fail; exact bodyPost_ret (v := .tuple #[.agg #[.int .u8 0, .int .u64 0, .int .i64 0, .slice none 0 0], .int .i64 11]) (by simp [results, Tryd.results23, go_sem, r0, r1, r2, r3]) rfl (took_form hze.out hmm.out (by repeat (first | exact BT | exact B6 | with_reducible refine Below.setCell ?_ (by simp) _)))) | true => (go_wp2_with fail; exact bodyPost_ret (v := .tuple #[(.agg #[.int .u8 3, .int .u64 0, .int .i64 nv, .slice none 0 0]), .int .i64 0]) (by simp [results, Tryd.results23, go_sem, r0, r1, r2, r3]) rfl (took_ok hze.out hmm.out (RowG.turn (S := fun k => k = w.heap.size) hRow6.out (Turn.set4 w6 w.heap.size _ _ _ _) (fun x e hs => by have := hoff.out x e; omega)) (by repeat (first | exact BT | exact B6 | with_reducible refine Below.setCell ?_ (by simp) _)))))); (· (have z1 : (z == 0) = false := (by rw [beq_eq_false_iff_ne]; exact z0); have r0 := XR.out.cell 0 _ rfl; have r1 := XR.out.cell 1 _ rfl; have r2 := XR.out.cell 2 _ rfl; have r3 := XR.out.cell 3 _ rfl; have k0 := XR.out.free 0 (by simp); have k1 := XR.out.free 1 (by simp); have k2 := XR.out.free 2 (by simp); have k3 := XR.out.free 3 (by simp); go_wp2_with fail; exact bodyPost_ret (v := .tuple #[.agg #[.int .u8 0, .int .u64 0, .int .i64 0, .slice none 0 0], .int .i64 z]) (by simp [results, Tryd.results23, go_sem, r0, r1, r2, r3]) rfl (took_end hze.out z0 (by repeat (first | exact BT | exact B6 | with_reducible refine Below.setCell ?_ (by simp) _)))))
theorem mtake4 (q : Option Addr) (n c : Nat) (bs : List UInt8) (w : World) (h : RowB w q n c bs) (hl : n ≤ 1000000000) :
    Calls Tryd.prog 23 #[.int .u8 4, .slice q n c] w (TookM w (finM ⟨4, 0, 0, []⟩ bs 0)) := by
  have hmf : ∀ (fn : Fn) (first cap : Array Value) (w : World), (Instr.makeFunc fn first cap).run Tryd.prog w = .ok (.func fn first cap) w := fun _ _ _ _ => rfl
  replace h := Lib.hid h
  go_enter Tryd.func23, Tryd.ntmps23
  go_wp2_with fail
  refine (open_any q n c bs _ (h.out.below (by repeat (first | with_reducible exact Below.refl _ _ | with_reducible refine Below.drew ?_ | with_reducible refine Below.alloc ?_ (by (try simp) <;> omega) _ | with_reducible refine Below.setCell ?_ (by (try simp) <;> omega) _))) hl).mono ?_; rintro e w2 ⟨g, rfl, hgg, hRd, hb2⟩
  go_wp2_with fail
  have XR2 := Lib.hid ((Box.new w [.int .u8 0, .int .u64 0, .int .i64 0, .slice none 0 0] _ 25 rfl w.heap.size rfl).below hb2); have B2 : Below w.heap.size w w2 := Below.trans ((Below.refl _ _).alloc (Nat.le_refl _) _) (hb2.mono (by simp)); have hRl := hRd.lt; have hgw : w.heap.size + 1 ≤ g := (by simpa using hgg); clear hgg; have zR : w.heap.size < w2.heap.size := XR2.out.lt; obtain ⟨W3, eW3⟩ : ∃ W, w2.alloc (.cells #[.int .u8 4, .int .u64 0, .int .i64 0, .slice none 0 0] 25) = W := ⟨_, rfl⟩; rw [eW3]; have b3 : Below w2.heap.size w2 W3 := (by rw [← eW3]; exact (Below.refl _ _).alloc (Nat.le_refl _) _); have XM : Hid (Box W3 w2.heap.size [.int .u8 4, .int .u64 0, .int .i64 0, .slice none 0 0]) := Lib.hid (by rw [← eW3]; exact Box.new w2 _ _ _ rfl _ rfl); have XR := Lib.hid (XR2.out.below b3); have z3 : W3.heap.size = w2.heap.size + 1 := (by rw [← eW3]; simp); replace hRd := Rd.turnM hRd (S := fun _ => False) (Turn.ofBelow b3 rfl) (fun _ _ h => h); have BT := B2.trans (b3.mono B2.size); clear XR2 B2 b3 hb2 eW3
  have hRdT := hRd
  have okT := Lib.hid (ok_nil 4 0 0 (by omega) (by omega))
  have hRow : Hid (RowQ W3 none 0 []) := Lib.hid (RowQ.nil _)
  have hoff : Hid (∀ x : Addr, (none : Option Addr) = some x → w.heap.size < x.block) := Lib.hid (fun x e => by cases e)
  have HMAY := Lib.hid (fun W hr => mmay_any ⟨4, 0, 0, []⟩ none 0 0 W okT.out hr)
  generalize hmm : mayM ⟨4, 0, 0, []⟩ = bm at *
  replace hmm := Lib.hid hmm
  unfold msgV at HMAY
  simp only at HMAY
  have HE := Lib.hid (end_any g bs 0 W3 hRdT); generalize hze : endOf bs 0 = z at HE; replace hze := Lib.hid hze; refine HE.out.mono ?_; (rintro e w' ⟨rfl, rfl⟩); clear HE; (try clear c9 k9); by_cases z0 : z = 0; (· (subst z0; have m0 := XM.out.cell 0 _ rfl; have m1 := XM.out.cell 1 _ rfl; have m2 := XM.out.cell 2 _ rfl; have m3 := XM.out.cell 3 _ rfl; go_wp2_with fail; refine (HMAY.out _ hRow.out).mono ?_; (rintro e w6 ⟨rfl, hb6⟩); clear m0 m1 m2 m3; have B6 := BT.trans (hb6.mono BT.size); have XM6 := XM.out.below hb6; have XR6 := XR.out.below hb6; have hRow6 := Lib.hid (RowG.below hRow.out hb6); have m0 := XM6.cell 0 _ rfl; have m1 := XM6.cell 1 _ rfl; have m2 := XM6.cell 2 _ rfl; have m3 := XM6.cell 3 _ rfl; have r0 := XR6.cell 0 _ rfl; have r1 := XR6.cell 1 _ rfl; have r2 := XR6.cell 2 _ rfl; have r3 := XR6.cell 3 _ rfl; have k0 := XR6.free 0 (by simp); have k1 := XR6.free 1 (by simp); have k2 := XR6.free 2 (by simp); have k3 := XR6.free 3 (by simp); clear XM6 XR6; cases bm with | false => (go_wp2_with fail; exact bodyPost_ret (v := .tuple #[.agg #[.int .u8 0, .int .u64 0, .int .i64 0, .slice none 0 0], .int .i64 11]) (by simp [results, Tryd.results23, go_sem, r0, r1, r2, r3]) rfl (took_form hze.out hmm.out (by repeat (first | exact BT | exact B6 | with_reducible refine Below.setCell ?_ (by simp) _)))) | true => (go_wp2_with fail; exact bodyPost_ret (v := .tuple #[(.agg #[.int .u8 4, .int .u64 0, .int .i64 0, .slice none 0 0]), .int .i64 0]) (by simp [results, Tryd.results23, go_sem, r0, r1, r2, r3]) rfl (took_ok hze.out hmm.out (RowG.turn (S := fun k => k = w.heap.size) hRow6.out (Turn.set4 w6 w.heap.size _ _ _ _) (fun x e hs => by have := hoff.out x e; omega)) (by repeat (first | exact BT | exact B6 | with_reducible refine Below.setCell ?_ (by simp) _)))))); (· (have z1 : (z == 0) = false := (by rw [beq_eq_false_iff_ne]; exact z0); have r0 := XR.out.cell 0 _ rfl; have r1 := XR.out.cell 1 _ rfl; have r2 := XR.out.cell 2 _ rfl; have r3 := XR.out.cell 3 _ rfl; have k0 := XR.out.free 0 (by simp); have k1 := XR.out.free 1 (by simp); have k2 := XR.out.free 2 (by simp); have k3 := XR.out.free 3 (by simp); go_wp2_with fail; exact bodyPost_ret (v := .tuple #[.agg #[.int .u8 0, .int .u64 0, .int .i64 0, .slice none 0 0], .int .i64 z]) (by simp [results, Tryd.results23, go_sem, r0, r1, r2, r3]) rfl (took_end hze.out z0 (by repeat (first | exact BT | exact B6 | with_reducible refine Below.setCell ?_ (by simp) _)))))
end Go.Proofs.YtfphffkgacajdaaDoor
/- message.Take of an event; of any bytes. -/
namespace Go.Proofs.YtfphffkgacajdaaDoor
open Go.RowKit Oct
set_option linter.unusedVariables false
set_option linter.unusedSimpArgs false
set_option maxHeartbeats 4000000
set_option maxRecDepth 20000
def take2 (bs : List UInt8) : Msg × Int :=
  if 8 < (evR bs).2.2.1 then (msg0, 13)
    else finM ⟨2, (evR bs).1, (evR bs).2.1, (propsR (evR bs).2.2.2.1 (evR bs).2.2.2.2 (evR bs).2.2.1).1⟩ (propsR (evR bs).2.2.2.1 (evR bs).2.2.2.2 (evR bs).2.2.1).2.1 (propsR (evR bs).2.2.2.1 (evR bs).2.2.2.2 (evR bs).2.2.1).2.2
theorem mtake2 (q : Option Addr) (n c : Nat) (bs : List UInt8) (w : World) (h : RowB w q n c bs) (hl : n ≤ 1000000000) :
    Calls Tryd.prog 23 #[.int .u8 2, .slice q n c] w (TookM w (take2 bs)) := by
  have hmf : ∀ (fn : Fn) (first cap : Array Value) (w : World), (Instr.makeFunc fn first cap).run Tryd.prog w = .ok (.func fn first cap) w := fun _ _ _ _ => rfl
  replace h := Lib.hid h
  have h2 : take2 bs = if 8 < (evR bs).2.2.1 then (msg0, 13)
    else finM ⟨2, (evR bs).1, (evR bs).2.1, (propsR (evR bs).2.2.2.1 (evR bs).2.2.2.2 (evR bs).2.2.1).1⟩ (propsR (evR bs).2.2.2.1 (evR bs).2.2.2.2 (evR bs).2.2.1).2.1 (propsR (evR bs).2.2.2.1 (evR bs).2.2.2.2 (evR bs).2.2.1).2.2 := rfl
  generalize take2 bs = res at *
  replace h2 := Lib.hid h2
  have hev : evR bs = ((rNum bs 0).1, (rMom (rNum bs 0).2.1 (rNum bs 0).2.2).1, (rNum (rMom (rNum bs 0).2.1 (rNum bs 0).2.2).2.1 (rMom (rNum bs 0).2.1 (rNum bs 0).2.2).2.2).1, (rNum (rMom (rNum bs 0).2.1 (rNum bs 0).2.2).2.1 (rMom (rNum bs 0).2.1 (rNum bs 0).2.2).2.2).2) := rfl
  generalize evR bs = ev at *
  replace hev := Lib.hid hev
  go_enter Tryd.func23, Tryd.ntmps23
  go_wp2_with fail
  refine (open_any q n c bs _ (h.out.below (by repeat (first | with_reducible exact Below.refl _ _ | with_reducible refine Below.drew ?_ | with_reducible refine Below.alloc ?_ (by (try simp) <;> omega) _ | with_reducible refine Below.setCell ?_ (by (try simp) <;> omega) _))) hl).mono ?_; rintro e w2 ⟨g, rfl, hgg, hRd, hb2⟩
  go_wp2_with fail
  have XR2 := Lib.hid ((Box.new w [.int .u8 0, .int .u64 0, .int .i64 0, .slice none 0 0] _ 25 rfl w.heap.size rfl).below hb2); have B2 : Below w.heap.size w w2 := Below.trans ((Below.refl _ _).alloc (Nat.le_refl _) _) (hb2.mono (by simp)); have hRl := hRd.lt; have hgw : w.heap.size + 1 ≤ g := (by simpa using hgg); clear hgg; have zR : w.heap.size < w2.heap.size := XR2.out.lt; obtain ⟨W3, eW3⟩ : ∃ W, w2.alloc (.cells #[.int .u8 2, .int .u64 0, .int .i64 0, .slice none 0 0] 25) = W := ⟨_, rfl⟩; rw [eW3]; have b3 : Below w2.heap.size w2 W3 := (by rw [← eW3]; exact (Below.refl _ _).alloc (Nat.le_refl _) _); have XM : Hid (Box W3 w2.heap.size [.int .u8 2, .int .u64 0, .int .i64 0, .slice none 0 0]) := Lib.hid (by rw [← eW3]; exact Box.new w2 _ _ _ rfl _ rfl); have XR := Lib.hid (XR2.out.below b3); have z3 : W3.heap.size = w2.heap.size + 1 := (by rw [← eW3]; simp); replace hRd := Rd.turnM hRd (S := fun _ => False) (Turn.ofBelow b3 rfl) (fun _ _ h => h); have BT := B2.trans (b3.mono B2.size); clear XR2 B2 b3 hb2 eW3
  replace hev := hev.out
  replace h2 := h2.out
  have hnl := rNum_lt bs 0
  have HN := Lib.hid (num_any g bs 0 W3 hRd)
  generalize rNum bs 0 = rn at *
  obtain ⟨nv, b4, x4⟩ := rn
  simp only at *
  have hml := rMom_range b4 x4
  have HMM := Lib.hid (fun W hr => moment_any g b4 x4 W hr)
  generalize rMom b4 x4 = rm at *
  obtain ⟨mv, b5, x5⟩ := rm
  simp only at *
  have hkl := rNum_lt b5 x5
  have HN2 := Lib.hid (fun W hr => num_any g b5 x5 W hr)
  generalize rNum b5 x5 = rk at *
  obtain ⟨kv, b6, x6⟩ := rk
  simp only at *
  subst hev
  simp only at h2
  have HP := Lib.hid (fun W hk hr => props_any g b6 x6 kv hk W hr)
  have hpl := propsR_len b6 x6 kv
  have okT := Lib.hid (ok_props 2 nv mv b6 x6 kv (by omega) (by omega))
  generalize propsR b6 x6 kv = pr at *
  obtain ⟨ps, b7, x7⟩ := pr
  simp only at *
  replace h2 := Lib.hid h2
  refine HN.out.mono ?_; rintro e w4 ⟨rfl, hRd4, hg4⟩
  clear HN
  have T4 := Turn.ofGrownS hg4
  replace XM := Lib.hid (XM.out.turn T4 (by omega)); replace XR := Lib.hid (XR.out.turn T4 (by omega)); replace BT := BT.trans (T4.below BT.size (fun k hk e => by omega)); have c9 := XM.out.cell 1 _ rfl; have k9 := XM.out.free 1 (by simp); replace XM := Lib.hid (XM.out.set 1 (.int .u64 (nv : Int)) (by simp)); replace XR := Lib.hid (XR.out.turn (Box.setTurn w4 w2.heap.size 1 (.int .u64 (nv : Int))) (by omega)); replace BT := BT.setCell (p := ⟨w2.heap.size, 1, none⟩) (Nat.le_of_lt zR) (.int .u64 (nv : Int))
  have zz4 := T4.size
  go_wp2_with fail
  have hRd5 := Rd.turnM hRd4 (Box.setTurn w4 w2.heap.size 1 (.int .u64 (nv : Int))) (fun j hj e => by omega)
  clear c9 k9 hRd4 hg4 T4
  obtain ⟨w5, hw5⟩ : ∃ W, w4.setCell ⟨w2.heap.size, 1, none⟩ (.int .u64 (nv : Int)) = W := ⟨_, rfl⟩
  rw [hw5] at hRd5 XM XR BT ⊢
  clear hw5
  refine (HMM.out _ hRd5).mono ?_; rintro e w6 ⟨rfl, hRd6, hg6⟩
  have T6 := Turn.ofGrownS hg6
  replace XM := Lib.hid (XM.out.turn T6 (by omega)); replace XR := Lib.hid (XR.out.turn T6 (by omega)); replace BT := BT.trans (T6.below BT.size (fun k hk e => by omega)); have c9 := XM.out.cell 2 _ rfl; have k9 := XM.out.free 2 (by simp); replace XM := Lib.hid (XM.out.set 2 (.int .i64 mv) (by simp)); replace XR := Lib.hid (XR.out.turn (Box.setTurn w6 w2.heap.size 2 (.int .i64 mv)) (by omega)); replace BT := BT.setCell (p := ⟨w2.heap.size, 2, none⟩) (Nat.le_of_lt zR) (.int .i64 mv)
  go_wp2_with fail
  have hRd7 := Rd.turnM hRd6 (Box.setTurn w6 w2.heap.size 2 (.int .i64 mv)) (fun j hj e => by omega)
  clear c9 k9 hRd6 hg6 T6
  obtain ⟨w7, hw7⟩ : ∃ W, w6.setCell ⟨w2.heap.size, 2, none⟩ (.int .i64 mv) = W := ⟨_, rfl⟩
  rw [hw7] at hRd7 XM XR BT ⊢
  clear hw7
  refine (HN2.out _ hRd7).mono ?_; rintro e w8 ⟨rfl, hRd8, hg8⟩
  have T8 := Turn.ofGrownS hg8
  replace XM := Lib.hid (XM.out.turn T8 (by omega))
  replace XR := Lib.hid (XR.out.turn T8 (by omega))
  replace BT := BT.trans (T8.below BT.size (fun k hk e => by omega))
  by_cases h8 : 8 < kv
  · replace h2 := h2.out
    rw [if_pos h8] at h2
    subst h2
    have h8' : (8 : Int) < (kv : Int) := by omega
    have r0 := XR.out.cell 0 _ rfl
    have r1 := XR.out.cell 1 _ rfl
    have r2 := XR.out.cell 2 _ rfl
    have r3 := XR.out.cell 3 _ rfl
    have k0 := XR.out.free 0 (by simp)
    have k1 := XR.out.free 1 (by simp)
    have k2 := XR.out.free 2 (by simp)
    have k3 := XR.out.free 3 (by simp)
    go_wp2_with fail
    exact bodyPost_ret (v := .tuple #[.agg #[.int .u8 0, .int .u64 0, .int .i64 0, .slice none 0 0], .int .i64 13]) (by simp [results, Tryd.results23, go_sem, r0, r1, r2, r3]) rfl (took_long (by repeat (first | exact BT | with_reducible refine Below.setCell ?_ (by simp) _)))
  replace h2 := h2.out
  rw [if_neg h8] at h2
  subst h2
  have h8' : ¬ (8 : Int) < (kv : Int) := by omega
  have hcv : IntKind.i64.wrap (kv : Int) = (kv : Int) := IntWalk.i64_in _ (by omega)
  go_wp2_with fail
  refine (HP.out _ (by omega) hRd8).mono ?_; rintro e w9 ⟨v9, rfl, hO9, hRd9, T9⟩
  have zz8 : w2.heap.size < w8.heap.size := XM.out.lt
  obtain ⟨q9, d9, rfl, hR9, _, hq9⟩ := hO9.row
  rw [List.length_map, hpl] at hR9
  rw [List.length_map, hpl]
  replace XM := Lib.hid (XM.out.turn T9 (by omega)); replace XR := Lib.hid (XR.out.turn T9 (by omega)); replace BT := BT.trans (T9.below BT.size (fun k hk e => by omega)); have c9 := XM.out.cell 3 _ rfl; have k9 := XM.out.free 3 (by simp); replace XM := Lib.hid (XM.out.set 3 (.slice q9 kv d9) (by simp)); replace XR := Lib.hid (XR.out.turn (Box.setTurn w9 w2.heap.size 3 (.slice q9 kv d9)) (by omega)); replace BT := BT.setCell (p := ⟨w2.heap.size, 3, none⟩) (Nat.le_of_lt zR) (.slice q9 kv d9)
  go_wp2_with fail
  have hRdT := Rd.turnM hRd9 (Box.setTurn w9 w2.heap.size 3 (.slice q9 kv d9)) (fun j hj e => by omega)
  have hRow : Hid (RowQ (w9.setCell ⟨w2.heap.size, 3, none⟩ (.slice q9 kv d9)) q9 kv ps) := Lib.hid (RowG.turn (S := fun k => k = w2.heap.size) hR9 (Box.setTurn _ _ _ _) (fun x e hs => by have := (hq9 x e).1; omega))
  have hoff : Hid (∀ x : Addr, q9 = some x → w.heap.size < x.block) := Lib.hid (fun x e => by have := (hq9 x e).1; omega)
  have HMAY := Lib.hid (fun W hr => mmay_any ⟨2, nv, mv, ps⟩ q9 kv d9 W okT.out hr)
  generalize hmm : mayM ⟨2, nv, mv, ps⟩ = bm at *
  replace hmm := Lib.hid hmm
  unfold msgV at HMAY
  simp only at HMAY
  clear hO9 hR9 hq9 hRd9 T9 hRd8 hg8 T8
  obtain ⟨w10, hw10⟩ : ∃ W, w9.setCell ⟨w2.heap.size, 3, none⟩ (.slice q9 kv d9) = W := ⟨_, rfl⟩
  rw [hw10] at hRdT XM XR BT hRow ⊢
  clear hw10 c9 k9
  have HE := Lib.hid (end_any g b7 x7 w10 hRdT); generalize hze : endOf b7 x7 = z at HE; replace hze := Lib.hid hze; refine HE.out.mono ?_; (rintro e w' ⟨rfl, rfl⟩); clear HE; (try clear c9 k9); by_cases z0 : z = 0; (· (subst z0; have m0 := XM.out.cell 0 _ rfl; have m1 := XM.out.cell 1 _ rfl; have m2 := XM.out.cell 2 _ rfl; have m3 := XM.out.cell 3 _ rfl; go_wp2_with fail; refine (HMAY.out _ hRow.out).mono ?_; (rintro e w6 ⟨rfl, hb6⟩); clear m0 m1 m2 m3; have B6 := BT.trans (hb6.mono BT.size); have XM6 := XM.out.below hb6; have XR6 := XR.out.below hb6; have hRow6 := Lib.hid (RowG.below hRow.out hb6); have m0 := XM6.cell 0 _ rfl; have m1 := XM6.cell 1 _ rfl; have m2 := XM6.cell 2 _ rfl; have m3 := XM6.cell 3 _ rfl; have r0 := XR6.cell 0 _ rfl; have r1 := XR6.cell 1 _ rfl; have r2 := XR6.cell 2 _ rfl; have r3 := XR6.cell 3 _ rfl; have k0 := XR6.free 0 (by simp); have k1 := XR6.free 1 (by simp); have k2 := XR6.free 2 (by simp); have k3 := XR6.free 3 (by simp); clear XM6 XR6; cases bm with | false => (go_wp2_with fail; exact bodyPost_ret (v := .tuple #[.agg #[.int .u8 0, .int .u64 0, .int .i64 0, .slice none 0 0], .int .i64 11]) (by simp [results, Tryd.results23, go_sem, r0, r1, r2, r3]) rfl (took_form hze.out hmm.out (by repeat (first | exact BT | exact B6 | with_reducible refine Below.setCell ?_ (by simp) _)))) | true => (go_wp2_with fail; exact bodyPost_ret (v := .tuple #[(.agg #[.int .u8 2, .int .u64 (nv : Int), .int .i64 mv, .slice q9 kv d9]), .int .i64 0]) (by simp [results, Tryd.results23, go_sem, r0, r1, r2, r3]) rfl (took_ok hze.out hmm.out (RowG.turn (S := fun k => k = w.heap.size) hRow6.out (Turn.set4 w6 w.heap.size _ _ _ _) (fun x e hs => by have := hoff.out x e; omega)) (by repeat (first | exact BT | exact B6 | with_reducible refine Below.setCell ?_ (by simp) _)))))); (· (have z1 : (z == 0) = false := (by rw [beq_eq_false_iff_ne]; exact z0); have r0 := XR.out.cell 0 _ rfl; have r1 := XR.out.cell 1 _ rfl; have r2 := XR.out.cell 2 _ rfl; have r3 := XR.out.cell 3 _ rfl; have k0 := XR.out.free 0 (by simp); have k1 := XR.out.free 1 (by simp); have k2 := XR.out.free 2 (by simp); have k3 := XR.out.free 3 (by simp); go_wp2_with fail; exact bodyPost_ret (v := .tuple #[.agg #[.int .u8 0, .int .u64 0, .int .i64 0, .slice none 0 0], .int .i64 z]) (by simp [results, Tryd.results23, go_sem, r0, r1, r2, r3]) rfl (took_end hze.out z0 (by repeat (first | exact BT | exact B6 | with_reducible refine Below.setCell ?_ (by simp) _)))))
/-- message.Take of any bytes -/
theorem mtake_any (k : UInt8) (q : Option Addr) (n c : Nat) (bs : List UInt8) (w : World) (h : RowB w q n c bs) (hl : n ≤ 1000000000) :
    Calls Tryd.prog 23 #[.int .u8 (k.toNat : Int), .slice q n c] w (TookM w (takeM k bs)) := by
  unfold takeM
  by_cases k1 : k = 1
  · subst k1
    rw [if_pos rfl]
    exact mtake1 q n c bs w h hl
  rw [if_neg k1]
  by_cases k2 : k = 2
  · subst k2
    rw [if_pos rfl]
    exact mtake2 q n c bs w h hl
  rw [if_neg k2]
  by_cases k3 : k = 3
  · subst k3
    rw [if_pos rfl]
    exact mtake3 q n c bs w h hl
  rw [if_neg k3]
  by_cases k4 : k = 4
  · subst k4
    rw [if_pos rfl]
    exact mtake4 q n c bs w h hl
  rw [if_neg k4]
  have n1 : k.toNat ≠ 1 := fun e => k1 (UInt8.toNat_inj.1 e)
  have n2 : k.toNat ≠ 2 := fun e => k2 (UInt8.toNat_inj.1 e)
  have n3 : k.toNat ≠ 3 := fun e => k3 (UInt8.toNat_inj.1 e)
  have n4 : k.toNat ≠ 4 := fun e => k4 (UInt8.toNat_inj.1 e)
  exact mtake_not k q n c w (by omega)
end Go.Proofs.YtfphffkgacajdaaDoor
/- lookoutref06.Take of kinds 1, 3, 4, and of none. -/
namespace Go.Proofs.YtfphffkgacajdaaDoor
open Go.RowKit Oct
set_option linter.unusedVariables false
set_option linter.unusedSimpArgs false
set_option maxHeartbeats 4000000
set_option maxRecDepth 20000
theorem rmtake_not (k : UInt8) (bs : List UInt8) (w : World) (hk : k.toNat < 1 ∨ 4 < k.toNat) :
    Calls Tryd.prog 24 #[.int .u8 (k.toNat : Int), .string ⟨bs.toArray⟩] w (TookM w (msg0, 1)) := by
  rcases hk with hk | hk
  · have h1 : (k.toNat : Int) < 1 := by omega
    generalize (k.toNat : Int) = kk at *
    go_enter Tryd.func24, Tryd.ntmps24
    go_wp2_with fail
    exact bodyPost_ret (v := .tuple #[.agg #[.int .u8 0, .int .u64 0, .int .i64 0, .slice none 0 0], .int .i64 1]) (by simp [results, Tryd.results24, go_sem]) rfl (took_arg (by repeat (first | with_reducible exact Below.refl _ _ | with_reducible refine Below.drew ?_ | with_reducible refine Below.alloc ?_ (by (try simp) <;> omega) _ | with_reducible refine Below.setCell ?_ (by (try simp) <;> omega) _)))
  · have h1 : ¬ (k.toNat : Int) < 1 := by omega
    have h2 : (4 : Int) < (k.toNat : Int) := by omega
    generalize (k.toNat : Int) = kk at *
    go_enter Tryd.func24, Tryd.ntmps24
    go_wp2_with fail
    exact bodyPost_ret (v := .tuple #[.agg #[.int .u8 0, .int .u64 0, .int .i64 0, .slice none 0 0], .int .i64 1]) (by simp [results, Tryd.results24, go_sem]) rfl (took_arg (by repeat (first | with_reducible exact Below.refl _ _ | with_reducible refine Below.drew ?_ | with_reducible refine Below.alloc ?_ (by (try simp) <;> omega) _ | with_reducible refine Below.setCell ?_ (by (try simp) <;> omega) _)))
theorem rmtake1 (bs : List UInt8) (w : World) (hl : bs.length ≤ 1000000) :
    Calls Tryd.prog 24 #[.int .u8 1, .string ⟨bs.toArray⟩] w (TookM w (finM ⟨1, (rNum bs 0).1, 0, []⟩ (rNum bs 0).2.1 (rNum bs 0).2.2)) := by
  go_enter Tryd.func24, Tryd.ntmps24
  go_wp2_with fail
  obtain ⟨W3, eW3⟩ : ∃ W, ((w.alloc (.cells #[.int .u8 0, .int .u64 0, .int .i64 0, .slice none 0 0] 28)).alloc (.cells #[.int .u8 1, .int .u64 0, .int .i64 0, .slice none 0 0] 28)).alloc (.cells #[.string ⟨bs.toArray⟩, .int .i64 0] 96) = W := ⟨_, rfl⟩; rw [eW3]; have BT : Below w.heap.size w W3 := (by rw [← eW3]; exact (((Below.refl _ _).alloc (Nat.le_refl _) _).alloc (by simp) _).alloc (by simp; omega) _); have XR : Hid (Box W3 w.heap.size [.int .u8 0, .int .u64 0, .int .i64 0, .slice none 0 0]) := Lib.hid (by rw [← eW3]; exact ((Box.new w _ _ _ rfl _ rfl).below ((Below.refl _ _).alloc (Nat.le_refl _) _)).below ((Below.refl _ _).alloc (Nat.le_refl _) _)); have XM : Hid (Box W3 (w.heap.size + 1) [.int .u8 1, .int .u64 0, .int .i64 0, .slice none 0 0]) := Lib.hid (by rw [← eW3]; exact (Box.new _ _ _ _ rfl _ (by simp)).below ((Below.refl _ _).alloc (Nat.le_refl _) _)); have XB : Hid (Box W3 (w.heap.size + 1 + 1) [.string ⟨bs.toArray⟩, .int .i64 0]) := Lib.hid (by rw [← eW3]; exact Box.new _ _ _ _ rfl _ (by simp)); clear eW3
  have hnl := rNum_lt bs 0
  have HN := fun W => rread_any bs 0 hl W
  unfold rV at HN
  generalize rNum bs 0 = rn at *
  obtain ⟨nv, b4, x4⟩ := rn
  simp only at *
  replace HN := Lib.hid HN
  have okT := Lib.hid (ok_nil 1 nv 0 (by omega) (by omega))
  refine (HN.out _).mono ?_; rintro e w4 ⟨rfl, hb4⟩
  replace XM := Lib.hid (XM.out.below hb4); replace XR := Lib.hid (XR.out.below hb4); replace XB := Lib.hid (XB.out.below hb4); replace BT := BT.trans ((hb4).mono BT.size); have zB := XB.out.lt; have zM := XM.out.lt; have zR := XR.out.lt; have c9 := XM.out.cell 1 _ rfl; have k9 := XM.out.free 1 (by simp); have d0 := XB.out.cell 0 _ rfl; have d1 := XB.out.cell 1 _ rfl; have l0 := XB.out.free 0 (by simp); have l1 := XB.out.free 1 (by simp); go_wp2_with fail; replace XM := Lib.hid (((XM.out.set 1 (.int .u64 (nv : Int)) (by simp)).turn (Box.setTurn _ (w.heap.size + 1 + 1) 0 (.string ⟨b4.toArray⟩)) (by omega)).turn (Box.setTurn _ (w.heap.size + 1 + 1) 1 (.int .i64 x4)) (by omega)); replace XR := Lib.hid (((XR.out.turn (Box.setTurn _ (w.heap.size + 1) 1 (.int .u64 (nv : Int))) (by omega)).turn (Box.setTurn _ (w.heap.size + 1 + 1) 0 (.string ⟨b4.toArray⟩)) (by omega)).turn (Box.setTurn _ (w.heap.size + 1 + 1) 1 (.int .i64 x4)) (by omega)); replace XB := Lib.hid (((XB.out.turn (Box.setTurn _ (w.heap.size + 1) 1 (.int .u64 (nv : Int))) (by omega)).set 0 (.string ⟨b4.toArray⟩) (by simp)).set 1 (.int .i64 x4) (by simp)); replace BT := ((BT.setCell (p := ⟨w.heap.size + 1, 1, none⟩) (by simp) (.int .u64 (nv : Int))).setCell (p := ⟨w.heap.size + 1 + 1, 0, none⟩) (by simp; omega) (.string ⟨b4.toArray⟩)).setCell (p := ⟨w.heap.size + 1 + 1, 1, none⟩) (by simp; omega) (.int .i64 x4); replace XM := Lib.hid (XM.out.below ((Below.refl _ (((w4.setCell ⟨w.heap.size + 1, 1, none⟩ (.int .u64 (nv : Int))).setCell ⟨w.heap.size + 1 + 1, 0, none⟩ (.string ⟨b4.toArray⟩)).setCell ⟨w.heap.size + 1 + 1, 1, none⟩ (.int .i64 x4))).alloc (Nat.le_refl _) (.cells #[.string ⟨b4.toArray⟩, .int .i64 x4] 96))); replace XR := Lib.hid (XR.out.below ((Below.refl _ (((w4.setCell ⟨w.heap.size + 1, 1, none⟩ (.int .u64 (nv : Int))).setCell ⟨w.heap.size + 1 + 1, 0, none⟩ (.string ⟨b4.toArray⟩)).setCell ⟨w.heap.size + 1 + 1, 1, none⟩ (.int .i64 x4))).alloc (Nat.le_refl _) (.cells #[.string ⟨b4.toArray⟩, .int .i64 x4] 96))); replace XB := Lib.hid (XB.out.below ((Below.refl _ (((w4.setCell ⟨w.heap.size + 1, 1, none⟩ (.int .u64 (nv : Int))).setCell ⟨w.heap.size + 1 + 1, 0, none⟩ (.string ⟨b4.toArray⟩)).setCell ⟨w.heap.size + 1 + 1, 1, none⟩ (.int .i64 x4))).alloc (Nat.le_refl _) (.cells #[.string ⟨b4.toArray⟩, .int .i64 x4] 96))); replace BT := BT.trans ((((Below.refl _ (((w4.setCell ⟨w.heap.size + 1, 1, none⟩ (.int .u64 (nv : Int))).setCell ⟨w.heap.size + 1 + 1, 0, none⟩ (.string ⟨b4.toArray⟩)).setCell ⟨w.heap.size + 1 + 1, 1, none⟩ (.int .i64 x4))).alloc (Nat.le_refl _) (.cells #[.string ⟨b4.toArray⟩, .int .i64 x4] 96))).mono BT.size); obtain ⟨w5, ew5⟩ : ∃ W, ((((w4.setCell ⟨w.heap.size + 1, 1, none⟩ (.int .u64 (nv : Int))).setCell ⟨w.heap.size + 1 + 1, 0, none⟩ (.string ⟨b4.toArray⟩)).setCell ⟨w.heap.size + 1 + 1, 1, none⟩ (.int .i64 x4)).alloc (.cells #[.string ⟨b4.toArray⟩, .int .i64 x4] 96)) = W := ⟨_, rfl⟩; rw [ew5] at XM XR XB BT ⊢; clear ew5 c9 k9 d0 d1 l0 l1 zB zM zR
  have hRow : Hid (RowQ w5 none 0 []) := Lib.hid (RowQ.nil _)
  have hoff : Hid (∀ x : Addr, (none : Option Addr) = some x → w.heap.size < x.block) := Lib.hid (fun x e => by cases e)
  have HMAY := Lib.hid (fun W hr => rmmay_any ⟨1, nv, 0, []⟩ none 0 0 W okT.out hr)
  generalize hmm : mayM ⟨1, nv, 0, []⟩ = bm at *
  replace hmm := Lib.hid hmm
  unfold msgV at HMAY
  simp only at HMAY
  have HE := fun W => rend_any b4 x4 W; unfold rV at HE; generalize hze : endOf b4 x4 = z at HE; replace hze := Lib.hid hze; replace HE := Lib.hid HE; refine (HE.out _).mono ?_; (rintro e w6 ⟨rfl, hb6⟩); clear HE; replace XM := Lib.hid (XM.out.below hb6); replace XR := Lib.hid (XR.out.below hb6); replace XB := Lib.hid (XB.out.below hb6); replace BT := BT.trans ((hb6).mono BT.size); replace hRow := Lib.hid (RowG.below hRow.out hb6); by_cases z0 : z = 0; (· (subst z0; have m0 := XM.out.cell 0 _ rfl; have m1 := XM.out.cell 1 _ rfl; have m2 := XM.out.cell 2 _ rfl; have m3 := XM.out.cell 3 _ rfl; go_wp2_with fail; refine (HMAY.out _ hRow.out).mono ?_; (rintro e w7 ⟨rfl, hb7⟩); clear m0 m1 m2 m3; have B7 := BT.trans (hb7.mono BT.size); have XM6 := XM.out.below hb7; have XR6 := XR.out.below hb7; have hRow6 := Lib.hid (RowG.below hRow.out hb7); have m0 := XM6.cell 0 _ rfl; have m1 := XM6.cell 1 _ rfl; have m2 := XM6.cell 2 _ rfl; have m3 := XM6.cell 3 _ rfl; have r0 := XR6.cell 0 _ rfl; have r1 := XR6.cell 1 _ rfl; have r2 := XR6.cell 2 _ rfl; have r3 := XR6.cell 3 _ rfl; have k0 := XR6.free 0 (by simp); have k1 := XR6.free 1 (by simp); have k2 := XR6.free 2 (by simp); have k3 := XR6.free 3 (by simp); clear XM6 XR6; cases bm with | false => (go_wp2_with fail; exact bodyPost_ret (v := .tuple #[.agg #[.int .u8 0, .int .u64 0, .int .i64 0, .slice none 0 0], .int .i64 11]) (by simp [results, Tryd.results24, go_sem, r0, r1, r2, r3]) rfl (took_form hze.out hmm.out (by repeat (first | exact BT | exact B7 | with_reducible refine Below.setCell ?_ (by simp) _)))) | true => (go_wp2_with fail; exact bodyPost_ret (v := .tuple #[(.agg #[.int .u8 1, .int .u64 (nv : Int), .int .i64 0, .slice none 0 0]), .int .i64 0]) (by simp [results, Tryd.results24, go_sem, r0, r1, r2, r3]) rfl (took_ok hze.out hmm.out (RowG.turn (S := fun k => k = w.heap.size) hRow6.out (Turn.set4 w7 w.heap.size _ _ _ _) (fun x e hs => by have := hoff.out x e; omega)) (by repeat (first | exact BT | exact B7 | with_reducible refine Below.setCell ?_ (by simp) _)))))); (· (have z1 : (z == 0) = false := (by rw [beq_eq_false_iff_ne]; exact z0); have r0 := XR.out.cell 0 _ rfl; have r1 := XR.out.cell 1 _ rfl; have r2 := XR.out.cell 2 _ rfl; have r3 := XR.out.cell 3 _ rfl; have k0 := XR.out.free 0 (by simp); have k1 := XR.out.free 1 (by simp); have k2 := XR.out.free 2 (by simp); have k3 := XR.out.free 3 (by simp); go_wp2_with fail; exact bodyPost_ret (v := .tuple #[.agg #[.int .u8 0, .int .u64 0, .int .i64 0, .slice none 0 0], .int .i64 z]) (by simp [results, Tryd.results24, go_sem, r0, r1, r2, r3]) rfl (took_end hze.out z0 (by repeat (first | exact BT | exact B7 | with_reducible refine Below.setCell ?_ (by simp) _)))))
theorem rmtake3 (bs : List UInt8) (w : World) (hl : bs.length ≤ 1000000) :
    Calls Tryd.prog 24 #[.int .u8 3, .string ⟨bs.toArray⟩] w (TookM w (finM ⟨3, 0, (rMom bs 0).1, []⟩ (rMom bs 0).2.1 (rMom bs 0).2.2)) := by
  go_enter Tryd.func24, Tryd.ntmps24
  go_wp2_with fail
  obtain ⟨W3, eW3⟩ : ∃ W, ((w.alloc (.cells #[.int .u8 0, .int .u64 0, .int .i64 0, .slice none 0 0] 28)).alloc (.cells #[.int .u8 3, .int .u64 0, .int .i64 0, .slice none 0 0] 28)).alloc (.cells #[.string ⟨bs.toArray⟩, .int .i64 0] 96) = W := ⟨_, rfl⟩; rw [eW3]; have BT : Below w.heap.size w W3 := (by rw [← eW3]; exact (((Below.refl _ _).alloc (Nat.le_refl _) _).alloc (by simp) _).alloc (by simp; omega) _); have XR : Hid (Box W3 w.heap.size [.int .u8 0, .int .u64 0, .int .i64 0, .slice none 0 0]) := Lib.hid (by rw [← eW3]; exact ((Box.new w _ _ _ rfl _ rfl).below ((Below.refl _ _).alloc (Nat.le_refl _) _)).below ((Below.refl _ _).alloc (Nat.le_refl _) _)); have XM : Hid (Box W3 (w.heap.size + 1) [.int .u8 3, .int .u64 0, .int .i64 0, .slice none 0 0]) := Lib.hid (by rw [← eW3]; exact (Box.new _ _ _ _ rfl _ (by simp)).below ((Below.refl _ _).alloc (Nat.le_refl _) _)); have XB : Hid (Box W3 (w.heap.size + 1 + 1) [.string ⟨bs.toArray⟩, .int .i64 0]) := Lib.hid (by rw [← eW3]; exact Box.new _ _ _ _ rfl _ (by simp)); clear eW3
  have hnl := rMom_range bs 0
  have HN := fun W => rmoment_any bs 0 hl W
  unfold rV at HN
  generalize rMom bs 0 = rn at *
  obtain ⟨nv, b4, x4⟩ := rn
  simp only at *
  replace HN := Lib.hid HN
  have okT := Lib.hid (ok_nil 3 0 nv (by omega) (by omega))
  refine (HN.out _).mono ?_; rintro e w4 ⟨rfl, hb4⟩
  replace XM := Lib.hid (XM.out.below hb4); replace XR := Lib.hid (XR.out.below hb4); replace XB := Lib.hid (XB.out.below hb4); replace BT := BT.trans ((hb4).mono BT.size); have zB := XB.out.lt; have zM := XM.out.lt; have zR := XR.out.lt; have c9 := XM.out.cell 2 _ rfl; have k9 := XM.out.free 2 (by simp); have d0 := XB.out.cell 0 _ rfl; have d1 := XB.out.cell 1 _ rfl; have l0 := XB.out.free 0 (by simp); have l1 := XB.out.free 1 (by simp); go_wp2_with fail; replace XM := Lib.hid (((XM.out.set 2 (.int .i64 nv) (by simp)).turn (Box.setTurn _ (w.heap.size + 1 + 1) 0 (.string ⟨b4.toArray⟩)) (by omega)).turn (Box.setTurn _ (w.heap.size + 1 + 1) 1 (.int .i64 x4)) (by omega)); replace XR := Lib.hid (((XR.out.turn (Box.setTurn _ (w.heap.size + 1) 2 (.int .i64 nv)) (by omega)).turn (Box.setTurn _ (w.heap.size + 1 + 1) 0 (.string ⟨b4.toArray⟩)) (by omega)).turn (Box.setTurn _ (w.heap.size + 1 + 1) 1 (.int .i64 x4)) (by omega)); replace XB := Lib.hid (((XB.out.turn (Box.setTurn _ (w.heap.size + 1) 2 (.int .i64 nv)) (by omega)).set 0 (.string ⟨b4.toArray⟩) (by simp)).set 1 (.int .i64 x4) (by simp)); replace BT := ((BT.setCell (p := ⟨w.heap.size + 1, 2, none⟩) (by simp) (.int .i64 nv)).setCell (p := ⟨w.heap.size + 1 + 1, 0, none⟩) (by simp; omega) (.string ⟨b4.toArray⟩)).setCell (p := ⟨w.heap.size + 1 + 1, 1, none⟩) (by simp; omega) (.int .i64 x4); replace XM := Lib.hid (XM.out.below ((Below.refl _ (((w4.setCell ⟨w.heap.size + 1, 2, none⟩ (.int .i64 nv)).setCell ⟨w.heap.size + 1 + 1, 0, none⟩ (.string ⟨b4.toArray⟩)).setCell ⟨w.heap.size + 1 + 1, 1, none⟩ (.int .i64 x4))).alloc (Nat.le_refl _) (.cells #[.string ⟨b4.toArray⟩, .int .i64 x4] 96))); replace XR := Lib.hid (XR.out.below ((Below.refl _ (((w4.setCell ⟨w.heap.size + 1, 2, none⟩ (.int .i64 nv)).setCell ⟨w.heap.size + 1 + 1, 0, none⟩ (.string ⟨b4.toArray⟩)).setCell ⟨w.heap.size + 1 + 1, 1, none⟩ (.int .i64 x4))).alloc (Nat.le_refl _) (.cells #[.string ⟨b4.toArray⟩, .int .i64 x4] 96))); replace XB := Lib.hid (XB.out.below ((Below.refl _ (((w4.setCell ⟨w.heap.size + 1, 2, none⟩ (.int .i64 nv)).setCell ⟨w.heap.size + 1 + 1, 0, none⟩ (.string ⟨b4.toArray⟩)).setCell ⟨w.heap.size + 1 + 1, 1, none⟩ (.int .i64 x4))).alloc (Nat.le_refl _) (.cells #[.string ⟨b4.toArray⟩, .int .i64 x4] 96))); replace BT := BT.trans ((((Below.refl _ (((w4.setCell ⟨w.heap.size + 1, 2, none⟩ (.int .i64 nv)).setCell ⟨w.heap.size + 1 + 1, 0, none⟩ (.string ⟨b4.toArray⟩)).setCell ⟨w.heap.size + 1 + 1, 1, none⟩ (.int .i64 x4))).alloc (Nat.le_refl _) (.cells #[.string ⟨b4.toArray⟩, .int .i64 x4] 96))).mono BT.size); obtain ⟨w5, ew5⟩ : ∃ W, ((((w4.setCell ⟨w.heap.size + 1, 2, none⟩ (.int .i64 nv)).setCell ⟨w.heap.size + 1 + 1, 0, none⟩ (.string ⟨b4.toArray⟩)).setCell ⟨w.heap.size + 1 + 1, 1, none⟩ (.int .i64 x4)).alloc (.cells #[.string ⟨b4.toArray⟩, .int .i64 x4] 96)) = W := ⟨_, rfl⟩; rw [ew5] at XM XR XB BT ⊢; clear ew5 c9 k9 d0 d1 l0 l1 zB zM zR
  have hRow : Hid (RowQ w5 none 0 []) := Lib.hid (RowQ.nil _)
  have hoff : Hid (∀ x : Addr, (none : Option Addr) = some x → w.heap.size < x.block) := Lib.hid (fun x e => by cases e)
  have HMAY := Lib.hid (fun W hr => rmmay_any ⟨3, 0, nv, []⟩ none 0 0 W okT.out hr)
  generalize hmm : mayM ⟨3, 0, nv, []⟩ = bm at *
  replace hmm := Lib.hid hmm
  unfold msgV at HMAY
  simp only at HMAY
  have HE := fun W => rend_any b4 x4 W; unfold rV at HE; generalize hze : endOf b4 x4 = z at HE; replace hze := Lib.hid hze; replace HE := Lib.hid HE; refine (HE.out _).mono ?_; (rintro e w6 ⟨rfl, hb6⟩); clear HE; replace XM := Lib.hid (XM.out.below hb6); replace XR := Lib.hid (XR.out.below hb6); replace XB := Lib.hid (XB.out.below hb6); replace BT := BT.trans ((hb6).mono BT.size); replace hRow := Lib.hid (RowG.below hRow.out hb6); by_cases z0 : z = 0; (· (subst z0; have m0 := XM.out.cell 0 _ rfl; have m1 := XM.out.cell 1 _ rfl; have m2 := XM.out.cell 2 _ rfl; have m3 := XM.out.cell 3 _ rfl; go_wp2_with fail; refine (HMAY.out _ hRow.out).mono ?_; (rintro e w7 ⟨rfl, hb7⟩); clear m0 m1 m2 m3; have B7 := BT.trans (hb7.mono BT.size); have XM6 := XM.out.below hb7; have XR6 := XR.out.below hb7; have hRow6 := Lib.hid (RowG.below hRow.out hb7); have m0 := XM6.cell 0 _ rfl; have m1 := XM6.cell 1 _ rfl; have m2 := XM6.cell 2 _ rfl; have m3 := XM6.cell 3 _ rfl; have r0 := XR6.cell 0 _ rfl; have r1 := XR6.cell 1 _ rfl; have r2 := XR6.cell 2 _ rfl; have r3 := XR6.cell 3 _ rfl; have k0 := XR6.free 0 (by simp); have k1 := XR6.free 1 (by simp); have k2 := XR6.free 2 (by simp); have k3 := XR6.free 3 (by simp); clear XM6 XR6; cases bm with | false => (go_wp2_with fail; exact bodyPost_ret (v := .tuple #[.agg #[.int .u8 0, .int .u64 0, .int .i64 0, .slice none 0 0], .int .i64 11]) (by simp [results, Tryd.results24, go_sem, r0, r1, r2, r3]) rfl (took_form hze.out hmm.out (by repeat (first | exact BT | exact B7 | with_reducible refine Below.setCell ?_ (by simp) _)))) | true => (go_wp2_with fail; exact bodyPost_ret (v := .tuple #[(.agg #[.int .u8 3, .int .u64 0, .int .i64 nv, .slice none 0 0]), .int .i64 0]) (by simp [results, Tryd.results24, go_sem, r0, r1, r2, r3]) rfl (took_ok hze.out hmm.out (RowG.turn (S := fun k => k = w.heap.size) hRow6.out (Turn.set4 w7 w.heap.size _ _ _ _) (fun x e hs => by have := hoff.out x e; omega)) (by repeat (first | exact BT | exact B7 | with_reducible refine Below.setCell ?_ (by simp) _)))))); (· (have z1 : (z == 0) = false := (by rw [beq_eq_false_iff_ne]; exact z0); have r0 := XR.out.cell 0 _ rfl; have r1 := XR.out.cell 1 _ rfl; have r2 := XR.out.cell 2 _ rfl; have r3 := XR.out.cell 3 _ rfl; have k0 := XR.out.free 0 (by simp); have k1 := XR.out.free 1 (by simp); have k2 := XR.out.free 2 (by simp); have k3 := XR.out.free 3 (by simp); go_wp2_with fail; exact bodyPost_ret (v := .tuple #[.agg #[.int .u8 0, .int .u64 0, .int .i64 0, .slice none 0 0], .int .i64 z]) (by simp [results, Tryd.results24, go_sem, r0, r1, r2, r3]) rfl (took_end hze.out z0 (by repeat (first | exact BT | exact B7 | with_reducible refine Below.setCell ?_ (by simp) _)))))
theorem rmtake4 (bs : List UInt8) (w : World) (hl : bs.length ≤ 1000000) :
    Calls Tryd.prog 24 #[.int .u8 4, .string ⟨bs.toArray⟩] w (TookM w (finM ⟨4, 0, 0, []⟩ bs 0)) := by
  go_enter Tryd.func24, Tryd.ntmps24
  go_wp2_with fail
  obtain ⟨W3, eW3⟩ : ∃ W, ((w.alloc (.cells #[.int .u8 0, .int .u64 0, .int .i64 0, .slice none 0 0] 28)).alloc (.cells #[.int .u8 4, .int .u64 0, .int .i64 0, .slice none 0 0] 28)).alloc (.cells #[.string ⟨bs.toArray⟩, .int .i64 0] 96) = W := ⟨_, rfl⟩; rw [eW3]; have BT : Below w.heap.size w W3 := (by rw [← eW3]; exact (((Below.refl _ _).alloc (Nat.le_refl _) _).alloc (by simp) _).alloc (by simp; omega) _); have XR : Hid (Box W3 w.heap.size [.int .u8 0, .int .u64 0, .int .i64 0, .slice none 0 0]) := Lib.hid (by rw [← eW3]; exact ((Box.new w _ _ _ rfl _ rfl).below ((Below.refl _ _).alloc (Nat.le_refl _) _)).below ((Below.refl _ _).alloc (Nat.le_refl _) _)); have XM : Hid (Box W3 (w.heap.size + 1) [.int .u8 4, .int .u64 0, .int .i64 0, .slice none 0 0]) := Lib.hid (by rw [← eW3]; exact (Box.new _ _ _ _ rfl _ (by simp)).below ((Below.refl _ _).alloc (Nat.le_refl _) _)); have XB : Hid (Box W3 (w.heap.size + 1 + 1) [.string ⟨bs.toArray⟩, .int .i64 0]) := Lib.hid (by rw [← eW3]; exact Box.new _ _ _ _ rfl _ (by simp)); clear eW3
  have okT := Lib.hid (ok_nil 4 0 0 (by omega) (by omega))
  have hRow : Hid (RowQ W3 none 0 []) := Lib.hid (RowQ.nil _)
  have hoff : Hid (∀ x : Addr, (none : Option Addr) = some x → w.heap.size < x.block) := Lib.hid (fun x e => by cases e)
  have HMAY := Lib.hid (fun W hr => rmmay_any ⟨4, 0, 0, []⟩ none 0 0 W okT.out hr)
  generalize hmm : mayM ⟨4, 0, 0, []⟩ = bm at *
  replace hmm := Lib.hid hmm
  unfold msgV at HMAY
  simp only at HMAY
  have HE := fun W => rend_any bs 0 W; unfold rV at HE; generalize hze : endOf bs 0 = z at HE; replace hze := Lib.hid hze; replace HE := Lib.hid HE; refine (HE.out _).mono ?_; (rintro e w6 ⟨rfl, hb6⟩); clear HE; replace XM := Lib.hid (XM.out.below hb6); replace XR := Lib.hid (XR.out.below hb6); replace XB := Lib.hid (XB.out.below hb6); replace BT := BT.trans ((hb6).mono BT.size); replace hRow := Lib.hid (RowG.below hRow.out hb6); by_cases z0 : z = 0; (· (subst z0; have m0 := XM.out.cell 0 _ rfl; have m1 := XM.out.cell 1 _ rfl; have m2 := XM.out.cell 2 _ rfl; have m3 := XM.out.cell 3 _ rfl; go_wp2_with fail; refine (HMAY.out _ hRow.out).mono ?_; (rintro e w7 ⟨rfl, hb7⟩); clear m0 m1 m2 m3; have B7 := BT.trans (hb7.mono BT.size); have XM6 := XM.out.below hb7; have XR6 := XR.out.below hb7; have hRow6 := Lib.hid (RowG.below hRow.out hb7); have m0 := XM6.cell 0 _ rfl; have m1 := XM6.cell 1 _ rfl; have m2 := XM6.cell 2 _ rfl; have m3 := XM6.cell 3 _ rfl; have r0 := XR6.cell 0 _ rfl; have r1 := XR6.cell 1 _ rfl; have r2 := XR6.cell 2 _ rfl; have r3 := XR6.cell 3 _ rfl; have k0 := XR6.free 0 (by simp); have k1 := XR6.free 1 (by simp); have k2 := XR6.free 2 (by simp); have k3 := XR6.free 3 (by simp); clear XM6 XR6; cases bm with | false => (go_wp2_with fail; exact bodyPost_ret (v := .tuple #[.agg #[.int .u8 0, .int .u64 0, .int .i64 0, .slice none 0 0], .int .i64 11]) (by simp [results, Tryd.results24, go_sem, r0, r1, r2, r3]) rfl (took_form hze.out hmm.out (by repeat (first | exact BT | exact B7 | with_reducible refine Below.setCell ?_ (by simp) _)))) | true => (go_wp2_with fail; exact bodyPost_ret (v := .tuple #[(.agg #[.int .u8 4, .int .u64 0, .int .i64 0, .slice none 0 0]), .int .i64 0]) (by simp [results, Tryd.results24, go_sem, r0, r1, r2, r3]) rfl (took_ok hze.out hmm.out (RowG.turn (S := fun k => k = w.heap.size) hRow6.out (Turn.set4 w7 w.heap.size _ _ _ _) (fun x e hs => by have := hoff.out x e; omega)) (by repeat (first | exact BT | exact B7 | with_reducible refine Below.setCell ?_ (by simp) _)))))); (· (have z1 : (z == 0) = false := (by rw [beq_eq_false_iff_ne]; exact z0); have r0 := XR.out.cell 0 _ rfl; have r1 := XR.out.cell 1 _ rfl; have r2 := XR.out.cell 2 _ rfl; have r3 := XR.out.cell 3 _ rfl; have k0 := XR.out.free 0 (by simp); have k1 := XR.out.free 1 (by simp); have k2 := XR.out.free 2 (by simp); have k3 := XR.out.free 3 (by simp); go_wp2_with fail; exact bodyPost_ret (v := .tuple #[.agg #[.int .u8 0, .int .u64 0, .int .i64 0, .slice none 0 0], .int .i64 z]) (by simp [results, Tryd.results24, go_sem, r0, r1, r2, r3]) rfl (took_end hze.out z0 (by repeat (first | exact BT | exact B7 | with_reducible refine Below.setCell ?_ (by simp) _)))))
end Go.Proofs.YtfphffkgacajdaaDoor
/- lookoutref06.Take of an event; of any bytes. -/
namespace Go.Proofs.YtfphffkgacajdaaDoor
open Go.RowKit Oct
set_option linter.unusedVariables false
set_option linter.unusedSimpArgs false
set_option maxHeartbeats 4000000
set_option maxRecDepth 20000
theorem rMom_leM (bs : List UInt8) (e : Int) : (rMom bs e).2.1.length ≤ bs.length := by
  have := rNum_le bs e
  unfold rMom
  split
  · simp
  · exact this
theorem rText_leM (bs : List UInt8) (e most : Int) : (rText bs e most).2.1.length ≤ bs.length := by
  have := rNum_le bs e
  unfold rText
  split
  · exact this
  · split
    · simp
    · split
      · simp
      · simp only [List.length_drop]; omega
theorem propsR_le (bs : List UInt8) (e : Int) : ∀ k, (propsR bs e k).2.1.length ≤ bs.length
  | 0 => Nat.le_refl _
  | k + 1 => Nat.le_trans (Nat.le_trans (rNum_le _ _) (rText_leM _ _ _)) (propsR_le bs e k)
theorem rNum_err (bs : List UInt8) (e : Int) (h : (rNum bs e).1 ≠ 0) : (rNum bs e).2.2 = 0 := by
  unfold rNum at h ⊢
  split
  · rename_i h1; rw [if_pos h1] at h; exact absurd rfl h
  · rename_i h1; rw [if_neg h1] at h
    split
    · rename_i h2; rw [if_pos h2] at h; exact absurd rfl h
    · rfl
theorem rmtake2 (bs : List UInt8) (w : World) (hl : bs.length ≤ 1000000) :
    Calls Tryd.prog 24 #[.int .u8 2, .string ⟨bs.toArray⟩] w (TookM w (take2 bs)) := by
  have h2 : take2 bs = if 8 < (evR bs).2.2.1 then (msg0, 13)
    else finM ⟨2, (evR bs).1, (evR bs).2.1, (propsR (evR bs).2.2.2.1 (evR bs).2.2.2.2 (evR bs).2.2.1).1⟩ (propsR (evR bs).2.2.2.1 (evR bs).2.2.2.2 (evR bs).2.2.1).2.1 (propsR (evR bs).2.2.2.1 (evR bs).2.2.2.2 (evR bs).2.2.1).2.2 := rfl
  generalize take2 bs = res at *
  have hev : evR bs = ((rNum bs 0).1, (rMom (rNum bs 0).2.1 (rNum bs 0).2.2).1, (rNum (rMom (rNum bs 0).2.1 (rNum bs 0).2.2).2.1 (rMom (rNum bs 0).2.1 (rNum bs 0).2.2).2.2).1, (rNum (rMom (rNum bs 0).2.1 (rNum bs 0).2.2).2.1 (rMom (rNum bs 0).2.1 (rNum bs 0).2.2).2.2).2) := rfl
  generalize evR bs = ev at *
  replace h2 := Lib.hid h2
  replace hev := Lib.hid hev
  go_enter Tryd.func24, Tryd.ntmps24
  go_wp2_with fail
  obtain ⟨W3, eW3⟩ : ∃ W, ((w.alloc (.cells #[.int .u8 0, .int .u64 0, .int .i64 0, .slice none 0 0] 28)).alloc (.cells #[.int .u8 2, .int .u64 0, .int .i64 0, .slice none 0 0] 28)).alloc (.cells #[.string ⟨bs.toArray⟩, .int .i64 0] 96) = W := ⟨_, rfl⟩; rw [eW3]; have BT : Below w.heap.size w W3 := (by rw [← eW3]; exact (((Below.refl _ _).alloc (Nat.le_refl _) _).alloc (by simp) _).alloc (by simp; omega) _); have XR : Hid (Box W3 w.heap.size [.int .u8 0, .int .u64 0, .int .i64 0, .slice none 0 0]) := Lib.hid (by rw [← eW3]; exact ((Box.new w _ _ _ rfl _ rfl).below ((Below.refl _ _).alloc (Nat.le_refl _) _)).below ((Below.refl _ _).alloc (Nat.le_refl _) _)); have XM : Hid (Box W3 (w.heap.size + 1) [.int .u8 2, .int .u64 0, .int .i64 0, .slice none 0 0]) := Lib.hid (by rw [← eW3]; exact (Box.new _ _ _ _ rfl _ (by simp)).below ((Below.refl _ _).alloc (Nat.le_refl _) _)); have XB : Hid (Box W3 (w.heap.size + 1 + 1) [.string ⟨bs.toArray⟩, .int .i64 0]) := Lib.hid (by rw [← eW3]; exact Box.new _ _ _ _ rfl _ (by simp)); clear eW3
  replace h2 := h2.out
  replace hev := hev.out
  have hnl := rNum_lt bs 0
  have HN := fun W => rread_any bs 0 hl W
  unfold rV at HN
  have q4 := rNum_le bs 0
  generalize rNum bs 0 = rn at *
  obtain ⟨nv, b4, x4⟩ := rn
  simp only at *
  replace HN := Lib.hid HN
  have hml := rMom_range b4 x4
  have HMM := fun W => rmoment_any b4 x4 (by omega) W
  unfold rV at HMM
  have q5 := rMom_leM b4 x4
  generalize rMom b4 x4 = rm at *
  obtain ⟨mv, b5, x5⟩ := rm
  simp only at *
  replace HMM := Lib.hid HMM
  have hkl := rNum_lt b5 x5
  have hke := rNum_err b5 x5
  have HN2 := fun W => rread_any b5 x5 (by omega) W
  unfold rV at HN2
  have q6 := rNum_le b5 x5
  generalize rNum b5 x5 = rk at *
  obtain ⟨kv, b6, x6⟩ := rk
  simp only at *
  replace HN2 := Lib.hid HN2
  replace hke := Lib.hid hke
  subst hev
  simp only at h2
  replace h2 := Lib.hid h2
  refine (HN.out _).mono ?_; rintro e w4 ⟨rfl, hb4⟩
  replace XM := Lib.hid (XM.out.below hb4); replace XR := Lib.hid (XR.out.below hb4); replace XB := Lib.hid (XB.out.below hb4); replace BT := BT.trans ((hb4).mono BT.size); have zB := XB.out.lt; have zM := XM.out.lt; have zR := XR.out.lt; have c9 := XM.out.cell 1 _ rfl; have k9 := XM.out.free 1 (by simp); have d0 := XB.out.cell 0 _ rfl; have d1 := XB.out.cell 1 _ rfl; have l0 := XB.out.free 0 (by simp); have l1 := XB.out.free 1 (by simp); go_wp2_with fail; replace XM := Lib.hid (((XM.out.set 1 (.int .u64 (nv : Int)) (by simp)).turn (Box.setTurn _ (w.heap.size + 1 + 1) 0 (.string ⟨b4.toArray⟩)) (by omega)).turn (Box.setTurn _ (w.heap.size + 1 + 1) 1 (.int .i64 x4)) (by omega)); replace XR := Lib.hid (((XR.out.turn (Box.setTurn _ (w.heap.size + 1) 1 (.int .u64 (nv : Int))) (by omega)).turn (Box.setTurn _ (w.heap.size + 1 + 1) 0 (.string ⟨b4.toArray⟩)) (by omega)).turn (Box.setTurn _ (w.heap.size + 1 + 1) 1 (.int .i64 x4)) (by omega)); replace XB := Lib.hid (((XB.out.turn (Box.setTurn _ (w.heap.size + 1) 1 (.int .u64 (nv : Int))) (by omega)).set 0 (.string ⟨b4.toArray⟩) (by simp)).set 1 (.int .i64 x4) (by simp)); replace BT := ((BT.setCell (p := ⟨w.heap.size + 1, 1, none⟩) (by simp) (.int .u64 (nv : Int))).setCell (p := ⟨w.heap.size + 1 + 1, 0, none⟩) (by simp; omega) (.string ⟨b4.toArray⟩)).setCell (p := ⟨w.heap.size + 1 + 1, 1, none⟩) (by simp; omega) (.int .i64 x4); replace XM := Lib.hid (XM.out.below ((Below.refl _ (((w4.setCell ⟨w.heap.size + 1, 1, none⟩ (.int .u64 (nv : Int))).setCell ⟨w.heap.size + 1 + 1, 0, none⟩ (.string ⟨b4.toArray⟩)).setCell ⟨w.heap.size + 1 + 1, 1, none⟩ (.int .i64 x4))).alloc (Nat.le_refl _) (.cells #[.string ⟨b4.toArray⟩, .int .i64 x4] 96))); replace XR := Lib.hid (XR.out.below ((Below.refl _ (((w4.setCell ⟨w.heap.size + 1, 1, none⟩ (.int .u64 (nv : Int))).setCell ⟨w.heap.size + 1 + 1, 0, none⟩ (.string ⟨b4.toArray⟩)).setCell ⟨w.heap.size + 1 + 1, 1, none⟩ (.int .i64 x4))).alloc (Nat.le_refl _) (.cells #[.string ⟨b4.toArray⟩, .int .i64 x4] 96))); replace XB := Lib.hid (XB.out.below ((Below.refl _ (((w4.setCell ⟨w.heap.size + 1, 1, none⟩ (.int .u64 (nv : Int))).setCell ⟨w.heap.size + 1 + 1, 0, none⟩ (.string ⟨b4.toArray⟩)).setCell ⟨w.heap.size + 1 + 1, 1, none⟩ (.int .i64 x4))).alloc (Nat.le_refl _) (.cells #[.string ⟨b4.toArray⟩, .int .i64 x4] 96))); replace BT := BT.trans ((((Below.refl _ (((w4.setCell ⟨w.heap.size + 1, 1, none⟩ (.int .u64 (nv : Int))).setCell ⟨w.heap.size + 1 + 1, 0, none⟩ (.string ⟨b4.toArray⟩)).setCell ⟨w.heap.size + 1 + 1, 1, none⟩ (.int .i64 x4))).alloc (Nat.le_refl _) (.cells #[.string ⟨b4.toArray⟩, .int .i64 x4] 96))).mono BT.size); obtain ⟨w5, ew5⟩ : ∃ W, ((((w4.setCell ⟨w.heap.size + 1, 1, none⟩ (.int .u64 (nv : Int))).setCell ⟨w.heap.size + 1 + 1, 0, none⟩ (.string ⟨b4.toArray⟩)).setCell ⟨w.heap.size + 1 + 1, 1, none⟩ (.int .i64 x4)).alloc (.cells #[.string ⟨b4.toArray⟩, .int .i64 x4] 96)) = W := ⟨_, rfl⟩; rw [ew5] at XM XR XB BT ⊢; clear ew5 c9 k9 d0 d1 l0 l1 zB zM zR
  refine (HMM.out _).mono ?_; rintro e w6 ⟨rfl, hb6⟩
  replace XM := Lib.hid (XM.out.below hb6); replace XR := Lib.hid (XR.out.below hb6); replace XB := Lib.hid (XB.out.below hb6); replace BT := BT.trans ((hb6).mono BT.size); have zB := XB.out.lt; have zM := XM.out.lt; have zR := XR.out.lt; have c9 := XM.out.cell 2 _ rfl; have k9 := XM.out.free 2 (by simp); have d0 := XB.out.cell 0 _ rfl; have d1 := XB.out.cell 1 _ rfl; have l0 := XB.out.free 0 (by simp); have l1 := XB.out.free 1 (by simp); go_wp2_with fail; replace XM := Lib.hid (((XM.out.set 2 (.int .i64 mv) (by simp)).turn (Box.setTurn _ (w.heap.size + 1 + 1) 0 (.string ⟨b5.toArray⟩)) (by omega)).turn (Box.setTurn _ (w.heap.size + 1 + 1) 1 (.int .i64 x5)) (by omega)); replace XR := Lib.hid (((XR.out.turn (Box.setTurn _ (w.heap.size + 1) 2 (.int .i64 mv)) (by omega)).turn (Box.setTurn _ (w.heap.size + 1 + 1) 0 (.string ⟨b5.toArray⟩)) (by omega)).turn (Box.setTurn _ (w.heap.size + 1 + 1) 1 (.int .i64 x5)) (by omega)); replace XB := Lib.hid (((XB.out.turn (Box.setTurn _ (w.heap.size + 1) 2 (.int .i64 mv)) (by omega)).set 0 (.string ⟨b5.toArray⟩) (by simp)).set 1 (.int .i64 x5) (by simp)); replace BT := ((BT.setCell (p := ⟨w.heap.size + 1, 2, none⟩) (by simp) (.int .i64 mv)).setCell (p := ⟨w.heap.size + 1 + 1, 0, none⟩) (by simp; omega) (.string ⟨b5.toArray⟩)).setCell (p := ⟨w.heap.size + 1 + 1, 1, none⟩) (by simp; omega) (.int .i64 x5); replace XM := Lib.hid (XM.out.below ((Below.refl _ (((w6.setCell ⟨w.heap.size + 1, 2, none⟩ (.int .i64 mv)).setCell ⟨w.heap.size + 1 + 1, 0, none⟩ (.string ⟨b5.toArray⟩)).setCell ⟨w.heap.size + 1 + 1, 1, none⟩ (.int .i64 x5))).alloc (Nat.le_refl _) (.cells #[.string ⟨b5.toArray⟩, .int .i64 x5] 96))); replace XR := Lib.hid (XR.out.below ((Below.refl _ (((w6.setCell ⟨w.heap.size + 1, 2, none⟩ (.int .i64 mv)).setCell ⟨w.heap.size + 1 + 1, 0, none⟩ (.string ⟨b5.toArray⟩)).setCell ⟨w.heap.size + 1 + 1, 1, none⟩ (.int .i64 x5))).alloc (Nat.le_refl _) (.cells #[.string ⟨b5.toArray⟩, .int .i64 x5] 96))); replace XB := Lib.hid (XB.out.below ((Below.refl _ (((w6.setCell ⟨w.heap.size + 1, 2, none⟩ (.int .i64 mv)).setCell ⟨w.heap.size + 1 + 1, 0, none⟩ (.string ⟨b5.toArray⟩)).setCell ⟨w.heap.size + 1 + 1, 1, none⟩ (.int .i64 x5))).alloc (Nat.le_refl _) (.cells #[.string ⟨b5.toArray⟩, .int .i64 x5] 96))); replace BT := BT.trans ((((Below.refl _ (((w6.setCell ⟨w.heap.size + 1, 2, none⟩ (.int .i64 mv)).setCell ⟨w.heap.size + 1 + 1, 0, none⟩ (.string ⟨b5.toArray⟩)).setCell ⟨w.heap.size + 1 + 1, 1, none⟩ (.int .i64 x5))).alloc (Nat.le_refl _) (.cells #[.string ⟨b5.toArray⟩, .int .i64 x5] 96))).mono BT.size); obtain ⟨w7, ew7⟩ : ∃ W, ((((w6.setCell ⟨w.heap.size + 1, 2, none⟩ (.int .i64 mv)).setCell ⟨w.heap.size + 1 + 1, 0, none⟩ (.string ⟨b5.toArray⟩)).setCell ⟨w.heap.size + 1 + 1, 1, none⟩ (.int .i64 x5)).alloc (.cells #[.string ⟨b5.toArray⟩, .int .i64 x5] 96)) = W := ⟨_, rfl⟩; rw [ew7] at XM XR XB BT ⊢; clear ew7 c9 k9 d0 d1 l0 l1 zB zM zR
  refine (HN2.out _).mono ?_; rintro e w8 ⟨rfl, hb8⟩
  replace XM := Lib.hid (XM.out.below hb8); replace XR := Lib.hid (XR.out.below hb8); replace XB := Lib.hid (XB.out.below hb8); replace BT := BT.trans ((hb8).mono BT.size)
  have zB := XB.out.lt
  have zM := XM.out.lt
  have zR := XR.out.lt
  have d0 := XB.out.cell 0 _ rfl
  have d1 := XB.out.cell 1 _ rfl
  have l0 := XB.out.free 0 (by simp)
  have l1 := XB.out.free 1 (by simp)
  by_cases h8 : 8 < kv
  · replace h2 := h2.out
    rw [if_pos h8] at h2
    subst h2
    have h8' : (8 : Int) < (kv : Int) := by omega
    have hx6 := hke.out (by omega)
    subst hx6
    have r0 := XR.out.cell 0 _ rfl
    have r1 := XR.out.cell 1 _ rfl
    have r2 := XR.out.cell 2 _ rfl
    have r3 := XR.out.cell 3 _ rfl
    have k0 := XR.out.free 0 (by simp)
    have k1 := XR.out.free 1 (by simp)
    have k2 := XR.out.free 2 (by simp)
    have k3 := XR.out.free 3 (by simp)
    go_wp2_with fail
    exact bodyPost_ret (v := .tuple #[.agg #[.int .u8 0, .int .u64 0, .int .i64 0, .slice none 0 0], .int .i64 13]) (by simp [results, Tryd.results24, go_sem, r0, r1, r2, r3, zR]) rfl (took_long (by repeat (first | with_reducible exact BT | with_reducible refine Below.setCell ?_ (by (try simp) <;> omega) _ | with_reducible refine Below.alloc ?_ (by (try simp) <;> omega) _)))
  have h8' : ¬ (8 : Int) < (kv : Int) := by omega
  have hx : (x6 == 0) = true ∨ (x6 == 0) = false := by cases (x6 == 0) <;> simp
  replace h2 := h2.out
  rw [if_neg h8] at h2
  replace h2 := Lib.hid h2
  rcases hx with hx | hx
  all_goals
    go_wp2_with fail
    clear hx d0 d1 l0 l1
    replace XM := Lib.hid ((XM.out.turn (Box.setTurn _ (w.heap.size + 1 + 1) 0 (.string ⟨b6.toArray⟩)) (by omega)).turn (Box.setTurn _ (w.heap.size + 1 + 1) 1 (.int .i64 x6)) (by omega)); replace XR := Lib.hid ((XR.out.turn (Box.setTurn _ (w.heap.size + 1 + 1) 0 (.string ⟨b6.toArray⟩)) (by omega)).turn (Box.setTurn _ (w.heap.size + 1 + 1) 1 (.int .i64 x6)) (by omega)); replace XB := Lib.hid ((XB.out.set 0 (.string ⟨b6.toArray⟩) (by simp)).set 1 (.int .i64 x6) (by simp)); replace BT := (BT.setCell (p := ⟨w.heap.size + 1 + 1, 0, none⟩) (by simp; omega) (.string ⟨b6.toArray⟩)).setCell (p := ⟨w.heap.size + 1 + 1, 1, none⟩) (by simp; omega) (.int .i64 x6); replace XM := Lib.hid (XM.out.below ((Below.refl _ ((w8.setCell ⟨w.heap.size + 1 + 1, 0, none⟩ (.string ⟨b6.toArray⟩)).setCell ⟨w.heap.size + 1 + 1, 1, none⟩ (.int .i64 x6))).alloc (Nat.le_refl _) (.cells #[.string ⟨b6.toArray⟩, .int .i64 x6] 96))); replace XR := Lib.hid (XR.out.below ((Below.refl _ ((w8.setCell ⟨w.heap.size + 1 + 1, 0, none⟩ (.string ⟨b6.toArray⟩)).setCell ⟨w.heap.size + 1 + 1, 1, none⟩ (.int .i64 x6))).alloc (Nat.le_refl _) (.cells #[.string ⟨b6.toArray⟩, .int .i64 x6] 96))); replace XB := Lib.hid (XB.out.below ((Below.refl _ ((w8.setCell ⟨w.heap.size + 1 + 1, 0, none⟩ (.string ⟨b6.toArray⟩)).setCell ⟨w.heap.size + 1 + 1, 1, none⟩ (.int .i64 x6))).alloc (Nat.le_refl _) (.cells #[.string ⟨b6.toArray⟩, .int .i64 x6] 96))); replace BT := BT.trans ((((Below.refl _ ((w8.setCell ⟨w.heap.size + 1 + 1, 0, none⟩ (.string ⟨b6.toArray⟩)).setCell ⟨w.heap.size + 1 + 1, 1, none⟩ (.int .i64 x6))).alloc (Nat.le_refl _) (.cells #[.string ⟨b6.toArray⟩, .int .i64 x6] 96))).mono BT.size); obtain ⟨w9, ew9⟩ : ∃ W, (((w8.setCell ⟨w.heap.size + 1 + 1, 0, none⟩ (.string ⟨b6.toArray⟩)).setCell ⟨w.heap.size + 1 + 1, 1, none⟩ (.int .i64 x6)).alloc (.cells #[.string ⟨b6.toArray⟩, .int .i64 x6] 96)) = W := ⟨_, rfl⟩; rw [ew9] at XM XR XB BT ⊢
    clear ew9 zB zM zR hb8 hb6 hb4
    have hpl := Lib.hid (propsR_len b6 x6)
    have hple := Lib.hid (propsR_le b6 x6)
    have zz9 := BT.size
    have zM9 := XM.out.lt
    go_loopw [14] (fun i wr => ∃ (k : Nat) (v : Value), k ≤ kv ∧ i = .int .u64 k ∧ Hid (Box wr (w.heap.size + 1) [.int .u8 2, .int .u64 (nv : Int), .int .i64 mv, v]) ∧ Hid (Box wr (w.heap.size + 1 + 1) [.string ⟨(propsR b6 x6 k).2.1.toArray⟩, .int .i64 (propsR b6 x6 k).2.2]) ∧ Hid (Box wr w.heap.size [.int .u8 0, .int .u64 0, .int .i64 0, .slice none 0 0]) ∧ Hid (OwnG 80 2 (w.heap.size + 3) wr v ((propsR b6 x6 k).1.map prV)) ∧ Below w.heap.size w wr) (fun i wr => kv - (intOf i).toNat)
    case atStart => exact ⟨0, _, Nat.zero_le _, rfl, XM, XB, XR, Lib.hid (OwnG.nil _ _ _ _), BT⟩
    case round =>
      clear XM XB XR BT zz9 zM9
      obtain ⟨k, v, hk, rfl, XM, XB, XR, hO, BT⟩ := hrel
      by_cases hlt : k < kv
      · have hps : (propsR b6 x6 (k + 1)).1 = (propsR b6 x6 k).1 ++ [(propR (propsR b6 x6 k).2.1 (propsR b6 x6 k).2.2).1] := rfl
        have hpr : (propsR b6 x6 (k + 1)).2 = (propR (propsR b6 x6 k).2.1 (propsR b6 x6 k).2.2).2 := rfl
        have hpl' := hpl.out k
        have hple' := hple.out k
        generalize propsR b6 x6 k = s at *
        obtain ⟨ps, b1, x1⟩ := s
        simp only at *
        have HTX := fun W => rtext_any b1 x1 12 (by omega) (by omega) W
        unfold rV at HTX
        have hp0 : propR b1 x1 = (⟨(rText b1 x1 12).1, plainOf ((rNum (rText b1 x1 12).2.1 (rText b1 x1 12).2.2).1 : Int)⟩, (rNum (rText b1 x1 12).2.1 (rText b1 x1 12).2.2).2.1, (rNum (rText b1 x1 12).2.1 (rText b1 x1 12).2.2).2.2) := rfl
        have qt := rText_leM b1 x1 12
        generalize rText b1 x1 12 = tx at *
        obtain ⟨t, b2, x2⟩ := tx
        simp only at *
        have HR2 := fun W => rread_any b2 x2 (by omega) W
        unfold rV at HR2
        have hvl := rNum_lt b2 x2
        generalize rNum b2 x2 = rn at *
        obtain ⟨vv, b3, x3⟩ := rn
        simp only at *
        replace hps := Lib.hid hps
        replace hpr := Lib.hid hpr
        replace hp0 := Lib.hid hp0
        replace HTX := Lib.hid HTX
        replace HR2 := Lib.hid HR2
        have HPL := Lib.hid (fun W => rplain_any (vv : Int) (by omega) (by omega) W)
        have hpv : plainOf (vv : Int) = plainOf (vv : Int) := rfl
        generalize hpq : plainOf (vv : Int) = pv at *
        clear hpv
        replace hpq := Lib.hid hpq
        replace hpl' := Lib.hid hpl'
        have d0 := XB.out.cell 0 _ rfl
        have d1 := XB.out.cell 1 _ rfl
        go_wp2_with fail
        refine (HTX.out _).mono ?_; rintro e w10 ⟨rfl, hb10⟩
        clear d0 d1
        replace XM := Lib.hid (XM.out.below hb10); replace XR := Lib.hid (XR.out.below hb10); replace XB := Lib.hid (XB.out.below hb10); replace BT := BT.trans ((hb10).mono BT.size)
        replace hO := Lib.hid (OwnG.below hO.out hb10)
        go_wp2_with fail
        refine (HR2.out _).mono ?_; rintro e w12 ⟨rfl, hb12⟩
        replace XM := Lib.hid (XM.out.below (((Below.refl _ _).alloc (Nat.le_refl _) _).trans (hb12.mono (by simp)))); replace XR := Lib.hid (XR.out.below (((Below.refl _ _).alloc (Nat.le_refl _) _).trans (hb12.mono (by simp)))); replace XB := Lib.hid (XB.out.below (((Below.refl _ _).alloc (Nat.le_refl _) _).trans (hb12.mono (by simp)))); replace BT := BT.trans (((((Below.refl _ _).alloc (Nat.le_refl _) _).trans (hb12.mono (by simp)))).mono BT.size)
        replace hO := Lib.hid (OwnG.below hO.out (((Below.refl _ _).alloc (Nat.le_refl _) _).trans (hb12.mono (by simp))))
        have zB := XB.out.lt
        have zM := XM.out.lt
        have zR := XR.out.lt
        have d0 := XB.out.cell 0 _ rfl
        have d1 := XB.out.cell 1 _ rfl
        have l0 := XB.out.free 0 (by simp)
        have l1 := XB.out.free 1 (by simp)
        go_wp2_with fail
        replace hO := Lib.hid (OwnG.turn (OwnG.turn hO.out (Box.setTurn _ (w.heap.size + 1 + 1) 0 (.string ⟨b3.toArray⟩)) (fun j e e2 => by have := (hO.out.owns.lt j e).1; omega)) (Box.setTurn _ (w.heap.size + 1 + 1) 1 (.int .i64 x3)) (fun j e e2 => by have := (hO.out.owns.lt j e).1; omega))
        replace hO := Lib.hid (OwnG.below hO.out ((Below.refl _ _).alloc (Nat.le_refl _) (.cells #[.string ⟨b3.toArray⟩, .int .i64 x3] 96)))
        clear d0 d1 l0 l1
        replace XM := Lib.hid ((XM.out.turn (Box.setTurn _ (w.heap.size + 1 + 1) 0 (.string ⟨b3.toArray⟩)) (by omega)).turn (Box.setTurn _ (w.heap.size + 1 + 1) 1 (.int .i64 x3)) (by omega)); replace XR := Lib.hid ((XR.out.turn (Box.setTurn _ (w.heap.size + 1 + 1) 0 (.string ⟨b3.toArray⟩)) (by omega)).turn (Box.setTurn _ (w.heap.size + 1 + 1) 1 (.int .i64 x3)) (by omega)); replace XB := Lib.hid ((XB.out.set 0 (.string ⟨b3.toArray⟩) (by simp)).set 1 (.int .i64 x3) (by simp)); replace BT := (BT.setCell (p := ⟨w.heap.size + 1 + 1, 0, none⟩) (by simp; omega) (.string ⟨b3.toArray⟩)).setCell (p := ⟨w.heap.size + 1 + 1, 1, none⟩) (by simp; omega) (.int .i64 x3); replace XM := Lib.hid (XM.out.below ((Below.refl _ ((w12.setCell ⟨w.heap.size + 1 + 1, 0, none⟩ (.string ⟨b3.toArray⟩)).setCell ⟨w.heap.size + 1 + 1, 1, none⟩ (.int .i64 x3))).alloc (Nat.le_refl _) (.cells #[.string ⟨b3.toArray⟩, .int .i64 x3] 96))); replace XR := Lib.hid (XR.out.below ((Below.refl _ ((w12.setCell ⟨w.heap.size + 1 + 1, 0, none⟩ (.string ⟨b3.toArray⟩)).setCell ⟨w.heap.size + 1 + 1, 1, none⟩ (.int .i64 x3))).alloc (Nat.le_refl _) (.cells #[.string ⟨b3.toArray⟩, .int .i64 x3] 96))); replace XB := Lib.hid (XB.out.below ((Below.refl _ ((w12.setCell ⟨w.heap.size + 1 + 1, 0, none⟩ (.string ⟨b3.toArray⟩)).setCell ⟨w.heap.size + 1 + 1, 1, none⟩ (.int .i64 x3))).alloc (Nat.le_refl _) (.cells #[.string ⟨b3.toArray⟩, .int .i64 x3] 96))); replace BT := BT.trans ((((Below.refl _ ((w12.setCell ⟨w.heap.size + 1 + 1, 0, none⟩ (.string ⟨b3.toArray⟩)).setCell ⟨w.heap.size + 1 + 1, 1, none⟩ (.int .i64 x3))).alloc (Nat.le_refl _) (.cells #[.string ⟨b3.toArray⟩, .int .i64 x3] 96))).mono BT.size); obtain ⟨w13, ew13⟩ : ∃ W, (((w12.setCell ⟨w.heap.size + 1 + 1, 0, none⟩ (.string ⟨b3.toArray⟩)).setCell ⟨w.heap.size + 1 + 1, 1, none⟩ (.int .i64 x3)).alloc (.cells #[.string ⟨b3.toArray⟩, .int .i64 x3] 96)) = W := ⟨_, rfl⟩; rw [ew13] at XM XR XB BT ⊢
        rw [ew13] at hO
        clear ew13 hb10 hb12 zB zR
        have m3 := XM.out.cell 3 _ rfl
        have b6' : Below w13.heap.size w13 ((w13.alloc (.cells #[.string ⟨t.toArray⟩, .int .i64 pv] 80)).drew) := ((Below.refl _ _).alloc (Nat.le_refl _) _).drew
        have T6 : Turn (fun _ => False) w13 ((w13.alloc (.cells #[.string ⟨t.toArray⟩, .int .i64 pv] 80)).drew) := ((Turn.refl _ w13).alloc _).drew
        have O6 := Lib.hid (OwnG.below hO.out b6')
        have zb6 := b6'.size
        have zt := BT.size
        have zB := XB.out.lt
        have c3a : (w13.alloc (.cells #[.string ⟨t.toArray⟩, .int .i64 pv] 80)).cell? ⟨w.heap.size + 1, 3, none⟩ = some v := (XM.out.turn ((Turn.refl (fun _ => False) w13).alloc _) (fun h => h)).cell 3 _ rfl
        refine wp_region_noPanic ?_
        go_region_law (first | (go_simp; go_at_call 60; refine (HPL.out _).mono ?_; rintro e w' ⟨rfl, rfl⟩; (try go_simp)) | (refine step_append_g 23 80 _ 2 24 infoPr (by rfl) (by omega) Tryd.underlying23 rfl (.tmp 92) (.tmp 97) rfl (w.heap.size + 3) v (ps.map prV) rfl O6.out ⟨w13.heap.size, 0, none⟩ 1 1 [prV ⟨t, pv⟩] rfl (by decide) rfl (by simp [prV]) (news_pr (by simp [go_sem]) (by simp [go_sem])) (prV_one _) (by rw [List.length_map, hpl'.out]; unfold maxLen; omega) (by rw [List.length_map, hpl'.out]; omega) (by omega) ?_; intro g7 k7 w14 hO7 hG7; rw [List.length_map, hpl'.out] at hO7 ⊢; have T7 : Turn (fun x => w.heap.size + 3 ≤ x) w13 w14 := (T6.mono (fun _ _ h => h.elim)).trans (Turn.ofGrown hG7 (fun x hx _ => (O6.out.owns.lt x hx).1)) (fun _ _ h => h); have XM7 := Lib.hid (XM.out.turn T7 (by omega)); have XR7 := Lib.hid (XR.out.turn T7 (by omega)); have XB7 := Lib.hid (XB.out.turn T7 (by omega)); have b72 := XM7.out.cell 3 _ rfl; have e72 := XM7.out.free 3 (by simp); have BT7 := BT.trans (T7.below BT.size (fun k hk e => by omega)); replace hO7 := Lib.hid hO7))
        all_goals refine NoPanic.normal ?_
        all_goals
          have XM8 := Lib.hid (XM7.out.set 3 (.slice (some ⟨g7, 0, none⟩) (k + 1) k7) (by simp))
          have XR8 := Lib.hid (XR7.out.turn (Box.setTurn _ (w.heap.size + 1) 3 (.slice (some ⟨g7, 0, none⟩) (k + 1) k7)) (by omega))
          have XB8 := Lib.hid (XB7.out.turn (Box.setTurn _ (w.heap.size + 1) 3 (.slice (some ⟨g7, 0, none⟩) (k + 1) k7)) (by omega))
          have hO8 := Lib.hid (OwnG.turn hO7.out (Box.setTurn _ (w.heap.size + 1) 3 (.slice (some ⟨g7, 0, none⟩) (k + 1) k7)) (fun j e e2 => by have := (hO7.out.owns.lt j e).1; omega))
          have BT8 := BT7.setCell (p := ⟨w.heap.size + 1, 3, none⟩) (by simp) (.slice (some ⟨g7, 0, none⟩) (k + 1) k7)
          clear m3 c3a b72 e72 b6' T6 O6 XM XR XB XM7 XR7 XB7 hO hO7 hG7 T7 BT BT7
          go_wp2_with fail
          go_roundw
          case rel => first | exact ⟨k + 1, _, by omega, by go_num, XM8, by rw [hpr.out, hp0.out]; exact XB8, XR8, by rw [hps.out, List.map_append, hp0.out]; exact hO8, BT8⟩ | exact ⟨k + 1, _, by omega, by omega, XM8, by rw [hpr.out, hp0.out]; exact XB8, XR8, by rw [hps.out, List.map_append, hp0.out]; exact hO8, BT8⟩
          case measure => simp [intOf] <;> omega
      · obtain rfl : k = kv := by omega
        replace h2 := h2.out
        have hpl' := hpl.out k
        have okT := Lib.hid (ok_props 2 nv mv b6 x6 k (by omega) (by omega))
        generalize propsR b6 x6 k = s at *
        obtain ⟨ps, b1, x1⟩ := s
        simp only at *
        subst h2
        obtain ⟨q9, d9, rfl, hR9, _, hq9⟩ := hO.out.row
        rw [List.length_map, hpl'] at hR9
        rw [List.length_map, hpl'] at XM
        have hRow : Hid (RowQ wr q9 k ps) := Lib.hid hR9
        have hoff : Hid (∀ x : Addr, q9 = some x → w.heap.size < x.block) := Lib.hid (fun x e => by have := (hq9 x e).1; omega)
        have HMAY := Lib.hid (fun W hr => rmmay_any ⟨2, nv, mv, ps⟩ q9 k d9 W okT.out hr)
        generalize hmm : mayM ⟨2, nv, mv, ps⟩ = bm at *
        replace hmm := Lib.hid hmm
        unfold msgV at HMAY
        simp only at HMAY
        have d0 := XB.out.cell 0 _ rfl
        have d1 := XB.out.cell 1 _ rfl
        clear hO hR9 hq9 hpl' hke
        go_wp2_with fail
        clear d0 d1
        have HE := fun W => rend_any b1 x1 W; unfold rV at HE; generalize hze : endOf b1 x1 = z at HE; replace hze := Lib.hid hze; replace HE := Lib.hid HE; refine (HE.out _).mono ?_; (rintro e w6 ⟨rfl, hb6⟩); clear HE; replace XM := Lib.hid (XM.out.below hb6); replace XR := Lib.hid (XR.out.below hb6); replace XB := Lib.hid (XB.out.below hb6); replace BT := BT.trans ((hb6).mono BT.size); replace hRow := Lib.hid (RowG.below hRow.out hb6); by_cases z0 : z = 0; (· (subst z0; have m0 := XM.out.cell 0 _ rfl; have m1 := XM.out.cell 1 _ rfl; have m2 := XM.out.cell 2 _ rfl; have m3 := XM.out.cell 3 _ rfl; go_wp2_with fail; refine (HMAY.out _ hRow.out).mono ?_; (rintro e w7 ⟨rfl, hb7⟩); clear m0 m1 m2 m3; have B7 := BT.trans (hb7.mono BT.size); have XM6 := XM.out.below hb7; have XR6 := XR.out.below hb7; have hRow6 := Lib.hid (RowG.below hRow.out hb7); have m0 := XM6.cell 0 _ rfl; have m1 := XM6.cell 1 _ rfl; have m2 := XM6.cell 2 _ rfl; have m3 := XM6.cell 3 _ rfl; have r0 := XR6.cell 0 _ rfl; have r1 := XR6.cell 1 _ rfl; have r2 := XR6.cell 2 _ rfl; have r3 := XR6.cell 3 _ rfl; have k0 := XR6.free 0 (by simp); have k1 := XR6.free 1 (by simp); have k2 := XR6.free 2 (by simp); have k3 := XR6.free 3 (by simp); clear XM6 XR6; cases bm with | false => (go_wp2_with fail; exact bodyPost_ret (v := .tuple #[.agg #[.int .u8 0, .int .u64 0, .int .i64 0, .slice none 0 0], .int .i64 11]) (by simp [results, Tryd.results24, go_sem, r0, r1, r2, r3]) rfl (took_form hze.out hmm.out (by repeat (first | exact BT | exact B7 | with_reducible refine Below.setCell ?_ (by simp) _)))) | true => (go_wp2_with fail; exact bodyPost_ret (v := .tuple #[(.agg #[.int .u8 2, .int .u64 (nv : Int), .int .i64 mv, .slice q9 k d9]), .int .i64 0]) (by simp [results, Tryd.results24, go_sem, r0, r1, r2, r3]) rfl (took_ok hze.out hmm.out (RowG.turn (S := fun k => k = w.heap.size) hRow6.out (Turn.set4 w7 w.heap.size _ _ _ _) (fun x e hs => by have := hoff.out x e; omega)) (by repeat (first | exact BT | exact B7 | with_reducible refine Below.setCell ?_ (by simp) _)))))); (· (have z1 : (z == 0) = false := (by rw [beq_eq_false_iff_ne]; exact z0); have r0 := XR.out.cell 0 _ rfl; have r1 := XR.out.cell 1 _ rfl; have r2 := XR.out.cell 2 _ rfl; have r3 := XR.out.cell 3 _ rfl; have k0 := XR.out.free 0 (by simp); have k1 := XR.out.free 1 (by simp); have k2 := XR.out.free 2 (by simp); have k3 := XR.out.free 3 (by simp); go_wp2_with fail; exact bodyPost_ret (v := .tuple #[.agg #[.int .u8 0, .int .u64 0, .int .i64 0, .slice none 0 0], .int .i64 z]) (by simp [results, Tryd.results24, go_sem, r0, r1, r2, r3]) rfl (took_end hze.out z0 (by repeat (first | exact BT | exact B7 | with_reducible refine Below.setCell ?_ (by simp) _)))))
/-- lookoutref06.Take of any bytes -/
theorem rmtake_any (k : UInt8) (bs : List UInt8) (w : World) (hl : bs.length ≤ 1000000) :
    Calls Tryd.prog 24 #[.int .u8 (k.toNat : Int), .string ⟨bs.toArray⟩] w (TookM w (takeM k bs)) := by
  unfold takeM
  by_cases k1 : k = 1
  · subst k1
    rw [if_pos rfl]
    exact rmtake1 bs w hl
  rw [if_neg k1]
  by_cases k2 : k = 2
  · subst k2
    rw [if_pos rfl]
    exact rmtake2 bs w hl
  rw [if_neg k2]
  by_cases k3 : k = 3
  · subst k3
    rw [if_pos rfl]
    exact rmtake3 bs w hl
  rw [if_neg k3]
  by_cases k4 : k = 4
  · subst k4
    rw [if_pos rfl]
    exact rmtake4 bs w hl
  rw [if_neg k4]
  have n1 : k.toNat ≠ 1 := fun e => k1 (UInt8.toNat_inj.1 e)
  have n2 : k.toNat ≠ 2 := fun e => k2 (UInt8.toNat_inj.1 e)
  have n3 : k.toNat ≠ 3 := fun e => k3 (UInt8.toNat_inj.1 e)
  have n4 : k.toNat ≠ 4 := fun e => k4 (UInt8.toNat_inj.1 e)
  exact rmtake_not k bs w (by omega)
end Go.Proofs.YtfphffkgacajdaaDoor
