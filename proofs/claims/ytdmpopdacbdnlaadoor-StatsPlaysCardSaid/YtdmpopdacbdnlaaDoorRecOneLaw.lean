/- A record that is taken may be, and its frame holds just those bytes; unlike records show unlike texts. No program. -/
import Derived.Test.YtdmpopdacbdnlaaDoorRecBackLaw
import Derived.Test.YtdmpopdacbdnlaaDoorRecDig
namespace Go.Proofs.YtdmpopdacbdnlaaDoor
open Go.RowKit
set_option linter.unusedVariables false
set_option linter.unusedSimpArgs false
set_option maxRecDepth 20000
set_option maxHeartbeats 2000000
/-- the fields whose letters are not in l are as they were -/
structure Keep (l : List UInt8) (s s' : Rec) : Prop where
  kind : s'.kind = s.kind
  source : 115 ∉ l → s'.source = s.source
  seq : 113 ∉ l → s'.seq = s.seq
  at_ : 97 ∉ l → s'.at_ = s.at_
  num : 110 ∉ l → s'.num = s.num
  code : 99 ∉ l → s'.code = s.code
  yes : 121 ∉ l → s'.yes = s.yes
  text : 116 ∉ l → s'.text = s.text
theorem only_keep (k : UInt8) (h17 : 17 ≤ k.toNat) (h32 : k.toNat ≤ 32) (r : Rec) (h : Keep (fieldsOf k) (Rec.zero k) r) : onlyOf r = r := by
  obtain ⟨h0, h1, h2, h3, h4, h5, h6, h7⟩ := h
  obtain ⟨k0, so, sq, at0, nu, co, ye, te⟩ := r
  simp only at h0 h1 h2 h3 h4 h5 h6 h7
  obtain rfl : k0 = k := h0
  rcases kind_split k0 h17 h32 with rfl | rfl | rfl | rfl | rfl | rfl | rfl | rfl | rfl | rfl | rfl | rfl | rfl | rfl | rfl | rfl
  · have e : fieldsOf 17 = [115, 110] := rfl
    rw [e] at h1 h2 h3 h4 h5 h6 h7
    simp [Rec.zero] at h1 h2 h3 h4 h5 h6 h7
    simp [onlyOf, e, copy1, Rec.zero, *]
  · have e : fieldsOf 18 = [115, 99] := rfl
    rw [e] at h1 h2 h3 h4 h5 h6 h7
    simp [Rec.zero] at h1 h2 h3 h4 h5 h6 h7
    simp [onlyOf, e, copy1, Rec.zero, *]
  · have e : fieldsOf 19 = [115, 99] := rfl
    rw [e] at h1 h2 h3 h4 h5 h6 h7
    simp [Rec.zero] at h1 h2 h3 h4 h5 h6 h7
    simp [onlyOf, e, copy1, Rec.zero, *]
  · have e : fieldsOf 20 = [115, 113, 97, 99] := rfl
    rw [e] at h1 h2 h3 h4 h5 h6 h7
    simp [Rec.zero] at h1 h2 h3 h4 h5 h6 h7
    simp [onlyOf, e, copy1, Rec.zero, *]
  · have e : fieldsOf 21 = [115, 113, 97] := rfl
    rw [e] at h1 h2 h3 h4 h5 h6 h7
    simp [Rec.zero] at h1 h2 h3 h4 h5 h6 h7
    simp [onlyOf, e, copy1, Rec.zero, *]
  · have e : fieldsOf 22 = [115, 113, 97] := rfl
    rw [e] at h1 h2 h3 h4 h5 h6 h7
    simp [Rec.zero] at h1 h2 h3 h4 h5 h6 h7
    simp [onlyOf, e, copy1, Rec.zero, *]
  · have e : fieldsOf 23 = [115, 113, 97] := rfl
    rw [e] at h1 h2 h3 h4 h5 h6 h7
    simp [Rec.zero] at h1 h2 h3 h4 h5 h6 h7
    simp [onlyOf, e, copy1, Rec.zero, *]
  · have e : fieldsOf 24 = [115, 113] := rfl
    rw [e] at h1 h2 h3 h4 h5 h6 h7
    simp [Rec.zero] at h1 h2 h3 h4 h5 h6 h7
    simp [onlyOf, e, copy1, Rec.zero, *]
  · have e : fieldsOf 25 = [115, 97] := rfl
    rw [e] at h1 h2 h3 h4 h5 h6 h7
    simp [Rec.zero] at h1 h2 h3 h4 h5 h6 h7
    simp [onlyOf, e, copy1, Rec.zero, *]
  · have e : fieldsOf 26 = [115] := rfl
    rw [e] at h1 h2 h3 h4 h5 h6 h7
    simp [Rec.zero] at h1 h2 h3 h4 h5 h6 h7
    simp [onlyOf, e, copy1, Rec.zero, *]
  · have e : fieldsOf 27 = [99, 97] := rfl
    rw [e] at h1 h2 h3 h4 h5 h6 h7
    simp [Rec.zero] at h1 h2 h3 h4 h5 h6 h7
    simp [onlyOf, e, copy1, Rec.zero, *]
  · have e : fieldsOf 28 = [97, 121] := rfl
    rw [e] at h1 h2 h3 h4 h5 h6 h7
    simp [Rec.zero] at h1 h2 h3 h4 h5 h6 h7
    simp [onlyOf, e, copy1, Rec.zero, *]
  · have e : fieldsOf 29 = [97, 121] := rfl
    rw [e] at h1 h2 h3 h4 h5 h6 h7
    simp [Rec.zero] at h1 h2 h3 h4 h5 h6 h7
    simp [onlyOf, e, copy1, Rec.zero, *]
  · have e : fieldsOf 30 = [97, 121] := rfl
    rw [e] at h1 h2 h3 h4 h5 h6 h7
    simp [Rec.zero] at h1 h2 h3 h4 h5 h6 h7
    simp [onlyOf, e, copy1, Rec.zero, *]
  · have e : fieldsOf 31 = [97, 110] := rfl
    rw [e] at h1 h2 h3 h4 h5 h6 h7
    simp [Rec.zero] at h1 h2 h3 h4 h5 h6 h7
    simp [onlyOf, e, copy1, Rec.zero, *]
  · have e : fieldsOf 32 = [116] := rfl
    rw [e] at h1 h2 h3 h4 h5 h6 h7
    simp [Rec.zero] at h1 h2 h3 h4 h5 h6 h7
    simp [onlyOf, e, copy1, Rec.zero, *]
theorem recF_keep {l : List UInt8} {s s' : Rec} (h : Keep l s s') {c : UInt8} (hc : letter c) (hn : c ∉ l) : recF s' c = recF s c := by
  obtain ⟨h0, h1, h2, h3, h4, h5, h6, h7⟩ := h
  unfold recF
  rcases hc with rfl | rfl | rfl | rfl | rfl | rfl | rfl
  · simp [numU, h1 hn]
  · simp [numU, h2 hn]
  · simp [numU, h3 hn]
  · simp [numU, h4 hn]
  · simp [numU, h5 hn]
  · simp [numU, h6 hn]
  · simp [h7 hn]
theorem numU_set {r : Rec} {c : UInt8} {u : Nat} (hc : letter c) (h116 : c ≠ 116) (ho : okU c u = true) : numU (set1 r c u) c = u := by
  unfold okU at ho
  rw [decide_eq_true_iff] at ho
  rcases hc with rfl | rfl | rfl | rfl | rfl | rfl | rfl
  · simp [mostU] at ho; simp [numU, set1]; omega
  · simp [numU, set1]
  · simp [mostU] at ho; simp [numU, set1]; omega
  · simp [mostU] at ho; simp [numU, set1]; omega
  · simp [mostU] at ho; simp [numU, set1]; omega
  · simp [mostU] at ho
    simp [numU, set1]
    have : u = 0 ∨ u = 1 := by omega
    rcases this with rfl | rfl <;> simp
  · exact absurd rfl h116
theorem in_set {r : Rec} (h : r.in) {c : UInt8} {u : Nat} (hu : u ≤ 18446744073709551615) : (set1 r c u).in := by
  obtain ⟨h1, h2, h3, h4, h5, h6⟩ := h
  unfold set1
  split
  · exact ⟨by simp only; omega, h2, h3, h4, h5, h6⟩
  split
  · exact ⟨h1, hu, h3, h4, h5, h6⟩
  split
  · exact ⟨h1, h2, by simp only; omega, h4, h5, h6⟩
  split
  · exact ⟨h1, h2, h3, by simp only; omega, h5, h6⟩
  split
  · exact ⟨h1, h2, h3, h4, by simp only; omega, h6⟩
  split
  · exact ⟨h1, h2, h3, h4, h5, h6⟩
  · exact ⟨h1, h2, h3, h4, h5, h6⟩
theorem keep_set (r : Rec) (c : UInt8) (u : Nat) : Keep [c] r (set1 r c u) := by
  unfold set1
  refine ⟨?_, ?_, ?_, ?_, ?_, ?_, ?_, ?_⟩
  all_goals (repeat' split) <;> simp_all
theorem num_ok {bs : List UInt8} {e : Int} (h : (Oct.rNum bs e).2.2 = 0) : e = 0 ∧ bs = Oct.enc (Oct.rNum bs e).1 ++ (Oct.rNum bs e).2.1 ∧ (Oct.rNum bs e).1 ≤ 18446744073709551615 := by
  unfold Oct.rNum at h ⊢
  by_cases he : e ≠ 0
  · rw [if_pos he] at h; exact absurd h he
  · rw [if_neg he] at h ⊢
    have he0 : e = 0 := Decidable.not_not.1 he
    by_cases ht : (Oct.takeOf bs).2.2 ≠ 0
    · rw [if_pos ht] at h; exact absurd h ht
    · rw [if_neg ht]
      have ht0 : (Oct.takeOf bs).2.2 = 0 := Decidable.not_not.1 ht
      have hl := Oct.takeOf_lt bs
      refine ⟨he0, ?_, by simp only; omega⟩
      simp only
      rw [Oct.enc_take bs ht0, List.take_append_drop]
theorem text_ok {bs : List UInt8} {e : Int} (h : (Oct.rText bs e 240).2.2 = 0) : e = 0 ∧ bs = Oct.encText ⟨(Oct.rText bs e 240).1.toArray⟩ ++ (Oct.rText bs e 240).2.1 ∧ (Oct.rText bs e 240).1.length ≤ 240 := by
  unfold Oct.rText at h ⊢
  by_cases h1 : (Oct.rNum bs e).2.2 ≠ 0
  · rw [if_pos h1] at h; exact absurd h h1
  rw [if_neg h1] at h ⊢
  obtain ⟨he, hbs, hu⟩ := num_ok (Decidable.not_not.1 h1)
  by_cases h2 : max (240 : Int) 0 < ((Oct.rNum bs e).1 : Int)
  · rw [if_pos h2] at h; simp at h
  rw [if_neg h2] at h ⊢
  by_cases h3 : (Oct.rNum bs e).2.1.length < (Oct.rNum bs e).1
  · rw [if_pos h3] at h; simp at h
  rw [if_neg h3]
  have hl : ((Oct.rNum bs e).2.1.take (Oct.rNum bs e).1).length = (Oct.rNum bs e).1 := by rw [List.length_take]; omega
  refine ⟨he, ?_, by simp only; omega⟩
  simp only
  have hz := ba_sizeP ((Oct.rNum bs e).2.1.take (Oct.rNum bs e).1)
  unfold Oct.encText
  rw [hz, hl]
  simp only [List.append_assoc, List.take_append_drop]
  exact hbs
theorem keep_text (r : Rec) (t : List UInt8) : Keep [116] r { r with text := t } := ⟨rfl, fun _ => rfl, fun _ => rfl, fun _ => rfl, fun _ => rfl, fun _ => rfl, fun _ => rfl, fun h => by simp at h⟩
theorem step_one (s : TS) (c : UInt8) (hc : letter c) (he : (s.step c).e = 0) (ho : (s.step c).ok = true) (hi : s.r.in) :
    s.e = 0 ∧ s.ok = true ∧ s.bs = recF (s.step c).r c ++ (s.step c).bs ∧ (s.step c).r.in ∧ Keep [c] s.r (s.step c).r := by
  unfold TS.step at he ho ⊢
  by_cases h : c = 116
  · subst h
    rw [if_pos rfl] at he ho ⊢
    obtain ⟨h1, h2, h3⟩ := text_ok he
    refine ⟨h1, ho, ?_, ?_, keep_text _ _⟩
    · unfold recF; rw [if_pos rfl]; exact h2
    · exact ⟨hi.source, hi.seq, hi.at_, hi.num, hi.code, h3⟩
  · rw [if_neg h] at he ho ⊢
    simp only at he ho ⊢
    rw [Bool.and_eq_true] at ho
    obtain ⟨h1, h2, h3⟩ := num_ok he
    refine ⟨h1, ho.1, ?_, in_set hi h3, keep_set _ _ _⟩
    unfold recF
    rw [if_neg h, numU_set hc h ho.2]
    exact h2
theorem Keep.trans {l : List UInt8} {c : UInt8} {a b d : Rec} (h : Keep [c] a b) (k : Keep l b d) : Keep (c :: l) a d := by
  obtain ⟨h0, h1, h2, h3, h4, h5, h6, h7⟩ := h
  obtain ⟨k0, k1, k2, k3, k4, k5, k6, k7⟩ := k
  simp only [List.mem_singleton] at h1 h2 h3 h4 h5 h6 h7
  refine ⟨k0.trans h0, fun hn => ?_, fun hn => ?_, fun hn => ?_, fun hn => ?_, fun hn => ?_, fun hn => ?_, fun hn => ?_⟩
  all_goals rw [List.mem_cons, not_or] at hn
  · exact (k1 hn.2).trans (h1 hn.1)
  · exact (k2 hn.2).trans (h2 hn.1)
  · exact (k3 hn.2).trans (h3 hn.1)
  · exact (k4 hn.2).trans (h4 hn.1)
  · exact (k5 hn.2).trans (h5 hn.1)
  · exact (k6 hn.2).trans (h6 hn.1)
  · exact (k7 hn.2).trans (h7 hn.1)
theorem fold_one : ∀ (l : List UInt8) (s : TS), (∀ c ∈ l, letter c) → l.Nodup → (l.foldl TS.step s).e = 0 → (l.foldl TS.step s).ok = true → s.r.in →
    s.e = 0 ∧ s.ok = true ∧ s.bs = l.flatMap (recF (l.foldl TS.step s).r) ++ (l.foldl TS.step s).bs ∧ (l.foldl TS.step s).r.in ∧ Keep l s.r (l.foldl TS.step s).r := by
  intro l
  induction l with
  | nil => intro s _ _ he ho hi; exact ⟨he, ho, by simp, hi, ⟨rfl, fun _ => rfl, fun _ => rfl, fun _ => rfl, fun _ => rfl, fun _ => rfl, fun _ => rfl, fun _ => rfl⟩⟩
  | cons c l ih =>
    intro s hl hnd he ho hi
    rw [List.nodup_cons] at hnd
    rw [List.foldl_cons] at he ho ⊢
    -- the first step's error and word come from the rest's
    have back : ∀ (l : List UInt8) (s : TS), (l.foldl TS.step s).e = 0 → (∀ c ∈ l, letter c) → (l.foldl TS.step s).ok = true → s.e = 0 ∧ s.ok = true := by
      intro l
      induction l with
      | nil => intro s h _ h2; exact ⟨h, h2⟩
      | cons c l ih2 =>
        intro s h hl h2
        obtain ⟨h3, h4⟩ := ih2 (s.step c) h (fun d hd => hl d (by simp [hd])) h2
        unfold TS.step at h3 h4
        split at h3
        · rename_i hc
          rw [if_pos hc] at h4
          exact ⟨(text_ok h3).1, h4⟩
        · rename_i hc
          rw [if_neg hc] at h4
          simp only [Bool.and_eq_true] at h4
          exact ⟨(num_ok h3).1, h4.1⟩
    obtain ⟨b1, b2⟩ := back l (s.step c) he (fun d hd => hl d (by simp [hd])) ho
    obtain ⟨a1, a2, a3, a4, a5⟩ := step_one s c (hl c (by simp)) b1 b2 hi
    obtain ⟨_, _, c3, c4, c5⟩ := ih (s.step c) (fun d hd => hl d (by simp [hd])) hnd.2 he ho a4
    refine ⟨a1, a2, ?_, c4, a5.trans c5⟩
    rw [List.flatMap_cons, recF_keep c5 (hl c (by simp)) hnd.1, List.append_assoc, ← c3]
    exact a3
theorem fields_nodup (k : UInt8) (h17 : 17 ≤ k.toNat) (h32 : k.toNat ≤ 32) : (fieldsOf k).Nodup := by
  rcases kind_split k h17 h32 with rfl | rfl | rfl | rfl | rfl | rfl | rfl | rfl | rfl | rfl | rfl | rfl | rfl | rfl | rfl | rfl <;> decide
theorem zero_in (k : UInt8) : (Rec.zero k).in := ⟨by simp [Rec.zero], by simp [Rec.zero], by simp [Rec.zero], by simp [Rec.zero], by simp [Rec.zero], by simp [Rec.zero]⟩
/-- What is taken may be, and is put as just those bytes. -/
theorem take_one {k : UInt8} {bs : List UInt8} {r : Rec} (h : takeR k bs = (r, 0)) : kindB k = true ∧ mayB r = true ∧ r.kind = k ∧ recBody r = bs ∧ r.in := by
  unfold takeR at h
  by_cases hk : kindB k = true
  · rw [if_pos hk] at h
    obtain ⟨k1, k2⟩ := kind_rng hk
    unfold TS.fin at h
    by_cases h1 : Oct.endOf (TS.all k bs).bs (TS.all k bs).e ≠ 0
    · rw [if_pos h1] at h
      exact absurd (congrArg Prod.snd h) h1
    rw [if_neg h1] at h
    by_cases h2 : (TS.all k bs).ok = false
    · rw [if_pos h2] at h
      have := congrArg Prod.snd h
      simp at this
    rw [if_neg h2] at h
    have hr : (TS.all k bs).r = r := congrArg Prod.fst h
    have h3 : (TS.all k bs).e = 0 ∧ (TS.all k bs).bs = [] := by
      have h4 := Decidable.not_not.1 h1
      unfold Oct.endOf at h4
      split at h4
      · rename_i h5; exact absurd h4 h5
      · rename_i h5
        split at h4
        · simp at h4
        · rename_i h6
          exact ⟨Decidable.not_not.1 h5, List.eq_nil_of_length_eq_zero (by omega)⟩
    have hm := fold_one (fieldsOf k) ⟨Rec.zero k, true, bs, 0⟩ (fields_letter k k1 k2) (fields_nodup k k1 k2) h3.1 (show (TS.all k bs).ok = true by simpa using h2) (zero_in k)
    obtain ⟨_, _, a3, a4, a5⟩ := hm
    change bs = (fieldsOf k).flatMap (recF (TS.all k bs).r) ++ (TS.all k bs).bs at a3
    change (TS.all k bs).r.in at a4
    change Keep (fieldsOf k) (Rec.zero k) (TS.all k bs).r at a5
    rw [h3.2, List.append_nil, hr] at a3
    rw [hr] at a4 a5
    have hkk : r.kind = k := a5.kind
    have ho := only_keep k k1 k2 r a5
    refine ⟨hk, ?_, hkk, ?_, a4⟩
    · unfold mayB
      rw [hkk, hk, (eqRec_iff _ _).2 ho, Bool.true_and, Bool.true_and, decide_eq_true_iff]
      have := a4.source
      have := a4.at_
      have := a4.num
      have := a4.code
      have := a4.text
      omega
    · unfold recBody
      rw [hkk]
      exact a3.symm
  · rw [if_neg hk] at h
    have := congrArg Prod.snd h
    simp at this
theorem take_err (k : UInt8) (bs : List UInt8) (h : (takeR k bs).2 ≠ 0) : (takeR k bs).1 = Rec.zero 0 := by
  unfold takeR at h ⊢
  split
  · rename_i hk
    rw [if_pos hk] at h
    unfold TS.fin at h ⊢
    split
    · rfl
    · rename_i h1
      rw [if_neg h1] at h
      split
      · rfl
      · rename_i h2
        rw [if_neg h2] at h
        exact absurd rfl h
  · rfl
/-! shown -/
theorem split_sp : ∀ {u v R R' : List UInt8}, (∀ x ∈ u, x ≠ 32) → (∀ x ∈ v, x ≠ 32) → (R = [] ∨ ∃ t, R = 32 :: t) → (R' = [] ∨ ∃ t, R' = 32 :: t) → u ++ R = v ++ R' → u = v ∧ R = R' := by
  intro u
  induction u with
  | nil =>
    intro v R R' _ hv hR hR' h
    cases v with
    | nil => exact ⟨rfl, h⟩
    | cons y v =>
      rw [List.nil_append, List.cons_append] at h
      rcases hR with rfl | ⟨t, rfl⟩
      · cases h
      · injection h with h1 _
        exact absurd h1.symm (hv y (by simp))
  | cons x u ih =>
    intro v R R' hu hv hR hR' h
    cases v with
    | nil =>
      rw [List.nil_append, List.cons_append] at h
      rcases hR' with rfl | ⟨t, rfl⟩
      · cases h
      · injection h with h1 _
        exact absurd h1 (hu x (by simp))
    | cons y v =>
      rw [List.cons_append, List.cons_append] at h
      injection h with h1 h2
      obtain ⟨h3, h4⟩ := ih (fun z hz => hu z (by simp [hz])) (fun z hz => hv z (by simp [hz])) hR hR' h2
      exact ⟨by rw [h1, h3], h4⟩
theorem dec_digits : ∀ n : Nat, ∀ x ∈ Lib.decDigits n, x ≠ 32 := by
  intro n
  induction n using Nat.strongRecOn with
  | _ n ih =>
    intro x hx e
    have hd : ∀ m : Nat, digB m ≠ 32 := fun m h => by
      have h2 := dig_nat m
      rw [h] at h2
      have : ((32 : UInt8).toNat : Int) = 32 := rfl
      omega
    by_cases h : n < 10
    · rw [dec_small n h, List.mem_singleton] at hx
      exact hd n (hx ▸ e)
    · rw [dec_step n (by omega), List.mem_append, List.mem_singleton] at hx
      rcases hx with hx | hx
      · exact ih (n / 10) (by omega) x hx e
      · exact hd n (hx ▸ e)
theorem dec_ne (n : Nat) : Lib.decDigits n ≠ [] := by
  by_cases h : n < 10
  · rw [dec_small n h]; simp
  · rw [dec_step n (by omega)]; simp
theorem dec_inj : ∀ m n : Nat, Lib.decDigits m = Lib.decDigits n → m = n := by
  intro m
  induction m using Nat.strongRecOn with
  | _ m ih =>
    intro n h
    have hd : ∀ a b : Nat, digB a = digB b → a % 10 = b % 10 := fun a b h => by
      have h1 := dig_nat a
      have h2 := dig_nat b
      rw [h] at h1
      omega
    by_cases h1 : m < 10
    · by_cases h2 : n < 10
      · rw [dec_small m h1, dec_small n h2] at h
        injection h with h _
        have := hd _ _ h
        omega
      · rw [dec_small m h1, dec_step n (by omega)] at h
        have hl := congrArg List.length h
        have := List.length_pos_iff.2 (dec_ne (n / 10))
        rw [List.length_append] at hl
        simp at hl
        exact absurd hl (dec_ne _)
    · by_cases h2 : n < 10
      · rw [dec_small n h2, dec_step m (by omega)] at h
        have hl := congrArg List.length h
        rw [List.length_append] at hl
        simp at hl
        exact absurd hl (dec_ne _)
      · rw [dec_step m (by omega), dec_step n (by omega)] at h
        obtain ⟨h3, h4⟩ := List.append_inj' h rfl
        injection h4 with h4 _
        have := ih (m / 10) (by omega) (n / 10) h3
        have := hd _ _ h4
        omega
theorem textF_sp (r : Rec) (c : UInt8) (ht : r.text = []) : ∀ x ∈ textF r c, x ≠ 32 := by
  unfold textF
  intro x hx
  split at hx
  · rw [ht] at hx; cases hx
  · split at hx
    · unfold yesT at hx
      split at hx
      · simp at hx; rcases hx with rfl | rfl | rfl <;> decide
      · simp at hx; rcases hx with rfl | rfl <;> decide
    · exact dec_digits _ x hx
theorem flat_sp (r : Rec) (l : List UInt8) : l.flatMap (spF r) = [] ∨ ∃ t, l.flatMap (spF r) = 32 :: t := by
  cases l with
  | nil => exact .inl rfl
  | cons c l => exact .inr ⟨_, by rw [List.flatMap_cons]; unfold spF; rw [List.cons_append]⟩
theorem flat_inj (a b : Rec) (ha : a.text = []) (hb : b.text = []) : ∀ l : List UInt8, l.flatMap (spF a) = l.flatMap (spF b) → ∀ c ∈ l, textF a c = textF b c := by
  intro l
  induction l with
  | nil => intro _ c hc; cases hc
  | cons d l ih =>
    intro h c hc
    have e : ∀ r : Rec, (d :: l).flatMap (spF r) = 32 :: (textF r d ++ l.flatMap (spF r)) := fun r => by rw [List.flatMap_cons]; rfl
    rw [e a, e b] at h
    injection h with _ h
    obtain ⟨h1, h2⟩ := split_sp (textF_sp a d ha) (textF_sp b d hb) (flat_sp a l) (flat_sp b l) h
    rw [List.mem_cons] at hc
    rcases hc with rfl | hc
    · exact h1
    · exact ih h2 c hc
theorem textF_inj (a b s : Rec) (ha : a.text = []) (hb : b.text = []) (pa : a.pos) (pb : b.pos) (c : UInt8) (hc : letter c) (h : textF a c = textF b c) : copy1 a s c = copy1 b s c := by
  obtain ⟨a1, a2, a3, a4, a5⟩ := pa
  obtain ⟨b1, b2, b3, b4, b5⟩ := pb
  unfold textF at h
  rcases hc with rfl | rfl | rfl | rfl | rfl | rfl | rfl
  · simp only [show ¬ ((115 : UInt8) = 116) by decide, show ¬ ((115 : UInt8) = 121) by decide, if_false] at h
    have := dec_inj _ _ h
    simp [numU] at this
    simp [copy1]; omega
  · simp only [show ¬ ((113 : UInt8) = 116) by decide, show ¬ ((113 : UInt8) = 121) by decide, if_false] at h
    have := dec_inj _ _ h
    simp [numU] at this
    simp [copy1]; omega
  · simp only [show ¬ ((97 : UInt8) = 116) by decide, show ¬ ((97 : UInt8) = 121) by decide, if_false] at h
    have := dec_inj _ _ h
    simp [numU] at this
    simp [copy1]; omega
  · simp only [show ¬ ((110 : UInt8) = 116) by decide, show ¬ ((110 : UInt8) = 121) by decide, if_false] at h
    have := dec_inj _ _ h
    simp [numU] at this
    simp [copy1]; omega
  · simp only [show ¬ ((99 : UInt8) = 116) by decide, show ¬ ((99 : UInt8) = 121) by decide, if_false] at h
    have := dec_inj _ _ h
    simp [numU] at this
    simp [copy1]; omega
  · simp only [show ¬ ((121 : UInt8) = 116) by decide, if_false, if_true] at h
    simp [copy1]
    unfold yesT at h
    cases hy : a.yes <;> cases hz : b.yes <;> rw [hy, hz] at h <;> simp at h ⊢
  · simp [copy1, ha, hb]
theorem fold_copy (a b : Rec) : ∀ (l : List UInt8) (s : Rec), (∀ c ∈ l, ∀ s, copy1 a s c = copy1 b s c) → l.foldl (copy1 a) s = l.foldl (copy1 b) s := by
  intro l
  induction l with
  | nil => intro s _; rfl
  | cons c l ih => intro s h; rw [List.foldl_cons, List.foldl_cons, h c (by simp), ih _ (fun d hd => h d (by simp [hd]))]
theorem word_sp (k : UInt8) : ∀ x ∈ wordOf k, x ≠ 32 := by
  have h : ∀ p ∈ formsT, ∀ x ∈ p.1, x ≠ 32 := by decide
  unfold wordOf
  intro x hx
  by_cases hi : k.toNat - 17 < formsT.length
  · refine h _ ?_ x hx
    simp [List.getD, hi]
  · simp [List.getD, hi] at hx
theorem word_inj : ∀ i j : Fin 16, (formsT.getD i.1 ([], [])).1 = (formsT.getD j.1 ([], [])).1 → i = j := by decide
/-- Unlike records show unlike texts. -/
theorem show_inj {a b : Rec} (ma : mayB a = true) (mb : mayB b = true) (oa : a.ok) (ob : b.ok) (ha : a.text = []) (hb : b.text = []) (h : showR a = showR b) : a = b := by
  unfold showR at h
  rw [if_pos ma, if_pos mb] at h
  obtain ⟨h1, h2⟩ := split_sp (word_sp _) (word_sp _) (flat_sp a _) (flat_sp b _) h
  have fa := may_facts ma oa
  have fb := may_facts mb ob
  obtain ⟨a1, a2⟩ := kind_rng fa.1
  obtain ⟨b1, b2⟩ := kind_rng fb.1
  have hk : a.kind = b.kind := by
    have := word_inj ⟨a.kind.toNat - 17, by omega⟩ ⟨b.kind.toNat - 17, by omega⟩ h1
    have e : a.kind.toNat - 17 = b.kind.toNat - 17 := congrArg Fin.val this
    exact UInt8.toNat.inj (by omega)
  rw [← hk] at h2
  have h3 := flat_inj a b ha hb _ h2
  have hl := fields_letter a.kind a1 a2
  have h4 := fold_copy a b (fieldsOf a.kind) (Rec.zero a.kind) (fun c hc s => textF_inj a b s ha hb fa.2.1 fb.2.1 c (hl c hc) (h3 c hc))
  have e1 := may_only ma
  have e2 := may_only mb
  unfold onlyOf at e1 e2
  rw [← e1, ← e2, h4, ← hk]
end Go.Proofs.YtdmpopdacbdnlaaDoor
