/- The bound as sources grow, and as one comes more: plain. -/
import Derived.Test.YtkdekdogfplbmaaMarkMath
namespace Go.Proofs.Ytkdekdogfplbmaa
open Go.RowKit
set_option linter.unusedVariables false
set_option linter.unusedSimpArgs false

def rz (low head : Int) (s : Src) : Src := ⟨s.active, max s.low low, s.has, max s.head head⟩
def pk (l : List Src) (k : Nat) (low head : Int) (n : Nat) : Src := if n = k then rz low head (l.getD n default) else l.getD n default
def bk (l : List Src) (k : Nat) (low head : Int) : Nat → List Src
  | 0 => []
  | j + 1 => bk l k low head j ++ [pk l k low head (l.length - 1 - j)]
theorem bk_length (l : List Src) (k : Nat) (low head : Int) (j : Nat) : (bk l k low head j).length = j := by induction j with | zero => rfl | succ j ih => simp [bk, ih]
theorem cut_mono {x y : Int} (h : x ≤ y) : cut x ≤ cut y := by unfold cut; repeat' split <;> omega
/-- a is no more than b, and there is a number in both or in none -/
def Lse (a b : Option Int) : Prop := (b = none → a = none) ∧ ∀ m, b = some m → ∃ m', a = some m' ∧ m' ≤ m
theorem Lse.mark {a b : Option Int} (h : Lse a b) : markOf a ≤ markOf b := by
  cases b with
  | none => rw [h.1 rfl]; exact Int.le_refl _
  | some m =>
    obtain ⟨m', rfl, hle⟩ := h.2 m rfl
    simp only [markOf]
    split <;> split <;> omega
theorem Lse.least {a b : Option Int} (h : Lse a b) (c : Int) : Lse (Go.Proofs.Ytkdekdogfplbmaa.least a c) (Go.Proofs.Ytkdekdogfplbmaa.least b c) := by
  cases b with
  | none => rw [h.1 rfl]; exact ⟨fun e => e, fun m e => ⟨m, e, Int.le_refl _⟩⟩
  | some m =>
    obtain ⟨m', rfl, hle⟩ := h.2 m rfl
    rw [least_some, least_some]
    refine ⟨fun e => (by cases e), fun x e => ⟨_, rfl, ?_⟩⟩
    cases e
    split <;> split <;> omega
theorem Lse.idled {a b : Option Int} (h : Lse a b) (is : Bool) (since now top : Int) : Lse (Go.Proofs.Ytkdekdogfplbmaa.idled a is since now top) (Go.Proofs.Ytkdekdogfplbmaa.idled b is since now top) := by
  unfold Go.Proofs.Ytkdekdogfplbmaa.idled
  split
  · exact h.least _
  · exact h
theorem rz_val (low head : Int) (s : Src) : ((rz low head s).val = none ↔ s.val = none) ∧ ∀ v, (rz low head s).val = some v → ∃ u, s.val = some u ∧ u ≤ v := by
  obtain ⟨ac, lo, ha, he⟩ := s
  cases ha
  · cases ac
    · simp [rz, Src.val]
    · simp [rz, Src.val]; omega
  · simp [rz, Src.val]
    exact cut_mono (by omega)
theorem pk_val (l : List Src) (k : Nat) (low head : Int) (n : Nat) : ((pk l k low head n).val = none ↔ (l.getD n default).val = none) ∧ ∀ v, (pk l k low head n).val = some v → ∃ u, (l.getD n default).val = some u ∧ u ≤ v := by
  unfold pk
  split
  · exact rz_val _ _ _
  · exact ⟨Iff.rfl, fun v h => ⟨v, h, Int.le_refl _⟩⟩
theorem getD_mem {l : List Src} {n : Nat} (h : n < l.length) : l.getD n default ∈ l := by simp [List.getD, h]
theorem bk_mem {l : List Src} {k : Nat} {low head : Int} {j : Nat} (hj : j ≤ l.length) {x : Src} (h : x ∈ bk l k low head j) : ∃ n, n < l.length ∧ x = pk l k low head n := by
  induction j with
  | zero => simp [bk] at h
  | succ j ih =>
    rcases List.mem_append.1 h with h | h
    · exact ih (by omega) h
    · exact ⟨_, by omega, List.mem_singleton.1 h⟩
theorem bk_has {l : List Src} {k : Nat} {low head : Int} {j : Nat} (hj : j ≤ l.length) {n : Nat} (hn : n < l.length) (h : l.length - j ≤ n) : pk l k low head n ∈ bk l k low head j := by
  induction j with
  | zero => omega
  | succ j ih =>
    by_cases e : n = l.length - 1 - j
    · subst e; exact List.mem_append.2 (.inr (by simp))
    · exact List.mem_append.2 (.inl (ih (by omega) (by omega)))
theorem bk_ok {l : List Src} (hl : ∀ s ∈ l, s.ok) {k : Nat} {low head : Int} (bl : -9223372036854775808 ≤ low ∧ low ≤ 9223372036854775807) (bh : -9223372036854775808 ≤ head ∧ head ≤ 9223372036854775807) {j : Nat} (hj : j ≤ l.length) : ∀ s ∈ bk l k low head j, s.ok := by
  intro s hs
  obtain ⟨n, hn, rfl⟩ := bk_mem hj hs
  obtain ⟨o1, o2, o3, o4⟩ := hl _ (getD_mem hn)
  unfold pk
  split
  · simp only [rz, Src.ok]; omega
  · exact ⟨o1, o2, o3, o4⟩
theorem mem_getD {l : List Src} {s : Src} (h : s ∈ l) : ∃ n, n < l.length ∧ l.getD n default = s := by
  obtain ⟨n, hn, rfl⟩ := List.mem_iff_getElem.1 h
  exact ⟨n, hn, by simp [List.getD, hn]⟩
theorem bk_leasts (l : List Src) (k : Nat) (low head : Int) : Lse (leasts l) (leasts (bk l k low head l.length)) := by
  have h1 := leasts_is l
  have h2 := leasts_is (bk l k low head l.length)
  generalize leasts l = a at *
  generalize leasts (bk l k low head l.length) = b at *
  refine ⟨?_, ?_⟩
  · rintro rfl
    cases a with
    | none => rfl
    | some m =>
      obtain ⟨⟨s, hs, hv⟩, _⟩ := h1
      obtain ⟨n, hn, rfl⟩ := mem_getD hs
      have := (pk_val l k low head n).1.1 (h2 _ (bk_has (Nat.le_refl _) hn (by omega)))
      rw [this] at hv; cases hv
  · rintro m rfl
    obtain ⟨⟨s, hs, hv⟩, _⟩ := h2
    obtain ⟨n, hn, rfl⟩ := bk_mem (Nat.le_refl _) hs
    obtain ⟨u, hu, hle⟩ := (pk_val l k low head n).2 m hv
    cases a with
    | none => rw [h1 _ (getD_mem hn)] at hu; cases hu
    | some m' => exact ⟨m', rfl, by have := h1.2 _ (getD_mem hn) u hu; omega⟩
theorem bound_grows (l : List Src) (k : Nat) (low head : Int) (is : Bool) (since now top : Int) : boundOf l is since now top ≤ boundOf (bk l k low head l.length) is since now top := ((bk_leasts l k low head).idled is since now top).mark

theorem markOf_ge (o : Option Int) : -1 ≤ markOf o := by unfold markOf; split <;> (try split) <;> omega
theorem least_le (o : Option Int) (c : Int) : ∃ m, least o c = some m ∧ m ≤ c ∧ ∀ x, o = some x → m ≤ x := by
  cases o with
  | none => exact ⟨c, rfl, Int.le_refl _, fun x e => (by cases e)⟩
  | some x => rw [least_some]; refine ⟨_, rfl, ?_, fun y e => ?_⟩ <;> (try cases e) <;> split <;> omega
theorem idled_le (o : Option Int) (is : Bool) (since now top : Int) : ∀ x, o = some x → ∃ m, idled o is since now top = some m ∧ m ≤ x := by
  intro x e
  unfold idled
  split
  · obtain ⟨m, h1, _, h3⟩ := least_le o (cut (top + cut (now - since))); exact ⟨m, h1, h3 x e⟩
  · exact ⟨x, e, Int.le_refl _⟩
theorem bound_val (l : List Src) (is : Bool) (since now top : Int) {s : Src} (hs : s ∈ l) {v : Int} (hv : s.val = some v) (hb : -1 < boundOf l is since now top) : boundOf l is since now top ≤ v := by
  have h1 := leasts_is l
  unfold boundOf at *
  generalize leasts l = o at *
  cases o with
  | none => rw [h1 s hs] at hv; cases hv
  | some x =>
    have hx := h1.2 s hs v hv
    obtain ⟨m, hm, hle⟩ := idled_le (some x) is since now top x rfl
    rw [hm] at hb ⊢
    simp only [markOf] at *
    split at hb
    · omega
    · split <;> omega
/-- what the loop of MarkLeast asks of a source -/
def srcBad (b : Int) (s : Src) : Bool := (s.has && decide (-1 < b) && decide (s.head ≤ b)) || (!s.has && s.active && decide (-1 < b) && decide (s.low < b))
theorem srcBad_no (l : List Src) (is : Bool) (since now top : Int) {s : Src} (hs : s ∈ l) (hok : s.ok) : srcBad (boundOf l is since now top) s = false := by
  have g := fun v hv hb => bound_val l is since now top hs (v := v) hv hb
  generalize boundOf l is since now top = b at *
  obtain ⟨ac, lo, ha, he⟩ := s
  obtain ⟨o1, o2, o3, o4⟩ := hok
  cases ha
  · cases ac
    · simp [srcBad]
    · simp [srcBad]
      intro hb
      have := g lo (by simp [Src.val]) hb
      omega
  · simp [srcBad]
    intro hb
    have := g _ (by simp [Src.val]; rfl) hb
    unfold cut at this
    split at this
    · simp only at o3 o4 this ⊢; omega
    · split at this <;> simp only at o3 o4 this ⊢ <;> omega
def anyOf (l : List Src) (is : Bool) (top : Int) : Bool := (is && decide (0 ≤ top)) || l.any fun s => s.has || s.active
theorem val_none {s : Src} : s.val = none ↔ (s.has || s.active) = false := by unfold Src.val; cases s.has <;> cases s.active <;> simp
theorem idled_none (l : List Src) (is : Bool) (since now top : Int) : idled (leasts l) is since now top = none ↔ anyOf l is top = false := by
  have h1 := leasts_is l
  unfold idled anyOf
  generalize leasts l = o at *
  by_cases hi : (is && decide (0 ≤ top)) = true
  · rw [if_pos hi, hi]
    obtain ⟨m, hm, _⟩ := least_le o (cut (top + cut (now - since)))
    rw [hm]; simp
  · rw [if_neg hi, Bool.eq_false_iff.2 hi, Bool.false_or]
    cases o with
    | none =>
      simp only [true_iff, List.any_eq_false]
      intro s hs
      rw [val_none.1 (h1 s hs)]; simp
    | some m =>
      obtain ⟨⟨s, hs, hv⟩, _⟩ := h1
      simp only [reduceCtorEq, false_iff, Bool.not_eq_false, List.any_eq_true]
      refine ⟨s, hs, ?_⟩
      cases hq : (s.has || s.active) with
      | true => rfl
      | false => rw [val_none.2 hq] at hv; cases hv
theorem step_le (o : Option Int) (s : Src) : ∀ x, o = some x → ∃ m, step o s = some m ∧ m ≤ x := by
  intro x e
  cases hv : s.val with
  | none => rw [step_none hv]; exact ⟨x, e, Int.le_refl _⟩
  | some v => rw [step_some hv]; obtain ⟨m, h1, _, h3⟩ := least_le o v; exact ⟨m, h1, h3 x e⟩
theorem more_le (l : List Src) (s : Src) (is : Bool) (since now top : Int) (ha : anyOf l is top = true) : boundOf (l ++ [s]) is since now top ≤ boundOf l is since now top := by
  have hn : idled (leasts l) is since now top ≠ none := fun e => by rw [idled_none] at e; rw [e] at ha; cases ha
  unfold boundOf
  rw [leasts_snoc]
  have hst := step_le (leasts l) s
  generalize leasts l = o at *
  have key : ∃ m m', idled o is since now top = some m ∧ idled (step o s) is since now top = some m' ∧ m' ≤ m := by
    by_cases hi : (is && decide (0 ≤ top)) = true
    · unfold idled
      rw [if_pos hi, if_pos hi]
      cases o with
      | none =>
        obtain ⟨m', h1, h2, _⟩ := least_le (step none s) (cut (top + cut (now - since)))
        exact ⟨_, m', rfl, h1, h2⟩
      | some x =>
        obtain ⟨y, hy, hyx⟩ := hst x rfl
        rw [hy, least_some, least_some]
        refine ⟨_, _, rfl, rfl, ?_⟩
        split <;> split <;> omega
    · unfold idled at hn ⊢
      rw [if_neg hi] at hn ⊢
      rw [if_neg hi]
      cases o with
      | none => exact absurd rfl hn
      | some x => obtain ⟨y, hy, hyx⟩ := hst x rfl; exact ⟨x, y, rfl, hy, hyx⟩
  obtain ⟨m, m', h1, h2, h3⟩ := key
  rw [h1, h2]
  simp only [markOf]
  split <;> split <;> omega
/-- the answer of MarkLeast's last row -/
theorem least_law (l : List Src) (s : Src) (is : Bool) (since now top : Int) :
    -1 ≤ boundOf l is since now top ∧ -1 ≤ boundOf (l ++ [s]) is since now top ∧ (anyOf l is top = true → boundOf (l ++ [s]) is since now top ≤ boundOf l is since now top) ∧ (anyOf l is top = false → boundOf l is since now top = -1) :=
  ⟨markOf_ge _, markOf_ge _, more_le l s is since now top, fun h => by unfold boundOf; rw [(idled_none l is since now top).2 h]; rfl⟩
end Go.Proofs.Ytkdekdogfplbmaa
