/- What the least of a list of sources is: plain. -/
import Derived.Test.YtkdekdogfplbmaaMarkRun
namespace Go.Proofs.Ytkdekdogfplbmaa
open Go.RowKit

/-- the number of a source, if it has one -/
def Src.val (s : Src) : Option Int := if s.has then some (cut (s.head - 1)) else if s.active then some s.low else none
theorem step_none {o : Option Int} {s : Src} (h : s.val = none) : step o s = o := by
  unfold Src.val at h; unfold step
  cases hh : s.has <;> cases ha : s.active <;> simp_all
theorem step_some {o : Option Int} {s : Src} {v : Int} (h : s.val = some v) : step o s = least o v := by
  unfold Src.val at h; unfold step
  cases hh : s.has <;> cases ha : s.active <;> simp_all
/-- m is the least of the numbers of l, if there is one -/
def IsLeast (l : List Src) (o : Option Int) : Prop :=
  match o with
  | none => ∀ s ∈ l, s.val = none
  | some m => (∃ s ∈ l, s.val = some m) ∧ ∀ s ∈ l, ∀ v, s.val = some v → m ≤ v
theorem least_none (v : Int) : least none v = some v := rfl
theorem least_some (m v : Int) : least (some m) v = some (if v < m then v else m) := by simp only [least]; try (split <;> rfl)
theorem isLeast_step {l : List Src} {o : Option Int} (s : Src) (ih : IsLeast l o) : IsLeast (l ++ [s]) (step o s) := by
  cases hv : s.val with
  | none =>
    rw [step_none hv]
    cases o with
    | none =>
      intro x hx
      rcases List.mem_append.1 hx with h | h
      · exact ih x h
      · rw [List.mem_singleton.1 h]; exact hv
    | some m =>
      obtain ⟨⟨y, hy, hm⟩, hle⟩ := ih
      refine ⟨⟨y, List.mem_append.2 (.inl hy), hm⟩, fun x hx v hxv => ?_⟩
      rcases List.mem_append.1 hx with h | h
      · exact hle x h v hxv
      · rw [List.mem_singleton.1 h, hv] at hxv; cases hxv
  | some v =>
    rw [step_some hv]
    cases o with
    | none =>
      rw [least_none]
      refine ⟨⟨s, by simp, hv⟩, fun x hx u hxu => ?_⟩
      rcases List.mem_append.1 hx with h | h
      · rw [ih x h] at hxu; cases hxu
      · rw [List.mem_singleton.1 h, hv] at hxu; cases hxu; exact Int.le_refl _
    | some m =>
      obtain ⟨⟨y, hy, hm⟩, hle⟩ := ih
      rw [least_some]
      by_cases hlt : v < m
      · rw [if_pos hlt]
        refine ⟨⟨s, by simp, hv⟩, fun x hx u hxu => ?_⟩
        rcases List.mem_append.1 hx with h | h
        · have := hle x h u hxu; omega
        · rw [List.mem_singleton.1 h, hv] at hxu; cases hxu; exact Int.le_refl _
      · rw [if_neg hlt]
        refine ⟨⟨y, List.mem_append.2 (.inl hy), hm⟩, fun x hx u hxu => ?_⟩
        rcases List.mem_append.1 hx with h | h
        · exact hle x h u hxu
        · rw [List.mem_singleton.1 h, hv] at hxu; cases hxu; omega
theorem isLeast_fold (l pre : List Src) (o : Option Int) (h : IsLeast pre o) : IsLeast (pre ++ l) (l.foldl step o) := by
  induction l generalizing pre o with
  | nil => simpa using h
  | cons s l ih => rw [List.append_cons]; exact ih _ _ (isLeast_step s h)
theorem leasts_is (l : List Src) : IsLeast l (leasts l) := isLeast_fold l [] none (fun s hs => by cases hs)
end Go.Proofs.Ytkdekdogfplbmaa
