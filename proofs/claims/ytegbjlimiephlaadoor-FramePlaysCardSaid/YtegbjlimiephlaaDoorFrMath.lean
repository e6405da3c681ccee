/- Frames in bytes, in plain words. No program. -/
import Derived.Test.YtegbjlimiephlaaDoorCrcMath
namespace Go.Proofs.YtegbjlimiephlaaDoor
/-- whether bytes end in their sum -/
def Fr.fits (l : List UInt8) : Bool := if l.length < 3 then false else Crc.put (Crc.sum (l.take (l.length - 3))).toNat == l.drop (l.length - 3)
/-- an item: so many bytes skipped; or (0) a frame. -/
structure It where
  skip : Nat
  kind : UInt8
  body : List UInt8
/-- a decoder -/
structure St where
  rest : List UInt8
  skips : Nat
  found : List It
  over : Bool
/-- of what stands at the beginning: a frame's length, 0 (no frame) or -1 (too few bytes to know) -/
def Fr.look (b : List UInt8) : Int :=
  if (b.getD 0 0).toNat ≠ 165 then 0
  else if b.length < 4 then -1
  else if 256 < (b.getD 2 0).toNat * 256 + (b.getD 3 0).toNat then 0
  else if b.length < (b.getD 2 0).toNat * 256 + (b.getD 3 0).toNat + 7 then -1
  else if Fr.fits ((b.take ((b.getD 2 0).toNat * 256 + (b.getD 3 0).toNat + 7)).drop 1) = true then ((b.getD 2 0).toNat * 256 + (b.getD 3 0).toNat + 7 : Nat)
  else 0
theorem Fr.look_cases (b : List UInt8) : Fr.look b = 0 ∨ Fr.look b = -1 ∨ ∃ n : Nat, Fr.look b = n ∧ 7 ≤ n ∧ n ≤ 263 ∧ n ≤ b.length := by
  unfold Fr.look
  split
  · exact .inl rfl
  · split
    · exact .inr (.inl rfl)
    · split
      · exact .inl rfl
      · split
        · exact .inr (.inl rfl)
        · split
          · exact .inr (.inr ⟨_, rfl, by omega, by omega, by omega⟩)
          · exact .inl rfl
def Fr.tell (s : Nat) (f : List It) : List It := if 0 < s then f ++ [⟨s, 0, []⟩] else f
def Fr.item (b : List UInt8) (n : Nat) : It := ⟨0, b.getD 1 0, (b.take (n - 3)).drop 4⟩
/-- as far as may be: what waits, what was skipped, what was found -/
def Fr.pass (over : Bool) (rest : List UInt8) (s : Nat) (f : List It) : List UInt8 × Nat × List It :=
  if h0 : rest = [] then ([], s, f)
  else if hn : 0 < Fr.look rest then Fr.pass over (rest.drop (Fr.look rest).toNat) 0 (Fr.tell s f ++ [Fr.item rest (Fr.look rest).toNat])
  else if Fr.look rest = -1 ∧ over = false then (rest, s, f)
  else Fr.pass over (rest.drop 1) (s + 1) f
termination_by rest.length
decreasing_by
  · have : 0 < rest.length := List.length_pos_iff.2 h0
    rw [List.length_drop]; omega
  · have : 0 < rest.length := List.length_pos_iff.2 h0
    rw [List.length_drop]; omega
theorem Fr.pass_nil (over : Bool) (s : Nat) (f : List It) : Fr.pass over [] s f = ([], s, f) := by rw [Fr.pass]; simp
theorem Fr.pass_frame {over : Bool} {rest : List UInt8} {s : Nat} {f : List It} {n : Nat} (h : Fr.look rest = n) (hn : 0 < n) : Fr.pass over rest s f = Fr.pass over (rest.drop n) 0 (Fr.tell s f ++ [Fr.item rest n]) := by
  have h0 : rest ≠ [] := by
    rintro rfl
    simp [Fr.look] at h; omega
  rw [Fr.pass, dif_neg h0, dif_pos (by omega), h, Int.toNat_natCast]
theorem Fr.pass_wait {rest : List UInt8} {s : Nat} {f : List It} (h : Fr.look rest = -1) : Fr.pass false rest s f = (rest, s, f) := by
  have h0 : rest ≠ [] := by
    rintro rfl
    simp [Fr.look] at h
  rw [Fr.pass, dif_neg h0, dif_neg (by omega), if_pos ⟨h, rfl⟩]
theorem Fr.pass_skip {over : Bool} {rest : List UInt8} {s : Nat} {f : List It} (h0 : rest ≠ []) (h : Fr.look rest ≤ 0) (h1 : ¬ (Fr.look rest = -1 ∧ over = false)) : Fr.pass over rest s f = Fr.pass over (rest.drop 1) (s + 1) f := by
  rw [Fr.pass, dif_neg h0, dif_neg (by omega), if_neg h1]
/-- the decoder's acts -/
def St.give (d : St) (b : List UInt8) : St :=
  if d.over = true then d else
  ⟨(Fr.pass false (d.rest ++ b) d.skips d.found).1, (Fr.pass false (d.rest ++ b) d.skips d.found).2.1, (Fr.pass false (d.rest ++ b) d.skips d.found).2.2, false⟩
def St.fin (d : St) : St :=
  if d.over = true then d else
  ⟨(Fr.pass true d.rest d.skips d.found).1, 0, Fr.tell (Fr.pass true d.rest d.skips d.found).2.1 (Fr.pass true d.rest d.skips d.found).2.2, true⟩
def St.next (d : St) : St := ⟨d.rest, d.skips, d.found.drop 1, d.over⟩
def St.new : St := ⟨[], 0, [], false⟩
end Go.Proofs.YtegbjlimiephlaaDoor
