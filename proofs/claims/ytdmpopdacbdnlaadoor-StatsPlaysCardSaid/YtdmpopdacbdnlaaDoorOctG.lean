/- OctMath, OctBits, OctPut, OctPut2, OctTake, OctSign, OctRead, OctTexts, OctLaw, OctOneLaw, OctBackLaw, OctRNum, OctRTake, OctRRead, OctRRead2, OctRText. -/
import Derived.Test.YtdmpopdacbdnlaaDoorKitG
import Derived.Lib.BitFns
import Derived.Lib.ItoaNum
import Derived.Maps.AppendAt
import Derived.Maps.Range
import Derived.Shelf.Strconv.Itoa0
import Derived.Shelf.Strconv.Itoa1
import Derived.Shelf.LaysM
import Derived.Shelf.Strconv.Itoa2
import Derived.Shelf.Strconv.Itoa3
import Derived.Shelf.Strconv.Itoa4
import Derived.Shelf.Strconv.AppendUint10
import Derived.Shelf.Strconv.AppendInt10
import Derived.Shelf.Strconv.AppendIntPublic10
import Derived.Test.YtdmpopdacbdnlaaDoorProg
import Derived.Laws.BitsAllLaws
import Derived.Lib.AppendStr
import Derived.Deep.RegionWith
import Derived.Deep.QuietTactic
/- Numbers as bytes: plain. -/
namespace Go.Proofs.YtdmpopdacbdnlaaDoor.Oct
open Go.RowKit Go
set_option linter.unusedVariables false

def nb (u : Nat) : Nat := (Lib.bitLen u + 7) / 8
def byteAt (u k i : Nat) : UInt8 := UInt8.ofNat (u / 256 ^ (k - 1 - i))
def be (u k i : Nat) : List UInt8 := (List.range i).map (byteAt u k)
def enc (u : Nat) : List UInt8 := if u < 248 then [UInt8.ofNat u] else UInt8.ofNat (247 + nb u) :: be u (nb u) (nb u)
theorem be_succ (u k i : Nat) : be u k (i + 1) = be u k i ++ [byteAt u k i] := by simp [be, List.range_succ]
theorem nb_spec {u : Nat} (h : 248 ≤ u) (h64 : u < 18446744073709551616) : 1 ≤ nb u ∧ nb u ≤ 8 ∧ 256 ^ (nb u - 1) ≤ u ∧ u < 256 ^ nb u := by
  have h1 := (Lib.bitLen_le u 64 (by omega) (by omega))
  obtain ⟨b1, b2⟩ := Lib.bitLenAux_bounds 64 u (by omega) (by omega) |>.2
  have b0 := (Lib.bitLenAux_bounds 64 u (by omega) (by omega)).1
  have e : ∀ n, 256 ^ n = 2 ^ (8 * n) := fun n => by rw [Nat.pow_mul]
  change 1 ≤ Lib.bitLen u at b0
  change 2 ^ (Lib.bitLen u - 1) ≤ u at b1
  change u < 2 ^ Lib.bitLen u at b2
  unfold nb
  refine ⟨by omega, by omega, ?_, ?_⟩
  · rw [e]; exact Nat.le_trans (Nat.pow_le_pow_right (by omega) (by omega)) b1
  · rw [e]; exact Nat.lt_of_lt_of_le b2 (Nat.pow_le_pow_right (by omega) (by omega))

/-- What a grown slice of the call's own is to the elder one. -/
structure Grew (t : TypeId) (base : Nat) (w : World) (v : Value) (w' : World) (v' : Value) (l' : List UInt8) : Prop where
  own : OwnB t base w' v' l'
  gr : w.grownBy w' v.ownBlock
  pl : ∀ j, v'.ownBlock = some j → w.heap.size ≤ j ∨ v.ownBlock = some j
theorem Grew.refl {t : TypeId} {base : Nat} {w : World} {v : Value} {l : List UInt8} (h : OwnB t base w v l) : Grew t base w v w v l := ⟨h, World.grownBy.refl _ _, fun _ e => .inr e⟩
theorem Grew.trans {t : TypeId} {base : Nat} {w w1 w2 : World} {v v1 v2 : Value} {l1 l2 : List UInt8} (h : Grew t base w v w1 v1 l1) (k : Grew t base w1 v1 w2 v2 l2) : Grew t base w v w2 v2 l2 :=
  ⟨k.own, h.gr.andThen k.gr h.pl, fun j e => by
    rcases k.pl j e with h1 | h1
    · exact .inl (Nat.le_trans h.gr.size h1)
    · exact h.pl j h1⟩
/-- new blocks between -/
theorem Grew.below {t : TypeId} {base : Nat} {w w1 w2 : World} {v v1 : Value} {l1 : List UInt8} (h : Grew t base w v w1 v1 l1) (hb : Below w1.heap.size w1 w2) : Grew t base w v w2 v1 l1 :=
  ⟨h.own.below hb, h.gr.andThen (row' := none) ⟨hb.os, hb.tape, hb.output, hb.size, fun k hk _ => hb.block k hk⟩ (fun j e => by cases e), h.pl⟩
theorem Grew.toBelow {t : TypeId} {base : Nat} {w w' : World} {v v' : Value} {l l' : List UInt8} (h : Grew t base w v w' v' l') (hO : OwnB t base w v l) (hbase : base ≤ w.heap.size) : Below base w w' :=
  (Below.refl base w).grown h.gr hbase (fun k hk => (hO.owns.lt k hk).1)
end Go.Proofs.YtdmpopdacbdnlaaDoor.Oct
/-
  DERIVED: THE SHELF's CONTRACTS AT THIS DUMP, IN PLAIN WORDS (tools/lay-plain.mjs out of 'TrydShelf.lean', which tools/lay-shelf.mjs wrote): THE SAME DECLARATIONS UNDER THE SAME NAMES: 'import', 'namespace', 'open', 'def', 'theorem' AND NOTHING ELSE: no command of the shelf's: FOR A HAND-IN. Each laying: the table of numbers ('.._ren') and one theorem, a field a fact of the dump's own or the kernel's comparison; each contract: ONE APPLICATION.
-/
namespace Go.Proofs
open Go.Shelf
def Tryd.lays129_ren : Go.Shelf.Ren := ⟨fun | 129 => 78 | n => n, fun | 53 => 67 | 3 => 3 | 4 => 4 | 46 => 161 | 5 => 5 | 9 => 9 | n => n, fun | n => n⟩
theorem Tryd.lays129 : Go.Proofs.Lays.n129 Tryd.prog Tryd.lays129_ren := {
  mixed := by kernel_rfl
  f129 := Tryd.func78.trans (congrArg some (by kernel_rfl))
  t3 := Tryd.underlying3
  a3 := Tryd.isAgg3
  z3 := Tryd.sizeOf3
  v3 := Tryd.zeroValue3
  t4 := Tryd.underlying4
  a4 := Tryd.isAgg4
  z4 := Tryd.sizeOf4
  v4 := Tryd.zeroValue4
  t5 := Tryd.underlying5
  a5 := Tryd.isAgg5
  z5 := Tryd.sizeOf5
  v5 := Tryd.zeroValue5
  t9 := Tryd.underlying9
  a9 := Tryd.isAgg9
  z9 := Tryd.sizeOf9
  v9 := Tryd.zeroValue9
  t46 := Tryd.underlying161
  a46 := Tryd.isAgg161
  z46 := Tryd.sizeOf161
  v46 := Tryd.zeroValue161
  t53 := Tryd.underlying67
  a53 := Tryd.isAgg67
  z53 := Tryd.sizeOf67
  v53 := Tryd.zeroValue67 }
/-- bits.Len64: "Len64 returns the minimum number of bits required to represent x; the result is 0 for x == 0.": IT RETURNS 'Lib.bitLen x'; the world is as it was. ('h0', 'h1': x is a uint64.) (LAID: no walk: one application.) -/
theorem Tryd.bits_Len64 (x : Int) (w : World) (h0 : 0 ≤ x) (h1 : x ≤ 18446744073709551615) :
    Calls Tryd.prog 78 #[.int .u64 x] w fun e w' => e = .returned (.int .i64 (Lib.bitLen x.toNat)) ∧ w' = w := Any.bits_Len64 Tryd.lays129 x w h0 h1
def Tryd.lays317_ren : Go.Shelf.Ren := ⟨fun | 317 => 134 | n => n, fun | 3 => 3 | 46 => 161 | n => n, fun | n => n⟩
theorem Tryd.lays317 : Go.Proofs.Lays.n317 Tryd.prog Tryd.lays317_ren := {
  mixed := by kernel_rfl
  f317 := Tryd.func134.trans (congrArg some (by kernel_rfl))
  t3 := Tryd.underlying3
  a3 := Tryd.isAgg3
  z3 := Tryd.sizeOf3
  v3 := Tryd.zeroValue3
  t46 := Tryd.underlying161
  a46 := Tryd.isAgg161
  z46 := Tryd.sizeOf161
  v46 := Tryd.zeroValue161 }
open Go.Lib in
/-- internal/strconv.log10Pow2: "log10Pow2(x) returns ⌊log₁₀ 2**x⌋ = ⌊x * log₁₀ 2⌋.": '(x * 78913) >> 18', at an x up to 64 (a length in bits). The world is as it was. (LAID: no walk: one application.) -/
theorem Tryd.internal_strconv_log10Pow2 (x : Nat) (h : x ≤ 64) (w : World) :
    Calls Tryd.prog 134 #[.int .i64 x] w fun e w' => e = .returned (.int .i64 (Lib.l10 x)) ∧ w' = w := Any.internal_strconv_log10Pow2 Tryd.lays317 x h w
def Tryd.lays318_ren : Go.Shelf.Ren := ⟨fun | 318 => 135 | n => n, fun | 3 => 3 | 4 => 4 | n => n, fun | n => n⟩
theorem Tryd.lays318 : Go.Proofs.Lays.n318 Tryd.prog Tryd.lays318_ren := {
  mixed := by kernel_rfl
  f318 := Tryd.func135.trans (congrArg some (by kernel_rfl))
  t3 := Tryd.underlying3
  a3 := Tryd.isAgg3
  z3 := Tryd.sizeOf3
  v3 := Tryd.zeroValue3
  t4 := Tryd.underlying4
  a4 := Tryd.isAgg4
  z4 := Tryd.sizeOf4
  v4 := Tryd.zeroValue4 }
open Go.Lib in
/-- internal/strconv.bool2: "bool2 converts b to an integer: 1 for true, 0 for false." The world is as it was. (LAID: no walk: one application.) -/
theorem Tryd.internal_strconv_bool2_int (b : Bool) (w : World) :
    Calls Tryd.prog 135 #[.bool b] w fun e w' => e = .returned (.int .i64 (if b then 1 else 0)) ∧ w' = w := Any.internal_strconv_bool2_int Tryd.lays318 b w
def Tryd.lays283_ren : Go.Shelf.Ren := ⟨fun | 283 => 127 | n => n, fun | 3 => 3 | 9 => 9 | 4 => 4 | n => n, fun | n => n⟩
theorem Tryd.lays283 : Go.Proofs.Lays.n283 Tryd.prog Tryd.lays283_ren := {
  mixed := by kernel_rfl
  f283 := Tryd.func127.trans (congrArg some (by kernel_rfl))
  t3 := Tryd.underlying3
  a3 := Tryd.isAgg3
  z3 := Tryd.sizeOf3
  v3 := Tryd.zeroValue3
  t4 := Tryd.underlying4
  a4 := Tryd.isAgg4
  z4 := Tryd.sizeOf4
  v4 := Tryd.zeroValue4
  t9 := Tryd.underlying9
  a9 := Tryd.isAgg9
  z9 := Tryd.sizeOf9
  v9 := Tryd.zeroValue9 }
open Go.Lib in
/-- internal/strconv.small: "small returns the string for an i with 0 <= i < nSmalls.": i's decimal numeral. The world is as it was. (LAID: no walk: one application.) -/
theorem Tryd.internal_strconv_small (i : Nat) (h : i < 100) (w : World) :
    Calls Tryd.prog 127 #[.int .i64 i] w fun e w' => e = .returned (.string ⟨(Lib.decDigits i).toArray⟩) ∧ w' = w := Any.internal_strconv_small Tryd.lays283 i h w
def Tryd.laysM284_ren : Go.Shelf.Ren := ⟨fun | 284 => 128 | 129 => 78 | 317 => 134 | 318 => 135 | n => n, fun | 53 => 67 | 3 => 3 | 212 => 193 | 0 => 0 | 4 => 4 | 46 => 161 | 5 => 5 | 9 => 9 | n => n, fun | 17 => 1 | n => n⟩
theorem Tryd.laysM284 : Go.Proofs.LaysM.n284 Tryd.prog Tryd.laysM284_ren := {
  mixed := by kernel_rfl
  f129 := Tryd.func78.trans (congrArg some (by kernel_rfl))
  f284 := Tryd.func128.trans (congrArg some (by kernel_rfl))
  f317 := Tryd.func134.trans (congrArg some (by kernel_rfl))
  f318 := Tryd.func135.trans (congrArg some (by kernel_rfl))
  t0 := Tryd.underlying0
  a0 := Tryd.isAgg0
  z0 := Tryd.sizeOf0
  v0 := Tryd.zeroValue0
  t3 := Tryd.underlying3
  a3 := Tryd.isAgg3
  z3 := Tryd.sizeOf3
  v3 := Tryd.zeroValue3
  t4 := Tryd.underlying4
  a4 := Tryd.isAgg4
  z4 := Tryd.sizeOf4
  v4 := Tryd.zeroValue4
  t5 := Tryd.underlying5
  a5 := Tryd.isAgg5
  z5 := Tryd.sizeOf5
  v5 := Tryd.zeroValue5
  t9 := Tryd.underlying9
  a9 := Tryd.isAgg9
  z9 := Tryd.sizeOf9
  v9 := Tryd.zeroValue9
  t46 := Tryd.underlying161
  a46 := Tryd.isAgg161
  z46 := Tryd.sizeOf161
  v46 := Tryd.zeroValue161
  t53 := Tryd.underlying67
  a53 := Tryd.isAgg67
  z53 := Tryd.sizeOf67
  v53 := Tryd.zeroValue67
  t212 := Tryd.underlying193
  a212 := Tryd.isAgg193
  z212 := Tryd.sizeOf193
  v212 := Tryd.zeroValue193
  g17 := by kernel_rfl
  i0 := by kernel_rfl
  i3 := by kernel_rfl
  i4 := by kernel_rfl
  i5 := by kernel_rfl
  i9 := by kernel_rfl
  i46 := by kernel_rfl
  i53 := by kernel_rfl
  i212 := by kernel_rfl
  m17 := by kernel_rfl }
open Go.Lib in
/-- internal/strconv.numDigits, at a d that is not 0: THE NUMBER OF d's DECIMAL DIGITS. The world is as it was. (LAID: no walk: one application.) -/
theorem Tryd.internal_strconv_numDigits (u : Nat) (h1 : 1 ≤ u) (h2 : u < 18446744073709551616) (w : World) (htab : Lib.TabIs Tryd.prog w "internal/strconv.uint64pow10" .u64 Lib.pow10Tab) :
    Calls Tryd.prog 128 #[.int .u64 u] w fun e w' => e = .returned (.int .i64 (Lib.nDigits u)) ∧ w' = w := Any.internal_strconv_numDigits Tryd.laysM284 u h1 h2 w htab
def Tryd.lays285_ren : Go.Shelf.Ren := ⟨fun | 285 => 129 | n => n, fun | 37 => 22 | 53 => 67 | 3 => 3 | 4 => 4 | 51 => 163 | 9 => 9 | 5 => 5 | 0 => 0 | n => n, fun | n => n⟩
theorem Tryd.lays285 : Go.Proofs.Lays.n285 Tryd.prog Tryd.lays285_ren := {
  mixed := by kernel_rfl
  f285 := Tryd.func129.trans (congrArg some (by kernel_rfl))
  t0 := Tryd.underlying0
  a0 := Tryd.isAgg0
  z0 := Tryd.sizeOf0
  v0 := Tryd.zeroValue0
  t3 := Tryd.underlying3
  a3 := Tryd.isAgg3
  z3 := Tryd.sizeOf3
  v3 := Tryd.zeroValue3
  t4 := Tryd.underlying4
  a4 := Tryd.isAgg4
  z4 := Tryd.sizeOf4
  v4 := Tryd.zeroValue4
  t5 := Tryd.underlying5
  a5 := Tryd.isAgg5
  z5 := Tryd.sizeOf5
  v5 := Tryd.zeroValue5
  t9 := Tryd.underlying9
  a9 := Tryd.isAgg9
  z9 := Tryd.sizeOf9
  v9 := Tryd.zeroValue9
  t37 := Tryd.underlying22
  a37 := Tryd.isAgg22
  z37 := Tryd.sizeOf22
  v37 := Tryd.zeroValue22
  t51 := Tryd.underlying163
  a51 := Tryd.isAgg163
  z51 := Tryd.sizeOf163
  v51 := Tryd.zeroValue163
  t53 := Tryd.underlying67
  a53 := Tryd.isAgg67
  z53 := Tryd.sizeOf67
  v53 := Tryd.zeroValue67 }
open Go.RowKit Go.Sort Go.Lib in
/-- internal/strconv.formatBase10: "formatBase10 formats the decimal representation of u into a. The caller is responsible for ensuring that a is big enough to hold u. If a is too big, leading zeros will be filled in as needed.": THE ROW HOLDS u's DIGITS ('FmtInv .. 0 ..': every place t holds 'dg u (len - 1 - t)'); all else is as it was but for the count of draws. (LAID: no walk: one application.) -/
theorem Tryd.internal_strconv_formatBase10 (blk off cap : Nat) (u : Nat) (d : Array UInt8) (w : World) (hH : Holds (fun (b : UInt8) => Value.int .u8 (b.toNat : Int)) w blk off d) (hu : u < 10 ^ d.size) (hu64 : u < 18446744073709551616) (hsz : d.size < 4611686018427387904) :
    Calls Tryd.prog 129 #[.slice (some ⟨blk, off, none⟩) d.size cap, .int .u64 u] w fun e w' =>
      e = .returned (.tuple #[]) ∧ ∃ (n v' : Nat) (dk : Array UInt8), w' = (putRow (fun (b : UInt8) => Value.int .u8 (b.toNat : Int)) w blk off dk).drewN n ∧ FmtInv d.size u 0 v' dk := Any.internal_strconv_formatBase10 Tryd.lays285 blk off cap u d w hH hu hu64 hsz
def Tryd.laysM246_ren : Go.Shelf.Ren := ⟨fun | 246 => 111 | 283 => 127 | 284 => 128 | 285 => 129 | 286 => 130 | 129 => 78 | 317 => 134 | 318 => 135 | 319 => 136 | 320 => 137 | 337 => 139 | 338 => 140 | n => n, fun | 2 => 2 | 3 => 3 | 9 => 9 | 4 => 4 | 171 => 184 | 0 => 0 | 53 => 67 | 37 => 22 | 5 => 5 | 173 => 186 | 212 => 193 | 51 => 163 | 20 => 20 | 213 => 194 | 46 => 161 | 232 => 200 | 233 => 201 | n => n, fun | 17 => 1 | 18 => 3 | 19 => 4 | n => n⟩
theorem Tryd.laysM246 : Go.Proofs.LaysM.n246 Tryd.prog Tryd.laysM246_ren := {
  mixed := by kernel_rfl
  f129 := Tryd.func78.trans (congrArg some (by kernel_rfl))
  f246 := Tryd.func111.trans (congrArg some (by kernel_rfl))
  f283 := Tryd.func127.trans (congrArg some (by kernel_rfl))
  f284 := Tryd.func128.trans (congrArg some (by kernel_rfl))
  f285 := Tryd.func129.trans (congrArg some (by kernel_rfl))
  f286 := Tryd.func130.trans (congrArg some (by kernel_rfl))
  f317 := Tryd.func134.trans (congrArg some (by kernel_rfl))
  f318 := Tryd.func135.trans (congrArg some (by kernel_rfl))
  f319 := Tryd.func136.trans (congrArg some (by kernel_rfl))
  f320 := Tryd.func137.trans (congrArg some (by kernel_rfl))
  f337 := Tryd.func139.trans (congrArg some (by kernel_rfl))
  f338 := Tryd.func140.trans (congrArg some (by kernel_rfl))
  t0 := Tryd.underlying0
  a0 := Tryd.isAgg0
  z0 := Tryd.sizeOf0
  v0 := Tryd.zeroValue0
  t2 := Tryd.underlying2
  a2 := Tryd.isAgg2
  z2 := Tryd.sizeOf2
  v2 := Tryd.zeroValue2
  t3 := Tryd.underlying3
  a3 := Tryd.isAgg3
  z3 := Tryd.sizeOf3
  v3 := Tryd.zeroValue3
  t4 := Tryd.underlying4
  a4 := Tryd.isAgg4
  z4 := Tryd.sizeOf4
  v4 := Tryd.zeroValue4
  t5 := Tryd.underlying5
  a5 := Tryd.isAgg5
  z5 := Tryd.sizeOf5
  v5 := Tryd.zeroValue5
  t9 := Tryd.underlying9
  a9 := Tryd.isAgg9
  z9 := Tryd.sizeOf9
  v9 := Tryd.zeroValue9
  t20 := Tryd.underlying20
  a20 := Tryd.isAgg20
  z20 := Tryd.sizeOf20
  v20 := Tryd.zeroValue20
  t37 := Tryd.underlying22
  a37 := Tryd.isAgg22
  z37 := Tryd.sizeOf22
  v37 := Tryd.zeroValue22
  t46 := Tryd.underlying161
  a46 := Tryd.isAgg161
  z46 := Tryd.sizeOf161
  v46 := Tryd.zeroValue161
  t51 := Tryd.underlying163
  a51 := Tryd.isAgg163
  z51 := Tryd.sizeOf163
  v51 := Tryd.zeroValue163
  t53 := Tryd.underlying67
  a53 := Tryd.isAgg67
  z53 := Tryd.sizeOf67
  v53 := Tryd.zeroValue67
  t171 := Tryd.underlying184
  a171 := Tryd.isAgg184
  z171 := Tryd.sizeOf184
  v171 := Tryd.zeroValue184
  t173 := Tryd.underlying186
  a173 := Tryd.isAgg186
  z173 := Tryd.sizeOf186
  v173 := Tryd.zeroValue186
  t212 := Tryd.underlying193
  a212 := Tryd.isAgg193
  z212 := Tryd.sizeOf193
  v212 := Tryd.zeroValue193
  t213 := Tryd.underlying194
  a213 := Tryd.isAgg194
  z213 := Tryd.sizeOf194
  t232 := Tryd.underlying200
  a232 := Tryd.isAgg200
  z232 := Tryd.sizeOf200
  v232 := Tryd.zeroValue200
  t233 := Tryd.underlying201
  a233 := Tryd.isAgg201
  z233 := Tryd.sizeOf201
  v233 := Tryd.zeroValue201
  g17 := by kernel_rfl
  g18 := by kernel_rfl
  g19 := by kernel_rfl
  i0 := by kernel_rfl
  i2 := by kernel_rfl
  i3 := by kernel_rfl
  i4 := by kernel_rfl
  i5 := by kernel_rfl
  i9 := by kernel_rfl
  i20 := by kernel_rfl
  i37 := by kernel_rfl
  i46 := by kernel_rfl
  i51 := by kernel_rfl
  i53 := by kernel_rfl
  i171 := by kernel_rfl
  i173 := by kernel_rfl
  i212 := by kernel_rfl
  i232 := by kernel_rfl
  i233 := by kernel_rfl
  m17 := by kernel_rfl
  m18 := by kernel_rfl
  m19 := by kernel_rfl }
open Go.RowKit Go.Sort Go.Lib in
/-- internal/strconv.FormatInt: "FormatInt returns the string representation of i in the given base": AT BASE 10: i's decimal numeral, for every int64. The world behind the call: the world before it, new blocks behind the heap, draws. (LAID: no walk: one application.) -/
theorem Tryd.internal_strconv_FormatInt_10 (n : Int) (h0 : -9223372036854775808 ≤ n) (h1 : n ≤ 9223372036854775807) (w : World) (htab : Lib.TabIs Tryd.prog w "internal/strconv.uint64pow10" .u64 Lib.pow10Tab) :
    Calls Tryd.prog 111 #[.int .i64 n, .int .i64 10] w fun e w' => e = .returned (.string ⟨(Lib.itoa n).toArray⟩) ∧ ∃ k os, w' = grow (w.drewN k) os := Any.internal_strconv_FormatInt_10 Tryd.laysM246 n h0 h1 w htab
def Tryd.lays246_ren : Go.Shelf.Ren := ⟨fun | 246 => 111 | 283 => 127 | 284 => 128 | 285 => 129 | 286 => 130 | 129 => 78 | 317 => 134 | 318 => 135 | 319 => 136 | 320 => 137 | 337 => 139 | 338 => 140 | n => n, fun | 2 => 2 | 3 => 3 | 9 => 9 | 4 => 4 | 171 => 184 | 0 => 0 | 53 => 67 | 37 => 22 | 5 => 5 | 173 => 186 | 212 => 193 | 51 => 163 | 20 => 20 | 213 => 194 | 46 => 161 | 232 => 200 | 233 => 201 | n => n, fun | 17 => 1 | 18 => 3 | 19 => 4 | n => n⟩
theorem Tryd.lays246 : Go.Proofs.Lays.n246 Tryd.prog Tryd.lays246_ren := {
  mixed := by kernel_rfl
  f129 := Tryd.func78.trans (congrArg some (by kernel_rfl))
  f246 := Tryd.func111.trans (congrArg some (by kernel_rfl))
  f283 := Tryd.func127.trans (congrArg some (by kernel_rfl))
  f284 := Tryd.func128.trans (congrArg some (by kernel_rfl))
  f285 := Tryd.func129.trans (congrArg some (by kernel_rfl))
  f286 := Tryd.func130.trans (congrArg some (by kernel_rfl))
  f317 := Tryd.func134.trans (congrArg some (by kernel_rfl))
  f318 := Tryd.func135.trans (congrArg some (by kernel_rfl))
  f319 := Tryd.func136.trans (congrArg some (by kernel_rfl))
  f320 := Tryd.func137.trans (congrArg some (by kernel_rfl))
  f337 := Tryd.func139.trans (congrArg some (by kernel_rfl))
  f338 := Tryd.func140.trans (congrArg some (by kernel_rfl))
  t0 := Tryd.underlying0
  a0 := Tryd.isAgg0
  z0 := Tryd.sizeOf0
  v0 := Tryd.zeroValue0
  t2 := Tryd.underlying2
  a2 := Tryd.isAgg2
  z2 := Tryd.sizeOf2
  v2 := Tryd.zeroValue2
  t3 := Tryd.underlying3
  a3 := Tryd.isAgg3
  z3 := Tryd.sizeOf3
  v3 := Tryd.zeroValue3
  t4 := Tryd.underlying4
  a4 := Tryd.isAgg4
  z4 := Tryd.sizeOf4
  v4 := Tryd.zeroValue4
  t5 := Tryd.underlying5
  a5 := Tryd.isAgg5
  z5 := Tryd.sizeOf5
  v5 := Tryd.zeroValue5
  t9 := Tryd.underlying9
  a9 := Tryd.isAgg9
  z9 := Tryd.sizeOf9
  v9 := Tryd.zeroValue9
  t20 := Tryd.underlying20
  a20 := Tryd.isAgg20
  z20 := Tryd.sizeOf20
  v20 := Tryd.zeroValue20
  t37 := Tryd.underlying22
  a37 := Tryd.isAgg22
  z37 := Tryd.sizeOf22
  v37 := Tryd.zeroValue22
  t46 := Tryd.underlying161
  a46 := Tryd.isAgg161
  z46 := Tryd.sizeOf161
  v46 := Tryd.zeroValue161
  t51 := Tryd.underlying163
  a51 := Tryd.isAgg163
  z51 := Tryd.sizeOf163
  v51 := Tryd.zeroValue163
  t53 := Tryd.underlying67
  a53 := Tryd.isAgg67
  z53 := Tryd.sizeOf67
  v53 := Tryd.zeroValue67
  t171 := Tryd.underlying184
  a171 := Tryd.isAgg184
  z171 := Tryd.sizeOf184
  v171 := Tryd.zeroValue184
  t173 := Tryd.underlying186
  a173 := Tryd.isAgg186
  z173 := Tryd.sizeOf186
  v173 := Tryd.zeroValue186
  t212 := Tryd.underlying193
  a212 := Tryd.isAgg193
  z212 := Tryd.sizeOf193
  v212 := Tryd.zeroValue193
  t213 := Tryd.underlying194
  a213 := Tryd.isAgg194
  z213 := Tryd.sizeOf194
  t232 := Tryd.underlying200
  a232 := Tryd.isAgg200
  z232 := Tryd.sizeOf200
  v232 := Tryd.zeroValue200
  t233 := Tryd.underlying201
  a233 := Tryd.isAgg201
  z233 := Tryd.sizeOf201
  v233 := Tryd.zeroValue201
  g17 := by kernel_rfl
  g18 := by kernel_rfl
  g19 := by kernel_rfl }
open Go.RowKit Go.Sort Go.Lib in
/-- THE ROAD WITHOUT THE TABLE: 0 <= i < 100: two constants are read, nothing is laid: no premise on the world, and the world is as it was. (LAID: no walk: one application.) -/
theorem Tryd.internal_strconv_FormatInt_10_small (i : Nat) (hi : i < 100) (w : World) :
    Calls Tryd.prog 111 #[.int .i64 i, .int .i64 10] w fun e w' => e = .returned (.string ⟨(Lib.decDigits i).toArray⟩) ∧ w' = w := Any.internal_strconv_FormatInt_10_small Tryd.lays246 i hi w
def Tryd.laysM173_ren : Go.Shelf.Ren := ⟨fun | 173 => 76 | 246 => 111 | 283 => 127 | 284 => 128 | 285 => 129 | 286 => 130 | 129 => 78 | 317 => 134 | 318 => 135 | 319 => 136 | 320 => 137 | 337 => 139 | 338 => 140 | n => n, fun | 2 => 2 | 3 => 3 | 9 => 9 | 4 => 4 | 171 => 184 | 0 => 0 | 53 => 67 | 37 => 22 | 5 => 5 | 173 => 186 | 212 => 193 | 51 => 163 | 20 => 20 | 213 => 194 | 46 => 161 | 232 => 200 | 233 => 201 | n => n, fun | 17 => 1 | 18 => 3 | 19 => 4 | n => n⟩
theorem Tryd.laysM173 : Go.Proofs.LaysM.n173 Tryd.prog Tryd.laysM173_ren := {
  mixed := by kernel_rfl
  f129 := Tryd.func78.trans (congrArg some (by kernel_rfl))
  f173 := Tryd.func76.trans (congrArg some (by kernel_rfl))
  f246 := Tryd.func111.trans (congrArg some (by kernel_rfl))
  f283 := Tryd.func127.trans (congrArg some (by kernel_rfl))
  f284 := Tryd.func128.trans (congrArg some (by kernel_rfl))
  f285 := Tryd.func129.trans (congrArg some (by kernel_rfl))
  f286 := Tryd.func130.trans (congrArg some (by kernel_rfl))
  f317 := Tryd.func134.trans (congrArg some (by kernel_rfl))
  f318 := Tryd.func135.trans (congrArg some (by kernel_rfl))
  f319 := Tryd.func136.trans (congrArg some (by kernel_rfl))
  f320 := Tryd.func137.trans (congrArg some (by kernel_rfl))
  f337 := Tryd.func139.trans (congrArg some (by kernel_rfl))
  f338 := Tryd.func140.trans (congrArg some (by kernel_rfl))
  t0 := Tryd.underlying0
  a0 := Tryd.isAgg0
  z0 := Tryd.sizeOf0
  v0 := Tryd.zeroValue0
  t2 := Tryd.underlying2
  a2 := Tryd.isAgg2
  z2 := Tryd.sizeOf2
  v2 := Tryd.zeroValue2
  t3 := Tryd.underlying3
  a3 := Tryd.isAgg3
  z3 := Tryd.sizeOf3
  v3 := Tryd.zeroValue3
  t4 := Tryd.underlying4
  a4 := Tryd.isAgg4
  z4 := Tryd.sizeOf4
  v4 := Tryd.zeroValue4
  t5 := Tryd.underlying5
  a5 := Tryd.isAgg5
  z5 := Tryd.sizeOf5
  v5 := Tryd.zeroValue5
  t9 := Tryd.underlying9
  a9 := Tryd.isAgg9
  z9 := Tryd.sizeOf9
  v9 := Tryd.zeroValue9
  t20 := Tryd.underlying20
  a20 := Tryd.isAgg20
  z20 := Tryd.sizeOf20
  v20 := Tryd.zeroValue20
  t37 := Tryd.underlying22
  a37 := Tryd.isAgg22
  z37 := Tryd.sizeOf22
  v37 := Tryd.zeroValue22
  t46 := Tryd.underlying161
  a46 := Tryd.isAgg161
  z46 := Tryd.sizeOf161
  v46 := Tryd.zeroValue161
  t51 := Tryd.underlying163
  a51 := Tryd.isAgg163
  z51 := Tryd.sizeOf163
  v51 := Tryd.zeroValue163
  t53 := Tryd.underlying67
  a53 := Tryd.isAgg67
  z53 := Tryd.sizeOf67
  v53 := Tryd.zeroValue67
  t171 := Tryd.underlying184
  a171 := Tryd.isAgg184
  z171 := Tryd.sizeOf184
  v171 := Tryd.zeroValue184
  t173 := Tryd.underlying186
  a173 := Tryd.isAgg186
  z173 := Tryd.sizeOf186
  v173 := Tryd.zeroValue186
  t212 := Tryd.underlying193
  a212 := Tryd.isAgg193
  z212 := Tryd.sizeOf193
  v212 := Tryd.zeroValue193
  t213 := Tryd.underlying194
  a213 := Tryd.isAgg194
  z213 := Tryd.sizeOf194
  t232 := Tryd.underlying200
  a232 := Tryd.isAgg200
  z232 := Tryd.sizeOf200
  v232 := Tryd.zeroValue200
  t233 := Tryd.underlying201
  a233 := Tryd.isAgg201
  z233 := Tryd.sizeOf201
  v233 := Tryd.zeroValue201
  g17 := by kernel_rfl
  g18 := by kernel_rfl
  g19 := by kernel_rfl
  i0 := by kernel_rfl
  i2 := by kernel_rfl
  i3 := by kernel_rfl
  i4 := by kernel_rfl
  i5 := by kernel_rfl
  i9 := by kernel_rfl
  i20 := by kernel_rfl
  i37 := by kernel_rfl
  i46 := by kernel_rfl
  i51 := by kernel_rfl
  i53 := by kernel_rfl
  i171 := by kernel_rfl
  i173 := by kernel_rfl
  i212 := by kernel_rfl
  i232 := by kernel_rfl
  i233 := by kernel_rfl
  m17 := by kernel_rfl
  m18 := by kernel_rfl
  m19 := by kernel_rfl }
open Go.RowKit Go.Sort Go.Lib in
/-- strconv.FormatInt: "FormatInt returns the string representation of i in the given base": AT BASE 10: i's decimal numeral, for every int64. (LAID: no walk: one application.) -/
theorem Tryd.strconv_FormatInt_10 (n : Int) (h0 : -9223372036854775808 ≤ n) (h1 : n ≤ 9223372036854775807) (w : World) (htab : Lib.TabIs Tryd.prog w "internal/strconv.uint64pow10" .u64 Lib.pow10Tab) :
    Calls Tryd.prog 76 #[.int .i64 n, .int .i64 10] w fun e w' => e = .returned (.string ⟨(Lib.itoa n).toArray⟩) ∧ ∃ k os, w' = grow (w.drewN k) os := Any.strconv_FormatInt_10 Tryd.laysM173 n h0 h1 w htab
def Tryd.lays173_ren : Go.Shelf.Ren := ⟨fun | 173 => 76 | 246 => 111 | 283 => 127 | 284 => 128 | 285 => 129 | 286 => 130 | 129 => 78 | 317 => 134 | 318 => 135 | 319 => 136 | 320 => 137 | 337 => 139 | 338 => 140 | n => n, fun | 2 => 2 | 3 => 3 | 9 => 9 | 4 => 4 | 171 => 184 | 0 => 0 | 53 => 67 | 37 => 22 | 5 => 5 | 173 => 186 | 212 => 193 | 51 => 163 | 20 => 20 | 213 => 194 | 46 => 161 | 232 => 200 | 233 => 201 | n => n, fun | 17 => 1 | 18 => 3 | 19 => 4 | n => n⟩
theorem Tryd.lays173 : Go.Proofs.Lays.n173 Tryd.prog Tryd.lays173_ren := {
  mixed := by kernel_rfl
  f129 := Tryd.func78.trans (congrArg some (by kernel_rfl))
  f173 := Tryd.func76.trans (congrArg some (by kernel_rfl))
  f246 := Tryd.func111.trans (congrArg some (by kernel_rfl))
  f283 := Tryd.func127.trans (congrArg some (by kernel_rfl))
  f284 := Tryd.func128.trans (congrArg some (by kernel_rfl))
  f285 := Tryd.func129.trans (congrArg some (by kernel_rfl))
  f286 := Tryd.func130.trans (congrArg some (by kernel_rfl))
  f317 := Tryd.func134.trans (congrArg some (by kernel_rfl))
  f318 := Tryd.func135.trans (congrArg some (by kernel_rfl))
  f319 := Tryd.func136.trans (congrArg some (by kernel_rfl))
  f320 := Tryd.func137.trans (congrArg some (by kernel_rfl))
  f337 := Tryd.func139.trans (congrArg some (by kernel_rfl))
  f338 := Tryd.func140.trans (congrArg some (by kernel_rfl))
  t0 := Tryd.underlying0
  a0 := Tryd.isAgg0
  z0 := Tryd.sizeOf0
  v0 := Tryd.zeroValue0
  t2 := Tryd.underlying2
  a2 := Tryd.isAgg2
  z2 := Tryd.sizeOf2
  v2 := Tryd.zeroValue2
  t3 := Tryd.underlying3
  a3 := Tryd.isAgg3
  z3 := Tryd.sizeOf3
  v3 := Tryd.zeroValue3
  t4 := Tryd.underlying4
  a4 := Tryd.isAgg4
  z4 := Tryd.sizeOf4
  v4 := Tryd.zeroValue4
  t5 := Tryd.underlying5
  a5 := Tryd.isAgg5
  z5 := Tryd.sizeOf5
  v5 := Tryd.zeroValue5
  t9 := Tryd.underlying9
  a9 := Tryd.isAgg9
  z9 := Tryd.sizeOf9
  v9 := Tryd.zeroValue9
  t20 := Tryd.underlying20
  a20 := Tryd.isAgg20
  z20 := Tryd.sizeOf20
  v20 := Tryd.zeroValue20
  t37 := Tryd.underlying22
  a37 := Tryd.isAgg22
  z37 := Tryd.sizeOf22
  v37 := Tryd.zeroValue22
  t46 := Tryd.underlying161
  a46 := Tryd.isAgg161
  z46 := Tryd.sizeOf161
  v46 := Tryd.zeroValue161
  t51 := Tryd.underlying163
  a51 := Tryd.isAgg163
  z51 := Tryd.sizeOf163
  v51 := Tryd.zeroValue163
  t53 := Tryd.underlying67
  a53 := Tryd.isAgg67
  z53 := Tryd.sizeOf67
  v53 := Tryd.zeroValue67
  t171 := Tryd.underlying184
  a171 := Tryd.isAgg184
  z171 := Tryd.sizeOf184
  v171 := Tryd.zeroValue184
  t173 := Tryd.underlying186
  a173 := Tryd.isAgg186
  z173 := Tryd.sizeOf186
  v173 := Tryd.zeroValue186
  t212 := Tryd.underlying193
  a212 := Tryd.isAgg193
  z212 := Tryd.sizeOf193
  v212 := Tryd.zeroValue193
  t213 := Tryd.underlying194
  a213 := Tryd.isAgg194
  z213 := Tryd.sizeOf194
  t232 := Tryd.underlying200
  a232 := Tryd.isAgg200
  z232 := Tryd.sizeOf200
  v232 := Tryd.zeroValue200
  t233 := Tryd.underlying201
  a233 := Tryd.isAgg201
  z233 := Tryd.sizeOf201
  v233 := Tryd.zeroValue201
  g17 := by kernel_rfl
  g18 := by kernel_rfl
  g19 := by kernel_rfl }
open Go.RowKit Go.Sort Go.Lib in
/-- THE ROAD WITHOUT THE TABLE: 0 <= i < 100. (LAID: no walk: one application.) -/
theorem Tryd.strconv_FormatInt_10_small (i : Nat) (hi : i < 100) (w : World) :
    Calls Tryd.prog 76 #[.int .i64 i, .int .i64 10] w fun e w' => e = .returned (.string ⟨(Lib.decDigits i).toArray⟩) ∧ w' = w := Any.strconv_FormatInt_10_small Tryd.lays173 i hi w
def Tryd.laysM288_ren : Go.Shelf.Ren := ⟨fun | 288 => 131 | 283 => 127 | 284 => 128 | 285 => 129 | 286 => 130 | 129 => 78 | 317 => 134 | 318 => 135 | 319 => 136 | 320 => 137 | 337 => 139 | 338 => 140 | n => n, fun | 37 => 22 | 53 => 67 | 3 => 3 | 4 => 4 | 9 => 9 | 171 => 184 | 0 => 0 | 173 => 186 | 212 => 193 | 51 => 163 | 5 => 5 | 20 => 20 | 213 => 194 | 46 => 161 | 232 => 200 | 233 => 201 | n => n, fun | 17 => 1 | 18 => 3 | 19 => 4 | n => n⟩
theorem Tryd.laysM288 : Go.Proofs.LaysM.n288 Tryd.prog Tryd.laysM288_ren := {
  mixed := by kernel_rfl
  f129 := Tryd.func78.trans (congrArg some (by kernel_rfl))
  f283 := Tryd.func127.trans (congrArg some (by kernel_rfl))
  f284 := Tryd.func128.trans (congrArg some (by kernel_rfl))
  f285 := Tryd.func129.trans (congrArg some (by kernel_rfl))
  f286 := Tryd.func130.trans (congrArg some (by kernel_rfl))
  f288 := Tryd.func131.trans (congrArg some (by kernel_rfl))
  f317 := Tryd.func134.trans (congrArg some (by kernel_rfl))
  f318 := Tryd.func135.trans (congrArg some (by kernel_rfl))
  f319 := Tryd.func136.trans (congrArg some (by kernel_rfl))
  f320 := Tryd.func137.trans (congrArg some (by kernel_rfl))
  f337 := Tryd.func139.trans (congrArg some (by kernel_rfl))
  f338 := Tryd.func140.trans (congrArg some (by kernel_rfl))
  t0 := Tryd.underlying0
  a0 := Tryd.isAgg0
  z0 := Tryd.sizeOf0
  v0 := Tryd.zeroValue0
  t3 := Tryd.underlying3
  a3 := Tryd.isAgg3
  z3 := Tryd.sizeOf3
  v3 := Tryd.zeroValue3
  t4 := Tryd.underlying4
  a4 := Tryd.isAgg4
  z4 := Tryd.sizeOf4
  v4 := Tryd.zeroValue4
  t5 := Tryd.underlying5
  a5 := Tryd.isAgg5
  z5 := Tryd.sizeOf5
  v5 := Tryd.zeroValue5
  t9 := Tryd.underlying9
  a9 := Tryd.isAgg9
  z9 := Tryd.sizeOf9
  v9 := Tryd.zeroValue9
  t20 := Tryd.underlying20
  a20 := Tryd.isAgg20
  z20 := Tryd.sizeOf20
  v20 := Tryd.zeroValue20
  t37 := Tryd.underlying22
  a37 := Tryd.isAgg22
  z37 := Tryd.sizeOf22
  v37 := Tryd.zeroValue22
  t46 := Tryd.underlying161
  a46 := Tryd.isAgg161
  z46 := Tryd.sizeOf161
  v46 := Tryd.zeroValue161
  t51 := Tryd.underlying163
  a51 := Tryd.isAgg163
  z51 := Tryd.sizeOf163
  v51 := Tryd.zeroValue163
  t53 := Tryd.underlying67
  a53 := Tryd.isAgg67
  z53 := Tryd.sizeOf67
  v53 := Tryd.zeroValue67
  t171 := Tryd.underlying184
  a171 := Tryd.isAgg184
  z171 := Tryd.sizeOf184
  v171 := Tryd.zeroValue184
  t173 := Tryd.underlying186
  a173 := Tryd.isAgg186
  z173 := Tryd.sizeOf186
  v173 := Tryd.zeroValue186
  t212 := Tryd.underlying193
  a212 := Tryd.isAgg193
  z212 := Tryd.sizeOf193
  v212 := Tryd.zeroValue193
  t213 := Tryd.underlying194
  a213 := Tryd.isAgg194
  z213 := Tryd.sizeOf194
  t232 := Tryd.underlying200
  a232 := Tryd.isAgg200
  z232 := Tryd.sizeOf200
  v232 := Tryd.zeroValue200
  t233 := Tryd.underlying201
  a233 := Tryd.isAgg201
  z233 := Tryd.sizeOf201
  v233 := Tryd.zeroValue201
  g17 := by kernel_rfl
  g18 := by kernel_rfl
  g19 := by kernel_rfl
  i0 := by kernel_rfl
  i3 := by kernel_rfl
  i4 := by kernel_rfl
  i5 := by kernel_rfl
  i9 := by kernel_rfl
  i20 := by kernel_rfl
  i37 := by kernel_rfl
  i46 := by kernel_rfl
  i51 := by kernel_rfl
  i53 := by kernel_rfl
  i171 := by kernel_rfl
  i173 := by kernel_rfl
  i212 := by kernel_rfl
  i232 := by kernel_rfl
  i233 := by kernel_rfl
  m17 := by kernel_rfl
  m18 := by kernel_rfl
  m19 := by kernel_rfl }
open Go.RowKit Go.Sort Go.Lib in
/-- internal/strconv.AppendUint(dst, i, 10), i BELOW 100: WHAT COMES BACK OWNS dst's CELLS AND, BEHIND THEM, i's DECIMAL NUMERAL. No table is read. Below the call's own blocks nothing has turned. (LAID: no walk: one application.) -/
theorem Tryd.internal_strconv_AppendUint_10_small (B n u : Nat) (hu : u < 100) (sv : Value) (xs : List Value) (w : World) (hown : w.ownsRow B 5 1 sv n xs) (hBw : B ≤ w.heap.size) (hlim : n + 20 ≤ 140737488355328) :
    Calls Tryd.prog 131 #[sv, .int .u64 u, .int .i64 10] w fun e w' => ∃ v', e = .returned v' ∧ w'.ownsRow B 5 1 v' (n + (Lib.decDigits u).length) (xs ++ Lib.byteCells (Lib.decDigits u)) ∧ Below B w w' ∧ Lib.OthersKept 5 none w w' := Any.internal_strconv_AppendUint_10_small Tryd.laysM288 B n u hu sv xs w hown hBw hlim
open Go.RowKit Go.Sort Go.Lib in
/-- internal/strconv.AppendUint(dst, i, 10), i FROM 100 ON: likewise; the digits are laid in an array of the call's own and appended. (LAID: no walk: one application.) -/
theorem Tryd.internal_strconv_AppendUint_10_big (B n u : Nat) (hu : 100 ≤ u) (hu64 : u < 18446744073709551616) (sv : Value) (xs : List Value) (w : World) (hown : w.ownsRow B 5 1 sv n xs) (hBw : B ≤ w.heap.size) (hlim : n + 20 ≤ 140737488355328) (htab : Lib.TabIs Tryd.prog w "internal/strconv.uint64pow10" .u64 Lib.pow10Tab) :
    Calls Tryd.prog 131 #[sv, .int .u64 u, .int .i64 10] w fun e w' => ∃ v', e = .returned v' ∧ w'.ownsRow B 5 1 v' (n + (Lib.decDigits u).length) (xs ++ Lib.byteCells (Lib.decDigits u)) ∧ Below B w w' ∧ Lib.OthersKept 5 none w w' := Any.internal_strconv_AppendUint_10_big Tryd.laysM288 B n u hu hu64 sv xs w hown hBw hlim htab
open Go.RowKit Go.Sort Go.Lib in
/-- internal/strconv.AppendUint(dst, i, 10): the two contracts as one. NO WALK. (LAID: no walk: one application.) -/
theorem Tryd.internal_strconv_AppendUint_10 (B n u : Nat) (hu64 : u < 18446744073709551616) (sv : Value) (xs : List Value) (w : World) (hown : w.ownsRow B 5 1 sv n xs) (hBw : B ≤ w.heap.size) (hlim : n + 20 ≤ 140737488355328) (htab : Lib.TabIs Tryd.prog w "internal/strconv.uint64pow10" .u64 Lib.pow10Tab) :
    Calls Tryd.prog 131 #[sv, .int .u64 u, .int .i64 10] w fun e w' => ∃ v', e = .returned v' ∧ w'.ownsRow B 5 1 v' (n + (Lib.decDigits u).length) (xs ++ Lib.byteCells (Lib.decDigits u)) ∧ Below B w w' ∧ Lib.OthersKept 5 none w w' := Any.internal_strconv_AppendUint_10 Tryd.laysM288 B n u hu64 sv xs w hown hBw hlim htab
def Tryd.laysM249_ren : Go.Shelf.Ren := ⟨fun | 249 => 112 | 288 => 131 | 283 => 127 | 284 => 128 | 285 => 129 | 286 => 130 | 129 => 78 | 317 => 134 | 318 => 135 | 319 => 136 | 320 => 137 | 337 => 139 | 338 => 140 | n => n, fun | 37 => 22 | 2 => 2 | 3 => 3 | 53 => 67 | 4 => 4 | 9 => 9 | 171 => 184 | 0 => 0 | 173 => 186 | 212 => 193 | 51 => 163 | 5 => 5 | 20 => 20 | 213 => 194 | 46 => 161 | 232 => 200 | 233 => 201 | n => n, fun | 17 => 1 | 18 => 3 | 19 => 4 | n => n⟩
theorem Tryd.laysM249 : Go.Proofs.LaysM.n249 Tryd.prog Tryd.laysM249_ren := {
  mixed := by kernel_rfl
  f129 := Tryd.func78.trans (congrArg some (by kernel_rfl))
  f249 := Tryd.func112.trans (congrArg some (by kernel_rfl))
  f283 := Tryd.func127.trans (congrArg some (by kernel_rfl))
  f284 := Tryd.func128.trans (congrArg some (by kernel_rfl))
  f285 := Tryd.func129.trans (congrArg some (by kernel_rfl))
  f286 := Tryd.func130.trans (congrArg some (by kernel_rfl))
  f288 := Tryd.func131.trans (congrArg some (by kernel_rfl))
  f317 := Tryd.func134.trans (congrArg some (by kernel_rfl))
  f318 := Tryd.func135.trans (congrArg some (by kernel_rfl))
  f319 := Tryd.func136.trans (congrArg some (by kernel_rfl))
  f320 := Tryd.func137.trans (congrArg some (by kernel_rfl))
  f337 := Tryd.func139.trans (congrArg some (by kernel_rfl))
  f338 := Tryd.func140.trans (congrArg some (by kernel_rfl))
  t0 := Tryd.underlying0
  a0 := Tryd.isAgg0
  z0 := Tryd.sizeOf0
  v0 := Tryd.zeroValue0
  t2 := Tryd.underlying2
  a2 := Tryd.isAgg2
  z2 := Tryd.sizeOf2
  v2 := Tryd.zeroValue2
  t3 := Tryd.underlying3
  a3 := Tryd.isAgg3
  z3 := Tryd.sizeOf3
  v3 := Tryd.zeroValue3
  t4 := Tryd.underlying4
  a4 := Tryd.isAgg4
  z4 := Tryd.sizeOf4
  v4 := Tryd.zeroValue4
  t5 := Tryd.underlying5
  a5 := Tryd.isAgg5
  z5 := Tryd.sizeOf5
  v5 := Tryd.zeroValue5
  t9 := Tryd.underlying9
  a9 := Tryd.isAgg9
  z9 := Tryd.sizeOf9
  v9 := Tryd.zeroValue9
  t20 := Tryd.underlying20
  a20 := Tryd.isAgg20
  z20 := Tryd.sizeOf20
  v20 := Tryd.zeroValue20
  t37 := Tryd.underlying22
  a37 := Tryd.isAgg22
  z37 := Tryd.sizeOf22
  v37 := Tryd.zeroValue22
  t46 := Tryd.underlying161
  a46 := Tryd.isAgg161
  z46 := Tryd.sizeOf161
  v46 := Tryd.zeroValue161
  t51 := Tryd.underlying163
  a51 := Tryd.isAgg163
  z51 := Tryd.sizeOf163
  v51 := Tryd.zeroValue163
  t53 := Tryd.underlying67
  a53 := Tryd.isAgg67
  z53 := Tryd.sizeOf67
  v53 := Tryd.zeroValue67
  t171 := Tryd.underlying184
  a171 := Tryd.isAgg184
  z171 := Tryd.sizeOf184
  v171 := Tryd.zeroValue184
  t173 := Tryd.underlying186
  a173 := Tryd.isAgg186
  z173 := Tryd.sizeOf186
  v173 := Tryd.zeroValue186
  t212 := Tryd.underlying193
  a212 := Tryd.isAgg193
  z212 := Tryd.sizeOf193
  v212 := Tryd.zeroValue193
  t213 := Tryd.underlying194
  a213 := Tryd.isAgg194
  z213 := Tryd.sizeOf194
  t232 := Tryd.underlying200
  a232 := Tryd.isAgg200
  z232 := Tryd.sizeOf200
  v232 := Tryd.zeroValue200
  t233 := Tryd.underlying201
  a233 := Tryd.isAgg201
  z233 := Tryd.sizeOf201
  v233 := Tryd.zeroValue201
  g17 := by kernel_rfl
  g18 := by kernel_rfl
  g19 := by kernel_rfl
  i0 := by kernel_rfl
  i2 := by kernel_rfl
  i3 := by kernel_rfl
  i4 := by kernel_rfl
  i5 := by kernel_rfl
  i9 := by kernel_rfl
  i20 := by kernel_rfl
  i37 := by kernel_rfl
  i46 := by kernel_rfl
  i51 := by kernel_rfl
  i53 := by kernel_rfl
  i171 := by kernel_rfl
  i173 := by kernel_rfl
  i212 := by kernel_rfl
  i232 := by kernel_rfl
  i233 := by kernel_rfl
  m17 := by kernel_rfl
  m18 := by kernel_rfl
  m19 := by kernel_rfl }
open Go.RowKit Go.Sort Go.Lib in
/-- internal/strconv.AppendInt: "AppendInt appends the string form of the integer i, as generated by FormatInt, to dst and returns the extended buffer.": AT BASE 10: WHAT COMES BACK OWNS dst's CELLS AND, BEHIND THEM, i's DECIMAL NUMERAL ('Lib.itoa i': at most 20 bytes), for every int64. Below the call's own blocks nothing has turned. (LAID: no walk: one application.) -/
theorem Tryd.internal_strconv_AppendInt_10 (B n : Nat) (i : Int) (h0 : -9223372036854775808 ≤ i) (h1 : i ≤ 9223372036854775807) (sv : Value) (xs : List Value) (w : World) (hown : w.ownsRow B 5 1 sv n xs) (hBw : B ≤ w.heap.size) (hlim : n + 21 ≤ 140737488355328) (htab : Lib.TabBelow Tryd.prog B w "internal/strconv.uint64pow10" .u64 Lib.pow10Tab) :
    Calls Tryd.prog 112 #[sv, .int .i64 i, .int .i64 10] w fun e w' => ∃ v', e = .returned v' ∧ w'.ownsRow B 5 1 v' (n + (Lib.itoa i).length) (xs ++ Lib.byteCells (Lib.itoa i)) ∧ Below B w w' ∧ Lib.OthersKept 5 none w w' := Any.internal_strconv_AppendInt_10 Tryd.laysM249 B n i h0 h1 sv xs w hown hBw hlim htab
def Tryd.laysM176_ren : Go.Shelf.Ren := ⟨fun | 176 => 80 | 249 => 112 | 288 => 131 | 283 => 127 | 284 => 128 | 285 => 129 | 286 => 130 | 129 => 78 | 317 => 134 | 318 => 135 | 319 => 136 | 320 => 137 | 337 => 139 | 338 => 140 | n => n, fun | 37 => 22 | 2 => 2 | 3 => 3 | 53 => 67 | 4 => 4 | 9 => 9 | 171 => 184 | 0 => 0 | 173 => 186 | 212 => 193 | 51 => 163 | 5 => 5 | 20 => 20 | 213 => 194 | 46 => 161 | 232 => 200 | 233 => 201 | n => n, fun | 17 => 1 | 18 => 3 | 19 => 4 | n => n⟩
theorem Tryd.laysM176 : Go.Proofs.LaysM.n176 Tryd.prog Tryd.laysM176_ren := {
  mixed := by kernel_rfl
  f129 := Tryd.func78.trans (congrArg some (by kernel_rfl))
  f176 := Tryd.func80.trans (congrArg some (by kernel_rfl))
  f249 := Tryd.func112.trans (congrArg some (by kernel_rfl))
  f283 := Tryd.func127.trans (congrArg some (by kernel_rfl))
  f284 := Tryd.func128.trans (congrArg some (by kernel_rfl))
  f285 := Tryd.func129.trans (congrArg some (by kernel_rfl))
  f286 := Tryd.func130.trans (congrArg some (by kernel_rfl))
  f288 := Tryd.func131.trans (congrArg some (by kernel_rfl))
  f317 := Tryd.func134.trans (congrArg some (by kernel_rfl))
  f318 := Tryd.func135.trans (congrArg some (by kernel_rfl))
  f319 := Tryd.func136.trans (congrArg some (by kernel_rfl))
  f320 := Tryd.func137.trans (congrArg some (by kernel_rfl))
  f337 := Tryd.func139.trans (congrArg some (by kernel_rfl))
  f338 := Tryd.func140.trans (congrArg some (by kernel_rfl))
  t0 := Tryd.underlying0
  a0 := Tryd.isAgg0
  z0 := Tryd.sizeOf0
  v0 := Tryd.zeroValue0
  t2 := Tryd.underlying2
  a2 := Tryd.isAgg2
  z2 := Tryd.sizeOf2
  v2 := Tryd.zeroValue2
  t3 := Tryd.underlying3
  a3 := Tryd.isAgg3
  z3 := Tryd.sizeOf3
  v3 := Tryd.zeroValue3
  t4 := Tryd.underlying4
  a4 := Tryd.isAgg4
  z4 := Tryd.sizeOf4
  v4 := Tryd.zeroValue4
  t5 := Tryd.underlying5
  a5 := Tryd.isAgg5
  z5 := Tryd.sizeOf5
  v5 := Tryd.zeroValue5
  t9 := Tryd.underlying9
  a9 := Tryd.isAgg9
  z9 := Tryd.sizeOf9
  v9 := Tryd.zeroValue9
  t20 := Tryd.underlying20
  a20 := Tryd.isAgg20
  z20 := Tryd.sizeOf20
  v20 := Tryd.zeroValue20
  t37 := Tryd.underlying22
  a37 := Tryd.isAgg22
  z37 := Tryd.sizeOf22
  v37 := Tryd.zeroValue22
  t46 := Tryd.underlying161
  a46 := Tryd.isAgg161
  z46 := Tryd.sizeOf161
  v46 := Tryd.zeroValue161
  t51 := Tryd.underlying163
  a51 := Tryd.isAgg163
  z51 := Tryd.sizeOf163
  v51 := Tryd.zeroValue163
  t53 := Tryd.underlying67
  a53 := Tryd.isAgg67
  z53 := Tryd.sizeOf67
  v53 := Tryd.zeroValue67
  t171 := Tryd.underlying184
  a171 := Tryd.isAgg184
  z171 := Tryd.sizeOf184
  v171 := Tryd.zeroValue184
  t173 := Tryd.underlying186
  a173 := Tryd.isAgg186
  z173 := Tryd.sizeOf186
  v173 := Tryd.zeroValue186
  t212 := Tryd.underlying193
  a212 := Tryd.isAgg193
  z212 := Tryd.sizeOf193
  v212 := Tryd.zeroValue193
  t213 := Tryd.underlying194
  a213 := Tryd.isAgg194
  z213 := Tryd.sizeOf194
  t232 := Tryd.underlying200
  a232 := Tryd.isAgg200
  z232 := Tryd.sizeOf200
  v232 := Tryd.zeroValue200
  t233 := Tryd.underlying201
  a233 := Tryd.isAgg201
  z233 := Tryd.sizeOf201
  v233 := Tryd.zeroValue201
  g17 := by kernel_rfl
  g18 := by kernel_rfl
  g19 := by kernel_rfl
  i0 := by kernel_rfl
  i2 := by kernel_rfl
  i3 := by kernel_rfl
  i4 := by kernel_rfl
  i5 := by kernel_rfl
  i9 := by kernel_rfl
  i20 := by kernel_rfl
  i37 := by kernel_rfl
  i46 := by kernel_rfl
  i51 := by kernel_rfl
  i53 := by kernel_rfl
  i171 := by kernel_rfl
  i173 := by kernel_rfl
  i212 := by kernel_rfl
  i232 := by kernel_rfl
  i233 := by kernel_rfl
  m17 := by kernel_rfl
  m18 := by kernel_rfl
  m19 := by kernel_rfl }
open Go.RowKit Go.Sort Go.Lib in
/-- strconv.AppendInt: "AppendInt appends the string form of the integer i, as generated by FormatInt, to dst and returns the extended buffer.": AT BASE 10: WHAT COMES BACK OWNS dst's CELLS AND, BEHIND THEM, i's DECIMAL NUMERAL ('Lib.itoa i': at most 20 bytes), for every int64. Below the call's own blocks nothing has turned. (LAID: no walk: one application.) -/
theorem Tryd.strconv_AppendInt_10 (B n : Nat) (i : Int) (h0 : -9223372036854775808 ≤ i) (h1 : i ≤ 9223372036854775807) (sv : Value) (xs : List Value) (w : World) (hown : w.ownsRow B 5 1 sv n xs) (hBw : B ≤ w.heap.size) (hlim : n + 21 ≤ 140737488355328) (htab : Lib.TabBelow Tryd.prog B w "internal/strconv.uint64pow10" .u64 Lib.pow10Tab) :
    Calls Tryd.prog 80 #[sv, .int .i64 i, .int .i64 10] w fun e w' => ∃ v', e = .returned v' ∧ w'.ownsRow B 5 1 v' (n + (Lib.itoa i).length) (xs ++ Lib.byteCells (Lib.itoa i)) ∧ Below B w w' ∧ Lib.OthersKept 5 none w w' := Any.strconv_AppendInt_10 Tryd.laysM176 B n i h0 h1 sv xs w hown hBw hlim htab
end Go.Proofs
/- octet.put: contract. -/
namespace Go.Proofs.YtdmpopdacbdnlaaDoor.Oct
open Go.RowKit
set_option linter.unusedVariables false
set_option linter.unusedSimpArgs false
set_option maxHeartbeats 2000000
set_option maxRecDepth 20000
theorem info8 : (Tryd.prog.info? 5).map (fun i => (i.zero, i.size, i.bytes)) = some (some (.int .u8 0), 1, 1) := by kernel_rfl

theorem ofNat_cast {n : Nat} (h : n < 256) : ((UInt8.ofNat n).toNat : Int) = (n : Int) := by
  rw [UInt8.toNat_ofNat', Nat.mod_eq_of_lt h]
theorem Grew.byte {t : TypeId} {base : Nat} {w w1 w2 : World} {v : Value} {l : List UInt8} {y : UInt8} {g n cap : Nat} (hO : OwnB t base w v l) (hb : Below w.heap.size w w1) (h2 : OwnB t base w2 (.slice (some ⟨g, 0, none⟩) n cap) (l ++ [y])) (hg : w1.grownBy w2 v.ownBlock) (hp : v.ownBlock = some g ∨ g = w1.heap.size) : Grew t base w v w2 (.slice (some ⟨g, 0, none⟩) n cap) (l ++ [y]) :=
  ⟨h2, ((Grew.refl hO).below hb).gr.trans hg, fun j e => by
    have : g = j := by simpa [Value.ownBlock] using e
    subst this
    rcases hp with h | h
    · exact .inr h
    · exact .inl (by rw [h]; exact hb.size)⟩

theorem put_any (base : Nat) (v : Value) (l : List UInt8) (u : Nat) (hu : u < 18446744073709551616) (w : World) (hO : OwnB 5 base w v l) (hroom : l.length ≤ 1000000000) (hbase : base ≤ w.heap.size) :
    Calls Tryd.prog 113 #[v, .int .u64 (u : Int)] w fun e w' => ∃ v', e = .returned v' ∧ Grew 5 base w v w' v' (l ++ enc u) := by
  have tok1 : True := trivial
  replace hO := Lib.hid hO
  by_cases h248 : u < 248
  · have en : enc u = [UInt8.ofNat u] := by unfold enc; rw [if_pos h248]
    rw [en]
    have ec := ofNat_cast (n := u) (by omega)
    go_enter Tryd.func113, Tryd.ntmps113
    go_wp2_with (at_builtin; have _t := tok1; refine append_byte 22 5 info8 Tryd.underlying22 rfl _ _ rfl base v l l.length rfl rfl (hO.out.below (by repeat (first | with_reducible exact Below.refl _ _ | with_reducible refine Below.drew ?_ | with_reducible refine Below.alloc ?_ (by (try simp) <;> omega) _ | with_reducible refine Below.setCell ?_ (by (try simp) <;> omega) _))) w.heap.size 1 (UInt8.ofNat u) rfl (by rw [ec]; simp [go_sem]) (by omega) (by simp; omega) ?_; intro g2 c2 w2 hO2 hG2 hp2 hl2; clear tok1)
    go_ret
    exact ⟨_, rfl, Grew.byte hO.out (by repeat (first | with_reducible exact Below.refl _ _ | with_reducible refine Below.drew ?_ | with_reducible refine Below.alloc ?_ (by (try simp) <;> omega) _ | with_reducible refine Below.setCell ?_ (by (try simp) <;> omega) _)) hO2 hG2 hp2⟩
  · have h1 : Calls Tryd.prog 78 #[.int .u64 (u : Int)] w fun e w' => e = .returned (.int .i64 (Lib.bitLen u)) ∧ w' = w := by
      have := Tryd.bits_Len64 (u : Int) w (by omega) (by omega)
      simpa using this
    obtain ⟨n1, n2, n3, n4⟩ := nb_spec (u := u) (by omega) hu
    have hB := Lib.bitLen_le u 64 (by omega) (by omega)
    have en : enc u = UInt8.ofNat (247 + nb u) :: be u (nb u) (nb u) := by unfold enc; rw [if_neg h248]
    have q2 : ((Lib.bitLen u : Int) + 7).tdiv 8 = (nb u : Int) := by
      rw [Int.tdiv_eq_ediv_of_nonneg (by omega)]; unfold nb; omega
    rw [en]
    clear en
    generalize Lib.bitLen u = B at *
    generalize nb u = k at *
    have ec := ofNat_cast (n := 247 + k) (by omega)
    have q5 : (247 + (k : Int)) % 256 = ((247 + k : Nat) : Int) := by omega
    go_enter Tryd.func113, Tryd.ntmps113
    go_wp2_with fail
    refine h1.mono ?_; rintro e w' ⟨rfl, rfl⟩
    go_wp2_with (at_builtin; have _t := tok1; refine append_byte 22 5 info8 Tryd.underlying22 rfl _ _ rfl base v l l.length rfl rfl (hO.out.below (by repeat (first | with_reducible exact Below.refl _ _ | with_reducible refine Below.drew ?_ | with_reducible refine Below.alloc ?_ (by (try simp) <;> omega) _ | with_reducible refine Below.setCell ?_ (by (try simp) <;> omega) _))) w'.heap.size 1 (UInt8.ofNat (247 + k)) rfl (by rw [ec]; simp [go_sem]) (by omega) (by simp; omega) ?_; intro g2 c2 w2 hO2 hG2 hp2 hl2; clear tok1; have GR := Grew.byte hO.out (by repeat (first | with_reducible exact Below.refl _ _ | with_reducible refine Below.drew ?_ | with_reducible refine Below.alloc ?_ (by (try simp) <;> omega) _ | with_reducible refine Below.setCell ?_ (by (try simp) <;> omega) _)) hO2 hG2 hp2)
    clear hO2 hG2 hp2 hl2
    go_loopw [0, 25] (fun v2 i wr => ∃ j : Nat, j ≤ k ∧ i = .int .i64 j ∧ Grew 5 base w' v wr v2 (l ++ (UInt8.ofNat (247 + k) :: be u k j))) (fun v i wr => k - (intOf i).toNat)
    case atStart => exact ⟨0, Nat.zero_le _, rfl, GR⟩
    case round =>
      obtain ⟨j, hj, rfl, hG⟩ := hrel
      have z1 := hG.gr.size
      have hlen : (l ++ (UInt8.ofNat (247 + k) :: be u k j)).length = l.length + 1 + j := by simp [be]; omega
      by_cases hlt : j < k
      · have H1 : Hid (l ++ (UInt8.ofNat (247 + k) :: be u k (j + 1)) = (l ++ (UInt8.ofNat (247 + k) :: be u k j)) ++ [byteAt u k j]) := Lib.hid (by rw [be_succ]; simp)
        generalize l ++ (UInt8.ofNat (247 + k) :: be u k j) = l2 at *
        have tok2 : True := trivial
        replace hG := Lib.hid hG
        obtain ⟨s, hs⟩ : ∃ s : Nat, 8 * ((k : Int) - 1 - (j : Int)) = s := ⟨8 * (k - 1 - j), by omega⟩
        have eb : ((byteAt u k j).toNat : Int) = (u : Int) / 2 ^ s % 256 := by
          unfold byteAt
          rw [UInt8.toNat_ofNat', show (256 : Nat) ^ (k - 1 - j) = 2 ^ s from by rw [show (256 : Nat) = 2 ^ 8 from rfl, ← Nat.pow_mul]; congr 1; omega]
          simp
        go_wp2_with (at_builtin; have _t := tok2; refine append_byte 22 5 info8 Tryd.underlying22 rfl _ _ rfl base u0 l2 (l.length + 1 + j) hlen rfl (hG.out.own.below (by repeat (first | with_reducible exact Below.refl _ _ | with_reducible refine Below.drew ?_ | with_reducible refine Below.alloc ?_ (by (try simp) <;> omega) _ | with_reducible refine Below.setCell ?_ (by (try simp) <;> omega) _))) wr.heap.size 1 (byteAt u k j) rfl (by rw [eb]; simp [go_sem]) (by omega) (by simp; omega) ?_; intro g3 c3 w3 hO3 hG3 hp3 hl3; clear tok2; have GR3 := hG.out.trans (Grew.byte hG.out.own (by repeat (first | with_reducible exact Below.refl _ _ | with_reducible refine Below.drew ?_ | with_reducible refine Below.alloc ?_ (by (try simp) <;> omega) _ | with_reducible refine Below.setCell ?_ (by (try simp) <;> omega) _)) hO3 hG3 hp3))
        go_roundw
        case rel => first | exact ⟨j + 1, by omega, by go_num, by rw [H1.out]; exact GR3⟩ | exact ⟨j + 1, by omega, by omega, by rw [H1.out]; exact GR3⟩
        case measure => simp [intOf] <;> omega
      · obtain rfl : j = k := by omega
        go_wp2_with fail
        go_ret
        exact ⟨_, rfl, hG⟩
end Go.Proofs.YtdmpopdacbdnlaaDoor.Oct
/- octet.Put: contract. -/
namespace Go.Proofs.YtdmpopdacbdnlaaDoor.Oct
open Go.RowKit
set_option linter.unusedVariables false
set_option linter.unusedSimpArgs false
set_option maxHeartbeats 2000000
set_option maxRecDepth 20000
def encAll (us : List Int) : List UInt8 := us.flatMap fun x => enc x.toNat
theorem encAll_snoc (us : List Int) (x : Int) : encAll (us ++ [x]) = encAll us ++ enc x.toNat := by simp [encAll]
theorem nb_le (u : Nat) : nb u ≤ 8 := by
  have h : ∀ f x, Lib.bitLenAux f x ≤ f := by
    intro f
    induction f with
    | zero => intro x; exact Nat.le_refl _
    | succ f ih => intro x; simp only [Lib.bitLenAux]; split <;> have := ih (x / 2) <;> omega
  have := h 64 u
  unfold nb
  unfold Lib.bitLen
  omega
theorem enc_le (u : Nat) : (enc u).length ≤ 9 := by
  unfold enc
  split
  · simp
  · have := nb_le u; simp [be]; omega
theorem encAll_le (us : List Int) : (encAll us).length ≤ us.length * 9 := by
  induction us with
  | nil => simp [encAll]
  | cons x us ih =>
    have e : encAll (x :: us) = enc x.toNat ++ encAll us := by simp [encAll]
    have := enc_le x.toNat
    rw [e, List.length_append, List.length_cons]; omega
theorem range_u64 {zs : List Int} (h : ∀ n ∈ zs, (Lit.int .u64 n).wf = true) (j : Nat) : 0 ≤ zs.getD j 0 ∧ zs.getD j 0 ≤ 18446744073709551615 := by
  by_cases hj : j < zs.length
  · have := h (zs.getD j 0) (by simp [List.getD, hj])
    have e1 : IntKind.u64.min = 0 := by rfl
    have e2 : IntKind.u64.max = 18446744073709551615 := by rfl
    simp only [Lit.wf, e1, e2] at this
    simpa using this
  · simp [List.getD, List.getElem?_eq_none (Nat.le_of_not_lt hj)]
theorem take_succZ {l : List Int} {k : Nat} (h : k < l.length) : l.take (k + 1) = l.take k ++ [l.getD k 0] := by
  rw [List.take_succ_eq_append_getElem h]; simp [List.getD, h]

theorem puts_any (a : Option Addr) (len cap : Nat) (us : List Int) (w : World) (h : RowI .u64 w a len cap us) (hl : len ≤ 1000000) :
    Calls Tryd.prog 85 #[.slice a len cap] w fun e w' => ∃ v', e = .returned v' ∧ OwnB 5 w.heap.size w' v' (encAll us) ∧ Below w.heap.size w w' := by
  have LL := Lib.hid h.length
  go_enter Tryd.func85, Tryd.ntmps85
  go_wp2_with fail
  go_loopw [3, 8] (fun v i wr => ∃ k : Nat, k ≤ len ∧ i = .int .i64 k ∧ OwnB 5 w.heap.size wr v (encAll (us.take k)) ∧ Below w.heap.size w wr) (fun v i wr => len - (intOf i).toNat)
  case atStart => exact ⟨0, Nat.zero_le _, rfl, OwnB.nil _ _ _, Below.refl _ _⟩
  case round =>
    obtain ⟨k, hk, rfl, hO, hbr⟩ := hrel
    have zr := hbr.size
    by_cases hlt : k < len
    · rcases h.at_ with h0 | ⟨b, off, rfl, hlb, hc⟩
      · omega
      have ck := (hbr.cell (p := ⟨b, off + k, none⟩) hlb).trans (hc k hlt)
      obtain ⟨g1, g2⟩ := range_u64 h.wf k
      have h1 : encAll (us.take (k + 1)) = encAll (us.take k) ++ enc (us.getD k 0).toNat := by rw [take_succZ (by have := LL.out; omega), encAll_snoc]
      have hle := encAll_le (us.take k)
      have htl : (us.take k).length ≤ len := by rw [List.length_take]; omega
      generalize us.getD k 0 = z at *
      obtain ⟨x, rfl⟩ := Int.eq_ofNat_of_zero_le g1
      rw [Int.toNat_natCast] at h1
      replace h1 := Lib.hid h1
      generalize encAll (us.take k) = l0 at *
      clear hc
      replace hO := Lib.hid hO
      go_wp2_with fail
      refine (put_any w.heap.size _ l0 x (by omega) wr hO.out (by omega) zr).mono ?_; rintro e w3 ⟨v3, rfl, hG⟩
      have HB3 := hbr.trans (hG.toBelow hO.out zr)
      replace hG := Lib.hid hG
      go_wp2_with fail
      go_roundw
      case rel => first | exact ⟨k + 1, by omega, by go_num, by rw [h1.out]; exact hG.out.own, HB3⟩ | exact ⟨k + 1, by omega, by omega, by rw [h1.out]; exact hG.out.own⟩
      case measure => simp [intOf] <;> omega
    · obtain rfl : k = len := by omega
      rw [List.take_of_length_le (by rw [LL.out]; exact Nat.le_refl _)] at hO
      go_wp2_with fail
      go_ret
      exact ⟨_, rfl, hO, hbr⟩
end Go.Proofs.YtdmpopdacbdnlaaDoor.Oct
/- octet.Take: contract. -/
namespace Go.Proofs.YtdmpopdacbdnlaaDoor.Oct
open Go.RowKit
set_option linter.unusedVariables false
set_option linter.unusedSimpArgs false
set_option maxHeartbeats 2000000
set_option maxRecDepth 20000
def valOf (bs : List UInt8) : Nat := bs.foldl (fun a b => a * 256 + b.toNat) 0
theorem valOf_snoc (bs : List UInt8) (b : UInt8) : valOf (bs ++ [b]) = valOf bs * 256 + b.toNat := by simp [valOf]
theorem valOf_lt (bs : List UInt8) : valOf bs < 256 ^ bs.length := by
  have : ∀ (bs : List UInt8) (a n : Nat), a < 256 ^ n → bs.foldl (fun a b => a * 256 + b.toNat) a < 256 ^ (n + bs.length) := by
    intro bs
    induction bs with
    | nil => intro a n h; simpa using h
    | cons b bs ih =>
      intro a n h
      rw [List.foldl_cons, List.length_cons, show n + (bs.length + 1) = (n + 1) + bs.length from by omega]
      refine ih _ _ ?_
      have := b.toNat_lt
      rw [Nat.pow_succ]; omega
  simpa [valOf] using this bs 0 0 (by simp)
/-- What any bytes begin with: the number, its length, the error. -/
def takeOf (bs : List UInt8) : Nat × Nat × Int :=
  if bs.length = 0 then (0, 0, 10)
  else if (bs.getD 0 0).toNat < 248 then ((bs.getD 0 0).toNat, 1, 0)
  else if bs.length - 1 < (bs.getD 0 0).toNat - 247 then (0, 0, 10)
  else if valOf ((bs.drop 1).take ((bs.getD 0 0).toNat - 247)) < 248 ∨ bs.getD 1 0 = 0 then (0, 0, 11)
  else (valOf ((bs.drop 1).take ((bs.getD 0 0).toNat - 247)), 1 + ((bs.getD 0 0).toNat - 247), 0)
def takeV (bs : List UInt8) : Value := .tuple #[.int .u64 ((takeOf bs).1 : Int), .int .i64 ((takeOf bs).2.1 : Int), .int .i64 (takeOf bs).2.2]

theorem take_any (a : Option Addr) (len cap : Nat) (bs : List UInt8) (w : World) (h : RowB w a len cap bs) :
    Calls Tryd.prog 120 #[.slice a len cap] w fun e w' => e = .returned (takeV bs) ∧ w = w' := by
  have LL := Lib.hid h.length
  have hm : len ≤ 9223372036854775807 := by have := h.small; unfold maxLen at this; omega
  by_cases h0 : len = 0
  · have ht : takeV bs = .tuple #[.int .u64 0, .int .i64 0, .int .i64 10] := by unfold takeV takeOf; rw [if_pos (by have := LL.out; omega)]; rfl
    rw [ht]
    subst h0
    go_enter Tryd.func120, Tryd.ntmps120
    go_wp2_with fail
    go_ret3
    exact ⟨rfl, rfl⟩
  · rcases h.at_ with e0 | ⟨b, off, rfl, hlb, hc⟩
    · omega
    have c0 := hc 0 (by omega)
    rw [Nat.add_zero] at c0
    have hx := (bs.getD 0 0).toNat_lt
    have hT : takeOf bs = if (bs.getD 0 0).toNat < 248 then ((bs.getD 0 0).toNat, 1, 0) else if len - 1 < (bs.getD 0 0).toNat - 247 then (0, 0, 10) else if valOf ((bs.drop 1).take ((bs.getD 0 0).toNat - 247)) < 248 ∨ bs.getD 1 0 = 0 then (0, 0, 11) else (valOf ((bs.drop 1).take ((bs.getD 0 0).toNat - 247)), 1 + ((bs.getD 0 0).toNat - 247), 0) := by
      have := LL.out
      unfold takeOf; rw [if_neg (by omega), this]
    generalize (bs.getD 0 0).toNat = x at *
    by_cases hx1 : x < 248
    · rw [if_pos hx1] at hT
      have hV : takeV bs = .tuple #[.int .u64 x, .int .i64 1, .int .i64 0] := by unfold takeV; rw [hT]; rfl
      rw [hV]
      clear hV hT hc
      go_enter Tryd.func120, Tryd.ntmps120
      go_wp2_with fail
      go_ret3
      exact ⟨rfl, rfl⟩
    rw [if_neg hx1] at hT
    obtain ⟨k, rfl⟩ : ∃ k, x = 247 + k := ⟨x - 247, by omega⟩
    rw [Nat.add_sub_cancel_left] at hT
    have hk8 : k ≤ 8 := by omega
    have hk1 : 1 ≤ k := by omega
    by_cases hs : len - 1 < k
    · rw [if_pos hs] at hT
      have hV : takeV bs = .tuple #[.int .u64 0, .int .i64 0, .int .i64 10] := by unfold takeV; rw [hT]; rfl
      rw [hV]
      clear hV hT hc
      go_enter Tryd.func120, Tryd.ntmps120
      go_wp2_with fail
      go_ret3
      exact ⟨rfl, rfl⟩
    rw [if_neg hs] at hT
    replace hT := Lib.hid hT
    have c1 := hc 1 (by omega)
    have hc1 := fun i (hi : i < k) => hc (1 + i) (by omega)
    replace hc1 := Lib.hid hc1
    have e5 : (247 + (k : Int) - 247) = (k : Int) := by omega
    clear hc
    go_enter Tryd.func120, Tryd.ntmps120
    go_wp2_with fail
    go_loop [6, 30] (fun u i => ∃ j : Nat, j ≤ k ∧ i = .int .i64 j ∧ u = .int .u64 (valOf ((bs.drop 1).take j) : Nat)) (fun u i => k - (intOf i).toNat)
    case atStart => exact ⟨0, Nat.zero_le _, rfl, rfl⟩
    case round =>
      obtain ⟨j, hj, rfl, rfl⟩ := hrel
      by_cases hlt : j < k
      · have cj := hc1.out j hlt
        have hd : (bs.drop 1).take (j + 1) = (bs.drop 1).take j ++ [bs.getD (1 + j) 0] := by
          have := LL.out
          rw [List.take_succ_eq_append_getElem (by rw [List.length_drop]; omega)]
          have hl1 : j + 1 < bs.length := by omega
          simp [List.getD, Nat.add_comm 1 j, hl1]
        have hv := valOf_snoc ((bs.drop 1).take j) (bs.getD (1 + j) 0)
        rw [← hd] at hv
        have hlv := valOf_lt ((bs.drop 1).take j)
        have hpw : 256 ^ ((bs.drop 1).take j).length ≤ 256 ^ 7 := Nat.pow_le_pow_right (by omega) (by rw [List.length_take]; omega)
        have hyb := (bs.getD (1 + j) 0).toNat_lt
        generalize (bs.getD (1 + j) 0).toNat = y at *
        generalize valOf ((bs.drop 1).take j) = V at *
        replace hv := Lib.hid hv
        have hV7 : V < 72057594037927936 := Nat.lt_of_lt_of_le hlv hpw
        clear hlv hpw hd
        have hor : bits .or .u64 ((V : Int) * 256) (y : Int) = ((V * 256 + y : Nat) : Int) := by
          have h1 := u64_or_nat (V * 256) y (by omega) (by omega)
          have h2 := Nat.two_pow_add_eq_or_of_lt (i := 8) hyb V
          rw [show (2 : Nat) ^ 8 * V = V * 256 from by omega] at h2
          rw [← h2] at h1
          rw [← h1]; simp
        go_wp2_with fail
        go_round
        case rel => exact ⟨j + 1, by omega, by go_num, by rw [hv.out]; simp⟩
        case measure => simp [intOf]; omega
      · obtain rfl : j = k := by omega
        have hlv := valOf_lt ((bs.drop 1).take j)
        have hpw : 256 ^ ((bs.drop 1).take j).length ≤ 256 ^ 8 := Nat.pow_le_pow_right (by omega) (by rw [List.length_take]; omega)
        have hbz : bs.getD 1 0 = 0 ↔ (bs.getD 1 0).toNat = 0 := ⟨fun e => by rw [e]; rfl, fun e => UInt8.toNat_inj.1 e⟩
        have hy := (bs.getD 1 0).toNat_lt
        generalize valOf ((bs.drop 1).take j) = V at *
        have hV8 : V < 18446744073709551616 := Nat.lt_of_lt_of_le hlv hpw
        clear hlv hpw
        by_cases hv1 : V < 248
        · have hV : takeV bs = .tuple #[.int .u64 0, .int .i64 0, .int .i64 11] := by unfold takeV; rw [hT.out, if_pos (.inl hv1)]; rfl
          replace hV := Lib.hid hV
          replace hbz := Lib.hid hbz
          go_wp2_with fail
          go_ret3
          exact ⟨by rw [hV.out]; rfl, rfl⟩
        · by_cases hz : (bs.getD 1 0).toNat = 0
          · have hV : takeV bs = .tuple #[.int .u64 0, .int .i64 0, .int .i64 11] := by unfold takeV; rw [hT.out, if_pos (.inr (hbz.2 hz))]; rfl
            replace hV := Lib.hid hV
            rw [hz] at c1
            clear hbz hz
            go_wp2_with fail
            go_ret3
            exact ⟨by rw [hV.out]; rfl, rfl⟩
          · have hV : takeV bs = .tuple #[.int .u64 V, .int .i64 (1 + (j : Int)), .int .i64 0] := by
              unfold takeV; rw [hT.out, if_neg (by rw [hbz]; omega)]; simp
            replace hV := Lib.hid hV
            clear hbz
            generalize (bs.getD 1 0).toNat = y at *
            have hy1 : ((y : Int) == 0) = false := by rw [beq_eq_false_iff_ne]; omega
            go_wp2_with fail
            all_goals (first | (go_ret3; exact ⟨by rw [hV.out]; rfl, rfl⟩) | (exfalso; omega))
end Go.Proofs.YtdmpopdacbdnlaaDoor.Oct
/- octet.Sign, octet.Plain, and the document's: contracts. -/
namespace Go.Proofs.YtdmpopdacbdnlaaDoor.Oct
open Go.RowKit
set_option linter.unusedVariables false
set_option linter.unusedSimpArgs false
set_option maxHeartbeats 2000000
set_option maxRecDepth 20000
def signOf (n : Int) : Int := if 0 ≤ n then 2 * n else 2 * (-(n + 1)) + 1
def plainOf (u : Int) : Int := if u % 2 = 0 then u / 2 else -(u / 2) - 1
theorem sign_range {n : Int} (h1 : -9223372036854775808 ≤ n) (h2 : n ≤ 9223372036854775807) : 0 ≤ signOf n ∧ signOf n ≤ 18446744073709551615 := by unfold signOf; split <;> omega
theorem plain_range {u : Int} (h1 : 0 ≤ u) (h2 : u ≤ 18446744073709551615) : -9223372036854775808 ≤ plainOf u ∧ plainOf u ≤ 9223372036854775807 := by unfold plainOf; split <;> omega
theorem plain_sign (n : Int) : plainOf (signOf n) = n := by unfold signOf plainOf; split <;> split <;> omega
theorem sign_plain {u : Int} (h1 : 0 ≤ u) : signOf (plainOf u) = u := by unfold plainOf; split <;> unfold signOf <;> split <;> omega
end Go.Proofs.YtdmpopdacbdnlaaDoor.Oct
/- octet.Reader: contracts. -/
namespace Go.Proofs.YtdmpopdacbdnlaaDoor.Oct
open Go.RowKit
set_option linter.unusedVariables false
set_option linter.unusedSimpArgs false
set_option maxHeartbeats 2000000
set_option maxRecDepth 20000
/-- A reader at block g: what is left, and the error. -/
structure Rd (w : World) (g : Nat) (bs : List UInt8) (e : Int) : Prop where
  lt : g < w.heap.size
  ex : ∃ q len cap, w.cell? ⟨g, 0, none⟩ = some (.slice q len cap) ∧ RowB w q len cap bs ∧ ∀ x, q = some x → x.block < g
  err : w.cell? ⟨g, 1, none⟩ = some (.int .i64 e)
  f0 : w.frozen? ⟨g, 0, none⟩ = false
  f1 : w.frozen? ⟨g, 1, none⟩ = false
theorem grown_set (w : World) (a : Addr) (u : Value) : w.grownBy (w.setCell a u) (some a.block) :=
  ⟨rfl, rfl, rfl, by simp, fun k _ hk => heap_setCell_other w a k u (fun e => hk (by rw [e]))⟩
theorem _root_.Go.Proofs.YtdmpopdacbdnlaaDoor.RowB.far {w w' : World} {q : Option Addr} {len cap g : Nat} {bs : List UInt8} (h : RowB w q len cap bs) (hg : w.grownBy w' (some g)) (hq : ∀ x, q = some x → x.block ≠ g) : RowB w' q len cap bs :=
  ⟨h.length, h.small, h.le, by
    rcases h.at_ with h0 | ⟨b, off, rfl, hl, hc⟩
    · exact .inl h0
    · exact .inr ⟨b, off, rfl, Nat.lt_of_lt_of_le hl hg.size, fun i hi => hg.cell (hc i hi) (by have := hq _ rfl; simpa using this)⟩, h.nil⟩
theorem open_any (a : Option Addr) (len cap : Nat) (bs : List UInt8) (w : World) (h : RowB w a len cap bs) (hl : len ≤ 1000000000) :
    Calls Tryd.prog 94 #[.slice a len cap] w fun e w' => ∃ g, e = .returned (.pointer (some ⟨g, 0, none⟩)) ∧ w.heap.size ≤ g ∧ Rd w' g bs 0 ∧ Below w.heap.size w w' := by
  have tok1 : True := trivial
  replace h := Lib.hid h
  go_enter Tryd.func94, Tryd.ntmps94
  go_wp2_with (at_builtin; have _t := tok1; refine append_bytes 22 5 info8 Tryd.underlying22 rfl _ _ rfl w.heap.size (.slice none 0 0) [] 0 rfl rfl (OwnB.nil _ _ _) a len cap bs rfl h.out (by omega) (by omega) ?_; intro q1 c1 w1 hO1 hR1 hG1; clear tok1; simp only [Nat.zero_add, List.nil_append] at hO1 hR1 ⊢)
  go_ret
  have hne : ∀ x, q1 = some x → x.block < w1.heap.size := by
    obtain ⟨q, c, e, _, hq⟩ := hO1.row
    cases e
    intro x hx
    have := (hq x hx).2.2
    omega
  exact ⟨w1.heap.size, rfl, hG1.size, ⟨by simp, ⟨q1, len, c1, by simp [go_sem], hR1.below ((Below.refl _ _).alloc (Nat.le_refl _) _), hne⟩, by simp [go_sem], by simp [go_sem], by simp [go_sem]⟩, ((Below.refl w.heap.size w).grown hG1 (Nat.le_refl _) (fun k e => by cases e)).alloc hG1.size _⟩
theorem left_any (g : Nat) (bs : List UInt8) (e : Int) (w : World) (h : Rd w g bs e) : Calls Tryd.prog 122 #[.pointer (some ⟨g, 0, none⟩)] w fun x w' => x = .returned (.int .i64 bs.length) ∧ w = w' := by
  obtain ⟨_, ⟨q, len, cap, c0, hR, _⟩, c1, f0, f1⟩ := h
  have hl := hR.length
  go_enter Tryd.func122, Tryd.ntmps122
  go_wp2_with fail
  go_ret
  exact ⟨ret_int (by rw [hl]), rfl⟩
theorem left_none (w : World) : Calls Tryd.prog 122 #[.pointer none] w fun x w' => x = .returned (.int .i64 0) ∧ w = w' := by
  go_enter Tryd.func122, Tryd.ntmps122
  go_wp2_with fail
  go_ret
  exact ⟨rfl, rfl⟩
theorem err_any (g : Nat) (bs : List UInt8) (e : Int) (w : World) (h : Rd w g bs e) : Calls Tryd.prog 121 #[.pointer (some ⟨g, 0, none⟩)] w fun x w' => x = .returned (.int .i64 e) ∧ w = w' := by
  obtain ⟨_, ⟨q, len, cap, c0, hR, _⟩, c1, f0, f1⟩ := h
  go_enter Tryd.func121, Tryd.ntmps121
  go_wp2_with fail
  go_ret
  exact ⟨rfl, rfl⟩
theorem err_none (w : World) : Calls Tryd.prog 121 #[.pointer none] w fun x w' => x = .returned (.int .i64 10) ∧ w = w' := by
  go_enter Tryd.func121, Tryd.ntmps121
  go_wp2_with fail
  go_ret
  exact ⟨rfl, rfl⟩
def endOf (bs : List UInt8) (e : Int) : Int := if e ≠ 0 then e else if 0 < bs.length then 12 else 0
theorem end_any (g : Nat) (bs : List UInt8) (e : Int) (w : World) (h : Rd w g bs e) : Calls Tryd.prog 98 #[.pointer (some ⟨g, 0, none⟩)] w fun x w' => x = .returned (.int .i64 (endOf bs e)) ∧ w = w' := by
  have hm : bs.length ≤ 9223372036854775807 := by obtain ⟨_, ⟨q, len, cap, c0, hR, _⟩, c1, f0, f1⟩ := h; have := hR.small; have := hR.length; unfold maxLen at *; omega
  go_enter Tryd.func98, Tryd.ntmps98
  go_wp2_with fail
  refine (err_any g bs e w h).mono ?_; rintro e1 w' ⟨rfl, rfl⟩
  by_cases he : e = 0
  · subst he
    go_wp2_with fail
    refine (left_any g bs 0 w h).mono ?_; rintro e1 w' ⟨rfl, rfl⟩
    by_cases hb : 0 < bs.length
    · go_wp2_with fail
      go_ret
      exact ⟨ret_int (by simp [endOf, hb]), rfl⟩
    · go_wp2_with fail
      go_ret
      exact ⟨ret_int (by simp [endOf, hb]), rfl⟩
  · have he' : (e == 0) = false := by rw [beq_eq_false_iff_ne]; exact he
    go_wp2_with fail
    go_ret
    exact ⟨ret_int (by simp [endOf, he]), rfl⟩
theorem end_none (w : World) : Calls Tryd.prog 98 #[.pointer none] w fun x w' => x = .returned (.int .i64 10) ∧ w = w' := by
  go_enter Tryd.func98, Tryd.ntmps98
  go_wp2_with fail
  refine (err_none w).mono ?_; rintro e1 w' ⟨rfl, rfl⟩
  go_wp2_with fail
  go_ret
  exact ⟨rfl, rfl⟩

theorem fail_any (g : Nat) (bs : List UInt8) (e : Int) (x : Int) (w : World) (h : Rd w g bs e) : Calls Tryd.prog 119 #[.pointer (some ⟨g, 0, none⟩), .int .i64 x] w fun y w' => y = .returned (.tuple #[]) ∧ Rd w' g [] x ∧ w.grownBy w' (some g) := by
  obtain ⟨hlt, ⟨q, len, cap, c0, hR, _⟩, c1, f0, f1⟩ := h
  go_enter Tryd.func119, Tryd.ntmps119
  go_wp2_with fail
  go_end0
  exact ⟨rfl, ⟨by simpa using hlt, ⟨none, 0, 0, by simp [go_sem, c0, c1], ⟨rfl, Nat.zero_le _, Nat.le_refl _, .inl rfl, fun _ => rfl⟩, fun x e => by cases e⟩, by simp [go_sem, c0, c1], by simp [go_sem, f0, f1], by simp [go_sem, f0, f1]⟩, (grown_set w ⟨g, 0, none⟩ _).trans (grown_set _ ⟨g, 1, none⟩ _)⟩
/-- a slice's end -/
theorem _root_.Go.Proofs.YtdmpopdacbdnlaaDoor.RowB.odrop {w : World} {b off len cap n : Nat} {bs : List UInt8} (h : RowB w (some ⟨b, off, none⟩) len cap bs) (hn : n ≤ len) : RowB w (some ⟨b, off + n, none⟩) (len - n) (cap - n) (bs.drop n) :=
  ⟨by rw [List.length_drop, h.length], by have := h.small; omega, by have := h.le; omega, by
    by_cases h0 : len - n = 0
    · exact .inl h0
    · rcases h.at_ with e | ⟨b', off', e, hl, hc⟩
      · omega
      · cases e
        refine .inr ⟨b, off + n, rfl, hl, fun i hi => ?_⟩
        have := hc (n + i) (by omega)
        rw [Nat.add_assoc, this]
        simp [List.getD], fun e => by cases e⟩
theorem take_le (bs : List UInt8) : (takeOf bs).2.1 ≤ bs.length := by
  unfold takeOf
  split
  · simp
  · split
    · simp; omega
    · split
      · simp
      · split
        · simp
        · show 1 + _ ≤ _; omega
theorem take_pos (bs : List UInt8) (h : (takeOf bs).2.2 = 0) : 0 < (takeOf bs).2.1 := by
  revert h
  unfold takeOf
  split
  · simp
  · split
    · simp
    · split
      · simp
      · split
        · simp
        · simp; omega
theorem _root_.Go.Proofs.YtdmpopdacbdnlaaDoor.RowB.take {w : World} {q : Option Addr} {len cap n : Nat} {bs : List UInt8} (h : RowB w q len cap bs) (hn : n ≤ len) : RowB w q n cap (bs.take n) :=
  ⟨by rw [List.length_take, h.length]; omega, by have := h.small; omega, by have := h.le; omega, by
    by_cases h0 : n = 0
    · exact .inl h0
    · rcases h.at_ with e | ⟨b, off, rfl, hl, hc⟩
      · omega
      · refine .inr ⟨b, off, rfl, hl, fun i hi => ?_⟩
        rw [hc i (by omega)]
        simp [List.getD, hi], h.nil⟩
theorem _root_.Go.Proofs.YtdmpopdacbdnlaaDoor.RowB.shut {w : World} {q : Option Addr} {len cap n : Nat} {bs : List UInt8} (h : RowB w q len cap bs) (hn : len ≤ n) (hc : n ≤ len) : RowB w q (len - n) 0 (bs.drop n) :=
  ⟨by rw [List.length_drop, h.length], by have := h.small; omega, by omega, .inl (by omega), fun _ => rfl⟩
theorem Rd.set {w : World} {g : Nat} {bs bs' : List UInt8} {e : Int} {q' : Option Addr} {len' cap' : Nat} (h : Rd w g bs e) (hR : RowB w q' len' cap' bs') (hq : ∀ x, q' = some x → x.block < g) : Rd (w.setCell ⟨g, 0, none⟩ (.slice q' len' cap')) g bs' e := by
  obtain ⟨hlt, ⟨q, len, cap, c0, _, _⟩, c1, f0, f1⟩ := h
  exact ⟨by simpa using hlt, ⟨q', len', cap', by simp [go_sem, c0], hR.far (grown_set w ⟨g, 0, none⟩ _) (fun x e => Nat.ne_of_lt (hq x e)), hq⟩, by simp [go_sem, c0, c1], by simp [go_sem, f0, f1], by simp [go_sem, f0, f1]⟩
theorem Rd.far {w w' : World} {g G : Nat} {bs : List UInt8} {e : Int} (h : Rd w g bs e) (hg : w.grownBy w' (some G)) (hG : g < G) : Rd w' g bs e := by
  obtain ⟨hlt, ⟨q, len, cap, c0, hR, hq⟩, c1, f0, f1⟩ := h
  have hne : ∀ o, some (⟨g, o, none⟩ : Addr).block ≠ some G := fun o e => by have := Option.some.inj e; simp only at this; omega
  exact ⟨Nat.lt_of_lt_of_le hlt hg.size, ⟨q, len, cap, hg.cell c0 (hne 0), hR.far hg (fun x e => by have := hq x e; omega), hq⟩, hg.cell c1 (hne 1), (World.grownBy.frozen_far hg ⟨g, 0, none⟩ hlt (hne 0)).trans f0, (World.grownBy.frozen_far hg ⟨g, 1, none⟩ hlt (hne 1)).trans f1⟩
/-- what Num makes of a reader -/
def rNum (bs : List UInt8) (e : Int) : Nat × List UInt8 × Int :=
  if e ≠ 0 then (0, bs, e) else if (takeOf bs).2.2 ≠ 0 then (0, [], (takeOf bs).2.2) else ((takeOf bs).1, bs.drop (takeOf bs).2.1, 0)
theorem num_none (w : World) : Calls Tryd.prog 97 #[.pointer none] w fun x w' => x = .returned (.int .u64 0) ∧ w = w' := by
  go_enter Tryd.func97, Tryd.ntmps97
  go_wp2_with fail
  go_ret
  exact ⟨rfl, rfl⟩
theorem num_any (g : Nat) (bs : List UInt8) (e : Int) (w : World) (h : Rd w g bs e) : Calls Tryd.prog 97 #[.pointer (some ⟨g, 0, none⟩)] w fun x w' => x = .returned (.int .u64 (rNum bs e).1) ∧ Rd w' g (rNum bs e).2.1 (rNum bs e).2.2 ∧ w.grownBy w' (some g) := by
  by_cases he : e = 0
  · subst he
    have h0 := h
    have h' := h
    obtain ⟨hlt, ⟨q, len, cap, c0, hR, hq⟩, c1, f0, f1⟩ := h'
    have hT := Lib.hid (take_any q len cap bs w hR)
    by_cases ht : (takeOf bs).2.2 = 0
    · have hle := take_le bs
      have hpos := take_pos bs ht
      have hl := hR.length
      have hr : rNum bs 0 = ((takeOf bs).1, bs.drop (takeOf bs).2.1, 0) := by unfold rNum; rw [if_neg (by simp), if_neg (by simpa using ht)]
      rcases hR.at_ with e0 | ⟨b, off, rfl, hlb, _⟩
      · omega
      have hcap := hR.le
      rw [hr]
      replace hT := hT.out
      unfold takeV at hT
      rw [ht] at hT
      clear hr
      generalize (takeOf bs).1 = u at *
      generalize (takeOf bs).2.1 = n at *
      replace hT := Lib.hid hT
      have hnl : n ≤ len := by omega
      go_enter Tryd.func97, Tryd.ntmps97
      go_wp2_with fail
      refine hT.out.mono ?_; rintro x w' ⟨rfl, rfl⟩
      go_wp2_with fail
      · go_ret
        exact ⟨rfl, h0.set (RowB.shut hR (by omega) (by omega)) hq, grown_set w ⟨g, 0, none⟩ _⟩
      · go_ret
        exact ⟨rfl, h0.set (hR.odrop hnl) (fun x e => by cases e; exact hq ⟨b, off, none⟩ rfl), grown_set w ⟨g, 0, none⟩ _⟩
    · have ht' : ((takeOf bs).2.2 == 0) = false := by rw [beq_eq_false_iff_ne]; exact ht
      have hr : rNum bs 0 = (0, [], (takeOf bs).2.2) := by unfold rNum; rw [if_neg (by simp), if_pos ht]
      rw [hr]
      replace hT := hT.out
      unfold takeV at hT
      clear hr
      generalize hx : (takeOf bs).2.2 = x at *
      replace hT := Lib.hid hT
      go_enter Tryd.func97, Tryd.ntmps97
      go_wp2_with fail
      refine hT.out.mono ?_; rintro x w' ⟨rfl, rfl⟩
      go_wp2_with fail
      refine (fail_any g bs 0 x w h).mono ?_; rintro e1 w' ⟨rfl, hRd, hG⟩
      go_wp2_with fail
      go_ret
      exact ⟨rfl, hRd, hG⟩
  · have he' : (e == 0) = false := by rw [beq_eq_false_iff_ne]; exact he
    have hr : rNum bs e = (0, bs, e) := by unfold rNum; rw [if_pos he]
    rw [hr]
    have h' := h
    obtain ⟨hlt, ⟨q, len, cap, c0, hR, hq⟩, c1, f0, f1⟩ := h'
    go_enter Tryd.func97, Tryd.ntmps97
    go_wp2_with fail
    go_ret
    exact ⟨rfl, h, World.grownBy.refl _ _⟩

theorem takeOf_lt (bs : List UInt8) : (takeOf bs).1 < 18446744073709551616 := by
  unfold takeOf
  have hx := (bs.getD 0 0).toNat_lt
  split
  · simp
  · split
    · show _ < _; omega
    · split
      · simp
      · split
        · simp
        · have h1 := valOf_lt ((bs.drop 1).take ((bs.getD 0 0).toNat - 247))
          have h2 : 256 ^ ((bs.drop 1).take ((bs.getD 0 0).toNat - 247)).length ≤ 256 ^ 8 := Nat.pow_le_pow_right (by omega) (by rw [List.length_take]; omega)
          exact Nat.lt_of_lt_of_le h1 h2
theorem rNum_lt (bs : List UInt8) (e : Int) : (rNum bs e).1 < 18446744073709551616 := by
  unfold rNum
  split
  · simp
  · split
    · simp
    · exact takeOf_lt bs
/-- what Text makes of a reader -/
def rText (bs : List UInt8) (e : Int) (most : Int) : List UInt8 × List UInt8 × Int :=
  if (rNum bs e).2.2 ≠ 0 then ([], (rNum bs e).2.1, (rNum bs e).2.2)
  else if max most 0 < ((rNum bs e).1 : Int) then ([], [], 13)
  else if (rNum bs e).2.1.length < (rNum bs e).1 then ([], [], 10)
  else ((rNum bs e).2.1.take (rNum bs e).1, (rNum bs e).2.1.drop (rNum bs e).1, 0)
theorem text_any (g : Nat) (bs : List UInt8) (e : Int) (most : Int) (hm : -9223372036854775808 ≤ most ∧ most ≤ 9223372036854775807) (w : World) (h : Rd w g bs e) : Calls Tryd.prog 95 #[.pointer (some ⟨g, 0, none⟩), .int .i64 most] w fun x w' => x = .returned (.string ⟨(rText bs e most).1.toArray⟩) ∧ Rd w' g (rText bs e most).2.1 (rText bs e most).2.2 ∧ w.grownBy w' (some g) := by
  have hN := Lib.hid (num_any g bs e w h)
  have hr : rText bs e most = if (rNum bs e).2.2 ≠ 0 then ([], (rNum bs e).2.1, (rNum bs e).2.2) else if max most 0 < ((rNum bs e).1 : Int) then ([], [], 13) else if (rNum bs e).2.1.length < (rNum bs e).1 then ([], [], 10) else ((rNum bs e).2.1.take (rNum bs e).1, (rNum bs e).2.1.drop (rNum bs e).1, 0) := rfl
  have hu := rNum_lt bs e
  generalize rNum bs e = t at *
  obtain ⟨u, bs1, e1⟩ := t
  simp only at hr hN hu
  by_cases he : e1 = 0
  · rw [if_neg (by simpa using he)] at hr
    subst he
    by_cases h1 : max most 0 < (u : Int)
    · rw [if_pos h1] at hr
      rw [hr]
      clear hr
      go_enter Tryd.func95, Tryd.ntmps95
      go_wp2_with fail
      refine hN.out.mono ?_; rintro x w1 ⟨rfl, hR1, hG1⟩
      have hR1' := hR1
      obtain ⟨hlt, ⟨q, len, cap, c0, hR, hq⟩, c1, f0, f1⟩ := hR1'
      go_wp2_with fail
      refine (fail_any g bs1 0 13 w1 hR1).mono ?_; rintro x w2 ⟨rfl, hR2, hG2⟩
      go_wp2_with fail
      go_ret
      exact ⟨rfl, hR2, hG1.trans hG2⟩
    · rw [if_neg h1] at hr
      by_cases h2 : bs1.length < u
      · rw [if_pos h2] at hr
        rw [hr]
        clear hr
        go_enter Tryd.func95, Tryd.ntmps95
        go_wp2_with fail
        refine hN.out.mono ?_; rintro x w1 ⟨rfl, hR1, hG1⟩
        have hR1' := hR1
        obtain ⟨hlt, ⟨q, len, cap, c0, hR, hq⟩, c1, f0, f1⟩ := hR1'
        have hl := hR.length
        have hsm : len ≤ 9223372036854775807 := by have := hR.small; unfold maxLen at this; omega
        have h1' : (u : Int) ≤ max most 0 := by omega
        have h2' : (len : Int) < u := by omega
        go_wp2_with fail
        refine (fail_any g bs1 0 10 w1 hR1).mono ?_; rintro x w2 ⟨rfl, hR2, hG2⟩
        go_wp2_with fail
        go_ret
        exact ⟨rfl, hR2, hG1.trans hG2⟩
      · rw [if_neg h2] at hr
        rw [hr]
        clear hr
        go_enter Tryd.func95, Tryd.ntmps95
        go_wp2_with fail
        refine hN.out.mono ?_; rintro x w1 ⟨rfl, hR1, hG1⟩
        have hR1' := hR1
        obtain ⟨hlt, ⟨q, len, cap, c0, hR, hq⟩, c1, f0, f1⟩ := hR1'
        have hl := hR.length
        have hsm : len ≤ 9223372036854775807 := by have := hR.small; unfold maxLen at this; omega
        have h1' : (u : Int) ≤ max most 0 := by omega
        have hul : u ≤ len := by omega
        have hcv := (hR.take hul).conv 22 9 5 Tryd.underlying22 Tryd.underlying5 Tryd.underlying9
        have hcap := hR.le
        rcases hR.at_ with e0 | ⟨b, off, rfl, hlb, _⟩
        · subst e0
          obtain rfl : u = 0 := by omega
          have hb0 : bs1 = [] := List.eq_nil_of_length_eq_zero (by omega)
          subst hb0
          go_wp2_with fail
          go_ret
          exact ⟨rfl, hR1.set hR hq, hG1.trans (grown_set w1 ⟨g, 0, none⟩ _)⟩
        · go_wp2_with fail
          · go_ret
            exact ⟨rfl, hR1.set (RowB.shut hR (by omega) (by omega)) hq, hG1.trans (grown_set w1 ⟨g, 0, none⟩ _)⟩
          · go_ret
            exact ⟨rfl, hR1.set (hR.odrop hul) (fun x e => by cases e; exact hq ⟨b, off, none⟩ rfl), hG1.trans (grown_set w1 ⟨g, 0, none⟩ _)⟩
  · rw [if_pos he] at hr
    rw [hr]
    have he' : (e1 == 0) = false := by rw [beq_eq_false_iff_ne]; exact he
    clear hr
    go_enter Tryd.func95, Tryd.ntmps95
    go_wp2_with fail
    refine hN.out.mono ?_; rintro x w1 ⟨rfl, hR1, hG1⟩
    have hR1' := hR1
    obtain ⟨hlt, ⟨q, len, cap, c0, hR, hq⟩, c1, f0, f1⟩ := hR1'
    go_wp2_with fail
    go_ret
    exact ⟨rfl, hR1, hG1⟩
theorem text_none (most : Int) (w : World) : Calls Tryd.prog 95 #[.pointer none, .int .i64 most] w fun x w' => x = .returned (.string ⟨#[]⟩) ∧ w = w' := by
  go_enter Tryd.func95, Tryd.ntmps95
  go_wp2_with fail
  refine (num_none w).mono ?_; rintro x w1 ⟨rfl, rfl⟩
  go_wp2_with fail
  go_ret
  exact ⟨rfl, rfl⟩
end Go.Proofs.YtdmpopdacbdnlaaDoor.Oct
/- octet.Texts: contract. -/
namespace Go.Proofs.YtdmpopdacbdnlaaDoor.Oct
open Go.RowKit
set_option linter.unusedVariables false
set_option linter.unusedSimpArgs false
set_option maxHeartbeats 2000000
set_option maxRecDepth 20000
/-- A slice of texts that may be read. -/
structure RowT (w : World) (a : Option Addr) (len : Nat) (ts : List ByteArray) : Prop where
  length : ts.length = len
  small : len ≤ maxLen
  ok : ∀ s ∈ ts, s.size ≤ maxLen
  at_ : len = 0 ∨ ∃ b off, a = some ⟨b, off, none⟩ ∧ b < w.heap.size ∧ ∀ i, i < len → w.cell? ⟨b, off + i, none⟩ = some (.string (ts.getD i ⟨#[]⟩))
theorem RowT.below {w w' : World} {a : Option Addr} {len : Nat} {ts : List ByteArray} (h : RowT w a len ts) (hb : Below w.heap.size w w') : RowT w' a len ts :=
  ⟨h.length, h.small, h.ok, by
    rcases h.at_ with h0 | ⟨b, off, rfl, hl, hc⟩
    · exact .inl h0
    · exact .inr ⟨b, off, rfl, Nat.lt_of_lt_of_le hl hb.size, fun i hi => by rw [(bcell hb).1 _ _ hl]; exact hc i hi⟩⟩
def encText (s : ByteArray) : List UInt8 := enc s.size ++ s.data.toList
def encTexts (ts : List ByteArray) : List UInt8 := ts.flatMap encText
theorem encTexts_snoc (ts : List ByteArray) (s : ByteArray) : encTexts (ts ++ [s]) = encTexts ts ++ encText s := by simp [encTexts]
theorem encTexts_le (ts : List ByteArray) (h : ∀ s ∈ ts, s.size ≤ 1000) : (encTexts ts).length ≤ ts.length * 1009 := by
  induction ts with
  | nil => simp [encTexts]
  | cons x us ih =>
    have e : encTexts (x :: us) = encText x ++ encTexts us := by simp [encTexts]
    have h1 := enc_le x.size
    have h2 := h x (by simp)
    have h3 := ih (fun s hs => h s (by simp [hs]))
    have h4 : x.data.toList.length = x.size := by rw [Array.length_toList]; rfl
    rw [e, List.length_append, List.length_cons]
    unfold encText
    rw [List.length_append]; omega
theorem strCells_bv (s : ByteArray) : Lib.strCells s = bv s.data.toList := by
  rfl
/-- append(b, s...): a text onto bytes of the call's own. -/
theorem append_text {P : Program} {w : World} {ops : Array Oper} {rest : List Oper} {o : Oper} {a : Act} {Q : Exit → Act → World → Prop} (T t u : TypeId) (hinfo : (P.info? t).map (fun i => (i.zero, i.size, i.bytes)) = some (some (.int .u8 0), 1, 1)) (hT : P.underlying T = some (.slice t)) (hu : P.underlying u = some .string)
    (hgd : o.guard = none) (sl x : Operand) (ho : o.op = .call { callee := .builtin .append, args := #[sl, x], argTypes := #[T, u] })
    (base : Nat) (v : Value) (l : List UInt8) (hs : a.eval sl = v) (hown : OwnB t base w v l) (s : ByteArray) (hx : a.eval x = .string s)
    (hroom : l.length + s.size ≤ 140737488355328) (hbase : base ≤ w.heap.size)
    (h : ∀ v' w', OwnB t base w' v' (l ++ s.data.toList) → w.grownBy w' v.ownBlock → wpList P ops Q rest (a.put o.dst v') w') : wpList P ops Q (o :: rest) a w := by
  obtain ⟨i, hi, hz, hsz, hby⟩ := info_parts hinfo
  have hsl : s.data.toList.length = s.size := by rw [Array.length_toList]; rfl
  refine Lib.wpList_append_own_string w hgd sl x T u ho base t i hT hu hi hz hsz hby v l.length (bv l) hs hown.owns s hx (by unfold maxLen; omega) hroom hbase (fun v' w' h1 h2 _ => h v' w' ⟨?_, by rw [List.length_append, hsl]; unfold maxLen; omega⟩ h2)
  rw [List.length_append, bv_append, hsl, ← strCells_bv]; exact h1
theorem texts_any (a : Option Addr) (len cap : Nat) (ts : List ByteArray) (w : World) (h : RowT w a len ts) (hl : len ≤ 100000) (hsz : ∀ s ∈ ts, s.size ≤ 1000) :
    Calls Tryd.prog 84 #[.slice a len cap] w fun e w' => ∃ v', e = .returned v' ∧ OwnB 5 w.heap.size w' v' (encTexts ts) ∧ Below w.heap.size w w' := by
  have LL := Lib.hid h.length
  go_enter Tryd.func84, Tryd.ntmps84
  go_wp2_with fail
  go_loopw [3, 8] (fun v i wr => ∃ k : Nat, k ≤ len ∧ i = .int .i64 k ∧ OwnB 5 w.heap.size wr v (encTexts (ts.take k)) ∧ Below w.heap.size w wr) (fun v i wr => len - (intOf i).toNat)
  case atStart => exact ⟨0, Nat.zero_le _, rfl, OwnB.nil _ _ _, Below.refl _ _⟩
  case round =>
    obtain ⟨k, hk, rfl, hO, hbr⟩ := hrel
    have zr := hbr.size
    by_cases hlt : k < len
    · rcases h.at_ with h0 | ⟨b, off, rfl, hlb, hc⟩
      · omega
      have ck := (hbr.cell (p := ⟨b, off + k, none⟩) hlb).trans (hc k hlt)
      have hkl : k < ts.length := by have := LL.out; omega
      have h1 : encTexts (ts.take (k + 1)) = (encTexts (ts.take k) ++ enc (ts.getD k ⟨#[]⟩).size) ++ (ts.getD k ⟨#[]⟩).data.toList := by
        rw [List.take_succ_eq_append_getElem hkl, encTexts_snoc]
        simp [encText, List.getD, hkl]
      have hle := encTexts_le (ts.take k) (fun s hs => hsz s (List.mem_of_mem_take hs))
      have htl : (ts.take k).length ≤ len := by rw [List.length_take]; omega
      have hs1 := hsz (ts.getD k ⟨#[]⟩) (by simp [List.getD, hkl])
      generalize ts.getD k ⟨#[]⟩ = s at *
      replace h1 := Lib.hid h1
      generalize encTexts (ts.take k) = l0 at *
      clear hc
      replace hO := Lib.hid hO
      have hel := enc_le s.size
      have tok1 : True := trivial
      go_wp2_with fail
      refine (put_any w.heap.size _ l0 s.size (by omega) wr hO.out (by omega) zr).mono ?_; rintro e w3 ⟨v3, rfl, hG⟩
      have HB3 := hbr.trans (hG.toBelow hO.out zr)
      have hO3 := Lib.hid hG.own
      clear hG
      go_wp2_with (at_builtin; have _t := tok1; refine append_text 22 5 9 info8 Tryd.underlying22 Tryd.underlying9 rfl _ _ rfl w.heap.size v3 (l0 ++ enc s.size) rfl hO3.out s rfl (by rw [List.length_append]; omega) HB3.size ?_; intro v4 w4 hO4 hG4; clear tok1; have HB4 := HB3.grown hG4 HB3.size (fun k hk => (hO3.out.owns.lt k hk).1); replace hO4 := Lib.hid hO4)
      go_roundw
      case rel => first | exact ⟨k + 1, by omega, by go_num, by rw [h1.out]; exact hO4.out, HB4⟩ | exact ⟨k + 1, by omega, by omega, by rw [h1.out]; exact hO4.out⟩
      case measure => simp [intOf] <;> omega
    · obtain rfl : k = len := by omega
      rw [List.take_of_length_le (by rw [LL.out]; exact Nat.le_refl _)] at hO
      go_wp2_with fail
      go_ret
      exact ⟨_, rfl, hO, hbr⟩
end Go.Proofs.YtdmpopdacbdnlaaDoor.Oct
/- Numbers that are put are taken as they were: plain. -/
namespace Go.Proofs.YtdmpopdacbdnlaaDoor.Oct
open Go.RowKit
set_option linter.unusedVariables false
set_option linter.unusedSimpArgs false

theorem valOf_be {u k : Nat} (hu : u < 256 ^ k) (j : Nat) (hj : j ≤ k) : valOf (be u k j) = u / 256 ^ (k - j) := by
  induction j with
  | zero => rw [Nat.sub_zero, Nat.div_eq_of_lt hu]; rfl
  | succ j ih =>
    rw [be_succ, valOf_snoc, ih (by omega)]
    have e : k - j = (k - 1 - j) + 1 := by omega
    have e2 : k - (j + 1) = k - 1 - j := by omega
    rw [e2, e, Nat.pow_succ, ← Nat.div_div_eq_div_mul]
    unfold byteAt
    rw [UInt8.toNat_ofNat']
    show u / 256 ^ (k - 1 - j) / 256 * 256 + u / 256 ^ (k - 1 - j) % 256 = _
    omega
theorem enc_small {u : Nat} (h : u < 248) : enc u = [UInt8.ofNat u] := by unfold enc; rw [if_pos h]
theorem enc_big {u : Nat} (h : 248 ≤ u) : enc u = UInt8.ofNat (247 + nb u) :: be u (nb u) (nb u) := by unfold enc; rw [if_neg (by omega)]
theorem be_length (u k j : Nat) : (be u k j).length = j := by simp [be]
theorem ofNat_nat {n : Nat} (h : n < 256) : (UInt8.ofNat n).toNat = n := by rw [UInt8.toNat_ofNat', Nat.mod_eq_of_lt h]
theorem take_enc {u : Nat} (hu : u < 18446744073709551616) (rest : List UInt8) : takeOf (enc u ++ rest) = (u, (enc u).length, 0) := by
  by_cases h : u < 248
  · have hx := ofNat_nat (n := u) (by omega)
    rw [enc_small h]
    unfold takeOf
    have e0 : ([UInt8.ofNat u] ++ rest).getD 0 0 = UInt8.ofNat u := rfl
    rw [if_neg (by simp), e0, hx, if_pos h]
    rfl
  · obtain ⟨n1, n2, n3, n4⟩ := nb_spec (u := u) (by omega) hu
    rw [enc_big (by omega)]
    generalize nb u = k at *
    have hx := ofNat_nat (n := 247 + k) (by omega)
    unfold takeOf
    have e0 : (UInt8.ofNat (247 + k) :: be u k k ++ rest).getD 0 0 = UInt8.ofNat (247 + k) := rfl
    have el : (UInt8.ofNat (247 + k) :: be u k k ++ rest).length = k + 1 + rest.length := by simp [be_length]; omega
    rw [if_neg (by omega), e0, hx, if_neg (by omega), if_neg (by omega), Nat.add_sub_cancel_left]
    have ed : ((UInt8.ofNat (247 + k) :: be u k k ++ rest).drop 1).take k = be u k k := by
      show (be u k k ++ rest).take k = be u k k
      rw [List.take_append_of_le_length (by rw [be_length]; exact Nat.le_refl _), List.take_of_length_le (by rw [be_length]; exact Nat.le_refl _)]
    have ev : valOf (be u k k) = u := by rw [valOf_be n4 k (Nat.le_refl _), Nat.sub_self, Nat.pow_zero, Nat.div_one]
    have e1 : (UInt8.ofNat (247 + k) :: be u k k ++ rest).getD 1 0 ≠ 0 := by
      obtain ⟨k', rfl⟩ : ∃ k', k = k' + 1 := ⟨k - 1, by omega⟩
      have : (UInt8.ofNat (247 + (k' + 1)) :: be u (k' + 1) (k' + 1) ++ rest).getD 1 0 = byteAt u (k' + 1) 0 := by
        simp [be, List.range_succ_eq_map, List.getD]
      rw [this]
      intro hz
      have hz' := congrArg UInt8.toNat hz
      unfold byteAt at hz'
      rw [UInt8.toNat_ofNat'] at hz'
      have hlt : u / 256 ^ (k' + 1 - 1 - 0) < 256 := by
        rw [Nat.div_lt_iff_lt_mul (Nat.pow_pos (by omega))]
        rw [Nat.pow_succ] at n4
        simpa [Nat.mul_comm] using n4
      have hge : 1 ≤ u / 256 ^ (k' + 1 - 1 - 0) := by
        rw [Nat.le_div_iff_mul_le (Nat.pow_pos (by omega))]
        simpa using n3
      rw [Nat.mod_eq_of_lt (by simpa using hlt)] at hz'
      have : (0 : UInt8).toNat = 0 := rfl
      omega
    rw [ed, ev, if_neg (fun hh => hh.elim (fun hv => by omega) e1)]
    simp [be_length]; omega
theorem enc_pos (u : Nat) : 0 < (enc u).length := by unfold enc; split <;> simp
theorem num_enc {u : Nat} (hu : u < 18446744073709551616) (rest : List UInt8) : rNum (enc u ++ rest) 0 = (u, rest, 0) := by
  unfold rNum
  rw [if_neg (by simp), take_enc hu, if_neg (by simp)]
  simp
theorem text_enc (s : ByteArray) (hs : s.size ≤ 1000) (rest : List UInt8) (most : Int) : rText (encText s ++ rest) 0 most = if max most 0 < (s.size : Int) then ([], [], 13) else (s.data.toList, rest, 0) := by
  have hl : s.data.toList.length = s.size := by rw [Array.length_toList]; rfl
  unfold rText encText
  rw [List.append_assoc, num_enc (by omega), if_neg (by simp)]
  split
  · rfl
  · rw [if_neg (by simp only [List.length_append]; omega)]
    simp only [← hl, List.take_left, List.drop_left]
end Go.Proofs.YtdmpopdacbdnlaaDoor.Oct
/- Bytes that are taken are those that their number is put as; the order of bytes: plain. -/
namespace Go.Proofs.YtdmpopdacbdnlaaDoor.Oct
open Go.RowKit
set_option linter.unusedVariables false
set_option linter.unusedSimpArgs false
set_option maxRecDepth 8000

theorem take_zero (bs : List UInt8) (h : ¬ (takeOf bs).2.2 = 0) : (takeOf bs).1 = 0 ∧ (takeOf bs).2.1 = 0 := by
  revert h
  unfold takeOf
  split
  · simp
  · split
    · simp
    · split
      · simp
      · split <;> simp
theorem byteAt_div (u k i : Nat) (h : i < k) : byteAt u (k + 1) i = byteAt (u / 256) k i := by
  unfold byteAt
  rw [show k + 1 - 1 - i = (k - 1 - i) + 1 from by omega, Nat.pow_succ, Nat.mul_comm, ← Nat.div_div_eq_div_mul]
theorem be_div (u k : Nat) : be u (k + 1) (k + 1) = be (u / 256) k k ++ [UInt8.ofNat u] := by
  rw [be_succ]
  congr 1
  · unfold be
    refine List.map_congr_left fun i hi => byteAt_div u k i (List.mem_range.1 hi)
  · unfold byteAt; rw [show k + 1 - 1 - k = 0 from by omega, Nat.pow_zero, Nat.div_one]
theorem be_val (k : Nat) : ∀ ds : List UInt8, ds.length = k → be (valOf ds) k k = ds := by
  induction k with
  | zero => intro ds h; rw [List.eq_nil_of_length_eq_zero h]; rfl
  | succ k ih =>
    intro ds h
    have e : ds = ds.take k ++ [ds.getD k 0] := by
      conv => lhs; rw [← List.take_of_length_le (Nat.le_of_eq h)]
      rw [List.take_succ_eq_append_getElem (by omega)]
      simp [List.getD, show k < ds.length from by omega]
    rw [e, valOf_snoc, be_div]
    have hb := (ds.getD k 0).toNat_lt
    generalize ds.getD k 0 = b at *
    have e1 : (valOf (ds.take k) * 256 + b.toNat) / 256 = valOf (ds.take k) := by omega
    rw [e1, ih _ (by rw [List.length_take]; omega)]
    congr 2
    refine UInt8.toNat_inj.1 ?_
    rw [UInt8.toNat_ofNat']
    show (valOf (ds.take k) * 256 + b.toNat) % 256 = b.toNat
    omega
theorem valOf_from (ds : List UInt8) (a : Nat) : ds.foldl (fun a b => a * 256 + b.toNat) a = a * 256 ^ ds.length + valOf ds := by
  unfold valOf
  induction ds generalizing a with
  | nil => simp
  | cons d ds ih =>
    rw [List.foldl_cons, ih, List.foldl_cons, ih (0 * 256 + d.toNat), List.length_cons, Nat.pow_succ]
    rw [Nat.add_mul, Nat.zero_mul, Nat.zero_add, Nat.mul_assoc, Nat.mul_comm 256, Nat.add_assoc]
theorem valOf_cons (d : UInt8) (ds : List UInt8) : valOf (d :: ds) = d.toNat * 256 ^ ds.length + valOf ds := by
  have := valOf_from ds (0 * 256 + d.toNat)
  rw [Nat.zero_mul, Nat.zero_add] at this
  unfold valOf
  rw [List.foldl_cons, Nat.zero_mul, Nat.zero_add, this]
  rfl
theorem nb_uniq {u k : Nat} (h : 248 ≤ u) (h64 : u < 18446744073709551616) (hk : 1 ≤ k) (h1 : 256 ^ (k - 1) ≤ u) (h2 : u < 256 ^ k) : nb u = k := by
  obtain ⟨n1, n2, n3, n4⟩ := nb_spec h h64
  rcases Nat.lt_trichotomy (nb u) k with hlt | heq | hgt
  · have := Nat.pow_le_pow_right (n := 256) (by omega) (show nb u ≤ k - 1 by omega); omega
  · exact heq
  · have := Nat.pow_le_pow_right (n := 256) (by omega) (show k ≤ nb u - 1 by omega); omega
/-- Bytes that are taken are those that their number is put as. -/
theorem enc_take_big (d : UInt8) (rest : List UInt8) (k : Nat) (hd : d.toNat = 247 + k) (hk : 1 ≤ k) (hk8 : k ≤ 8) (h2 : k ≤ rest.length) (h3 : 248 ≤ valOf (rest.take k)) (h4 : rest.getD 0 0 ≠ 0) : enc (valOf (rest.take k)) = (d :: rest).take (1 + k) := by
  have hl : (rest.take k).length = k := by rw [List.length_take]; omega
  have hv2 := valOf_lt (rest.take k)
  rw [hl] at hv2
  have hv1 : 256 ^ (k - 1) ≤ valOf (rest.take k) := by
    obtain ⟨k', rfl⟩ : ∃ k', k = k' + 1 := ⟨k - 1, by omega⟩
    cases rest with
    | nil => simp at hl
    | cons f rest =>
      have hf : f ≠ 0 := h4
      have hf1 : 1 ≤ f.toNat := by
        rcases Nat.eq_zero_or_pos f.toNat with hh | hh
        · exact absurd (UInt8.toNat_inj.1 hh) hf
        · exact hh
      rw [List.take_succ_cons, valOf_cons]
      have hl' : (rest.take k').length = k' := by simpa using hl
      rw [hl', Nat.add_sub_cancel]
      have := Nat.mul_le_mul_right (256 ^ k') hf1
      omega
  have hp8 : 256 ^ k ≤ 256 ^ 8 := Nat.pow_le_pow_right (by omega) hk8
  have hlt : valOf (rest.take k) < 18446744073709551616 := Nat.lt_of_lt_of_le hv2 hp8
  have hn := nb_uniq h3 hlt hk hv1 hv2
  rw [enc_big h3, hn, be_val k _ hl, Nat.add_comm 1 k, List.take_succ_cons]
  congr 1
  refine UInt8.toNat_inj.1 ?_
  rw [ofNat_nat (by omega), hd]
theorem enc_take (bs : List UInt8) (h : (takeOf bs).2.2 = 0) : enc (takeOf bs).1 = bs.take (takeOf bs).2.1 := by
  revert h
  unfold takeOf
  split
  · simp
  · rename_i h0
    split
    · rename_i h1
      intro _
      show enc (bs.getD 0 0).toNat = bs.take 1
      rw [enc_small h1]
      cases bs with
      | nil => simp at h0
      | cons d rest =>
        show [UInt8.ofNat d.toNat] = [d]
        simp
    · rename_i h1
      split
      · simp
      · rename_i h2
        split
        · simp
        · rename_i h3
          intro _
          cases bs with
          | nil => simp at h0
          | cons d rest =>
            have h1' : ¬ d.toNat < 248 := h1
            have h2' : ¬ rest.length < d.toNat - 247 := h2
            have hx := d.toNat_lt
            have h3' : ¬ (valOf (rest.take (d.toNat - 247)) < 248 ∨ rest.getD 0 0 = 0) := by
              have e : (d :: rest).getD 1 0 = rest.getD 0 0 := by simp [List.getD]
              rw [← e]; exact h3
            exact enc_take_big d rest (d.toNat - 247) (by omega) (by omega) (by omega) (by omega) (by rcases Nat.lt_or_ge (valOf (rest.take (d.toNat - 247))) 248 with hh | hh; exact absurd (.inl hh) h3'; exact hh) (fun e => h3' (.inr e))
theorem take_more (bs : List UInt8) (h : (takeOf bs).2.2 = 0) (more : List UInt8) : takeOf (bs.take (takeOf bs).2.1 ++ more) = ((takeOf bs).1, (takeOf bs).2.1, 0) := by
  have e := enc_take bs h
  have hl : (enc (takeOf bs).1).length = (takeOf bs).2.1 := by
    rw [e, List.length_take]; have := take_le bs; omega
  rw [← e, take_enc (takeOf_lt bs), hl]
end Go.Proofs.YtdmpopdacbdnlaaDoor.Oct
/- What is put and read again; what is cut. No program. -/
namespace Go.Proofs.YtdmpopdacbdnlaaDoor.Oct
open Go.RowKit
theorem take_cut {u m : Nat} (hu : u < 18446744073709551616) (hm : m < (enc u).length) : takeOf ((enc u).take m) = (0, 0, 10) := by
  cases m with
  | zero => simp [takeOf]
  | succ m =>
    by_cases h : u < 248
    · rw [enc_small h] at hm
      simp at hm
    · obtain ⟨n1, n2, _, _⟩ := nb_spec (u := u) (by omega) hu
      rw [enc_big (by omega)] at hm ⊢
      generalize nb u = k at *
      have hx := ofNat_nat (n := 247 + k) (by omega)
      simp [be_length] at hm
      have e0 : ((UInt8.ofNat (247 + k) :: be u k k).take (m + 1)).getD 0 0 = UInt8.ofNat (247 + k) := rfl
      have el : ((UInt8.ofNat (247 + k) :: be u k k).take (m + 1)).length = m + 1 := by simp [be_length]; omega
      unfold takeOf
      rw [e0, el, hx, if_neg (by omega), if_neg (by omega), if_pos (by omega)]
/-- What a reader has left, where its bytes were cut ahead of R's end. -/
def Cut (p : List UInt8) (e : Int) (R : List UInt8) : Prop := (p = [] ∧ e = 10) ∨ (e = 0 ∧ ∃ m, m < R.length ∧ p = R.take m)
theorem cut_num {p : List UInt8} {e : Int} {u : Nat} (hu : u < 18446744073709551616) {R : List UInt8} (h : Cut p e (enc u ++ R)) : Cut (rNum p e).2.1 (rNum p e).2.2 R := by
  rcases h with ⟨rfl, rfl⟩ | ⟨rfl, m, hm, rfl⟩
  · exact .inl ⟨rfl, rfl⟩
  · by_cases hc : m < (enc u).length
    · left
      rw [List.take_append_of_le_length (Nat.le_of_lt hc)]
      unfold rNum
      rw [take_cut hu hc]
      exact ⟨rfl, rfl⟩
    · right
      rw [List.take_append, List.take_of_length_le (by omega), num_enc hu]
      rw [List.length_append] at hm
      exact ⟨rfl, m - (enc u).length, by omega, rfl⟩
theorem cut_text {p : List UInt8} {e : Int} {s : ByteArray} (hs : s.size ≤ 400) {R : List UInt8} (h : Cut p e (encText s ++ R)) : Cut (rText p e 400).2.1 (rText p e 400).2.2 R := by
  have hl : s.data.toList.length = s.size := by rw [Array.length_toList]; rfl
  rcases h with ⟨rfl, rfl⟩ | ⟨rfl, m, hm, rfl⟩
  · exact .inl ⟨rfl, rfl⟩
  · unfold encText at hm ⊢
    rw [List.append_assoc] at hm ⊢
    by_cases hc : m < (enc s.size).length
    · left
      have hr : rNum ((enc s.size ++ (s.data.toList ++ R)).take m) 0 = (0, [], 10) := by
        rw [List.take_append_of_le_length (Nat.le_of_lt hc)]
        unfold rNum
        rw [take_cut (by omega) hc]
        rfl
      unfold rText
      rw [hr]
      exact ⟨rfl, rfl⟩
    · have hr : rNum ((enc s.size ++ (s.data.toList ++ R)).take m) 0 = (s.size, (s.data.toList ++ R).take (m - (enc s.size).length), 0) := by
        rw [List.take_append, List.take_of_length_le (by omega), num_enc (by omega)]
      rw [List.length_append] at hm
      unfold rText
      rw [hr, if_neg (by simp), if_neg (by simp only; omega)]
      have hlen : ((s.data.toList ++ R).take (m - (enc s.size).length)).length = m - (enc s.size).length := by rw [List.length_take]; omega
      by_cases hd : m - (enc s.size).length < s.size
      · left
        rw [if_pos (by simp only [hlen]; exact hd)]
        exact ⟨rfl, rfl⟩
      · right
        rw [if_neg (by simp only [hlen]; exact hd)]
        refine ⟨rfl, m - (enc s.size).length - s.size, ?_, ?_⟩
        · rw [List.length_append] at hm; omega
        · simp only
          rw [List.take_append, List.drop_append, List.drop_eq_nil_of_le (by rw [List.length_take]; omega), List.length_take]
          rw [show s.size - min (m - (enc s.size).length) s.data.toList.length = 0 from by omega]
          rw [List.drop_zero, List.nil_append, hl]
theorem encAll_cons (x : Int) (us : List Int) : encAll (x :: us) = enc x.toNat ++ encAll us := by simp [encAll]
theorem encTexts_cons (s : ByteArray) (ts : List ByteArray) : encTexts (s :: ts) = encText s ++ encTexts ts := by simp [encTexts]
theorem encAll_drop {us : List Int} {k : Nat} (h : k < us.length) (R : List UInt8) : encAll (us.drop k) ++ R = enc (us.getD k 0).toNat ++ (encAll (us.drop (k + 1)) ++ R) := by
  rw [List.drop_eq_getElem_cons h, encAll_cons, List.append_assoc]
  simp [List.getD, h]
theorem encTexts_drop {ts : List ByteArray} {k : Nat} (h : k < ts.length) : encTexts (ts.drop k) = encText (ts.getD k ⟨#[]⟩) ++ encTexts (ts.drop (k + 1)) := by
  rw [List.drop_eq_getElem_cons h, encTexts_cons]
  simp [List.getD, h]
theorem encAll_nil {us : List Int} (h : (encAll us).length = 0) : us = [] := by
  cases us with
  | nil => rfl
  | cons x us => rw [encAll_cons, List.length_append] at h; have := enc_pos x.toNat; omega
theorem encTexts_nil {ts : List ByteArray} (h : (encTexts ts).length = 0) : ts = [] := by
  cases ts with
  | nil => rfl
  | cons x us => rw [encTexts_cons, List.length_append] at h; have := enc_pos x.size; unfold encText at h; rw [List.length_append] at h; omega
theorem cut_end {p : List UInt8} {e : Int} (h : Cut p e []) : p = [] ∧ e = 10 := by
  rcases h with h | ⟨_, m, hm, _⟩
  · exact h
  · cases hm
theorem back_toArray (t : ByteArray) : (⟨t.data.toList.toArray⟩ : ByteArray) = t := by simp
end Go.Proofs.YtdmpopdacbdnlaaDoor.Oct
/- lookoutref01.Num: contract. -/
namespace Go.Proofs.YtdmpopdacbdnlaaDoor.Oct
open Go.RowKit
set_option linter.unusedVariables false
set_option linter.unusedSimpArgs false
set_option maxHeartbeats 2000000
set_option maxRecDepth 20000
def sfx (x : Nat) : Nat → List UInt8
  | 0 => []
  | j + 1 => UInt8.ofNat (x / 256 ^ j) :: sfx x j
theorem sfx_length (x j : Nat) : (sfx x j).length = j := by induction j with | zero => rfl | succ j ih => simp [sfx, ih]
theorem be_sfx (x k : Nat) : be x k k = sfx x k := by
  induction k with
  | zero => rfl
  | succ k ih =>
    rw [sfx, ← ih]
    unfold be
    rw [List.range_succ_eq_map, List.map_cons, List.map_map]
    congr 1
    refine List.map_congr_left fun i hi => ?_
    show byteAt x (k + 1) (i + 1) = byteAt x k i
    unfold byteAt
    rw [show k + 1 - 1 - (i + 1) = k - 1 - i from by omega]
theorem conv_one (W : World) (b : UInt8) (z : Int) (h : (b.toNat : Int) = z) : (convert 22 9 (.slice (some ⟨W.heap.size, 0, none⟩) 1 1)).run Tryd.prog (W.alloc (.cells #[.int .u8 z] 5)) = .ok (.string ⟨#[b]⟩) (W.alloc (.cells #[.int .u8 z] 5)) := by
  have hR : RowB (W.alloc (.cells #[.int .u8 z] 5)) (some ⟨W.heap.size, 0, none⟩) 1 1 [b] :=
    ⟨rfl, by decide, Nat.le_refl _, .inr ⟨W.heap.size, 0, rfl, by simp, fun i hi => by
      obtain rfl : i = 0 := by omega
      subst h
      simp [go_sem]⟩, fun e => by cases e⟩
  exact hR.conv 22 9 5 Tryd.underlying22 Tryd.underlying5 Tryd.underlying9
theorem ba_cons (b : UInt8) (l : List UInt8) : ((⟨#[b]⟩ : ByteArray) ++ (⟨l.toArray⟩ : ByteArray)) = ⟨(b :: l).toArray⟩ := by
  apply ByteArray.ext
  simp [ByteArray.data_append]
theorem ba_cons3 (b : UInt8) (l : List UInt8) : ((⟨#[b]⟩ : ByteArray) ++ (⟨#[]⟩ : ByteArray) ++ (⟨l.toArray⟩ : ByteArray)) = ⟨(b :: l).toArray⟩ := by
  apply ByteArray.ext
  simp [ByteArray.data_append]
theorem rnum_any (x : Nat) (hx : x < 18446744073709551616) (w : World) :
    Calls Tryd.prog 117 #[.int .u64 (x : Int)] w fun e w' => e = .returned (.string ⟨(enc x).toArray⟩) ∧ Below w.heap.size w w' := by
  by_cases h248 : x < 248
  · have en : enc x = [UInt8.ofNat x] := enc_small h248
    rw [en]
    have ec := ofNat_nat (n := x) (by omega)
    have cv := conv_one w (UInt8.ofNat x) x (by rw [ec])
    go_enter Tryd.func117, Tryd.ntmps117
    go_wp2_with fail
    go_ret
    exact ⟨rfl, (by repeat (first | with_reducible exact Below.refl _ _ | with_reducible refine Below.drew ?_ | with_reducible refine Below.alloc ?_ (by (try simp) <;> omega) _ | with_reducible refine Below.setCell ?_ (by (try simp) <;> omega) _))⟩
  · go_enter Tryd.func117, Tryd.ntmps117
    go_wp2_with fail
    go_loopw [3, 4] (fun s y wr => ∃ j : Nat, j ≤ 8 ∧ y = .int .u64 ((x / 256 ^ j : Nat) : Int) ∧ s = .string ⟨(sfx x j).toArray⟩ ∧ (j = 0 ∨ 0 < x / 256 ^ (j - 1)) ∧ Below w.heap.size w wr) (fun s y wr => (intOf y).toNat)
    case atStart => exact ⟨0, by omega, by simp, rfl, .inl rfl, Below.refl _ _⟩
    case round =>
      obtain ⟨j, hj, rfl, rfl, hpre, hbr⟩ := hrel
      have zr := hbr.size
      have hsl := sfx_length x j
      by_cases hpos : 0 < x / 256 ^ j
      · have hd : x / 256 ^ j / 256 = x / 256 ^ (j + 1) := by rw [Nat.pow_succ, Nat.div_div_eq_div_mul]
        have hj7 : j < 8 := by
          rcases Nat.lt_or_ge j 8 with h | h
          · exact h
          · obtain rfl : j = 8 := by omega
            rw [Nat.div_eq_of_lt (by omega)] at hpos
            omega
        have hyl : x / 256 ^ j < 18446744073709551616 := Nat.lt_of_le_of_lt (Nat.div_le_self _ _) hx
        have hs1 : sfx x (j + 1) = UInt8.ofNat (x / 256 ^ j) :: sfx x j := rfl
        have hp1 : 0 < x / 256 ^ (j + 1 - 1) := hpos
        generalize x / 256 ^ j = y at *
        generalize sfx x j = s0 at *
        have cv := conv_one wr (UInt8.ofNat y) ((y : Int) % 256) (by rw [UInt8.toNat_ofNat']; simp)
        go_wp2_with fail
        go_roundw
        case rel => exact ⟨j + 1, by omega, by rw [← hd]; simp, by rw [hs1, ba_cons], .inr hp1, Below.trans hbr (Below.mono ((by repeat (first | with_reducible exact Below.refl _ _ | with_reducible refine Below.drew ?_ | with_reducible refine Below.alloc ?_ (by (try simp) <;> omega) _ | with_reducible refine Below.setCell ?_ (by (try simp) <;> omega) _)) : Below wr.heap.size wr _) zr)⟩
        case measure => simp [intOf]; omega
      · have hz : x / 256 ^ j = 0 := Nat.eq_zero_of_not_pos hpos
        have hj1 : 1 ≤ j := by
          rcases Nat.eq_zero_or_pos j with h | h
          · subst h; rw [Nat.pow_zero, Nat.div_one] at hz; omega
          · exact h
        have hlo : 256 ^ (j - 1) ≤ x := by
          rcases hpre with h | h
          · omega
          · rcases Nat.lt_or_ge x (256 ^ (j - 1)) with h2 | h2
            · rw [Nat.div_eq_of_lt h2] at h; omega
            · exact h2
        have hhi : x < 256 ^ j := by
          rcases Nat.lt_or_ge x (256 ^ j) with h2 | h2
          · exact h2
          · exact absurd (Nat.div_pos h2 (Nat.pow_pos (by omega))) hpos
        have hn := nb_uniq (u := x) (by omega) hx hj1 hlo hhi
        have en : enc x = UInt8.ofNat (247 + j) :: sfx x j := by rw [enc_big (by omega), hn, be_sfx]
        replace en := Lib.hid en
        rw [hz]
        clear hpre hlo hhi hn hz hpos
        generalize sfx x j = s0 at *
        have q5 : (247 + (j : Int)) % 256 = 247 + (j : Int) := by omega
        have cv := conv_one wr (UInt8.ofNat (247 + j)) (247 + (j : Int)) (by rw [ofNat_nat (by omega)]; simp)
        generalize UInt8.ofNat (247 + j) = hb at *
        go_wp2_with fail
        go_ret
        exact ⟨by rw [en.out, ← ba_cons3]; rfl, Below.trans hbr (Below.mono ((by repeat (first | with_reducible exact Below.refl _ _ | with_reducible refine Below.drew ?_ | with_reducible refine Below.alloc ?_ (by (try simp) <;> omega) _ | with_reducible refine Below.setCell ?_ (by (try simp) <;> omega) _)) : Below wr.heap.size wr _) zr)⟩
end Go.Proofs.YtdmpopdacbdnlaaDoor.Oct
/- lookoutref01.Take: contract. -/
namespace Go.Proofs.YtdmpopdacbdnlaaDoor.Oct
open Go.RowKit
set_option linter.unusedVariables false
set_option linter.unusedSimpArgs false
set_option maxHeartbeats 2000000
set_option maxRecDepth 20000
theorem form_iff (bs : List UInt8) (k : Nat) (hx : (bs.getD 0 0).toNat = 247 + k) (hk : 1 ≤ k) (hk8 : k ≤ 8) (hl : k + 1 ≤ bs.length) : (enc (valOf ((bs.drop 1).take k)) = bs.take (k + 1)) ↔ ¬ (valOf ((bs.drop 1).take k) < 248 ∨ bs.getD 1 0 = 0) := by
  have hT : takeOf bs = if valOf ((bs.drop 1).take k) < 248 ∨ bs.getD 1 0 = 0 then (0, 0, 11) else (valOf ((bs.drop 1).take k), 1 + k, 0) := by
    unfold takeOf; rw [if_neg (by omega), hx, if_neg (by omega), if_neg (by omega), Nat.add_sub_cancel_left]
  have hvl : valOf ((bs.drop 1).take k) < 18446744073709551616 := by
    have h1 := valOf_lt ((bs.drop 1).take k)
    have h2 : 256 ^ ((bs.drop 1).take k).length ≤ 256 ^ 8 := Nat.pow_le_pow_right (by omega) (by rw [List.length_take]; omega)
    exact Nat.lt_of_lt_of_le h1 h2
  constructor
  · intro he hc
    rw [if_pos hc] at hT
    have h3 := take_enc hvl (bs.drop (k + 1))
    rw [he, List.take_append_drop, hT] at h3
    have := congrArg (fun t : Nat × Nat × Int => t.2.2) h3
    simp at this
  · intro hc
    rw [if_neg hc] at hT
    have h3 := enc_take bs (by rw [hT])
    rw [hT] at h3
    rw [h3, Nat.add_comm 1 k]
theorem ba_get (bs : List UInt8) (i : Nat) (h : i < (⟨bs.toArray⟩ : ByteArray).size) : (⟨bs.toArray⟩ : ByteArray)[i]'h = bs.getD i 0 := by
  have h2 : i < bs.toArray.size := h
  have h' : i < bs.length := by simpa using h2
  show bs.toArray[i]'_ = _
  simp [List.getD, h']
theorem ba_take (bs : List UInt8) (n : Nat) : (⟨bs.toArray⟩ : ByteArray).extract 0 n = ⟨(bs.take n).toArray⟩ := by
  apply ByteArray.ext
  simp [ByteArray.data_extract]
theorem rtake_any (bs : List UInt8) (hs : bs.length ≤ 1000000000) (w : World) :
    Calls Tryd.prog 123 #[.string ⟨bs.toArray⟩] w fun e w' => e = .returned (takeV bs) ∧ Below w.heap.size w w' := by
  by_cases h0 : bs.length = 0
  · have hb := List.eq_nil_of_length_eq_zero h0
    subst hb
    have ht : takeV [] = .tuple #[.int .u64 0, .int .i64 0, .int .i64 10] := by rfl
    rw [ht]
    go_enter Tryd.func123, Tryd.ntmps123
    go_wp2_with fail
    go_ret3
    exact ⟨rfl, Below.refl _ _⟩
  · have hx := (bs.getD 0 0).toNat_lt
    have hE : bs.isEmpty = false := by cases bs with | nil => simp at h0 | cons d r => rfl
    have hz : 0 < (⟨bs.toArray⟩ : ByteArray).size := by show 0 < bs.toArray.size; simp; omega
    have i0 : (⟨bs.toArray⟩ : ByteArray)[0]'hz = bs.getD 0 0 := ba_get bs 0 hz
    have hT : takeOf bs = if (bs.getD 0 0).toNat < 248 then ((bs.getD 0 0).toNat, 1, 0) else if bs.length - 1 < (bs.getD 0 0).toNat - 247 then (0, 0, 10) else if valOf ((bs.drop 1).take ((bs.getD 0 0).toNat - 247)) < 248 ∨ bs.getD 1 0 = 0 then (0, 0, 11) else (valOf ((bs.drop 1).take ((bs.getD 0 0).toNat - 247)), 1 + ((bs.getD 0 0).toNat - 247), 0) := by
      unfold takeOf; rw [if_neg (by omega)]
    have FI := form_iff bs
    generalize bs.getD 0 0 = b0 at *
    generalize hx0 : b0.toNat = x at *
    by_cases hx1 : x < 248
    · rw [if_pos hx1] at hT
      have hV : takeV bs = .tuple #[.int .u64 x, .int .i64 1, .int .i64 0] := by unfold takeV; rw [hT]; rfl
      rw [hV]
      clear hV hT FI
      go_enter Tryd.func123, Tryd.ntmps123
      go_wp2_with fail
      go_ret3
      exact ⟨rfl, Below.refl _ _⟩
    rw [if_neg hx1] at hT
    obtain ⟨k, rfl⟩ : ∃ k, x = 247 + k := ⟨x - 247, by omega⟩
    rw [Nat.add_sub_cancel_left] at hT
    have hk8 : k ≤ 8 := by omega
    have hk1 : 1 ≤ k := by omega
    have e5 : (247 + (k : Int) - 247) = (k : Int) := by omega
    by_cases hsh : bs.length - 1 < k
    · rw [if_pos hsh] at hT
      have hV : takeV bs = .tuple #[.int .u64 0, .int .i64 0, .int .i64 10] := by unfold takeV; rw [hT]; rfl
      rw [hV]
      have hsh' : (bs.length : Int) < (k : Int) + 1 := by omega
      clear hV hT FI
      go_enter Tryd.func123, Tryd.ntmps123
      go_wp2_with fail
      go_ret3
      exact ⟨rfl, Below.refl _ _⟩
    rw [if_neg hsh] at hT
    have FI2 := Lib.hid (FI k rfl hk1 hk8 (by omega))
    replace hT := Lib.hid hT
    have hsh' : (k : Int) + 1 ≤ (bs.length : Int) := by omega
    clear FI
    go_enter Tryd.func123, Tryd.ntmps123
    go_wp2_with fail
    go_loop [6, 7] (fun u i => ∃ j m : Nat, m = j + 1 ∧ j ≤ k ∧ i = .int .i64 (m : Int) ∧ u = .int .u64 (valOf ((bs.drop 1).take j) : Nat)) (fun u i => k + 1 - (intOf i).toNat)
    case atStart => exact ⟨0, 1, rfl, Nat.zero_le _, rfl, rfl⟩
    case round =>
      obtain ⟨j, m, hm, hj, rfl, rfl⟩ := hrel
      by_cases hlt : j < k
      · have hml : m < bs.length := by omega
        have hmz : m < (⟨bs.toArray⟩ : ByteArray).size := by show m < bs.toArray.size; simpa using hml
        have im := ba_get bs m hmz
        have hd : (bs.drop 1).take (j + 1) = (bs.drop 1).take j ++ [bs.getD m 0] := by
          rw [List.take_succ_eq_append_getElem (by rw [List.length_drop]; omega)]
          have hl1 : j + 1 < bs.length := by omega
          subst hm
          simp [List.getD, Nat.add_comm 1 j, hl1]
        have hv := valOf_snoc ((bs.drop 1).take j) (bs.getD m 0)
        rw [← hd] at hv
        have hlv := valOf_lt ((bs.drop 1).take j)
        have hpw : 256 ^ ((bs.drop 1).take j).length ≤ 256 ^ 7 := Nat.pow_le_pow_right (by omega) (by rw [List.length_take]; omega)
        have hyb := (bs.getD m 0).toNat_lt
        generalize bs.getD m 0 = y at *
        generalize valOf ((bs.drop 1).take j) = V at *
        generalize hyn : y.toNat = yn at *
        replace hv := Lib.hid hv
        have hV7 : V < 72057594037927936 := Nat.lt_of_lt_of_le hlv hpw
        have hmk : (m : Int) ≤ k := by omega
        have hm0 : (0 : Int) ≤ m := by omega
        have hml' : (m : Int) < (bs.length : Int) := by omega
        replace hm := Lib.hid hm
        clear hlv hpw hd
        go_wp2_with fail
        go_round
        case rel => exact ⟨j + 1, m + 1, by have := hm.out; omega, by omega, by go_num, by rw [hv.out]; simp⟩
        case measure => simp [intOf]; omega
      · obtain rfl : j = k := by omega
        have hlv := valOf_lt ((bs.drop 1).take j)
        have hpw : 256 ^ ((bs.drop 1).take j).length ≤ 256 ^ 8 := Nat.pow_le_pow_right (by omega) (by rw [List.length_take]; omega)
        generalize valOf ((bs.drop 1).take j) = V at *
        have hV8 : V < 18446744073709551616 := Nat.lt_of_lt_of_le hlv hpw
        clear hlv hpw
        have hmk : (j : Int) < m := by omega
        replace hm := Lib.hid hm
        have wj : IntKind.i64.wrap ((j : Int) + 1) = (j : Int) + 1 := IntWalk.i64_in _ (by omega)
        have wj0 : (0 : Int) ≤ (j : Int) + 1 := by omega
        have wj1 : (j : Int) + 1 ≤ (bs.length : Int) := by omega
        have hN := Lib.hid (rnum_any V hV8 w.drew)
        have hs1 : ∀ W, (Instr.slice 9 (.string ⟨bs.toArray⟩) none (some (.int .i64 ((j : Int) + 1))) none).run Tryd.prog W = .ok (.string ⟨(bs.take (j + 1)).toArray⟩) W := fun W => by
          have := run_slice_string_h W 9 ⟨bs.toArray⟩ Tryd.underlying9 .i64 ((j : Int) + 1) wj0 (by show (j : Int) + 1 ≤ (bs.toArray.size : Int); simpa using wj1)
          rw [this, show ((j : Int) + 1).toNat = j + 1 from by omega, ba_take]
        by_cases hc : V < 248 ∨ bs.getD 1 0 = 0
        · have hne : ¬ enc V = bs.take (j + 1) := fun e => (FI2.out.1 e) hc
          have hV : takeV bs = .tuple #[.int .u64 0, .int .i64 0, .int .i64 11] := by unfold takeV; rw [hT.out, if_pos hc]; rfl
          replace hV := Lib.hid hV
          clear hc FI2 hT
          have hbq : (enc V == bs.take (j + 1)) = false := beq_eq_false_iff_ne.2 hne
          clear hne
          generalize bs.take (j + 1) = p at *
          generalize enc V = q at *
          go_wp2_with fail
          go_region_with (go_at_call 117; refine hN.out.mono ?_; rintro e w1 ⟨rfl, hb1⟩)
          all_goals go_wp2_with fail
          all_goals (go_ret3; exact ⟨by rw [hV.out]; rfl, (Below.refl _ _).drew.trans hb1⟩)
        · have hne : enc V = bs.take (j + 1) := FI2.out.2 hc
          have hV : takeV bs = .tuple #[.int .u64 V, .int .i64 ((j : Int) + 1), .int .i64 0] := by
            unfold takeV; rw [hT.out, if_neg hc]; simp; omega
          replace hV := Lib.hid hV
          clear hc FI2 hT
          rw [hne] at hN
          clear hne
          generalize bs.take (j + 1) = p at *
          go_wp2_with fail
          go_region_with (go_at_call 117; refine hN.out.mono ?_; rintro e w1 ⟨rfl, hb1⟩)
          all_goals go_wp2_with fail
          all_goals (go_ret3; exact ⟨by rw [hV.out]; rfl, (Below.refl _ _).drew.trans hb1⟩)
end Go.Proofs.YtdmpopdacbdnlaaDoor.Oct
/- lookoutref01.Read, ReadMoment, ReadText, End; octet.Reader's Int, Moment: contracts. -/
namespace Go.Proofs.YtdmpopdacbdnlaaDoor.Oct
open Go.RowKit
set_option linter.unusedVariables false
set_option linter.unusedSimpArgs false
set_option maxHeartbeats 2000000
set_option maxRecDepth 20000
def rV (bs : List UInt8) (e : Int) : Value := .agg #[.string ⟨bs.toArray⟩, .int .i64 e]
theorem rNum_le (bs : List UInt8) (e : Int) : (rNum bs e).2.1.length ≤ bs.length := by
  unfold rNum
  split
  · exact Nat.le_refl _
  · split
    · simp
    · simp
theorem ba_drop (bs : List UInt8) (n : Nat) : (⟨bs.toArray⟩ : ByteArray).extract n (⟨bs.toArray⟩ : ByteArray).size = ⟨(bs.drop n).toArray⟩ := by
  apply ByteArray.ext
  have h : (⟨bs.toArray⟩ : ByteArray).size = bs.toArray.size := rfl
  rw [h]
  simp [ByteArray.data_extract]
  exact List.take_of_length_le (by rw [List.length_drop]; exact Nat.le_refl _)
theorem rread_any (bs : List UInt8) (e : Int) (hs : bs.length ≤ 1000000) (w : World) :
    Calls Tryd.prog 100 #[rV bs e] w fun x w' => x = .returned (.tuple #[.int .u64 (rNum bs e).1, rV (rNum bs e).2.1 (rNum bs e).2.2]) ∧ Below w.heap.size w w' := by
  unfold rV
  by_cases he : e = 0
  · subst he
    have hT := fun W => rtake_any bs (by omega) W
    unfold takeV at hT
    have hle := take_le bs
    by_cases ht : (takeOf bs).2.2 = 0
    · have hr : rNum bs 0 = ((takeOf bs).1, bs.drop (takeOf bs).2.1, 0) := by unfold rNum; rw [if_neg (by simp), if_neg (by simpa using ht)]
      rw [hr]
      rw [ht] at hT
      clear hr ht
      generalize (takeOf bs).1 = u at *
      generalize (takeOf bs).2.1 = n at *
      replace hT := Lib.hid hT
      go_enter Tryd.func100, Tryd.ntmps100
      go_wp2_with fail
      refine (hT.out _).mono ?_; rintro x w1 ⟨rfl, hb1⟩
      have z1 := hb1.size
      simp at z1
      have f3 : w1.frozen? ⟨w.heap.size + 1, 0, none⟩ = false := (hb1.frozen (p := ⟨w.heap.size + 1, 0, none⟩) (by simp <;> omega)).trans (by simp [go_sem])
      have f4 : w1.frozen? ⟨w.heap.size + 1, 1, none⟩ = false := (hb1.frozen (p := ⟨w.heap.size + 1, 1, none⟩) (by simp <;> omega)).trans (by simp [go_sem])
      have d3 : w1.cell? ⟨w.heap.size + 1, 0, none⟩ = some (.string ⟨#[]⟩) := (hb1.cell (p := ⟨w.heap.size + 1, 0, none⟩) (by simp <;> omega)).trans (by simp [go_sem])
      have d4 : w1.cell? ⟨w.heap.size + 1, 1, none⟩ = some (.int .i64 0) := (hb1.cell (p := ⟨w.heap.size + 1, 1, none⟩) (by simp <;> omega)).trans (by simp [go_sem])
      have c3 : w1.cell? ⟨w.heap.size, 0, none⟩ = some (.string ⟨bs.toArray⟩) := (hb1.cell (p := ⟨w.heap.size, 0, none⟩) (by simp <;> omega)).trans (by simp [go_sem])
      have B1 : Below w.heap.size w w1 := by
        refine Below.trans ?_ (hb1.mono (by simp <;> omega))
        exact (by repeat (first | with_reducible exact Below.refl _ _ | with_reducible refine Below.drew ?_ | with_reducible refine Below.alloc ?_ (by (try simp) <;> omega) _ | with_reducible refine Below.setCell ?_ (by (try simp) <;> omega) _))
      have hn0 : (0 : Int) ≤ (n : Int) := by omega
      have hnl : (n : Int) ≤ (bs.length : Int) := by omega
      have hs1 : ∀ W, (Instr.slice 9 (.string ⟨bs.toArray⟩) (some (.int .i64 (n : Int))) none none).run Tryd.prog W = .ok (.string ⟨(bs.drop n).toArray⟩) W := fun W => by
        have := run_slice_string_l W 9 ⟨bs.toArray⟩ Tryd.underlying9 .i64 (n : Int) hn0 (by show (n : Int) ≤ (bs.toArray.size : Int); simpa using hnl)
        rw [this, show ((n : Int)).toNat = n from by omega, ba_drop]
      obtain ⟨p, hp⟩ : ∃ p, bs.drop n = p := ⟨_, rfl⟩
      rw [hp] at hs1
      replace hp := Lib.hid hp
      go_wp2_with fail
      go_region_with (fail)
      all_goals go_wp2_with fail
      all_goals (exact bodyPost_ret (v := .tuple #[.int .u64 u, .agg #[.string ⟨p.toArray⟩, .int .i64 0]]) (by simp [results, Tryd.results100, go_sem, d3, d4, f3, f4]) rfl ⟨by rw [hp.out], (Below.setCell (Below.setCell B1 (by simp only []; omega) _) (by simp only []; omega) _).drew⟩)
    · have hr : rNum bs 0 = (0, [], (takeOf bs).2.2) := by unfold rNum; rw [if_neg (by simp), if_pos ht]
      rw [hr]
      have ht' : ((takeOf bs).2.2 == 0) = false := by rw [beq_eq_false_iff_ne]; exact ht
      clear hr
      generalize (takeOf bs).2.2 = x at *
      replace hT := Lib.hid hT
      go_enter Tryd.func100, Tryd.ntmps100
      go_wp2_with fail
      refine (hT.out _).mono ?_; rintro x1 w1 ⟨rfl, hb1⟩
      have z1 := hb1.size
      simp at z1
      have f3 : w1.frozen? ⟨w.heap.size + 1, 0, none⟩ = false := (hb1.frozen (p := ⟨w.heap.size + 1, 0, none⟩) (by simp <;> omega)).trans (by simp [go_sem])
      have f4 : w1.frozen? ⟨w.heap.size + 1, 1, none⟩ = false := (hb1.frozen (p := ⟨w.heap.size + 1, 1, none⟩) (by simp <;> omega)).trans (by simp [go_sem])
      have d3 : w1.cell? ⟨w.heap.size + 1, 0, none⟩ = some (.string ⟨#[]⟩) := (hb1.cell (p := ⟨w.heap.size + 1, 0, none⟩) (by simp <;> omega)).trans (by simp [go_sem])
      have d4 : w1.cell? ⟨w.heap.size + 1, 1, none⟩ = some (.int .i64 0) := (hb1.cell (p := ⟨w.heap.size + 1, 1, none⟩) (by simp <;> omega)).trans (by simp [go_sem])
      have c3 : w1.cell? ⟨w.heap.size, 0, none⟩ = some (.string ⟨bs.toArray⟩) := (hb1.cell (p := ⟨w.heap.size, 0, none⟩) (by simp <;> omega)).trans (by simp [go_sem])
      have B1 : Below w.heap.size w w1 := by
        refine Below.trans ?_ (hb1.mono (by simp <;> omega))
        exact (by repeat (first | with_reducible exact Below.refl _ _ | with_reducible refine Below.drew ?_ | with_reducible refine Below.alloc ?_ (by (try simp) <;> omega) _ | with_reducible refine Below.setCell ?_ (by (try simp) <;> omega) _))
      go_wp2_with fail
      all_goals (exact bodyPost_ret (v := .tuple #[.int .u64 0, .agg #[.string ⟨#[]⟩, .int .i64 x]]) (by simp [results, Tryd.results100, go_sem, d3, d4, f3, f4]) rfl ⟨rfl, (Below.setCell (Below.setCell B1 (by simp only []; omega) _) (by simp only []; omega) _)⟩)
  · have he' : (e == 0) = false := by rw [beq_eq_false_iff_ne]; exact he
    have hr : rNum bs e = (0, bs, e) := by unfold rNum; rw [if_pos he]
    rw [hr]
    go_enter Tryd.func100, Tryd.ntmps100
    go_wp2_with fail
    go_region_with (fail)
    all_goals go_wp2_with fail
    all_goals (exact bodyPost_ret (v := .tuple #[.int .u64 0, .agg #[.string ⟨bs.toArray⟩, .int .i64 e]]) (by simp [results, Tryd.results100, go_sem]) rfl ⟨rfl, (by repeat (first | with_reducible exact Below.refl _ _ | with_reducible refine Below.drew ?_ | with_reducible refine Below.alloc ?_ (by (try simp) <;> omega) _ | with_reducible refine Below.setCell ?_ (by (try simp) <;> omega) _))⟩)
end Go.Proofs.YtdmpopdacbdnlaaDoor.Oct
/- lookoutref01.ReadMoment, ReadText, End; octet.Reader's Int, Moment: contracts. -/
namespace Go.Proofs.YtdmpopdacbdnlaaDoor.Oct
open Go.RowKit
set_option linter.unusedVariables false
set_option linter.unusedSimpArgs false
set_option maxHeartbeats 2000000
set_option maxRecDepth 20000
def rMom (bs : List UInt8) (e : Int) : Int × List UInt8 × Int := if 9223372036854775807 < (rNum bs e).1 then (0, [], 13) else ((rNum bs e).1, (rNum bs e).2.1, (rNum bs e).2.2)
theorem rend_any (bs : List UInt8) (e : Int) (w : World) : Calls Tryd.prog 103 #[rV bs e] w fun x w' => x = .returned (.int .i64 (endOf bs e)) ∧ Below w.heap.size w w' := by
  unfold rV endOf
  by_cases he : e = 0
  · subst he
    by_cases hb : 0 < bs.length
    · have hE : bs.isEmpty = false := by cases bs with | nil => simp at hb | cons d r => rfl
      go_enter Tryd.func103, Tryd.ntmps103
      go_wp2_with fail
      all_goals (go_ret; exact ⟨ret_int (by simp [hb]), (by repeat (first | with_reducible exact Below.refl _ _ | with_reducible refine Below.drew ?_ | with_reducible refine Below.alloc ?_ (by (try simp) <;> omega) _ | with_reducible refine Below.setCell ?_ (by (try simp) <;> omega) _))⟩)
    · have hb0 : bs = [] := List.eq_nil_of_length_eq_zero (by omega)
      subst hb0
      go_enter Tryd.func103, Tryd.ntmps103
      go_wp2_with fail
      all_goals (go_ret; exact ⟨ret_int (by simp), (by repeat (first | with_reducible exact Below.refl _ _ | with_reducible refine Below.drew ?_ | with_reducible refine Below.alloc ?_ (by (try simp) <;> omega) _ | with_reducible refine Below.setCell ?_ (by (try simp) <;> omega) _))⟩)
  · have he' : (e == 0) = false := by rw [beq_eq_false_iff_ne]; exact he
    go_enter Tryd.func103, Tryd.ntmps103
    go_wp2_with fail
    all_goals (go_ret; exact ⟨ret_int (by simp [he]), (by repeat (first | with_reducible exact Below.refl _ _ | with_reducible refine Below.drew ?_ | with_reducible refine Below.alloc ?_ (by (try simp) <;> omega) _ | with_reducible refine Below.setCell ?_ (by (try simp) <;> omega) _))⟩)
theorem rtext_any (bs : List UInt8) (e : Int) (most : Int) (bm : -9223372036854775808 ≤ most ∧ most ≤ 9223372036854775807) (hs : bs.length ≤ 1000000) (w : World) :
    Calls Tryd.prog 99 #[rV bs e, .int .i64 most] w fun x w' => x = .returned (.tuple #[.string ⟨(rText bs e most).1.toArray⟩, rV (rText bs e most).2.1 (rText bs e most).2.2]) ∧ Below w.heap.size w w' := by
  have hN := fun W => rread_any bs e hs W
  replace hN := Lib.hid hN
  have hr : rText bs e most = if (rNum bs e).2.2 ≠ 0 then ([], (rNum bs e).2.1, (rNum bs e).2.2) else if max most 0 < ((rNum bs e).1 : Int) then ([], [], 13) else if (rNum bs e).2.1.length < (rNum bs e).1 then ([], [], 10) else ((rNum bs e).2.1.take (rNum bs e).1, (rNum bs e).2.1.drop (rNum bs e).1, 0) := rfl
  have hu := rNum_lt bs e
  have hl1 := rNum_le bs e
  generalize rNum bs e = t at *
  obtain ⟨u, bs1, e1⟩ := t
  simp only at hr hN hu hl1
  unfold rV at *
  by_cases he : e1 = 0
  · rw [if_neg (by simpa using he)] at hr
    subst he
    by_cases h1 : max most 0 < (u : Int)
    · rw [if_pos h1] at hr
      rw [hr]
      clear hr
      have hu0 : 0 < (u : Int) := by omega
      by_cases hneg : most < 0
      · go_enter Tryd.func99, Tryd.ntmps99
        go_wp2_with fail
        refine (hN.out _).mono ?_; rintro x w1 ⟨rfl, hb1⟩
        have z1 := hb1.size
        simp at z1
        have f3 : w1.frozen? ⟨w.heap.size + 1, 0, none⟩ = false := (hb1.frozen (p := ⟨w.heap.size + 1, 0, none⟩) (by simp <;> omega)).trans (by simp [go_sem])
        have f4 : w1.frozen? ⟨w.heap.size + 1, 1, none⟩ = false := (hb1.frozen (p := ⟨w.heap.size + 1, 1, none⟩) (by simp <;> omega)).trans (by simp [go_sem])
        have d3 : w1.cell? ⟨w.heap.size + 1, 0, none⟩ = some (.string ⟨#[]⟩) := (hb1.cell (p := ⟨w.heap.size + 1, 0, none⟩) (by simp <;> omega)).trans (by simp [go_sem])
        have d4 : w1.cell? ⟨w.heap.size + 1, 1, none⟩ = some (.int .i64 0) := (hb1.cell (p := ⟨w.heap.size + 1, 1, none⟩) (by simp <;> omega)).trans (by simp [go_sem])
        have B1 : Below w.heap.size w w1 := by
          refine Below.trans ?_ (hb1.mono (by simp <;> omega))
          exact (by repeat (first | with_reducible exact Below.refl _ _ | with_reducible refine Below.drew ?_ | with_reducible refine Below.alloc ?_ (by (try simp) <;> omega) _ | with_reducible refine Below.setCell ?_ (by (try simp) <;> omega) _))
        have hlt1 : w.heap.size + 1 < w1.heap.size := by omega
        go_wp2_with fail
        all_goals (exact bodyPost_ret (v := .tuple #[.string ⟨#[]⟩, .agg #[.string ⟨#[]⟩, .int .i64 13]]) (by simp [results, Tryd.results99, go_sem, d3, d4, f3, f4, hlt1]) rfl ⟨rfl, (by repeat (first | with_reducible exact Below.refl _ _ | with_reducible exact B1 | with_reducible refine Below.drew ?_ | with_reducible refine Below.alloc ?_ (by (try simp) <;> omega) _ | with_reducible refine Below.setCell ?_ (by (try simp) <;> omega) _))⟩)
      · have hmu : most < (u : Int) := by omega
        go_enter Tryd.func99, Tryd.ntmps99
        go_wp2_with fail
        refine (hN.out _).mono ?_; rintro x w1 ⟨rfl, hb1⟩
        have z1 := hb1.size
        simp at z1
        have f3 : w1.frozen? ⟨w.heap.size + 1, 0, none⟩ = false := (hb1.frozen (p := ⟨w.heap.size + 1, 0, none⟩) (by simp <;> omega)).trans (by simp [go_sem])
        have f4 : w1.frozen? ⟨w.heap.size + 1, 1, none⟩ = false := (hb1.frozen (p := ⟨w.heap.size + 1, 1, none⟩) (by simp <;> omega)).trans (by simp [go_sem])
        have d3 : w1.cell? ⟨w.heap.size + 1, 0, none⟩ = some (.string ⟨#[]⟩) := (hb1.cell (p := ⟨w.heap.size + 1, 0, none⟩) (by simp <;> omega)).trans (by simp [go_sem])
        have d4 : w1.cell? ⟨w.heap.size + 1, 1, none⟩ = some (.int .i64 0) := (hb1.cell (p := ⟨w.heap.size + 1, 1, none⟩) (by simp <;> omega)).trans (by simp [go_sem])
        have B1 : Below w.heap.size w w1 := by
          refine Below.trans ?_ (hb1.mono (by simp <;> omega))
          exact (by repeat (first | with_reducible exact Below.refl _ _ | with_reducible refine Below.drew ?_ | with_reducible refine Below.alloc ?_ (by (try simp) <;> omega) _ | with_reducible refine Below.setCell ?_ (by (try simp) <;> omega) _))
        have hlt1 : w.heap.size + 1 < w1.heap.size := by omega
        go_wp2_with fail
        all_goals (exact bodyPost_ret (v := .tuple #[.string ⟨#[]⟩, .agg #[.string ⟨#[]⟩, .int .i64 13]]) (by simp [results, Tryd.results99, go_sem, d3, d4, f3, f4, hlt1]) rfl ⟨rfl, (by repeat (first | with_reducible exact Below.refl _ _ | with_reducible exact B1 | with_reducible refine Below.drew ?_ | with_reducible refine Below.alloc ?_ (by (try simp) <;> omega) _ | with_reducible refine Below.setCell ?_ (by (try simp) <;> omega) _))⟩)
    · rw [if_neg h1] at hr
      by_cases h2 : bs1.length < u
      · rw [if_pos h2] at hr
        rw [hr]
        clear hr
        have h2' : (bs1.length : Int) < (u : Int) := by omega
        have hm0 : 0 ≤ most := by omega
        have hmu : (u : Int) ≤ most := by omega
        go_enter Tryd.func99, Tryd.ntmps99
        go_wp2_with fail
        refine (hN.out _).mono ?_; rintro x w1 ⟨rfl, hb1⟩
        have z1 := hb1.size
        simp at z1
        have f3 : w1.frozen? ⟨w.heap.size + 1, 0, none⟩ = false := (hb1.frozen (p := ⟨w.heap.size + 1, 0, none⟩) (by simp <;> omega)).trans (by simp [go_sem])
        have f4 : w1.frozen? ⟨w.heap.size + 1, 1, none⟩ = false := (hb1.frozen (p := ⟨w.heap.size + 1, 1, none⟩) (by simp <;> omega)).trans (by simp [go_sem])
        have d3 : w1.cell? ⟨w.heap.size + 1, 0, none⟩ = some (.string ⟨#[]⟩) := (hb1.cell (p := ⟨w.heap.size + 1, 0, none⟩) (by simp <;> omega)).trans (by simp [go_sem])
        have d4 : w1.cell? ⟨w.heap.size + 1, 1, none⟩ = some (.int .i64 0) := (hb1.cell (p := ⟨w.heap.size + 1, 1, none⟩) (by simp <;> omega)).trans (by simp [go_sem])
        have B1 : Below w.heap.size w w1 := by
          refine Below.trans ?_ (hb1.mono (by simp <;> omega))
          exact (by repeat (first | with_reducible exact Below.refl _ _ | with_reducible refine Below.drew ?_ | with_reducible refine Below.alloc ?_ (by (try simp) <;> omega) _ | with_reducible refine Below.setCell ?_ (by (try simp) <;> omega) _))
        have hlt1 : w.heap.size + 1 < w1.heap.size := by omega
        go_wp2_with fail
        all_goals (exact bodyPost_ret (v := .tuple #[.string ⟨#[]⟩, .agg #[.string ⟨#[]⟩, .int .i64 10]]) (by simp [results, Tryd.results99, go_sem, d3, d4, f3, f4, hlt1]) rfl ⟨rfl, (by repeat (first | with_reducible exact Below.refl _ _ | with_reducible exact B1 | with_reducible refine Below.drew ?_ | with_reducible refine Below.alloc ?_ (by (try simp) <;> omega) _ | with_reducible refine Below.setCell ?_ (by (try simp) <;> omega) _))⟩)
      · rw [if_neg h2] at hr
        rw [hr]
        clear hr
        have h2' : (u : Int) ≤ (bs1.length : Int) := by omega
        have hu0 : (0 : Int) ≤ (u : Int) := by omega
        have hs1 : ∀ W, (Instr.slice 9 (.string ⟨bs1.toArray⟩) (some (.int .u64 (u : Int))) none none).run Tryd.prog W = .ok (.string ⟨(bs1.drop u).toArray⟩) W := fun W => by
          have := run_slice_string_l W 9 ⟨bs1.toArray⟩ Tryd.underlying9 .u64 (u : Int) hu0 (by show (u : Int) ≤ (bs1.toArray.size : Int); simpa using h2')
          rw [this, show ((u : Int)).toNat = u from by omega, ba_drop]
        have hs2 : ∀ W, (Instr.slice 9 (.string ⟨bs1.toArray⟩) none (some (.int .u64 (u : Int))) none).run Tryd.prog W = .ok (.string ⟨(bs1.take u).toArray⟩) W := fun W => by
          have := run_slice_string_h W 9 ⟨bs1.toArray⟩ Tryd.underlying9 .u64 (u : Int) hu0 (by show (u : Int) ≤ (bs1.toArray.size : Int); simpa using h2')
          rw [this, show ((u : Int)).toNat = u from by omega, ba_take]
        obtain ⟨p, hp⟩ : ∃ p, bs1.drop u = p := ⟨_, rfl⟩
        obtain ⟨q, hq⟩ : ∃ q, bs1.take u = q := ⟨_, rfl⟩
        rw [hp] at hs1
        rw [hq] at hs2
        rw [hp, hq]
        clear hp hq
        have hz : (u : Int) = 0 ∨ (0 < (u : Int) ∧ 0 ≤ most ∧ (u : Int) ≤ most) := by omega
        rcases hz with hz | ⟨hz, hm0, hmu⟩
        · have hz' : (u : Int) ≤ 0 := by omega
          clear hz
          go_enter Tryd.func99, Tryd.ntmps99
          go_wp2_with fail
          refine (hN.out _).mono ?_; rintro x w1 ⟨rfl, hb1⟩
          have z1 := hb1.size
          simp at z1
          have f3 : w1.frozen? ⟨w.heap.size + 1, 0, none⟩ = false := (hb1.frozen (p := ⟨w.heap.size + 1, 0, none⟩) (by simp <;> omega)).trans (by simp [go_sem])
          have f4 : w1.frozen? ⟨w.heap.size + 1, 1, none⟩ = false := (hb1.frozen (p := ⟨w.heap.size + 1, 1, none⟩) (by simp <;> omega)).trans (by simp [go_sem])
          have d3 : w1.cell? ⟨w.heap.size + 1, 0, none⟩ = some (.string ⟨#[]⟩) := (hb1.cell (p := ⟨w.heap.size + 1, 0, none⟩) (by simp <;> omega)).trans (by simp [go_sem])
          have d4 : w1.cell? ⟨w.heap.size + 1, 1, none⟩ = some (.int .i64 0) := (hb1.cell (p := ⟨w.heap.size + 1, 1, none⟩) (by simp <;> omega)).trans (by simp [go_sem])
          have B1 : Below w.heap.size w w1 := by
            refine Below.trans ?_ (hb1.mono (by simp <;> omega))
            exact (by repeat (first | with_reducible exact Below.refl _ _ | with_reducible refine Below.drew ?_ | with_reducible refine Below.alloc ?_ (by (try simp) <;> omega) _ | with_reducible refine Below.setCell ?_ (by (try simp) <;> omega) _))
          have hlt1 : w.heap.size + 1 < w1.heap.size := by omega
          go_wp2_with fail
          go_region_with (fail)
          all_goals go_wp2_with fail
          all_goals (exact bodyPost_ret (v := .tuple #[.string ⟨q.toArray⟩, .agg #[.string ⟨p.toArray⟩, .int .i64 0]]) (by simp [results, Tryd.results99, go_sem, d3, d4, f3, f4, hlt1]) rfl ⟨rfl, (by repeat (first | with_reducible exact Below.refl _ _ | with_reducible exact B1 | with_reducible refine Below.drew ?_ | with_reducible refine Below.alloc ?_ (by (try simp) <;> omega) _ | with_reducible refine Below.setCell ?_ (by (try simp) <;> omega) _))⟩)
        · go_enter Tryd.func99, Tryd.ntmps99
          go_wp2_with fail
          refine (hN.out _).mono ?_; rintro x w1 ⟨rfl, hb1⟩
          have z1 := hb1.size
          simp at z1
          have f3 : w1.frozen? ⟨w.heap.size + 1, 0, none⟩ = false := (hb1.frozen (p := ⟨w.heap.size + 1, 0, none⟩) (by simp <;> omega)).trans (by simp [go_sem])
          have f4 : w1.frozen? ⟨w.heap.size + 1, 1, none⟩ = false := (hb1.frozen (p := ⟨w.heap.size + 1, 1, none⟩) (by simp <;> omega)).trans (by simp [go_sem])
          have d3 : w1.cell? ⟨w.heap.size + 1, 0, none⟩ = some (.string ⟨#[]⟩) := (hb1.cell (p := ⟨w.heap.size + 1, 0, none⟩) (by simp <;> omega)).trans (by simp [go_sem])
          have d4 : w1.cell? ⟨w.heap.size + 1, 1, none⟩ = some (.int .i64 0) := (hb1.cell (p := ⟨w.heap.size + 1, 1, none⟩) (by simp <;> omega)).trans (by simp [go_sem])
          have B1 : Below w.heap.size w w1 := by
            refine Below.trans ?_ (hb1.mono (by simp <;> omega))
            exact (by repeat (first | with_reducible exact Below.refl _ _ | with_reducible refine Below.drew ?_ | with_reducible refine Below.alloc ?_ (by (try simp) <;> omega) _ | with_reducible refine Below.setCell ?_ (by (try simp) <;> omega) _))
          have hlt1 : w.heap.size + 1 < w1.heap.size := by omega
          go_wp2_with fail
          go_region_with (fail)
          all_goals go_wp2_with fail
          all_goals (exact bodyPost_ret (v := .tuple #[.string ⟨q.toArray⟩, .agg #[.string ⟨p.toArray⟩, .int .i64 0]]) (by simp [results, Tryd.results99, go_sem, d3, d4, f3, f4, hlt1]) rfl ⟨rfl, (by repeat (first | with_reducible exact Below.refl _ _ | with_reducible exact B1 | with_reducible refine Below.drew ?_ | with_reducible refine Below.alloc ?_ (by (try simp) <;> omega) _ | with_reducible refine Below.setCell ?_ (by (try simp) <;> omega) _))⟩)
  · rw [if_pos he] at hr
    rw [hr]
    have he' : (e1 == 0) = false := by rw [beq_eq_false_iff_ne]; exact he
    clear hr
    go_enter Tryd.func99, Tryd.ntmps99
    go_wp2_with fail
    refine (hN.out _).mono ?_; rintro x w1 ⟨rfl, hb1⟩
    have z1 := hb1.size
    simp at z1
    have f3 : w1.frozen? ⟨w.heap.size + 1, 0, none⟩ = false := (hb1.frozen (p := ⟨w.heap.size + 1, 0, none⟩) (by simp <;> omega)).trans (by simp [go_sem])
    have f4 : w1.frozen? ⟨w.heap.size + 1, 1, none⟩ = false := (hb1.frozen (p := ⟨w.heap.size + 1, 1, none⟩) (by simp <;> omega)).trans (by simp [go_sem])
    have d3 : w1.cell? ⟨w.heap.size + 1, 0, none⟩ = some (.string ⟨#[]⟩) := (hb1.cell (p := ⟨w.heap.size + 1, 0, none⟩) (by simp <;> omega)).trans (by simp [go_sem])
    have d4 : w1.cell? ⟨w.heap.size + 1, 1, none⟩ = some (.int .i64 0) := (hb1.cell (p := ⟨w.heap.size + 1, 1, none⟩) (by simp <;> omega)).trans (by simp [go_sem])
    have B1 : Below w.heap.size w w1 := by
      refine Below.trans ?_ (hb1.mono (by simp <;> omega))
      exact (by repeat (first | with_reducible exact Below.refl _ _ | with_reducible refine Below.drew ?_ | with_reducible refine Below.alloc ?_ (by (try simp) <;> omega) _ | with_reducible refine Below.setCell ?_ (by (try simp) <;> omega) _))
    have hlt1 : w.heap.size + 1 < w1.heap.size := by omega
    go_wp2_with fail
    go_region_with (fail)
    all_goals go_wp2_with fail
    all_goals (exact bodyPost_ret (v := .tuple #[.string ⟨#[]⟩, .agg #[.string ⟨bs1.toArray⟩, .int .i64 e1]]) (by simp [results, Tryd.results99, go_sem, d3, d4, f3, f4, hlt1]) rfl ⟨rfl, (by repeat (first | with_reducible exact Below.refl _ _ | with_reducible exact B1 | with_reducible refine Below.drew ?_ | with_reducible refine Below.alloc ?_ (by (try simp) <;> omega) _ | with_reducible refine Below.setCell ?_ (by (try simp) <;> omega) _))⟩)
end Go.Proofs.YtdmpopdacbdnlaaDoor.Oct
/- lookoutref01.Text: contract. -/
namespace Go.Proofs.YtdmpopdacbdnlaaDoor.Oct
open Go.RowKit
set_option linter.unusedVariables false
set_option linter.unusedSimpArgs false
set_option maxHeartbeats 1000000
set_option maxRecDepth 20000
theorem ba_app (a : List UInt8) (s : ByteArray) : ((⟨a.toArray⟩ : ByteArray) ++ s) = ⟨(a ++ s.data.toList).toArray⟩ := by
  apply ByteArray.ext
  simp [ByteArray.data_append]
theorem rtxt_any (s : ByteArray) (hs : s.size ≤ 1000000) (w : World) :
    Calls Tryd.prog 116 #[.string s] w fun e w' => e = .returned (.string ⟨(encText s).toArray⟩) ∧ Below w.heap.size w w' := by
  have hN := Lib.hid (rnum_any s.size (by omega) w)
  have hel := enc_le s.size
  have hsz : (⟨(enc s.size).toArray⟩ : ByteArray).size = (enc s.size).length := by show (enc s.size).toArray.size = _; simp
  unfold encText
  generalize enc s.size = q at *
  go_enter Tryd.func116, Tryd.ntmps116
  go_wp2_with fail
  refine hN.out.mono ?_; rintro x w1 ⟨rfl, hb1⟩
  go_wp2_with fail
  go_ret
  exact ⟨by rw [← ba_app]; rfl, hb1⟩
end Go.Proofs.YtdmpopdacbdnlaaDoor.Oct
