/- octet.Texts: contract. -/
import Derived.Test.YtdondjodonmebaaOctPut2
import Derived.Lib.AppendStr
namespace Go.Proofs.Ytdondjodonmebaa
open Go.RowKit
set_option linter.unusedVariables false
set_option linter.unusedSimpArgs false
set_option maxHeartbeats 2000000
set_option maxRecDepth 20000
/-- A slice of texts that may be read. -/
structure RowT (w : World) (a : Option Addr) (len : Nat) (ts : List ByteArray) : Prop where
  length : ts.length = len
  small : len ≤ maxLen
  ok : ∀ s ∈ ts, s.size ≤ maxLen
  at_ : len = 0 ∨ ∃ b off, a = some ⟨b, off, none⟩ ∧ b < w.heap.size ∧ ∀ i, i < len → w.cell? ⟨b, off + i, none⟩ = some (.string (ts.getD i ⟨#[]⟩))
theorem RowT.below {w w' : World} {a : Option Addr} {len : Nat} {ts : List ByteArray} (h : RowT w a len ts) (hb : Below w.heap.size w w') : RowT w' a len ts :=
  ⟨h.length, h.small, h.ok, by
    rcases h.at_ with h0 | ⟨b, off, rfl, hl, hc⟩
    · exact .inl h0
    · exact .inr ⟨b, off, rfl, Nat.lt_of_lt_of_le hl hb.size, fun i hi => by rw [(bcell hb).1 _ _ hl]; exact hc i hi⟩⟩
def encText (s : ByteArray) : List UInt8 := enc s.size ++ s.data.toList
def encTexts (ts : List ByteArray) : List UInt8 := ts.flatMap encText
theorem encTexts_snoc (ts : List ByteArray) (s : ByteArray) : encTexts (ts ++ [s]) = encTexts ts ++ encText s := by simp [encTexts]
theorem encTexts_le (ts : List ByteArray) (h : ∀ s ∈ ts, s.size ≤ 1000) : (encTexts ts).length ≤ ts.length * 1009 := by
  induction ts with
  | nil => simp [encTexts]
  | cons x us ih =>
    have e : encTexts (x :: us) = encText x ++ encTexts us := by simp [encTexts]
    have h1 := enc_le x.size
    have h2 := h x (by simp)
    have h3 := ih (fun s hs => h s (by simp [hs]))
    have h4 : x.data.toList.length = x.size := by rw [Array.length_toList]; rfl
    rw [e, List.length_append, List.length_cons]
    unfold encText
    rw [List.length_append]; omega
theorem strCells_bv (s : ByteArray) : Lib.strCells s = bv s.data.toList := by
  rfl
/-- append(b, s...): a text onto bytes of the call's own. -/
theorem append_text {P : Program} {w : World} {ops : Array Oper} {rest : List Oper} {o : Oper} {a : Act} {Q : Exit → Act → World → Prop} (T t u : TypeId) (hinfo : (P.info? t).map (fun i => (i.zero, i.size, i.bytes)) = some (some (.int .u8 0), 1, 1)) (hT : P.underlying T = some (.slice t)) (hu : P.underlying u = some .string)
    (hgd : o.guard = none) (sl x : Operand) (ho : o.op = .call { callee := .builtin .append, args := #[sl, x], argTypes := #[T, u] })
    (base : Nat) (v : Value) (l : List UInt8) (hs : a.eval sl = v) (hown : OwnB t base w v l) (s : ByteArray) (hx : a.eval x = .string s)
    (hroom : l.length + s.size ≤ 140737488355328) (hbase : base ≤ w.heap.size)
    (h : ∀ v' w', OwnB t base w' v' (l ++ s.data.toList) → w.grownBy w' v.ownBlock → wpList P ops Q rest (a.put o.dst v') w') : wpList P ops Q (o :: rest) a w := by
  obtain ⟨i, hi, hz, hsz, hby⟩ := info_parts hinfo
  have hsl : s.data.toList.length = s.size := by rw [Array.length_toList]; rfl
  refine Lib.wpList_append_own_string w hgd sl x T u ho base t i hT hu hi hz hsz hby v l.length (bv l) hs hown.owns s hx (by unfold maxLen; omega) hroom hbase (fun v' w' h1 h2 _ => h v' w' ⟨?_, by rw [List.length_append, hsl]; unfold maxLen; omega⟩ h2)
  rw [List.length_append, bv_append, hsl, ← strCells_bv]; exact h1
theorem texts_any (a : Option Addr) (len cap : Nat) (ts : List ByteArray) (w : World) (h : RowT w a len ts) (hl : len ≤ 100000) (hsz : ∀ s ∈ ts, s.size ≤ 1000) :
    Calls Try.prog 19 #[.slice a len cap] w fun e w' => ∃ v', e = .returned v' ∧ OwnB 5 w.heap.size w' v' (encTexts ts) ∧ Below w.heap.size w w' := by
  have LL := Lib.hid h.length
  go_enter Try.func19, Try.ntmps19
  go_wp2_with fail
  go_loopw [3, 8] (fun v i wr => ∃ k : Nat, k ≤ len ∧ i = .int .i64 k ∧ OwnB 5 w.heap.size wr v (encTexts (ts.take k)) ∧ Below w.heap.size w wr) (fun v i wr => len - (intOf i).toNat)
  case atStart => exact ⟨0, Nat.zero_le _, rfl, OwnB.nil _ _ _, Below.refl _ _⟩
  case round =>
    obtain ⟨k, hk, rfl, hO, hbr⟩ := hrel
    have zr := hbr.size
    by_cases hlt : k < len
    · rcases h.at_ with h0 | ⟨b, off, rfl, hlb, hc⟩
      · omega
      have ck := (hbr.cell (p := ⟨b, off + k, none⟩) hlb).trans (hc k hlt)
      have hkl : k < ts.length := by have := LL.out; omega
      have h1 : encTexts (ts.take (k + 1)) = (encTexts (ts.take k) ++ enc (ts.getD k ⟨#[]⟩).size) ++ (ts.getD k ⟨#[]⟩).data.toList := by
        rw [List.take_succ_eq_append_getElem hkl, encTexts_snoc]
        simp [encText, List.getD, hkl]
      have hle := encTexts_le (ts.take k) (fun s hs => hsz s (List.mem_of_mem_take hs))
      have htl : (ts.take k).length ≤ len := by rw [List.length_take]; omega
      have hs1 := hsz (ts.getD k ⟨#[]⟩) (by simp [List.getD, hkl])
      generalize ts.getD k ⟨#[]⟩ = s at *
      replace h1 := Lib.hid h1
      generalize encTexts (ts.take k) = l0 at *
      clear hc
      replace hO := Lib.hid hO
      have hel := enc_le s.size
      have tok1 : True := trivial
      go_wp2_with fail
      refine (put_any w.heap.size _ l0 s.size (by omega) wr hO.out (by omega) zr).mono ?_; rintro e w3 ⟨v3, rfl, hG⟩
      have HB3 := hbr.trans (hG.toBelow hO.out zr)
      have hO3 := Lib.hid hG.own
      clear hG
      go_wp2_with (at_builtin; have _t := tok1; refine append_text 27 5 9 info8 Try.underlying27 Try.underlying9 rfl _ _ rfl w.heap.size v3 (l0 ++ enc s.size) rfl hO3.out s rfl (by rw [List.length_append]; omega) HB3.size ?_; intro v4 w4 hO4 hG4; clear tok1; have HB4 := HB3.grown hG4 HB3.size (fun k hk => (hO3.out.owns.lt k hk).1); replace hO4 := Lib.hid hO4)
      go_roundw
      case rel => first | exact ⟨k + 1, by omega, by go_num, by rw [h1.out]; exact hO4.out, HB4⟩ | exact ⟨k + 1, by omega, by omega, by rw [h1.out]; exact hO4.out⟩
      case measure => simp [intOf] <;> omega
    · obtain rfl : k = len := by omega
      rw [List.take_of_length_le (by rw [LL.out]; exact Nat.le_refl _)] at hO
      go_wp2_with fail
      go_ret
      exact ⟨_, rfl, hO, hbr⟩
end Go.Proofs.Ytdondjodonmebaa
