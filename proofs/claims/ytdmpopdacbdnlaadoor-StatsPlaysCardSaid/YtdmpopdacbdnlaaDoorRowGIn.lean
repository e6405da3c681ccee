/- append to a slice of elements of the call's own, in a fenced walk. -/
import Derived.Test.YtdmpopdacbdnlaaDoorKitG
import Derived.Maps.OwnIn
import Derived.OwnWalkIn
namespace Go.Proofs.YtdmpopdacbdnlaaDoor
open Go.RowKit
set_option linter.unusedVariables false
/-- append(l, ..) of k elements that lie at ad, in a fenced walk; the new slice's own block is the old one's, or new. -/
theorem append_gIn {F : Fence} {nF : Nat} {P : Program} {w : World} {ops : Array Oper} {rest : List Oper} {o : Oper} {a : Act} {Q : Exit → Act → World → Prop} (T t : TypeId) (z : Value) (m bytes : Nat) (hinfo : (P.info? t).map (fun i => (i.zero, i.size, i.bytes)) = some (some z, m, bytes)) (hzs : z.cells.size = m) (hm0 : 0 < m) (hT : P.underlying T = some (.slice t))
    (hgd : o.guard = none) (s x : Operand) (ho : o.op = .call { callee := .builtin .append, args := #[s, x], argTypes := #[T, T] })
    (base : Nat) (v : Value) (cs : List (List Value)) (hs : a.eval s = v) (hO : OwnG t m base w v cs) (ad : Addr) (k c : Nat) (ns : List (List Value)) (hk : ns.length = k) (hk0 : 0 < k) (hx : a.eval x = .slice (some ad) k c) (hw : ∀ u ∈ ns, u.length = m)
    (hnews : ∀ j u, ns.flatten[j]? = some u → w.cell? (ad.add j) = some u) (h1 : ∀ u ∈ ns.flatten, u.oneCell' = true)
    (h63 : cs.length + k ≤ maxLen) (hbytes : (cs.length + k) * bytes ≤ 140737488355328) (hbase : base ≤ w.heap.size)
    (h : ∀ q cap w', OwnG t m base w' (.slice q (cs.length + k) cap) (cs ++ ns) → w.grownBy w' v.ownBlock → ((Value.slice q (cs.length + k) cap).ownBlock = v.ownBlock ∨ (Value.slice q (cs.length + k) cap).ownBlock = some w.heap.size) → wpListIn F nF P ops Q rest (a.put o.dst (.slice q (cs.length + k) cap)) w') : wpListIn F nF P ops Q (o :: rest) a w := by
  obtain ⟨i, hi, hz, hsz, hby⟩ := info_parts hinfo
  refine wpListIn_append_own_at w hgd s x T ho base t i z m bytes hT hi hz hsz hby hzs hm0 v cs.length cs.flatten hs hO.owns ad k c ns.flatten hx (by rw [flatten_len m ns hw, hk]) hnews h1 h63 hbytes hbase (fun v' w' h1 h2 _ h4 => ?_)
  have hO' : OwnG t m base w' v' (cs ++ ns) := by
    refine ⟨?_, ?_, ?_⟩
    · rw [List.length_append, hk, List.flatten_append]; exact h1
    · rw [List.length_append, hk]; exact h63
    · intro c hc
      rcases List.mem_append.1 hc with hc | hc
      · exact hO.wide c hc
      · exact hw c hc
  obtain ⟨q, cap, hv, _⟩ := hO'.row
  rw [List.length_append, hk] at hv
  subst hv
  exact h q cap w' hO' h2 h4
end Go.Proofs.YtdmpopdacbdnlaaDoor
