/- Parts of the proof: ASrt. -/

set_option linter.unusedSimpArgs false
set_option linter.unusedVariables false
section
namespace Go.AV.Srt
section
variable {α : Type} (z : α) (lt : α → α → Bool)
def swp (L : List α) (i j : Nat) : List α := (L.set i (L.getD j z)).set j (L.getD i z)
def insJ (a : Nat) : Nat → List α → List α
 | 0, L => L
 | j + 1, L => if a < j + 1 ∧ lt (L.getD (j + 1) z) (L.getD j z) = true then insJ a j (swp z L (j + 1) j) else L
def insK (a : Nat) : Nat → List α → List α
 | 0, L => L
 | k + 1, L => insJ z lt a (a + 1 + k) (insK a k L)
def ins (a b : Nat) (L : List α) : List α := insK z lt a (b - (a + 1)) L
def bs (t : Nat → Bool) : Nat → Nat → Nat → Nat
 | 0, i, _ => i
 | f + 1, i, j => if i < j then (if t ((i + j) / 2) = true then bs t f ((i + j) / 2 + 1) j else bs t f i ((i + j) / 2)) else i
def blk (n : Nat) : Nat → Nat → List α → List α
 | 0, a, L => ins z lt a n L
 | f + 1, a, L => if a + 20 ≤ n then blk n f (a + 20) (ins z lt a (a + 20) L) else ins z lt a n L
end
end Go.AV.Srt
end
