/- Parts of the proof: AMd. -/
import Derived.Test.YtjjaehpkccejaaaG14
import Derived.Test.YtjjaehpkccejaaaG10
import Derived.Test.YtjjaehpkccejaaaG07
import Derived.Test.YtjjaehpkccejaaaG13
set_option linter.unusedSimpArgs false
set_option linter.unusedVariables false
section
namespace Go.Proofs.Ytjjaehpkccejaaa
open Go.RowKit Go.Flow Go.AV Go.Plain
abbrev rowBl (n : Nat) (f : Nat → Bool) : AB := ⟨true, n, 1, 4, bF f⟩
/-- A column painted from y on. -/
def pjK (W : Nat) (on : Bool) (i y : Nat) (d : Nat → Bool) : Nat → Nat → Bool
 | 0 => d
 | m + 1 => fun p => if p = (y + m) * W + i then on else pjK W on i y d m p
/-- Columns painted from x on. -/
def piK (W mj : Nat) (on : Bool) (x y : Nat) (d : Nat → Bool) : Nat → Nat → Bool
 | 0 => d
 | m + 1 => pjK W on (x + m) y (piK W mj on x y d m) mj
def mdX (N : Nat) (f : Nat → Int) (W : Nat) (a : Nat) : Nat := (dval N f a W).toNat
def mdOn (N : Nat) (f : Nat → Int) (a : Nat) : Bool := decide (0 < dval N f a 4)
def mdStep (N : Nat) (f : Nat → Int) (W H : Nat) (s : Nat × (Nat → Bool)) : Nat × (Nat → Bool) :=
 (dat N (dat N (dat N (dat N s.1))), piK W (min H (mdX N f H (dat N s.1) + mdX N f 16 (dat N (dat N s.1)) / 4 + 1) - mdX N f H (dat N s.1)) (mdOn N f (dat N (dat N (dat N s.1)))) (mdX N f W s.1) (mdX N f H (dat N s.1)) s.2 (min W (mdX N f W s.1 + mdX N f 16 (dat N (dat N s.1)) % 4 + 1) - mdX N f W s.1))
def mdF (N : Nat) (f : Nat → Int) (W H : Nat) : Nat → Nat × (Nat → Bool) → Nat → Bool
 | 0, s => s.2
 | k + 1, s => if s.1 < N ∧ 0 < W * H then mdF N f W H k (mdStep N f W H s) else s.2
def mdW (N : Nat) (f : Nat → Int) : Nat := mdX N f 17 0
def mdH (N : Nat) (f : Nat → Int) : Nat := mdX N f 13 (dat N 0)
end Go.Proofs.Ytjjaehpkccejaaa
end
