/- Parts of the proof: RbCrop, A24y. -/
import Derived.Test.YtjjaehpkccejaaaProg
import Derived.Test.YtjjaehpkccejaaaG10
import Derived.Test.YtjjaehpkccejaaaG14
import Derived.Test.YtjjaehpkccejaaaG20
import Derived.Test.YtjjaehpkccejaaaG21
import Derived.Test.YtjjaehpkccejaaaG19
set_option linter.unusedSimpArgs false
set_option linter.unusedVariables false
section
namespace Go.Proofs.Ytjjaehpkccejaaa
open Go.RowKit Go.Flow
open Go.Proofs
attribute [local go_sem] block_add
attribute [local go_sem ↓] Go.wp_at_zero Go.wp_at_succ

def rcropB (W H : Nat) (dot : Nat → Bool) (x y : Int) (wn : Nat) (k : Nat) : Bool := hasB W H dot (x + ((k % wn : Nat) : Int)) (y + ((k / wn : Nat) : Int))
end Go.Proofs.Ytjjaehpkccejaaa
end

section
namespace Go.Proofs.Ytjjaehpkccejaaa
open Go.RowKit Go.Flow Go.AV Go.Plain
/-- What a case of the chapter holds. -/
structure Ca where
 nA : Nat
 fA : Nat → Int
 nB : Nat
 fB : Nat → Int
 nX : Nat
 fX : Nat → Int
 nY : Nat
 fY : Nat → Int
 nH : Nat
 fH : Nat → Int
 q : Int
def Ca.ok (c : Ca) : Prop := c.nA ≤ 4611686018427387904 ∧ c.nB ≤ 4611686018427387904 ∧ c.nX ≤ 4611686018427387904 ∧ c.nY ≤ 4611686018427387904 ∧ c.nH ≤ 4611686018427387904 ∧ -9223372036854775808 ≤ c.q ∧ c.q ≤ 9223372036854775807
end Go.Proofs.Ytjjaehpkccejaaa
end
