/- Trees as plain data: what is asked of one. -/
import Derived.Test.YtgglbohcnlcagaaTP
namespace Go.Proofs.Ytgglbohcnlcagaa
open Go.RowKit
set_option linter.unusedSimpArgs false
set_option linter.unusedVariables false
namespace Tr
variable {V S : Type}
def get (k : ByteArray) : Tr V S → Option V
  | nil => none
  | node l k' v' _ r => if Op.bytesLess k.toList k'.toList = true then l.get k else if Op.bytesLess k'.toList k.toList = true then r.get k else some v'
def rank (k : ByteArray) : Tr V S → Nat
  | nil => 0
  | node l k' _ _ r => if Op.bytesLess k'.toList k.toList = true then l.size + 1 + r.rank k else l.rank k
def at_ (i : Int) : Tr V S → Option (ByteArray × V)
  | nil => none
  | node l k v _ r => if i < 0 then none else if i < l.size then l.at_ i else if (l.size : Int) < i then r.at_ (i - (l.size + 1)) else some (k, v)
theorem at_neg {i : Int} (hi : i < 0) : ∀ T : Tr V S, T.at_ i = none
  | nil => rfl
  | node l k v _ r => by simp [at_, hi]
theorem rank_le (k : ByteArray) : ∀ T : Tr V S, T.rank k ≤ T.size
  | nil => Nat.le_refl _
  | node l k' v s r => by
    have h1 := rank_le k l
    have h2 := rank_le k r
    simp only [rank, size]
    split <;> omega
end Tr
end Go.Proofs.Ytgglbohcnlcagaa
