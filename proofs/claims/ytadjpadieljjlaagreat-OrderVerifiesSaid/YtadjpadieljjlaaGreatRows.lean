/-
  No cell of these rows narrows 'for every input' (looked for: loops, veiled, ifaces, maps, wideKeys, modest, calm, conditions, laid).
  DERIVED. THE GIVEN ROWS OF THIS SEAT. 5 by the template 'for every input the law returns true; each argument reads behind the call as it read before'; 0 by the template 'total and deterministic' (their statements: YtadjpadieljjlaaGreatTotals.lean).
  GIVEN WITH THE SEED: the statements are not yours to turn. If you find one false, say at which input.
  Laid BY PROGRAM, IN A SANDBOX (cutbox-rows.mjs): the forced cells as the released guide's own fill.sh prints them over the translation 727add6e65aa9060… (all of the seat's roots in one cut). By AI agents, Wed Nov 11 2026. No macro, syntax, notation, axiom, sorry.
-/
import Derived.Test.YtadjpadieljjlaaGreatChecked
import GoSem.Claim
import GoSem.ClaimJoined
import GoSem.ClaimMapViews
import Derived.JoinedTies
import Derived.KernelRfl
namespace Go.Proofs.YtadjpadieljjlaaGreat
/- THE CELL 'sum', in the pinned program and in every row, IS THE sha256 OF THE DUMP (.gsa) THAT YtadjpadieljjlaaGreatProg.lean LOADS. Nothing in Lean hashes anything: it is a label: what it is worth is what the hold of that sum in a sandbox is worth. -/
noncomputable def Tryz.pinned : Pinned := { name := "ytadjpadieljjlaagreat", sum := "727add6e65aa9060a666093ddaf6477f1fa2e15118f0206f17379e02da448844", checked := Tryz.checked }
namespace Rows
def none {H : Type} : Left H := { results := [], args := [] }

/-- 'lfchecklaw38.OrderVerifies': WHATEVER THE INPUT: true; the input reads as it did. -/
def orderVerifiesSpec : ChangeSpec := { name := "orderVerifies", fn := fun _ => fun
  | [d1, d2] => { results := [.lit (.bool true)], args := [d1, d2] }
  | _ => none }
def orderVerifiesRow : OpenClaim := { program := "ytadjpadieljjlaagreat", sum := "727add6e65aa9060a666093ddaf6477f1fa2e15118f0206f17379e02da448844", func := "lfcheck/lfchecklaw38.OrderVerifies", spec := "orderVerifies", inPlace := ["internal/bytealg.IndexByteString"], unfollowed := true, recurses := true, plainKeys := false, apart := false }
def OrderVerifiesSaid : Prop := orderVerifiesRow.holds Tryz.pinned (OpenSpec.ofChange orderVerifiesSpec)

/-- ITS FALSE NEIGHBOUR: 'it returns false'. Refute it at one input. -/
def orderVerifiesWrong : ChangeSpec := { name := "orderVerifies", fn := fun _ => fun
  | [d1, d2] => { results := [.lit (.bool false)], args := [d1, d2] }
  | _ => none }
def OrderVerifiesWrongFalsely : Prop := orderVerifiesRow.holds Tryz.pinned (OpenSpec.ofChange orderVerifiesWrong)

/-- 'lfchecklaw38.OrderSmaller': WHATEVER THE INPUT: true; the input reads as it did. -/
def orderSmallerSpec : ChangeSpec := { name := "orderSmaller", fn := fun _ => fun
  | [d] => { results := [.lit (.bool true)], args := [d] }
  | _ => none }
def orderSmallerRow : OpenClaim := { program := "ytadjpadieljjlaagreat", sum := "727add6e65aa9060a666093ddaf6477f1fa2e15118f0206f17379e02da448844", func := "lfcheck/lfchecklaw38.OrderSmaller", spec := "orderSmaller", inPlace := ["internal/bytealg.IndexByteString"], unfollowed := true, recurses := true, plainKeys := false, apart := false }
def OrderSmallerSaid : Prop := orderSmallerRow.holds Tryz.pinned (OpenSpec.ofChange orderSmallerSpec)

/-- ITS FALSE NEIGHBOUR: 'it returns false'. Refute it at one input. -/
def orderSmallerWrong : ChangeSpec := { name := "orderSmaller", fn := fun _ => fun
  | [d] => { results := [.lit (.bool false)], args := [d] }
  | _ => none }
def OrderSmallerWrongFalsely : Prop := orderSmallerRow.holds Tryz.pinned (OpenSpec.ofChange orderSmallerWrong)

/-- 'lfchecklaw38.OrderImplies': WHATEVER THE INPUT: true; the input reads as it did. -/
def orderImpliesSpec : ChangeSpec := { name := "orderImplies", fn := fun _ => fun
  | [d] => { results := [.lit (.bool true)], args := [d] }
  | _ => none }
def orderImpliesRow : OpenClaim := { program := "ytadjpadieljjlaagreat", sum := "727add6e65aa9060a666093ddaf6477f1fa2e15118f0206f17379e02da448844", func := "lfcheck/lfchecklaw38.OrderImplies", spec := "orderImplies", inPlace := ["internal/bytealg.IndexByteString"], unfollowed := true, recurses := true, plainKeys := false, apart := false }
def OrderImpliesSaid : Prop := orderImpliesRow.holds Tryz.pinned (OpenSpec.ofChange orderImpliesSpec)

/-- ITS FALSE NEIGHBOUR: 'it returns false'. Refute it at one input. -/
def orderImpliesWrong : ChangeSpec := { name := "orderImplies", fn := fun _ => fun
  | [d] => { results := [.lit (.bool false)], args := [d] }
  | _ => none }
def OrderImpliesWrongFalsely : Prop := orderImpliesRow.holds Tryz.pinned (OpenSpec.ofChange orderImpliesWrong)

/-- 'lfchecklaw38.OrderInstances': WHATEVER THE INPUT: true; the input reads as it did. -/
def orderInstancesSpec : ChangeSpec := { name := "orderInstances", fn := fun _ => fun
  | [d1, d2] => { results := [.lit (.bool true)], args := [d1, d2] }
  | _ => none }
def orderInstancesRow : OpenClaim := { program := "ytadjpadieljjlaagreat", sum := "727add6e65aa9060a666093ddaf6477f1fa2e15118f0206f17379e02da448844", func := "lfcheck/lfchecklaw38.OrderInstances", spec := "orderInstances", inPlace := ["internal/bytealg.IndexByteString"], unfollowed := true, recurses := true, plainKeys := false, apart := false }
def OrderInstancesSaid : Prop := orderInstancesRow.holds Tryz.pinned (OpenSpec.ofChange orderInstancesSpec)

/-- ITS FALSE NEIGHBOUR: 'it returns false'. Refute it at one input. -/
def orderInstancesWrong : ChangeSpec := { name := "orderInstances", fn := fun _ => fun
  | [d1, d2] => { results := [.lit (.bool false)], args := [d1, d2] }
  | _ => none }
def OrderInstancesWrongFalsely : Prop := orderInstancesRow.holds Tryz.pinned (OpenSpec.ofChange orderInstancesWrong)

/-- 'lfchecklaw38.OrderTransitive': WHATEVER THE INPUT: true; the input reads as it did. -/
def orderTransitiveSpec : ChangeSpec := { name := "orderTransitive", fn := fun _ => fun
  | [d] => { results := [.lit (.bool true)], args := [d] }
  | _ => none }
def orderTransitiveRow : OpenClaim := { program := "ytadjpadieljjlaagreat", sum := "727add6e65aa9060a666093ddaf6477f1fa2e15118f0206f17379e02da448844", func := "lfcheck/lfchecklaw38.OrderTransitive", spec := "orderTransitive", inPlace := ["internal/bytealg.IndexByteString"], unfollowed := true, recurses := true, plainKeys := false, apart := false }
def OrderTransitiveSaid : Prop := orderTransitiveRow.holds Tryz.pinned (OpenSpec.ofChange orderTransitiveSpec)

/-- ITS FALSE NEIGHBOUR: 'it returns false'. Refute it at one input. -/
def orderTransitiveWrong : ChangeSpec := { name := "orderTransitive", fn := fun _ => fun
  | [d] => { results := [.lit (.bool false)], args := [d] }
  | _ => none }
def OrderTransitiveWrongFalsely : Prop := orderTransitiveRow.holds Tryz.pinned (OpenSpec.ofChange orderTransitiveWrong)

/- THE SECOND FORM. 'bulk': how many values and letters a reading holds, each counted each time it is reached (what is shared counts as often as it is met; a slice's spare places count too). A statement '..UptoSaid' is the law's where the arguments, and the package variables that the reading takes, are together of bulk at most 1048576: NARROWER than '..Said'. Prove '..Said' where nothing that the law and all that it calls make is longer than what came in: it says more and counts as full. Else prove '..UptoSaid'. A law counts once. -/
mutual
def uptoBulk {H : Type} : DataW H → Nat
  | .lit (.string bytes) => bytes.length + 1
  | .lit _ => 1
  | .nil => 1
  | .ptr d => uptoBulk d + 1
  | .slice elems spare => uptoBulkAll elems + uptoBulkAll spare + 1
  | .agg parts => uptoBulkAll parts + 1
  | .iface _ d => uptoBulk d + 1
  | .map entries => uptoBulkEntries entries + 1
  | .held _ => 1
def uptoBulkAll {H : Type} : List (DataW H) → Nat
  | [] => 0
  | d :: r => uptoBulk d + uptoBulkAll r
def uptoBulkEntries {H : Type} : List (Lit × DataW H) → Nat
  | [] => 0
  | x :: r => uptoBulkEntry x + uptoBulkEntries r
def uptoBulkEntry {H : Type} : Lit × DataW H → Nat
  | (.string bytes, d) => bytes.length + uptoBulk d + 1
  | (_, d) => uptoBulk d + 1
 end
def uptoSmall : (H : Type) → List (DataW H) → Bool := fun _ ds => decide (uptoBulkAll ds ≤ 1048576)
def OpenSpec.upto (s : _root_.Go.ChangeSpec) : _root_.Go.OpenSpec := { _root_.Go.OpenSpec.ofChange s with cond := some uptoSmall }

/-- 'lfchecklaw38.OrderVerifies', WHERE WHAT IT READS IS OF BULK AT MOST 1048576: true; the input reads as it did. -/
def orderVerifiesUptoRow : OpenClaim := { program := "ytadjpadieljjlaagreat", sum := "727add6e65aa9060a666093ddaf6477f1fa2e15118f0206f17379e02da448844", func := "lfcheck/lfchecklaw38.OrderVerifies", spec := "orderVerifies", inPlace := ["internal/bytealg.IndexByteString"], unfollowed := true, recurses := true, plainKeys := false, apart := false, narrowed := true }
def OrderVerifiesUptoSaid : Prop := orderVerifiesUptoRow.holds Tryz.pinned (OpenSpec.upto orderVerifiesSpec)

/-- 'lfchecklaw38.OrderSmaller', WHERE WHAT IT READS IS OF BULK AT MOST 1048576: true; the input reads as it did. -/
def orderSmallerUptoRow : OpenClaim := { program := "ytadjpadieljjlaagreat", sum := "727add6e65aa9060a666093ddaf6477f1fa2e15118f0206f17379e02da448844", func := "lfcheck/lfchecklaw38.OrderSmaller", spec := "orderSmaller", inPlace := ["internal/bytealg.IndexByteString"], unfollowed := true, recurses := true, plainKeys := false, apart := false, narrowed := true }
def OrderSmallerUptoSaid : Prop := orderSmallerUptoRow.holds Tryz.pinned (OpenSpec.upto orderSmallerSpec)

/-- 'lfchecklaw38.OrderImplies', WHERE WHAT IT READS IS OF BULK AT MOST 1048576: true; the input reads as it did. -/
def orderImpliesUptoRow : OpenClaim := { program := "ytadjpadieljjlaagreat", sum := "727add6e65aa9060a666093ddaf6477f1fa2e15118f0206f17379e02da448844", func := "lfcheck/lfchecklaw38.OrderImplies", spec := "orderImplies", inPlace := ["internal/bytealg.IndexByteString"], unfollowed := true, recurses := true, plainKeys := false, apart := false, narrowed := true }
def OrderImpliesUptoSaid : Prop := orderImpliesUptoRow.holds Tryz.pinned (OpenSpec.upto orderImpliesSpec)

/-- 'lfchecklaw38.OrderInstances', WHERE WHAT IT READS IS OF BULK AT MOST 1048576: true; the input reads as it did. -/
def orderInstancesUptoRow : OpenClaim := { program := "ytadjpadieljjlaagreat", sum := "727add6e65aa9060a666093ddaf6477f1fa2e15118f0206f17379e02da448844", func := "lfcheck/lfchecklaw38.OrderInstances", spec := "orderInstances", inPlace := ["internal/bytealg.IndexByteString"], unfollowed := true, recurses := true, plainKeys := false, apart := false, narrowed := true }
def OrderInstancesUptoSaid : Prop := orderInstancesUptoRow.holds Tryz.pinned (OpenSpec.upto orderInstancesSpec)

/-- 'lfchecklaw38.OrderTransitive', WHERE WHAT IT READS IS OF BULK AT MOST 1048576: true; the input reads as it did. -/
def orderTransitiveUptoRow : OpenClaim := { program := "ytadjpadieljjlaagreat", sum := "727add6e65aa9060a666093ddaf6477f1fa2e15118f0206f17379e02da448844", func := "lfcheck/lfchecklaw38.OrderTransitive", spec := "orderTransitive", inPlace := ["internal/bytealg.IndexByteString"], unfollowed := true, recurses := true, plainKeys := false, apart := false, narrowed := true }
def OrderTransitiveUptoSaid : Prop := orderTransitiveUptoRow.holds Tryz.pinned (OpenSpec.upto orderTransitiveSpec)

end Rows
end Go.Proofs.YtadjpadieljjlaaGreat
