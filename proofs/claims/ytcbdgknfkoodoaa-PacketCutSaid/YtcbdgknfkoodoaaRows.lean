/-
  No cell of these rows narrows 'for every input' (looked for: loops, veiled, ifaces, maps, wideKeys, modest, calm, conditions, laid).
  DERIVED. THE GIVEN ROWS OF THIS SEAT. 6 by the template 'for every input the law returns true; each argument reads behind the call as it read before'; 0 by the template 'total and deterministic' (their statements: YtcbdgknfkoodoaaTotals.lean).
  GIVEN WITH THE SEED: the statements are not yours to turn. If you find one false, say at which input.
  Laid BY PROGRAM, IN A SANDBOX (cutbox-rows.mjs): the forced cells as the released guide's own fill.sh prints them over the translation 2cb972fed6f76df1… (all of the seat's roots in one cut). By AI agents, Wed Nov 11 2026. No macro, syntax, notation, axiom, sorry.
-/
import Derived.Test.YtcbdgknfkoodoaaChecked
import GoSem.Claim
import GoSem.ClaimJoined
import GoSem.ClaimMapViews
import Derived.JoinedTies
import Derived.KernelRfl
namespace Go.Proofs.Ytcbdgknfkoodoaa
/- THE CELL 'sum', in the pinned program and in every row, IS THE sha256 OF THE DUMP (.gsa) THAT YtcbdgknfkoodoaaProg.lean LOADS. Nothing in Lean hashes anything: it is a label: what it is worth is what the hold of that sum in a sandbox is worth. -/
noncomputable def Try.pinned : Pinned := { name := "ytcbdgknfkoodoaa", sum := "2cb972fed6f76df17e1e8a4ac3380532be63723908a697f41eb1694f28068ea9", checked := Try.checked }
namespace Rows
def none {H : Type} : Left H := { results := [], args := [] }

/-- 'crossbarlaw07.PlaceRight': WHATEVER THE INPUT: true; the input reads as it did. -/
def placeRightSpec : ChangeSpec := { name := "placeRight", fn := fun _ => fun
  | [d1, d2, d3, d4, d5] => { results := [.lit (.bool true)], args := [d1, d2, d3, d4, d5] }
  | _ => none }
def placeRightRow : OpenClaim := { program := "ytcbdgknfkoodoaa", sum := "2cb972fed6f76df17e1e8a4ac3380532be63723908a697f41eb1694f28068ea9", func := "crossbar/crossbarlaw07.PlaceRight", spec := "placeRight", unfollowed := true, recurses := true, apart := false }
def PlaceRightSaid : Prop := placeRightRow.holds Try.pinned (OpenSpec.ofChange placeRightSpec)

/-- ITS FALSE NEIGHBOUR: 'it returns false'. Refute it at one input. -/
def placeRightWrong : ChangeSpec := { name := "placeRight", fn := fun _ => fun
  | [d1, d2, d3, d4, d5] => { results := [.lit (.bool false)], args := [d1, d2, d3, d4, d5] }
  | _ => none }
def PlaceRightWrongFalsely : Prop := placeRightRow.holds Try.pinned (OpenSpec.ofChange placeRightWrong)

/-- 'crossbarlaw07.PlaceCovers': WHATEVER THE INPUT: true; the input reads as it did. -/
def placeCoversSpec : ChangeSpec := { name := "placeCovers", fn := fun _ => fun
  | [d] => { results := [.lit (.bool true)], args := [d] }
  | _ => none }
def placeCoversRow : OpenClaim := { program := "ytcbdgknfkoodoaa", sum := "2cb972fed6f76df17e1e8a4ac3380532be63723908a697f41eb1694f28068ea9", func := "crossbar/crossbarlaw07.PlaceCovers", spec := "placeCovers", unfollowed := true, recurses := true, apart := false }
def PlaceCoversSaid : Prop := placeCoversRow.holds Try.pinned (OpenSpec.ofChange placeCoversSpec)

/-- ITS FALSE NEIGHBOUR: 'it returns false'. Refute it at one input. -/
def placeCoversWrong : ChangeSpec := { name := "placeCovers", fn := fun _ => fun
  | [d] => { results := [.lit (.bool false)], args := [d] }
  | _ => none }
def PlaceCoversWrongFalsely : Prop := placeCoversRow.holds Try.pinned (OpenSpec.ofChange placeCoversWrong)

/-- 'crossbarlaw07.PlaceTurns': WHATEVER THE INPUT: true; the input reads as it did. -/
def placeTurnsSpec : ChangeSpec := { name := "placeTurns", fn := fun _ => fun
  | [d1, d2, d3] => { results := [.lit (.bool true)], args := [d1, d2, d3] }
  | _ => none }
def placeTurnsRow : OpenClaim := { program := "ytcbdgknfkoodoaa", sum := "2cb972fed6f76df17e1e8a4ac3380532be63723908a697f41eb1694f28068ea9", func := "crossbar/crossbarlaw07.PlaceTurns", spec := "placeTurns", unfollowed := true, recurses := true, apart := false }
def PlaceTurnsSaid : Prop := placeTurnsRow.holds Try.pinned (OpenSpec.ofChange placeTurnsSpec)

/-- ITS FALSE NEIGHBOUR: 'it returns false'. Refute it at one input. -/
def placeTurnsWrong : ChangeSpec := { name := "placeTurns", fn := fun _ => fun
  | [d1, d2, d3] => { results := [.lit (.bool false)], args := [d1, d2, d3] }
  | _ => none }
def PlaceTurnsWrongFalsely : Prop := placeTurnsRow.holds Try.pinned (OpenSpec.ofChange placeTurnsWrong)

/-- 'crossbarlaw06.PacketRight': WHATEVER THE INPUT: true; the input reads as it did. -/
def packetRightSpec : ChangeSpec := { name := "packetRight", fn := fun _ => fun
  | [d1, d2, d3] => { results := [.lit (.bool true)], args := [d1, d2, d3] }
  | _ => none }
def packetRightRow : OpenClaim := { program := "ytcbdgknfkoodoaa", sum := "2cb972fed6f76df17e1e8a4ac3380532be63723908a697f41eb1694f28068ea9", func := "crossbar/crossbarlaw06.PacketRight", spec := "packetRight", apart := false }
def PacketRightSaid : Prop := packetRightRow.holds Try.pinned (OpenSpec.ofChange packetRightSpec)

/-- ITS FALSE NEIGHBOUR: 'it returns false'. Refute it at one input. -/
def packetRightWrong : ChangeSpec := { name := "packetRight", fn := fun _ => fun
  | [d1, d2, d3] => { results := [.lit (.bool false)], args := [d1, d2, d3] }
  | _ => none }
def PacketRightWrongFalsely : Prop := packetRightRow.holds Try.pinned (OpenSpec.ofChange packetRightWrong)

/-- 'crossbarlaw06.PacketBack': WHATEVER THE INPUT: true; the input reads as it did. -/
def packetBackSpec : ChangeSpec := { name := "packetBack", fn := fun _ => fun
  | [d1, d2] => { results := [.lit (.bool true)], args := [d1, d2] }
  | _ => none }
def packetBackRow : OpenClaim := { program := "ytcbdgknfkoodoaa", sum := "2cb972fed6f76df17e1e8a4ac3380532be63723908a697f41eb1694f28068ea9", func := "crossbar/crossbarlaw06.PacketBack", spec := "packetBack", apart := false }
def PacketBackSaid : Prop := packetBackRow.holds Try.pinned (OpenSpec.ofChange packetBackSpec)

/-- ITS FALSE NEIGHBOUR: 'it returns false'. Refute it at one input. -/
def packetBackWrong : ChangeSpec := { name := "packetBack", fn := fun _ => fun
  | [d1, d2] => { results := [.lit (.bool false)], args := [d1, d2] }
  | _ => none }
def PacketBackWrongFalsely : Prop := packetBackRow.holds Try.pinned (OpenSpec.ofChange packetBackWrong)

/-- 'crossbarlaw06.PacketCut': WHATEVER THE INPUT: true; the input reads as it did. -/
def packetCutSpec : ChangeSpec := { name := "packetCut", fn := fun _ => fun
  | [d1, d2, d3] => { results := [.lit (.bool true)], args := [d1, d2, d3] }
  | _ => none }
def packetCutRow : OpenClaim := { program := "ytcbdgknfkoodoaa", sum := "2cb972fed6f76df17e1e8a4ac3380532be63723908a697f41eb1694f28068ea9", func := "crossbar/crossbarlaw06.PacketCut", spec := "packetCut", apart := false }
def PacketCutSaid : Prop := packetCutRow.holds Try.pinned (OpenSpec.ofChange packetCutSpec)

/-- ITS FALSE NEIGHBOUR: 'it returns false'. Refute it at one input. -/
def packetCutWrong : ChangeSpec := { name := "packetCut", fn := fun _ => fun
  | [d1, d2, d3] => { results := [.lit (.bool false)], args := [d1, d2, d3] }
  | _ => none }
def PacketCutWrongFalsely : Prop := packetCutRow.holds Try.pinned (OpenSpec.ofChange packetCutWrong)

/- THE SECOND FORM. 'bulk': how many values and letters a reading holds, each counted each time it is reached (what is shared counts as often as it is met; a slice's spare places count too). A statement '..UptoSaid' is the law's where the arguments, and the package variables that the reading takes, are together of bulk at most 1048576: NARROWER than '..Said'. Prove '..Said' where nothing that the law and all that it calls make is longer than what came in: it says more and counts as full. Else prove '..UptoSaid'. A law counts once. -/
mutual
def uptoBulk {H : Type} : DataW H → Nat
  | .lit (.string bytes) => bytes.length + 1
  | .lit _ => 1
  | .nil => 1
  | .ptr d => uptoBulk d + 1
  | .slice elems spare => uptoBulkAll elems + uptoBulkAll spare + 1
  | .agg parts => uptoBulkAll parts + 1
  | .iface _ d => uptoBulk d + 1
  | .map entries => uptoBulkEntries entries + 1
  | .held _ => 1
def uptoBulkAll {H : Type} : List (DataW H) → Nat
  | [] => 0
  | d :: r => uptoBulk d + uptoBulkAll r
def uptoBulkEntries {H : Type} : List (Lit × DataW H) → Nat
  | [] => 0
  | x :: r => uptoBulkEntry x + uptoBulkEntries r
def uptoBulkEntry {H : Type} : Lit × DataW H → Nat
  | (.string bytes, d) => bytes.length + uptoBulk d + 1
  | (_, d) => uptoBulk d + 1
 end
def uptoSmall : (H : Type) → List (DataW H) → Bool := fun _ ds => decide (uptoBulkAll ds ≤ 1048576)
def OpenSpec.upto (s : _root_.Go.ChangeSpec) : _root_.Go.OpenSpec := { _root_.Go.OpenSpec.ofChange s with cond := some uptoSmall }

/-- 'crossbarlaw07.PlaceRight', WHERE WHAT IT READS IS OF BULK AT MOST 1048576: true; the input reads as it did. -/
def placeRightUptoRow : OpenClaim := { program := "ytcbdgknfkoodoaa", sum := "2cb972fed6f76df17e1e8a4ac3380532be63723908a697f41eb1694f28068ea9", func := "crossbar/crossbarlaw07.PlaceRight", spec := "placeRight", unfollowed := true, recurses := true, apart := false, narrowed := true }
def PlaceRightUptoSaid : Prop := placeRightUptoRow.holds Try.pinned (OpenSpec.upto placeRightSpec)

/-- 'crossbarlaw07.PlaceCovers', WHERE WHAT IT READS IS OF BULK AT MOST 1048576: true; the input reads as it did. -/
def placeCoversUptoRow : OpenClaim := { program := "ytcbdgknfkoodoaa", sum := "2cb972fed6f76df17e1e8a4ac3380532be63723908a697f41eb1694f28068ea9", func := "crossbar/crossbarlaw07.PlaceCovers", spec := "placeCovers", unfollowed := true, recurses := true, apart := false, narrowed := true }
def PlaceCoversUptoSaid : Prop := placeCoversUptoRow.holds Try.pinned (OpenSpec.upto placeCoversSpec)

/-- 'crossbarlaw07.PlaceTurns', WHERE WHAT IT READS IS OF BULK AT MOST 1048576: true; the input reads as it did. -/
def placeTurnsUptoRow : OpenClaim := { program := "ytcbdgknfkoodoaa", sum := "2cb972fed6f76df17e1e8a4ac3380532be63723908a697f41eb1694f28068ea9", func := "crossbar/crossbarlaw07.PlaceTurns", spec := "placeTurns", unfollowed := true, recurses := true, apart := false, narrowed := true }
def PlaceTurnsUptoSaid : Prop := placeTurnsUptoRow.holds Try.pinned (OpenSpec.upto placeTurnsSpec)

/-- 'crossbarlaw06.PacketRight', WHERE WHAT IT READS IS OF BULK AT MOST 1048576: true; the input reads as it did. -/
def packetRightUptoRow : OpenClaim := { program := "ytcbdgknfkoodoaa", sum := "2cb972fed6f76df17e1e8a4ac3380532be63723908a697f41eb1694f28068ea9", func := "crossbar/crossbarlaw06.PacketRight", spec := "packetRight", apart := false, narrowed := true }
def PacketRightUptoSaid : Prop := packetRightUptoRow.holds Try.pinned (OpenSpec.upto packetRightSpec)

/-- 'crossbarlaw06.PacketBack', WHERE WHAT IT READS IS OF BULK AT MOST 1048576: true; the input reads as it did. -/
def packetBackUptoRow : OpenClaim := { program := "ytcbdgknfkoodoaa", sum := "2cb972fed6f76df17e1e8a4ac3380532be63723908a697f41eb1694f28068ea9", func := "crossbar/crossbarlaw06.PacketBack", spec := "packetBack", apart := false, narrowed := true }
def PacketBackUptoSaid : Prop := packetBackUptoRow.holds Try.pinned (OpenSpec.upto packetBackSpec)

/-- 'crossbarlaw06.PacketCut', WHERE WHAT IT READS IS OF BULK AT MOST 1048576: true; the input reads as it did. -/
def packetCutUptoRow : OpenClaim := { program := "ytcbdgknfkoodoaa", sum := "2cb972fed6f76df17e1e8a4ac3380532be63723908a697f41eb1694f28068ea9", func := "crossbar/crossbarlaw06.PacketCut", spec := "packetCut", apart := false, narrowed := true }
def PacketCutUptoSaid : Prop := packetCutUptoRow.holds Try.pinned (OpenSpec.upto packetCutSpec)

end Rows
end Go.Proofs.Ytcbdgknfkoodoaa
