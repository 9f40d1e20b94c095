/-
  NARROWER THAN 'FOR EVERY INPUT', by the rows' own cells (each row's printed sentence says how): StoreAny: laid · StoreApart: laid · StoreHolds: laid · StoreRecovers: laid · StoreLasts: laid · StoreOwn: laid.
  DERIVED. THE GIVEN ROWS OF THIS SEAT. 6 by the template 'for every input the law returns true; each argument reads behind the call as it read before'; 0 by the template 'total and deterministic' (their statements: YtpndobhakmjglaaDoorTotals.lean).
  GIVEN WITH THE SEED: the statements are not yours to turn. If you find one false, say at which input.
  Laid BY PROGRAM, IN A SANDBOX (cutbox-rows.mjs): the forced cells as the released guide's own fill.sh prints them over the translation 55d1429027970de3… (all of the seat's roots in one cut). By AI agents, Wed Nov 11 2026. No macro, syntax, notation, axiom, sorry.
-/
import Derived.Test.YtpndobhakmjglaaDoorChecked
import GoSem.Claim
import GoSem.ClaimJoined
import GoSem.ClaimMapViews
import Derived.JoinedTies
import Derived.KernelRfl
namespace Go.Proofs.YtpndobhakmjglaaDoor
/- THE CELL 'sum', in the pinned program and in every row, IS THE sha256 OF THE DUMP (.gsa) THAT YtpndobhakmjglaaDoorProg.lean LOADS. Nothing in Lean hashes anything: it is a label: what it is worth is what the hold of that sum in a sandbox is worth. -/
noncomputable def Tryd.pinned : Pinned := { name := "ytpndobhakmjglaadoor", sum := "55d1429027970de3f538355d542b84560a77cf0d35dfdf4aeea2ca563a760694", checked := Tryd.checked }
namespace Rows
def none {H : Type} : Left H := { results := [], args := [] }

/- WHAT THE LISTED PACKAGE-LEVEL VARIABLES READ AS WHEN THE CALL BEGINS. Each datum BY PROGRAM (the guide's laid-datum.mjs) off the statement by which the dump's own 'gosem.cut.vars' lays the variable. In a bare row this is a premise. The card (YtpndobhakmjglaaDoorCards.lean) ties it to the program's text. -/
def laid_cupel_sha_first {H : Type} : DataW H := .agg [.lit (.int .u32 1779033703), .lit (.int .u32 3144134277), .lit (.int .u32 1013904242), .lit (.int .u32 2773480762), .lit (.int .u32 1359893119), .lit (.int .u32 2600822924), .lit (.int .u32 528734635), .lit (.int .u32 1541459225)]
def laid_cupel_sha_constants {H : Type} : DataW H := .agg [.lit (.int .u32 1116352408), .lit (.int .u32 1899447441), .lit (.int .u32 3049323471), .lit (.int .u32 3921009573), .lit (.int .u32 961987163), .lit (.int .u32 1508970993), .lit (.int .u32 2453635748), .lit (.int .u32 2870763221), .lit (.int .u32 3624381080), .lit (.int .u32 310598401), .lit (.int .u32 607225278), .lit (.int .u32 1426881987), .lit (.int .u32 1925078388), .lit (.int .u32 2162078206), .lit (.int .u32 2614888103), .lit (.int .u32 3248222580), .lit (.int .u32 3835390401), .lit (.int .u32 4022224774), .lit (.int .u32 264347078), .lit (.int .u32 604807628), .lit (.int .u32 770255983), .lit (.int .u32 1249150122), .lit (.int .u32 1555081692), .lit (.int .u32 1996064986), .lit (.int .u32 2554220882), .lit (.int .u32 2821834349), .lit (.int .u32 2952996808), .lit (.int .u32 3210313671), .lit (.int .u32 3336571891), .lit (.int .u32 3584528711), .lit (.int .u32 113926993), .lit (.int .u32 338241895), .lit (.int .u32 666307205), .lit (.int .u32 773529912), .lit (.int .u32 1294757372), .lit (.int .u32 1396182291), .lit (.int .u32 1695183700), .lit (.int .u32 1986661051), .lit (.int .u32 2177026350), .lit (.int .u32 2456956037), .lit (.int .u32 2730485921), .lit (.int .u32 2820302411), .lit (.int .u32 3259730800), .lit (.int .u32 3345764771), .lit (.int .u32 3516065817), .lit (.int .u32 3600352804), .lit (.int .u32 4094571909), .lit (.int .u32 275423344), .lit (.int .u32 430227734), .lit (.int .u32 506948616), .lit (.int .u32 659060556), .lit (.int .u32 883997877), .lit (.int .u32 958139571), .lit (.int .u32 1322822218), .lit (.int .u32 1537002063), .lit (.int .u32 1747873779), .lit (.int .u32 1955562222), .lit (.int .u32 2024104815), .lit (.int .u32 2227730452), .lit (.int .u32 2361852424), .lit (.int .u32 2428436474), .lit (.int .u32 2756734187), .lit (.int .u32 3204031479), .lit (.int .u32 3329325298)]

/-- 'cupellaw16.StoreAny': WHATEVER THE INPUT: true; the input reads as it did. -/
def storeAnySpec : ChangeSpec := { name := "storeAny", fn := fun _ => fun
  | [d] => { results := [.lit (.bool true)], args := [d] }
  | _ => none }
def storeAnyRow : OpenClaim := { program := "ytpndobhakmjglaadoor", sum := "55d1429027970de3f538355d542b84560a77cf0d35dfdf4aeea2ca563a760694", func := "cupel/cupellaw16.StoreAny", spec := "storeAny", unfollowed := true, recurses := true, named := ["cupel/sha.first", "cupel/sha.constants"], apart := false, laid := [("cupel/sha.first", laid_cupel_sha_first), ("cupel/sha.constants", laid_cupel_sha_constants)] }
def StoreAnySaid : Prop := storeAnyRow.holds Tryd.pinned (OpenSpec.ofChange storeAnySpec)

/-- ITS FALSE NEIGHBOUR: 'it returns false'. Refute it at one input. -/
def storeAnyWrong : ChangeSpec := { name := "storeAny", fn := fun _ => fun
  | [d] => { results := [.lit (.bool false)], args := [d] }
  | _ => none }
def StoreAnyWrongFalsely : Prop := storeAnyRow.holds Tryd.pinned (OpenSpec.ofChange storeAnyWrong)

/-- 'cupellaw16.StoreApart': WHATEVER THE INPUT: true; the input reads as it did. -/
def storeApartSpec : ChangeSpec := { name := "storeApart", fn := fun _ => fun
  | [d1, d2, d3] => { results := [.lit (.bool true)], args := [d1, d2, d3] }
  | _ => none }
def storeApartRow : OpenClaim := { program := "ytpndobhakmjglaadoor", sum := "55d1429027970de3f538355d542b84560a77cf0d35dfdf4aeea2ca563a760694", func := "cupel/cupellaw16.StoreApart", spec := "storeApart", unfollowed := true, recurses := true, named := ["cupel/sha.first", "cupel/sha.constants"], apart := false, laid := [("cupel/sha.first", laid_cupel_sha_first), ("cupel/sha.constants", laid_cupel_sha_constants)] }
def StoreApartSaid : Prop := storeApartRow.holds Tryd.pinned (OpenSpec.ofChange storeApartSpec)

/-- ITS FALSE NEIGHBOUR: 'it returns false'. Refute it at one input. -/
def storeApartWrong : ChangeSpec := { name := "storeApart", fn := fun _ => fun
  | [d1, d2, d3] => { results := [.lit (.bool false)], args := [d1, d2, d3] }
  | _ => none }
def StoreApartWrongFalsely : Prop := storeApartRow.holds Tryd.pinned (OpenSpec.ofChange storeApartWrong)

/-- 'cupellaw16.StoreHolds': WHATEVER THE INPUT: true; the input reads as it did. -/
def storeHoldsSpec : ChangeSpec := { name := "storeHolds", fn := fun _ => fun
  | [d] => { results := [.lit (.bool true)], args := [d] }
  | _ => none }
def storeHoldsRow : OpenClaim := { program := "ytpndobhakmjglaadoor", sum := "55d1429027970de3f538355d542b84560a77cf0d35dfdf4aeea2ca563a760694", func := "cupel/cupellaw16.StoreHolds", spec := "storeHolds", unfollowed := true, recurses := true, named := ["cupel/sha.first", "cupel/sha.constants"], apart := false, laid := [("cupel/sha.first", laid_cupel_sha_first), ("cupel/sha.constants", laid_cupel_sha_constants)] }
def StoreHoldsSaid : Prop := storeHoldsRow.holds Tryd.pinned (OpenSpec.ofChange storeHoldsSpec)

/-- ITS FALSE NEIGHBOUR: 'it returns false'. Refute it at one input. -/
def storeHoldsWrong : ChangeSpec := { name := "storeHolds", fn := fun _ => fun
  | [d] => { results := [.lit (.bool false)], args := [d] }
  | _ => none }
def StoreHoldsWrongFalsely : Prop := storeHoldsRow.holds Tryd.pinned (OpenSpec.ofChange storeHoldsWrong)

/-- 'cupellaw16.StoreRecovers': WHATEVER THE INPUT: true; the input reads as it did. -/
def storeRecoversSpec : ChangeSpec := { name := "storeRecovers", fn := fun _ => fun
  | [d] => { results := [.lit (.bool true)], args := [d] }
  | _ => none }
def storeRecoversRow : OpenClaim := { program := "ytpndobhakmjglaadoor", sum := "55d1429027970de3f538355d542b84560a77cf0d35dfdf4aeea2ca563a760694", func := "cupel/cupellaw16.StoreRecovers", spec := "storeRecovers", unfollowed := true, recurses := true, named := ["cupel/sha.first", "cupel/sha.constants"], apart := false, laid := [("cupel/sha.first", laid_cupel_sha_first), ("cupel/sha.constants", laid_cupel_sha_constants)] }
def StoreRecoversSaid : Prop := storeRecoversRow.holds Tryd.pinned (OpenSpec.ofChange storeRecoversSpec)

/-- ITS FALSE NEIGHBOUR: 'it returns false'. Refute it at one input. -/
def storeRecoversWrong : ChangeSpec := { name := "storeRecovers", fn := fun _ => fun
  | [d] => { results := [.lit (.bool false)], args := [d] }
  | _ => none }
def StoreRecoversWrongFalsely : Prop := storeRecoversRow.holds Tryd.pinned (OpenSpec.ofChange storeRecoversWrong)

/-- 'cupellaw16.StoreLasts': WHATEVER THE INPUT: true; the input reads as it did. -/
def storeLastsSpec : ChangeSpec := { name := "storeLasts", fn := fun _ => fun
  | [d1, d2] => { results := [.lit (.bool true)], args := [d1, d2] }
  | _ => none }
def storeLastsRow : OpenClaim := { program := "ytpndobhakmjglaadoor", sum := "55d1429027970de3f538355d542b84560a77cf0d35dfdf4aeea2ca563a760694", func := "cupel/cupellaw16.StoreLasts", spec := "storeLasts", unfollowed := true, recurses := true, named := ["cupel/sha.first", "cupel/sha.constants"], apart := false, laid := [("cupel/sha.first", laid_cupel_sha_first), ("cupel/sha.constants", laid_cupel_sha_constants)] }
def StoreLastsSaid : Prop := storeLastsRow.holds Tryd.pinned (OpenSpec.ofChange storeLastsSpec)

/-- ITS FALSE NEIGHBOUR: 'it returns false'. Refute it at one input. -/
def storeLastsWrong : ChangeSpec := { name := "storeLasts", fn := fun _ => fun
  | [d1, d2] => { results := [.lit (.bool false)], args := [d1, d2] }
  | _ => none }
def StoreLastsWrongFalsely : Prop := storeLastsRow.holds Tryd.pinned (OpenSpec.ofChange storeLastsWrong)

/-- 'cupellaw16.StoreOwn': WHATEVER THE INPUT: true; the input reads as it did. -/
def storeOwnSpec : ChangeSpec := { name := "storeOwn", fn := fun _ => fun
  | [d1, d2] => { results := [.lit (.bool true)], args := [d1, d2] }
  | _ => none }
def storeOwnRow : OpenClaim := { program := "ytpndobhakmjglaadoor", sum := "55d1429027970de3f538355d542b84560a77cf0d35dfdf4aeea2ca563a760694", func := "cupel/cupellaw16.StoreOwn", spec := "storeOwn", unfollowed := true, recurses := true, named := ["cupel/sha.first", "cupel/sha.constants"], apart := false, laid := [("cupel/sha.first", laid_cupel_sha_first), ("cupel/sha.constants", laid_cupel_sha_constants)] }
def StoreOwnSaid : Prop := storeOwnRow.holds Tryd.pinned (OpenSpec.ofChange storeOwnSpec)

/-- ITS FALSE NEIGHBOUR: 'it returns false'. Refute it at one input. -/
def storeOwnWrong : ChangeSpec := { name := "storeOwn", fn := fun _ => fun
  | [d1, d2] => { results := [.lit (.bool false)], args := [d1, d2] }
  | _ => none }
def StoreOwnWrongFalsely : Prop := storeOwnRow.holds Tryd.pinned (OpenSpec.ofChange storeOwnWrong)

/- THE SECOND FORM. 'bulk': how many values and letters a reading holds, each counted each time it is reached (what is shared counts as often as it is met; a slice's spare places count too). A statement '..UptoSaid' is the law's where the arguments, and the package variables that the reading takes, are together of bulk at most 1048576: NARROWER than '..Said'. Prove '..Said' where nothing that the law and all that it calls make is longer than what came in: it says more and counts as full. Else prove '..UptoSaid'. A law counts once. -/
mutual
def uptoBulk {H : Type} : DataW H → Nat
  | .lit (.string bytes) => bytes.length + 1
  | .lit _ => 1
  | .nil => 1
  | .ptr d => uptoBulk d + 1
  | .slice elems spare => uptoBulkAll elems + uptoBulkAll spare + 1
  | .agg parts => uptoBulkAll parts + 1
  | .iface _ d => uptoBulk d + 1
  | .map entries => uptoBulkEntries entries + 1
  | .held _ => 1
def uptoBulkAll {H : Type} : List (DataW H) → Nat
  | [] => 0
  | d :: r => uptoBulk d + uptoBulkAll r
def uptoBulkEntries {H : Type} : List (Lit × DataW H) → Nat
  | [] => 0
  | x :: r => uptoBulkEntry x + uptoBulkEntries r
def uptoBulkEntry {H : Type} : Lit × DataW H → Nat
  | (.string bytes, d) => bytes.length + uptoBulk d + 1
  | (_, d) => uptoBulk d + 1
 end
def uptoSmall : (H : Type) → List (DataW H) → Bool := fun _ ds => decide (uptoBulkAll ds ≤ 1048576)
def OpenSpec.upto (s : _root_.Go.ChangeSpec) : _root_.Go.OpenSpec := { _root_.Go.OpenSpec.ofChange s with cond := some uptoSmall }

/-- 'cupellaw16.StoreAny', WHERE WHAT IT READS IS OF BULK AT MOST 1048576: true; the input reads as it did. -/
def storeAnyUptoRow : OpenClaim := { program := "ytpndobhakmjglaadoor", sum := "55d1429027970de3f538355d542b84560a77cf0d35dfdf4aeea2ca563a760694", func := "cupel/cupellaw16.StoreAny", spec := "storeAny", unfollowed := true, recurses := true, named := ["cupel/sha.first", "cupel/sha.constants"], apart := false, laid := [("cupel/sha.first", laid_cupel_sha_first), ("cupel/sha.constants", laid_cupel_sha_constants)], narrowed := true }
def StoreAnyUptoSaid : Prop := storeAnyUptoRow.holds Tryd.pinned (OpenSpec.upto storeAnySpec)

/-- 'cupellaw16.StoreApart', WHERE WHAT IT READS IS OF BULK AT MOST 1048576: true; the input reads as it did. -/
def storeApartUptoRow : OpenClaim := { program := "ytpndobhakmjglaadoor", sum := "55d1429027970de3f538355d542b84560a77cf0d35dfdf4aeea2ca563a760694", func := "cupel/cupellaw16.StoreApart", spec := "storeApart", unfollowed := true, recurses := true, named := ["cupel/sha.first", "cupel/sha.constants"], apart := false, laid := [("cupel/sha.first", laid_cupel_sha_first), ("cupel/sha.constants", laid_cupel_sha_constants)], narrowed := true }
def StoreApartUptoSaid : Prop := storeApartUptoRow.holds Tryd.pinned (OpenSpec.upto storeApartSpec)

/-- 'cupellaw16.StoreHolds', WHERE WHAT IT READS IS OF BULK AT MOST 1048576: true; the input reads as it did. -/
def storeHoldsUptoRow : OpenClaim := { program := "ytpndobhakmjglaadoor", sum := "55d1429027970de3f538355d542b84560a77cf0d35dfdf4aeea2ca563a760694", func := "cupel/cupellaw16.StoreHolds", spec := "storeHolds", unfollowed := true, recurses := true, named := ["cupel/sha.first", "cupel/sha.constants"], apart := false, laid := [("cupel/sha.first", laid_cupel_sha_first), ("cupel/sha.constants", laid_cupel_sha_constants)], narrowed := true }
def StoreHoldsUptoSaid : Prop := storeHoldsUptoRow.holds Tryd.pinned (OpenSpec.upto storeHoldsSpec)

/-- 'cupellaw16.StoreRecovers', WHERE WHAT IT READS IS OF BULK AT MOST 1048576: true; the input reads as it did. -/
def storeRecoversUptoRow : OpenClaim := { program := "ytpndobhakmjglaadoor", sum := "55d1429027970de3f538355d542b84560a77cf0d35dfdf4aeea2ca563a760694", func := "cupel/cupellaw16.StoreRecovers", spec := "storeRecovers", unfollowed := true, recurses := true, named := ["cupel/sha.first", "cupel/sha.constants"], apart := false, laid := [("cupel/sha.first", laid_cupel_sha_first), ("cupel/sha.constants", laid_cupel_sha_constants)], narrowed := true }
def StoreRecoversUptoSaid : Prop := storeRecoversUptoRow.holds Tryd.pinned (OpenSpec.upto storeRecoversSpec)

/-- 'cupellaw16.StoreLasts', WHERE WHAT IT READS IS OF BULK AT MOST 1048576: true; the input reads as it did. -/
def storeLastsUptoRow : OpenClaim := { program := "ytpndobhakmjglaadoor", sum := "55d1429027970de3f538355d542b84560a77cf0d35dfdf4aeea2ca563a760694", func := "cupel/cupellaw16.StoreLasts", spec := "storeLasts", unfollowed := true, recurses := true, named := ["cupel/sha.first", "cupel/sha.constants"], apart := false, laid := [("cupel/sha.first", laid_cupel_sha_first), ("cupel/sha.constants", laid_cupel_sha_constants)], narrowed := true }
def StoreLastsUptoSaid : Prop := storeLastsUptoRow.holds Tryd.pinned (OpenSpec.upto storeLastsSpec)

/-- 'cupellaw16.StoreOwn', WHERE WHAT IT READS IS OF BULK AT MOST 1048576: true; the input reads as it did. -/
def storeOwnUptoRow : OpenClaim := { program := "ytpndobhakmjglaadoor", sum := "55d1429027970de3f538355d542b84560a77cf0d35dfdf4aeea2ca563a760694", func := "cupel/cupellaw16.StoreOwn", spec := "storeOwn", unfollowed := true, recurses := true, named := ["cupel/sha.first", "cupel/sha.constants"], apart := false, laid := [("cupel/sha.first", laid_cupel_sha_first), ("cupel/sha.constants", laid_cupel_sha_constants)], narrowed := true }
def StoreOwnUptoSaid : Prop := storeOwnUptoRow.holds Tryd.pinned (OpenSpec.upto storeOwnSpec)

end Rows
end Go.Proofs.YtpndobhakmjglaaDoor
