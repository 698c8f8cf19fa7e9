/-
  NARROWER THAN 'FOR EVERY INPUT', by the rows' own cells (each row's printed sentence says how): StorePlays: laid · LinkResolves: laid · LinkFinds: laid · SeatSaves: laid · SeatFinds: laid · SeatSweeps: laid · SeatEnds: laid · GrantOld: laid · GrantSpends: laid · GrantFinds: laid · GrantSaves: laid · GrantSweeps: laid · GrantRedeems: laid.
  DERIVED. THE GIVEN ROWS OF THIS SEAT. 13 by the template 'for every input the law returns true; each argument reads behind the call as it read before'; 0 by the template 'total and deterministic' (their statements: YtpoblffgclmmlaaGreatDoorTotals.lean).
  GIVEN WITH THE SEED: the statements are not yours to turn. If you find one false, say at which input.
  Laid BY PROGRAM, IN A SANDBOX (cutbox-rows.mjs): the forced cells as the released guide's own fill.sh prints them over the translation 0ae5866ce5cb1823… (all of the seat's roots in one cut). By AI agents, Wed Nov 11 2026. No macro, syntax, notation, axiom, sorry.
-/
import Derived.Test.YtpoblffgclmmlaaGreatDoorChecked
import GoSem.Claim
import GoSem.ClaimJoined
import GoSem.ClaimMapViews
import Derived.JoinedTies
import Derived.KernelRfl
namespace Go.Proofs.YtpoblffgclmmlaaGreatDoor
/- THE CELL 'sum', in the pinned program and in every row, IS THE sha256 OF THE DUMP (.gsa) THAT YtpoblffgclmmlaaGreatDoorProg.lean LOADS. Nothing in Lean hashes anything: it is a label: what it is worth is what the hold of that sum in a sandbox is worth. -/
noncomputable def Tryz.pinned : Pinned := { name := "ytpoblffgclmmlaagreatdoor", sum := "0ae5866ce5cb18230ee2855a26c5f782185ce162860a89e8748e09355f60cfd5", checked := Tryz.checked }
namespace Rows
def none {H : Type} : Left H := { results := [], args := [] }

/- WHAT THE LISTED PACKAGE-LEVEL VARIABLES READ AS WHEN THE CALL BEGINS. Each datum BY PROGRAM (the guide's laid-datum.mjs) off the statement by which the dump's own 'gosem.cut.vars' lays the variable. In a bare row this is a premise. The card (YtpoblffgclmmlaaGreatDoorCards.lean) ties it to the program's text. -/
def laid_exequatur_hash_rounds {H : Type} : DataW H := .agg [.lit (.int .u32 1116352408), .lit (.int .u32 1899447441), .lit (.int .u32 3049323471), .lit (.int .u32 3921009573), .lit (.int .u32 961987163), .lit (.int .u32 1508970993), .lit (.int .u32 2453635748), .lit (.int .u32 2870763221), .lit (.int .u32 3624381080), .lit (.int .u32 310598401), .lit (.int .u32 607225278), .lit (.int .u32 1426881987), .lit (.int .u32 1925078388), .lit (.int .u32 2162078206), .lit (.int .u32 2614888103), .lit (.int .u32 3248222580), .lit (.int .u32 3835390401), .lit (.int .u32 4022224774), .lit (.int .u32 264347078), .lit (.int .u32 604807628), .lit (.int .u32 770255983), .lit (.int .u32 1249150122), .lit (.int .u32 1555081692), .lit (.int .u32 1996064986), .lit (.int .u32 2554220882), .lit (.int .u32 2821834349), .lit (.int .u32 2952996808), .lit (.int .u32 3210313671), .lit (.int .u32 3336571891), .lit (.int .u32 3584528711), .lit (.int .u32 113926993), .lit (.int .u32 338241895), .lit (.int .u32 666307205), .lit (.int .u32 773529912), .lit (.int .u32 1294757372), .lit (.int .u32 1396182291), .lit (.int .u32 1695183700), .lit (.int .u32 1986661051), .lit (.int .u32 2177026350), .lit (.int .u32 2456956037), .lit (.int .u32 2730485921), .lit (.int .u32 2820302411), .lit (.int .u32 3259730800), .lit (.int .u32 3345764771), .lit (.int .u32 3516065817), .lit (.int .u32 3600352804), .lit (.int .u32 4094571909), .lit (.int .u32 275423344), .lit (.int .u32 430227734), .lit (.int .u32 506948616), .lit (.int .u32 659060556), .lit (.int .u32 883997877), .lit (.int .u32 958139571), .lit (.int .u32 1322822218), .lit (.int .u32 1537002063), .lit (.int .u32 1747873779), .lit (.int .u32 1955562222), .lit (.int .u32 2024104815), .lit (.int .u32 2227730452), .lit (.int .u32 2361852424), .lit (.int .u32 2428436474), .lit (.int .u32 2756734187), .lit (.int .u32 3204031479), .lit (.int .u32 3329325298)]
def laid_exequatur_hash_begin {H : Type} : DataW H := .agg [.lit (.int .u32 1779033703), .lit (.int .u32 3144134277), .lit (.int .u32 1013904242), .lit (.int .u32 2773480762), .lit (.int .u32 1359893119), .lit (.int .u32 2600822924), .lit (.int .u32 528734635), .lit (.int .u32 1541459225)]
def laid_math_bits_deBruijn32tab {H : Type} : DataW H := .agg [.lit (.int .u8 0), .lit (.int .u8 1), .lit (.int .u8 28), .lit (.int .u8 2), .lit (.int .u8 29), .lit (.int .u8 14), .lit (.int .u8 24), .lit (.int .u8 3), .lit (.int .u8 30), .lit (.int .u8 22), .lit (.int .u8 20), .lit (.int .u8 15), .lit (.int .u8 25), .lit (.int .u8 17), .lit (.int .u8 4), .lit (.int .u8 8), .lit (.int .u8 31), .lit (.int .u8 27), .lit (.int .u8 13), .lit (.int .u8 23), .lit (.int .u8 21), .lit (.int .u8 19), .lit (.int .u8 16), .lit (.int .u8 7), .lit (.int .u8 26), .lit (.int .u8 12), .lit (.int .u8 18), .lit (.int .u8 6), .lit (.int .u8 11), .lit (.int .u8 5), .lit (.int .u8 10), .lit (.int .u8 9)]
def laid_math_bits_deBruijn64tab {H : Type} : DataW H := .agg [.lit (.int .u8 0), .lit (.int .u8 1), .lit (.int .u8 56), .lit (.int .u8 2), .lit (.int .u8 57), .lit (.int .u8 49), .lit (.int .u8 28), .lit (.int .u8 3), .lit (.int .u8 61), .lit (.int .u8 58), .lit (.int .u8 42), .lit (.int .u8 50), .lit (.int .u8 38), .lit (.int .u8 29), .lit (.int .u8 17), .lit (.int .u8 4), .lit (.int .u8 62), .lit (.int .u8 47), .lit (.int .u8 59), .lit (.int .u8 36), .lit (.int .u8 45), .lit (.int .u8 43), .lit (.int .u8 51), .lit (.int .u8 22), .lit (.int .u8 53), .lit (.int .u8 39), .lit (.int .u8 33), .lit (.int .u8 30), .lit (.int .u8 24), .lit (.int .u8 18), .lit (.int .u8 12), .lit (.int .u8 5), .lit (.int .u8 63), .lit (.int .u8 55), .lit (.int .u8 48), .lit (.int .u8 27), .lit (.int .u8 60), .lit (.int .u8 41), .lit (.int .u8 37), .lit (.int .u8 16), .lit (.int .u8 46), .lit (.int .u8 35), .lit (.int .u8 44), .lit (.int .u8 21), .lit (.int .u8 52), .lit (.int .u8 32), .lit (.int .u8 23), .lit (.int .u8 11), .lit (.int .u8 54), .lit (.int .u8 26), .lit (.int .u8 40), .lit (.int .u8 15), .lit (.int .u8 34), .lit (.int .u8 20), .lit (.int .u8 31), .lit (.int .u8 10), .lit (.int .u8 25), .lit (.int .u8 14), .lit (.int .u8 19), .lit (.int .u8 9), .lit (.int .u8 13), .lit (.int .u8 8), .lit (.int .u8 7), .lit (.int .u8 6)]
def laid_internal_strconv_uint64pow10 {H : Type} : DataW H := .agg [.lit (.int .u64 1), .lit (.int .u64 10), .lit (.int .u64 100), .lit (.int .u64 1000), .lit (.int .u64 10000), .lit (.int .u64 100000), .lit (.int .u64 1000000), .lit (.int .u64 10000000), .lit (.int .u64 100000000), .lit (.int .u64 1000000000), .lit (.int .u64 10000000000), .lit (.int .u64 100000000000), .lit (.int .u64 1000000000000), .lit (.int .u64 10000000000000), .lit (.int .u64 100000000000000), .lit (.int .u64 1000000000000000), .lit (.int .u64 10000000000000000), .lit (.int .u64 100000000000000000), .lit (.int .u64 1000000000000000000), .lit (.int .u64 10000000000000000000)]
def laid_strconv_ErrRange {H : Type} : DataW H := .iface "*errors.errorString" (.ptr (.agg [.lit (.string [118, 97, 108, 117, 101, 32, 111, 117, 116, 32, 111, 102, 32, 114, 97, 110, 103, 101])]))
def laid_strconv_ErrSyntax {H : Type} : DataW H := .iface "*errors.errorString" (.ptr (.agg [.lit (.string [105, 110, 118, 97, 108, 105, 100, 32, 115, 121, 110, 116, 97, 120])]))

/-- 'exequaturlaw12.StorePlays': WHATEVER THE INPUT: true; the input reads as it did. -/
def storePlaysSpec : ChangeSpec := { name := "storePlays", fn := fun _ => fun
  | [d] => { results := [.lit (.bool true)], args := [d] }
  | _ => none }
def storePlaysRow : OpenClaim := { program := "ytpoblffgclmmlaagreatdoor", sum := "0ae5866ce5cb18230ee2855a26c5f782185ce162860a89e8748e09355f60cfd5", func := "exequatur/exequaturlaw12.StorePlays", spec := "storePlays", inPlace := ["internal/abi.NoEscape", "internal/bytealg.MakeNoZero", "maps.clone"], unfollowed := true, recurses := true, named := ["exequatur/hash.begin", "exequatur/hash.rounds"], apart := false, laid := [("exequatur/hash.rounds", laid_exequatur_hash_rounds), ("exequatur/hash.begin", laid_exequatur_hash_begin)] }
def StorePlaysSaid : Prop := storePlaysRow.holds Tryz.pinned (OpenSpec.ofChange storePlaysSpec)

/-- ITS FALSE NEIGHBOUR: 'it returns false'. Refute it at one input. -/
def storePlaysWrong : ChangeSpec := { name := "storePlays", fn := fun _ => fun
  | [d] => { results := [.lit (.bool false)], args := [d] }
  | _ => none }
def StorePlaysWrongFalsely : Prop := storePlaysRow.holds Tryz.pinned (OpenSpec.ofChange storePlaysWrong)

/-- 'exequaturlaw15.LinkResolves': WHATEVER THE INPUT: true; the input reads as it did. -/
def linkResolvesSpec : ChangeSpec := { name := "linkResolves", fn := fun _ => fun
  | [d1, d2, d3] => { results := [.lit (.bool true)], args := [d1, d2, d3] }
  | _ => none }
def linkResolvesRow : OpenClaim := { program := "ytpoblffgclmmlaagreatdoor", sum := "0ae5866ce5cb18230ee2855a26c5f782185ce162860a89e8748e09355f60cfd5", func := "exequatur/exequaturlaw15.LinkResolves", spec := "linkResolves", inPlace := ["internal/abi.NoEscape", "internal/bytealg.MakeNoZero", "maps.clone"], unfollowed := true, recurses := true, named := ["exequatur/hash.begin", "exequatur/hash.rounds", "internal/strconv.uint64pow10", "math/bits.deBruijn32tab", "math/bits.deBruijn64tab"], apart := false, laid := [("math/bits.deBruijn32tab", laid_math_bits_deBruijn32tab), ("math/bits.deBruijn64tab", laid_math_bits_deBruijn64tab), ("internal/strconv.uint64pow10", laid_internal_strconv_uint64pow10), ("exequatur/hash.rounds", laid_exequatur_hash_rounds), ("exequatur/hash.begin", laid_exequatur_hash_begin)] }
def LinkResolvesSaid : Prop := linkResolvesRow.holds Tryz.pinned (OpenSpec.ofChange linkResolvesSpec)

/-- ITS FALSE NEIGHBOUR: 'it returns false'. Refute it at one input. -/
def linkResolvesWrong : ChangeSpec := { name := "linkResolves", fn := fun _ => fun
  | [d1, d2, d3] => { results := [.lit (.bool false)], args := [d1, d2, d3] }
  | _ => none }
def LinkResolvesWrongFalsely : Prop := linkResolvesRow.holds Tryz.pinned (OpenSpec.ofChange linkResolvesWrong)

/-- 'exequaturlaw15.LinkFinds': WHATEVER THE INPUT: true; the input reads as it did. -/
def linkFindsSpec : ChangeSpec := { name := "linkFinds", fn := fun _ => fun
  | [d1, d2, d3] => { results := [.lit (.bool true)], args := [d1, d2, d3] }
  | _ => none }
def linkFindsRow : OpenClaim := { program := "ytpoblffgclmmlaagreatdoor", sum := "0ae5866ce5cb18230ee2855a26c5f782185ce162860a89e8748e09355f60cfd5", func := "exequatur/exequaturlaw15.LinkFinds", spec := "linkFinds", inPlace := ["internal/abi.NoEscape", "internal/bytealg.MakeNoZero", "maps.clone"], unfollowed := true, recurses := true, named := ["exequatur/hash.begin", "exequatur/hash.rounds", "internal/strconv.uint64pow10", "math/bits.deBruijn32tab", "math/bits.deBruijn64tab"], apart := false, laid := [("math/bits.deBruijn32tab", laid_math_bits_deBruijn32tab), ("math/bits.deBruijn64tab", laid_math_bits_deBruijn64tab), ("internal/strconv.uint64pow10", laid_internal_strconv_uint64pow10), ("exequatur/hash.rounds", laid_exequatur_hash_rounds), ("exequatur/hash.begin", laid_exequatur_hash_begin)] }
def LinkFindsSaid : Prop := linkFindsRow.holds Tryz.pinned (OpenSpec.ofChange linkFindsSpec)

/-- ITS FALSE NEIGHBOUR: 'it returns false'. Refute it at one input. -/
def linkFindsWrong : ChangeSpec := { name := "linkFinds", fn := fun _ => fun
  | [d1, d2, d3] => { results := [.lit (.bool false)], args := [d1, d2, d3] }
  | _ => none }
def LinkFindsWrongFalsely : Prop := linkFindsRow.holds Tryz.pinned (OpenSpec.ofChange linkFindsWrong)

/-- 'exequaturlaw19.SeatSaves': WHATEVER THE INPUT: true; the input reads as it did. -/
def seatSavesSpec : ChangeSpec := { name := "seatSaves", fn := fun _ => fun
  | [d1, d2] => { results := [.lit (.bool true)], args := [d1, d2] }
  | _ => none }
def seatSavesRow : OpenClaim := { program := "ytpoblffgclmmlaagreatdoor", sum := "0ae5866ce5cb18230ee2855a26c5f782185ce162860a89e8748e09355f60cfd5", func := "exequatur/exequaturlaw19.SeatSaves", spec := "seatSaves", inPlace := ["internal/abi.NoEscape", "internal/bytealg.MakeNoZero", "maps.clone", "internal/bytealg.IndexByteString", "internal/bytealg.IndexString"], unfollowed := true, recurses := true, named := ["internal/strconv.uint64pow10", "math/bits.deBruijn32tab", "math/bits.deBruijn64tab", "exequatur/hash.begin", "exequatur/hash.rounds", "internal/bytealg.MaxLen", "strconv.ErrSyntax", "strconv.ErrRange"], apart := false, laid := [("math/bits.deBruijn32tab", laid_math_bits_deBruijn32tab), ("math/bits.deBruijn64tab", laid_math_bits_deBruijn64tab), ("internal/strconv.uint64pow10", laid_internal_strconv_uint64pow10), ("strconv.ErrRange", laid_strconv_ErrRange), ("strconv.ErrSyntax", laid_strconv_ErrSyntax), ("exequatur/hash.rounds", laid_exequatur_hash_rounds), ("exequatur/hash.begin", laid_exequatur_hash_begin)] }
def SeatSavesSaid : Prop := seatSavesRow.holds Tryz.pinned (OpenSpec.ofChange seatSavesSpec)

/-- ITS FALSE NEIGHBOUR: 'it returns false'. Refute it at one input. -/
def seatSavesWrong : ChangeSpec := { name := "seatSaves", fn := fun _ => fun
  | [d1, d2] => { results := [.lit (.bool false)], args := [d1, d2] }
  | _ => none }
def SeatSavesWrongFalsely : Prop := seatSavesRow.holds Tryz.pinned (OpenSpec.ofChange seatSavesWrong)

/-- 'exequaturlaw19.SeatFinds': WHATEVER THE INPUT: true; the input reads as it did. -/
def seatFindsSpec : ChangeSpec := { name := "seatFinds", fn := fun _ => fun
  | [d1, d2, d3] => { results := [.lit (.bool true)], args := [d1, d2, d3] }
  | _ => none }
def seatFindsRow : OpenClaim := { program := "ytpoblffgclmmlaagreatdoor", sum := "0ae5866ce5cb18230ee2855a26c5f782185ce162860a89e8748e09355f60cfd5", func := "exequatur/exequaturlaw19.SeatFinds", spec := "seatFinds", inPlace := ["internal/abi.NoEscape", "internal/bytealg.MakeNoZero", "maps.clone", "internal/bytealg.IndexByteString", "internal/bytealg.IndexString"], unfollowed := true, recurses := true, named := ["exequatur/hash.begin", "exequatur/hash.rounds", "internal/strconv.uint64pow10", "math/bits.deBruijn32tab", "math/bits.deBruijn64tab", "internal/bytealg.MaxLen", "strconv.ErrSyntax", "strconv.ErrRange"], apart := false, laid := [("math/bits.deBruijn32tab", laid_math_bits_deBruijn32tab), ("math/bits.deBruijn64tab", laid_math_bits_deBruijn64tab), ("internal/strconv.uint64pow10", laid_internal_strconv_uint64pow10), ("strconv.ErrRange", laid_strconv_ErrRange), ("strconv.ErrSyntax", laid_strconv_ErrSyntax), ("exequatur/hash.rounds", laid_exequatur_hash_rounds), ("exequatur/hash.begin", laid_exequatur_hash_begin)] }
def SeatFindsSaid : Prop := seatFindsRow.holds Tryz.pinned (OpenSpec.ofChange seatFindsSpec)

/-- ITS FALSE NEIGHBOUR: 'it returns false'. Refute it at one input. -/
def seatFindsWrong : ChangeSpec := { name := "seatFinds", fn := fun _ => fun
  | [d1, d2, d3] => { results := [.lit (.bool false)], args := [d1, d2, d3] }
  | _ => none }
def SeatFindsWrongFalsely : Prop := seatFindsRow.holds Tryz.pinned (OpenSpec.ofChange seatFindsWrong)

/-- 'exequaturlaw19.SeatSweeps': WHATEVER THE INPUT: true; the input reads as it did. -/
def seatSweepsSpec : ChangeSpec := { name := "seatSweeps", fn := fun _ => fun
  | [d1, d2] => { results := [.lit (.bool true)], args := [d1, d2] }
  | _ => none }
def seatSweepsRow : OpenClaim := { program := "ytpoblffgclmmlaagreatdoor", sum := "0ae5866ce5cb18230ee2855a26c5f782185ce162860a89e8748e09355f60cfd5", func := "exequatur/exequaturlaw19.SeatSweeps", spec := "seatSweeps", inPlace := ["internal/abi.NoEscape", "internal/bytealg.MakeNoZero", "maps.clone", "internal/bytealg.IndexByteString", "internal/bytealg.IndexString"], unfollowed := true, recurses := true, named := ["internal/strconv.uint64pow10", "math/bits.deBruijn32tab", "math/bits.deBruijn64tab", "exequatur/hash.begin", "exequatur/hash.rounds", "internal/bytealg.MaxLen", "strconv.ErrSyntax", "strconv.ErrRange"], apart := false, laid := [("math/bits.deBruijn32tab", laid_math_bits_deBruijn32tab), ("math/bits.deBruijn64tab", laid_math_bits_deBruijn64tab), ("internal/strconv.uint64pow10", laid_internal_strconv_uint64pow10), ("strconv.ErrRange", laid_strconv_ErrRange), ("strconv.ErrSyntax", laid_strconv_ErrSyntax), ("exequatur/hash.rounds", laid_exequatur_hash_rounds), ("exequatur/hash.begin", laid_exequatur_hash_begin)] }
def SeatSweepsSaid : Prop := seatSweepsRow.holds Tryz.pinned (OpenSpec.ofChange seatSweepsSpec)

/-- ITS FALSE NEIGHBOUR: 'it returns false'. Refute it at one input. -/
def seatSweepsWrong : ChangeSpec := { name := "seatSweeps", fn := fun _ => fun
  | [d1, d2] => { results := [.lit (.bool false)], args := [d1, d2] }
  | _ => none }
def SeatSweepsWrongFalsely : Prop := seatSweepsRow.holds Tryz.pinned (OpenSpec.ofChange seatSweepsWrong)

/-- 'exequaturlaw19.SeatEnds': WHATEVER THE INPUT: true; the input reads as it did. -/
def seatEndsSpec : ChangeSpec := { name := "seatEnds", fn := fun _ => fun
  | [d1, d2, d3] => { results := [.lit (.bool true)], args := [d1, d2, d3] }
  | _ => none }
def seatEndsRow : OpenClaim := { program := "ytpoblffgclmmlaagreatdoor", sum := "0ae5866ce5cb18230ee2855a26c5f782185ce162860a89e8748e09355f60cfd5", func := "exequatur/exequaturlaw19.SeatEnds", spec := "seatEnds", inPlace := ["internal/abi.NoEscape", "internal/bytealg.MakeNoZero", "maps.clone", "internal/bytealg.IndexByteString", "internal/bytealg.IndexString"], unfollowed := true, recurses := true, named := ["internal/strconv.uint64pow10", "math/bits.deBruijn32tab", "math/bits.deBruijn64tab", "exequatur/hash.begin", "exequatur/hash.rounds", "internal/bytealg.MaxLen", "strconv.ErrSyntax", "strconv.ErrRange"], apart := false, laid := [("math/bits.deBruijn32tab", laid_math_bits_deBruijn32tab), ("math/bits.deBruijn64tab", laid_math_bits_deBruijn64tab), ("internal/strconv.uint64pow10", laid_internal_strconv_uint64pow10), ("strconv.ErrRange", laid_strconv_ErrRange), ("strconv.ErrSyntax", laid_strconv_ErrSyntax), ("exequatur/hash.rounds", laid_exequatur_hash_rounds), ("exequatur/hash.begin", laid_exequatur_hash_begin)] }
def SeatEndsSaid : Prop := seatEndsRow.holds Tryz.pinned (OpenSpec.ofChange seatEndsSpec)

/-- ITS FALSE NEIGHBOUR: 'it returns false'. Refute it at one input. -/
def seatEndsWrong : ChangeSpec := { name := "seatEnds", fn := fun _ => fun
  | [d1, d2, d3] => { results := [.lit (.bool false)], args := [d1, d2, d3] }
  | _ => none }
def SeatEndsWrongFalsely : Prop := seatEndsRow.holds Tryz.pinned (OpenSpec.ofChange seatEndsWrong)

/-- 'exequaturlaw20.GrantOld': WHATEVER THE INPUT: true; the input reads as it did. -/
def grantOldSpec : ChangeSpec := { name := "grantOld", fn := fun _ => fun
  | [d] => { results := [.lit (.bool true)], args := [d] }
  | _ => none }
def grantOldRow : OpenClaim := { program := "ytpoblffgclmmlaagreatdoor", sum := "0ae5866ce5cb18230ee2855a26c5f782185ce162860a89e8748e09355f60cfd5", func := "exequatur/exequaturlaw20.GrantOld", spec := "grantOld", inPlace := ["internal/abi.NoEscape", "internal/bytealg.MakeNoZero", "maps.clone", "internal/bytealg.IndexByteString", "internal/bytealg.IndexString"], unfollowed := true, recurses := true, named := ["internal/strconv.uint64pow10", "math/bits.deBruijn32tab", "math/bits.deBruijn64tab", "exequatur/hash.begin", "exequatur/hash.rounds", "internal/bytealg.MaxLen", "strconv.ErrSyntax", "strconv.ErrRange"], apart := false, laid := [("math/bits.deBruijn32tab", laid_math_bits_deBruijn32tab), ("math/bits.deBruijn64tab", laid_math_bits_deBruijn64tab), ("internal/strconv.uint64pow10", laid_internal_strconv_uint64pow10), ("strconv.ErrRange", laid_strconv_ErrRange), ("strconv.ErrSyntax", laid_strconv_ErrSyntax), ("exequatur/hash.rounds", laid_exequatur_hash_rounds), ("exequatur/hash.begin", laid_exequatur_hash_begin)] }
def GrantOldSaid : Prop := grantOldRow.holds Tryz.pinned (OpenSpec.ofChange grantOldSpec)

/-- ITS FALSE NEIGHBOUR: 'it returns false'. Refute it at one input. -/
def grantOldWrong : ChangeSpec := { name := "grantOld", fn := fun _ => fun
  | [d] => { results := [.lit (.bool false)], args := [d] }
  | _ => none }
def GrantOldWrongFalsely : Prop := grantOldRow.holds Tryz.pinned (OpenSpec.ofChange grantOldWrong)

/-- 'exequaturlaw20.GrantSpends': WHATEVER THE INPUT: true; the input reads as it did. -/
def grantSpendsSpec : ChangeSpec := { name := "grantSpends", fn := fun _ => fun
  | [d] => { results := [.lit (.bool true)], args := [d] }
  | _ => none }
def grantSpendsRow : OpenClaim := { program := "ytpoblffgclmmlaagreatdoor", sum := "0ae5866ce5cb18230ee2855a26c5f782185ce162860a89e8748e09355f60cfd5", func := "exequatur/exequaturlaw20.GrantSpends", spec := "grantSpends", inPlace := ["internal/abi.NoEscape", "internal/bytealg.MakeNoZero", "maps.clone", "internal/bytealg.IndexByteString", "internal/bytealg.IndexString"], unfollowed := true, recurses := true, named := ["internal/strconv.uint64pow10", "math/bits.deBruijn32tab", "math/bits.deBruijn64tab", "exequatur/hash.begin", "exequatur/hash.rounds", "internal/bytealg.MaxLen", "strconv.ErrSyntax", "strconv.ErrRange"], apart := false, laid := [("math/bits.deBruijn32tab", laid_math_bits_deBruijn32tab), ("math/bits.deBruijn64tab", laid_math_bits_deBruijn64tab), ("internal/strconv.uint64pow10", laid_internal_strconv_uint64pow10), ("strconv.ErrRange", laid_strconv_ErrRange), ("strconv.ErrSyntax", laid_strconv_ErrSyntax), ("exequatur/hash.rounds", laid_exequatur_hash_rounds), ("exequatur/hash.begin", laid_exequatur_hash_begin)] }
def GrantSpendsSaid : Prop := grantSpendsRow.holds Tryz.pinned (OpenSpec.ofChange grantSpendsSpec)

/-- ITS FALSE NEIGHBOUR: 'it returns false'. Refute it at one input. -/
def grantSpendsWrong : ChangeSpec := { name := "grantSpends", fn := fun _ => fun
  | [d] => { results := [.lit (.bool false)], args := [d] }
  | _ => none }
def GrantSpendsWrongFalsely : Prop := grantSpendsRow.holds Tryz.pinned (OpenSpec.ofChange grantSpendsWrong)

/-- 'exequaturlaw20.GrantFinds': WHATEVER THE INPUT: true; the input reads as it did. -/
def grantFindsSpec : ChangeSpec := { name := "grantFinds", fn := fun _ => fun
  | [d1, d2] => { results := [.lit (.bool true)], args := [d1, d2] }
  | _ => none }
def grantFindsRow : OpenClaim := { program := "ytpoblffgclmmlaagreatdoor", sum := "0ae5866ce5cb18230ee2855a26c5f782185ce162860a89e8748e09355f60cfd5", func := "exequatur/exequaturlaw20.GrantFinds", spec := "grantFinds", inPlace := ["internal/abi.NoEscape", "internal/bytealg.MakeNoZero", "maps.clone", "internal/bytealg.IndexByteString", "internal/bytealg.IndexString"], unfollowed := true, recurses := true, named := ["exequatur/hash.begin", "exequatur/hash.rounds", "internal/strconv.uint64pow10", "math/bits.deBruijn32tab", "math/bits.deBruijn64tab", "internal/bytealg.MaxLen", "strconv.ErrSyntax", "strconv.ErrRange"], apart := false, laid := [("math/bits.deBruijn32tab", laid_math_bits_deBruijn32tab), ("math/bits.deBruijn64tab", laid_math_bits_deBruijn64tab), ("internal/strconv.uint64pow10", laid_internal_strconv_uint64pow10), ("strconv.ErrRange", laid_strconv_ErrRange), ("strconv.ErrSyntax", laid_strconv_ErrSyntax), ("exequatur/hash.rounds", laid_exequatur_hash_rounds), ("exequatur/hash.begin", laid_exequatur_hash_begin)] }
def GrantFindsSaid : Prop := grantFindsRow.holds Tryz.pinned (OpenSpec.ofChange grantFindsSpec)

/-- ITS FALSE NEIGHBOUR: 'it returns false'. Refute it at one input. -/
def grantFindsWrong : ChangeSpec := { name := "grantFinds", fn := fun _ => fun
  | [d1, d2] => { results := [.lit (.bool false)], args := [d1, d2] }
  | _ => none }
def GrantFindsWrongFalsely : Prop := grantFindsRow.holds Tryz.pinned (OpenSpec.ofChange grantFindsWrong)

/-- 'exequaturlaw20.GrantSaves': WHATEVER THE INPUT: true; the input reads as it did. -/
def grantSavesSpec : ChangeSpec := { name := "grantSaves", fn := fun _ => fun
  | [d1, d2] => { results := [.lit (.bool true)], args := [d1, d2] }
  | _ => none }
def grantSavesRow : OpenClaim := { program := "ytpoblffgclmmlaagreatdoor", sum := "0ae5866ce5cb18230ee2855a26c5f782185ce162860a89e8748e09355f60cfd5", func := "exequatur/exequaturlaw20.GrantSaves", spec := "grantSaves", inPlace := ["internal/abi.NoEscape", "internal/bytealg.MakeNoZero", "maps.clone", "internal/bytealg.IndexByteString", "internal/bytealg.IndexString"], unfollowed := true, recurses := true, named := ["internal/strconv.uint64pow10", "math/bits.deBruijn32tab", "math/bits.deBruijn64tab", "exequatur/hash.begin", "exequatur/hash.rounds", "internal/bytealg.MaxLen", "strconv.ErrSyntax", "strconv.ErrRange"], apart := false, laid := [("math/bits.deBruijn32tab", laid_math_bits_deBruijn32tab), ("math/bits.deBruijn64tab", laid_math_bits_deBruijn64tab), ("internal/strconv.uint64pow10", laid_internal_strconv_uint64pow10), ("strconv.ErrRange", laid_strconv_ErrRange), ("strconv.ErrSyntax", laid_strconv_ErrSyntax), ("exequatur/hash.rounds", laid_exequatur_hash_rounds), ("exequatur/hash.begin", laid_exequatur_hash_begin)] }
def GrantSavesSaid : Prop := grantSavesRow.holds Tryz.pinned (OpenSpec.ofChange grantSavesSpec)

/-- ITS FALSE NEIGHBOUR: 'it returns false'. Refute it at one input. -/
def grantSavesWrong : ChangeSpec := { name := "grantSaves", fn := fun _ => fun
  | [d1, d2] => { results := [.lit (.bool false)], args := [d1, d2] }
  | _ => none }
def GrantSavesWrongFalsely : Prop := grantSavesRow.holds Tryz.pinned (OpenSpec.ofChange grantSavesWrong)

/-- 'exequaturlaw20.GrantSweeps': WHATEVER THE INPUT: true; the input reads as it did. -/
def grantSweepsSpec : ChangeSpec := { name := "grantSweeps", fn := fun _ => fun
  | [d1, d2] => { results := [.lit (.bool true)], args := [d1, d2] }
  | _ => none }
def grantSweepsRow : OpenClaim := { program := "ytpoblffgclmmlaagreatdoor", sum := "0ae5866ce5cb18230ee2855a26c5f782185ce162860a89e8748e09355f60cfd5", func := "exequatur/exequaturlaw20.GrantSweeps", spec := "grantSweeps", inPlace := ["internal/abi.NoEscape", "internal/bytealg.MakeNoZero", "maps.clone", "internal/bytealg.IndexByteString", "internal/bytealg.IndexString"], unfollowed := true, recurses := true, named := ["exequatur/hash.begin", "exequatur/hash.rounds", "internal/strconv.uint64pow10", "math/bits.deBruijn32tab", "math/bits.deBruijn64tab", "internal/bytealg.MaxLen", "strconv.ErrSyntax", "strconv.ErrRange"], apart := false, laid := [("math/bits.deBruijn32tab", laid_math_bits_deBruijn32tab), ("math/bits.deBruijn64tab", laid_math_bits_deBruijn64tab), ("internal/strconv.uint64pow10", laid_internal_strconv_uint64pow10), ("strconv.ErrRange", laid_strconv_ErrRange), ("strconv.ErrSyntax", laid_strconv_ErrSyntax), ("exequatur/hash.rounds", laid_exequatur_hash_rounds), ("exequatur/hash.begin", laid_exequatur_hash_begin)] }
def GrantSweepsSaid : Prop := grantSweepsRow.holds Tryz.pinned (OpenSpec.ofChange grantSweepsSpec)

/-- ITS FALSE NEIGHBOUR: 'it returns false'. Refute it at one input. -/
def grantSweepsWrong : ChangeSpec := { name := "grantSweeps", fn := fun _ => fun
  | [d1, d2] => { results := [.lit (.bool false)], args := [d1, d2] }
  | _ => none }
def GrantSweepsWrongFalsely : Prop := grantSweepsRow.holds Tryz.pinned (OpenSpec.ofChange grantSweepsWrong)

/-- 'exequaturlaw20.GrantRedeems': WHATEVER THE INPUT: true; the input reads as it did. -/
def grantRedeemsSpec : ChangeSpec := { name := "grantRedeems", fn := fun _ => fun
  | [d1, d2, d3, d4, d5] => { results := [.lit (.bool true)], args := [d1, d2, d3, d4, d5] }
  | _ => none }
def grantRedeemsRow : OpenClaim := { program := "ytpoblffgclmmlaagreatdoor", sum := "0ae5866ce5cb18230ee2855a26c5f782185ce162860a89e8748e09355f60cfd5", func := "exequatur/exequaturlaw20.GrantRedeems", spec := "grantRedeems", inPlace := ["internal/abi.NoEscape", "internal/bytealg.MakeNoZero", "maps.clone", "internal/bytealg.IndexByteString", "internal/bytealg.IndexString"], unfollowed := true, recurses := true, named := ["internal/strconv.uint64pow10", "math/bits.deBruijn32tab", "math/bits.deBruijn64tab", "exequatur/hash.begin", "exequatur/hash.rounds", "internal/bytealg.MaxLen", "strconv.ErrSyntax", "strconv.ErrRange"], apart := false, laid := [("math/bits.deBruijn32tab", laid_math_bits_deBruijn32tab), ("math/bits.deBruijn64tab", laid_math_bits_deBruijn64tab), ("internal/strconv.uint64pow10", laid_internal_strconv_uint64pow10), ("strconv.ErrRange", laid_strconv_ErrRange), ("strconv.ErrSyntax", laid_strconv_ErrSyntax), ("exequatur/hash.rounds", laid_exequatur_hash_rounds), ("exequatur/hash.begin", laid_exequatur_hash_begin)] }
def GrantRedeemsSaid : Prop := grantRedeemsRow.holds Tryz.pinned (OpenSpec.ofChange grantRedeemsSpec)

/-- ITS FALSE NEIGHBOUR: 'it returns false'. Refute it at one input. -/
def grantRedeemsWrong : ChangeSpec := { name := "grantRedeems", fn := fun _ => fun
  | [d1, d2, d3, d4, d5] => { results := [.lit (.bool false)], args := [d1, d2, d3, d4, d5] }
  | _ => none }
def GrantRedeemsWrongFalsely : Prop := grantRedeemsRow.holds Tryz.pinned (OpenSpec.ofChange grantRedeemsWrong)

/- THE SECOND FORM. 'bulk': how many values and letters a reading holds, each counted each time it is reached (what is shared counts as often as it is met; a slice's spare places count too). A statement '..UptoSaid' is the law's where the arguments, and the package variables that the reading takes, are together of bulk at most 1048576: NARROWER than '..Said'. Prove '..Said' where nothing that the law and all that it calls make is longer than what came in: it says more and counts as full. Else prove '..UptoSaid'. A law counts once. -/
mutual
def uptoBulk {H : Type} : DataW H → Nat
  | .lit (.string bytes) => bytes.length + 1
  | .lit _ => 1
  | .nil => 1
  | .ptr d => uptoBulk d + 1
  | .slice elems spare => uptoBulkAll elems + uptoBulkAll spare + 1
  | .agg parts => uptoBulkAll parts + 1
  | .iface _ d => uptoBulk d + 1
  | .map entries => uptoBulkEntries entries + 1
  | .held _ => 1
def uptoBulkAll {H : Type} : List (DataW H) → Nat
  | [] => 0
  | d :: r => uptoBulk d + uptoBulkAll r
def uptoBulkEntries {H : Type} : List (Lit × DataW H) → Nat
  | [] => 0
  | x :: r => uptoBulkEntry x + uptoBulkEntries r
def uptoBulkEntry {H : Type} : Lit × DataW H → Nat
  | (.string bytes, d) => bytes.length + uptoBulk d + 1
  | (_, d) => uptoBulk d + 1
 end
def uptoSmall : (H : Type) → List (DataW H) → Bool := fun _ ds => decide (uptoBulkAll ds ≤ 1048576)
def OpenSpec.upto (s : _root_.Go.ChangeSpec) : _root_.Go.OpenSpec := { _root_.Go.OpenSpec.ofChange s with cond := some uptoSmall }

/-- 'exequaturlaw12.StorePlays', WHERE WHAT IT READS IS OF BULK AT MOST 1048576: true; the input reads as it did. -/
def storePlaysUptoRow : OpenClaim := { program := "ytpoblffgclmmlaagreatdoor", sum := "0ae5866ce5cb18230ee2855a26c5f782185ce162860a89e8748e09355f60cfd5", func := "exequatur/exequaturlaw12.StorePlays", spec := "storePlays", inPlace := ["internal/abi.NoEscape", "internal/bytealg.MakeNoZero", "maps.clone"], unfollowed := true, recurses := true, named := ["exequatur/hash.begin", "exequatur/hash.rounds"], apart := false, laid := [("exequatur/hash.rounds", laid_exequatur_hash_rounds), ("exequatur/hash.begin", laid_exequatur_hash_begin)], narrowed := true }
def StorePlaysUptoSaid : Prop := storePlaysUptoRow.holds Tryz.pinned (OpenSpec.upto storePlaysSpec)

/-- 'exequaturlaw15.LinkResolves', WHERE WHAT IT READS IS OF BULK AT MOST 1048576: true; the input reads as it did. -/
def linkResolvesUptoRow : OpenClaim := { program := "ytpoblffgclmmlaagreatdoor", sum := "0ae5866ce5cb18230ee2855a26c5f782185ce162860a89e8748e09355f60cfd5", func := "exequatur/exequaturlaw15.LinkResolves", spec := "linkResolves", inPlace := ["internal/abi.NoEscape", "internal/bytealg.MakeNoZero", "maps.clone"], unfollowed := true, recurses := true, named := ["exequatur/hash.begin", "exequatur/hash.rounds", "internal/strconv.uint64pow10", "math/bits.deBruijn32tab", "math/bits.deBruijn64tab"], apart := false, laid := [("math/bits.deBruijn32tab", laid_math_bits_deBruijn32tab), ("math/bits.deBruijn64tab", laid_math_bits_deBruijn64tab), ("internal/strconv.uint64pow10", laid_internal_strconv_uint64pow10), ("exequatur/hash.rounds", laid_exequatur_hash_rounds), ("exequatur/hash.begin", laid_exequatur_hash_begin)], narrowed := true }
def LinkResolvesUptoSaid : Prop := linkResolvesUptoRow.holds Tryz.pinned (OpenSpec.upto linkResolvesSpec)

/-- 'exequaturlaw15.LinkFinds', WHERE WHAT IT READS IS OF BULK AT MOST 1048576: true; the input reads as it did. -/
def linkFindsUptoRow : OpenClaim := { program := "ytpoblffgclmmlaagreatdoor", sum := "0ae5866ce5cb18230ee2855a26c5f782185ce162860a89e8748e09355f60cfd5", func := "exequatur/exequaturlaw15.LinkFinds", spec := "linkFinds", inPlace := ["internal/abi.NoEscape", "internal/bytealg.MakeNoZero", "maps.clone"], unfollowed := true, recurses := true, named := ["exequatur/hash.begin", "exequatur/hash.rounds", "internal/strconv.uint64pow10", "math/bits.deBruijn32tab", "math/bits.deBruijn64tab"], apart := false, laid := [("math/bits.deBruijn32tab", laid_math_bits_deBruijn32tab), ("math/bits.deBruijn64tab", laid_math_bits_deBruijn64tab), ("internal/strconv.uint64pow10", laid_internal_strconv_uint64pow10), ("exequatur/hash.rounds", laid_exequatur_hash_rounds), ("exequatur/hash.begin", laid_exequatur_hash_begin)], narrowed := true }
def LinkFindsUptoSaid : Prop := linkFindsUptoRow.holds Tryz.pinned (OpenSpec.upto linkFindsSpec)

/-- 'exequaturlaw19.SeatSaves', WHERE WHAT IT READS IS OF BULK AT MOST 1048576: true; the input reads as it did. -/
def seatSavesUptoRow : OpenClaim := { program := "ytpoblffgclmmlaagreatdoor", sum := "0ae5866ce5cb18230ee2855a26c5f782185ce162860a89e8748e09355f60cfd5", func := "exequatur/exequaturlaw19.SeatSaves", spec := "seatSaves", inPlace := ["internal/abi.NoEscape", "internal/bytealg.MakeNoZero", "maps.clone", "internal/bytealg.IndexByteString", "internal/bytealg.IndexString"], unfollowed := true, recurses := true, named := ["internal/strconv.uint64pow10", "math/bits.deBruijn32tab", "math/bits.deBruijn64tab", "exequatur/hash.begin", "exequatur/hash.rounds", "internal/bytealg.MaxLen", "strconv.ErrSyntax", "strconv.ErrRange"], apart := false, laid := [("math/bits.deBruijn32tab", laid_math_bits_deBruijn32tab), ("math/bits.deBruijn64tab", laid_math_bits_deBruijn64tab), ("internal/strconv.uint64pow10", laid_internal_strconv_uint64pow10), ("strconv.ErrRange", laid_strconv_ErrRange), ("strconv.ErrSyntax", laid_strconv_ErrSyntax), ("exequatur/hash.rounds", laid_exequatur_hash_rounds), ("exequatur/hash.begin", laid_exequatur_hash_begin)], narrowed := true }
def SeatSavesUptoSaid : Prop := seatSavesUptoRow.holds Tryz.pinned (OpenSpec.upto seatSavesSpec)

/-- 'exequaturlaw19.SeatFinds', WHERE WHAT IT READS IS OF BULK AT MOST 1048576: true; the input reads as it did. -/
def seatFindsUptoRow : OpenClaim := { program := "ytpoblffgclmmlaagreatdoor", sum := "0ae5866ce5cb18230ee2855a26c5f782185ce162860a89e8748e09355f60cfd5", func := "exequatur/exequaturlaw19.SeatFinds", spec := "seatFinds", inPlace := ["internal/abi.NoEscape", "internal/bytealg.MakeNoZero", "maps.clone", "internal/bytealg.IndexByteString", "internal/bytealg.IndexString"], unfollowed := true, recurses := true, named := ["exequatur/hash.begin", "exequatur/hash.rounds", "internal/strconv.uint64pow10", "math/bits.deBruijn32tab", "math/bits.deBruijn64tab", "internal/bytealg.MaxLen", "strconv.ErrSyntax", "strconv.ErrRange"], apart := false, laid := [("math/bits.deBruijn32tab", laid_math_bits_deBruijn32tab), ("math/bits.deBruijn64tab", laid_math_bits_deBruijn64tab), ("internal/strconv.uint64pow10", laid_internal_strconv_uint64pow10), ("strconv.ErrRange", laid_strconv_ErrRange), ("strconv.ErrSyntax", laid_strconv_ErrSyntax), ("exequatur/hash.rounds", laid_exequatur_hash_rounds), ("exequatur/hash.begin", laid_exequatur_hash_begin)], narrowed := true }
def SeatFindsUptoSaid : Prop := seatFindsUptoRow.holds Tryz.pinned (OpenSpec.upto seatFindsSpec)

/-- 'exequaturlaw19.SeatSweeps', WHERE WHAT IT READS IS OF BULK AT MOST 1048576: true; the input reads as it did. -/
def seatSweepsUptoRow : OpenClaim := { program := "ytpoblffgclmmlaagreatdoor", sum := "0ae5866ce5cb18230ee2855a26c5f782185ce162860a89e8748e09355f60cfd5", func := "exequatur/exequaturlaw19.SeatSweeps", spec := "seatSweeps", inPlace := ["internal/abi.NoEscape", "internal/bytealg.MakeNoZero", "maps.clone", "internal/bytealg.IndexByteString", "internal/bytealg.IndexString"], unfollowed := true, recurses := true, named := ["internal/strconv.uint64pow10", "math/bits.deBruijn32tab", "math/bits.deBruijn64tab", "exequatur/hash.begin", "exequatur/hash.rounds", "internal/bytealg.MaxLen", "strconv.ErrSyntax", "strconv.ErrRange"], apart := false, laid := [("math/bits.deBruijn32tab", laid_math_bits_deBruijn32tab), ("math/bits.deBruijn64tab", laid_math_bits_deBruijn64tab), ("internal/strconv.uint64pow10", laid_internal_strconv_uint64pow10), ("strconv.ErrRange", laid_strconv_ErrRange), ("strconv.ErrSyntax", laid_strconv_ErrSyntax), ("exequatur/hash.rounds", laid_exequatur_hash_rounds), ("exequatur/hash.begin", laid_exequatur_hash_begin)], narrowed := true }
def SeatSweepsUptoSaid : Prop := seatSweepsUptoRow.holds Tryz.pinned (OpenSpec.upto seatSweepsSpec)

/-- 'exequaturlaw19.SeatEnds', WHERE WHAT IT READS IS OF BULK AT MOST 1048576: true; the input reads as it did. -/
def seatEndsUptoRow : OpenClaim := { program := "ytpoblffgclmmlaagreatdoor", sum := "0ae5866ce5cb18230ee2855a26c5f782185ce162860a89e8748e09355f60cfd5", func := "exequatur/exequaturlaw19.SeatEnds", spec := "seatEnds", inPlace := ["internal/abi.NoEscape", "internal/bytealg.MakeNoZero", "maps.clone", "internal/bytealg.IndexByteString", "internal/bytealg.IndexString"], unfollowed := true, recurses := true, named := ["internal/strconv.uint64pow10", "math/bits.deBruijn32tab", "math/bits.deBruijn64tab", "exequatur/hash.begin", "exequatur/hash.rounds", "internal/bytealg.MaxLen", "strconv.ErrSyntax", "strconv.ErrRange"], apart := false, laid := [("math/bits.deBruijn32tab", laid_math_bits_deBruijn32tab), ("math/bits.deBruijn64tab", laid_math_bits_deBruijn64tab), ("internal/strconv.uint64pow10", laid_internal_strconv_uint64pow10), ("strconv.ErrRange", laid_strconv_ErrRange), ("strconv.ErrSyntax", laid_strconv_ErrSyntax), ("exequatur/hash.rounds", laid_exequatur_hash_rounds), ("exequatur/hash.begin", laid_exequatur_hash_begin)], narrowed := true }
def SeatEndsUptoSaid : Prop := seatEndsUptoRow.holds Tryz.pinned (OpenSpec.upto seatEndsSpec)

/-- 'exequaturlaw20.GrantOld', WHERE WHAT IT READS IS OF BULK AT MOST 1048576: true; the input reads as it did. -/
def grantOldUptoRow : OpenClaim := { program := "ytpoblffgclmmlaagreatdoor", sum := "0ae5866ce5cb18230ee2855a26c5f782185ce162860a89e8748e09355f60cfd5", func := "exequatur/exequaturlaw20.GrantOld", spec := "grantOld", inPlace := ["internal/abi.NoEscape", "internal/bytealg.MakeNoZero", "maps.clone", "internal/bytealg.IndexByteString", "internal/bytealg.IndexString"], unfollowed := true, recurses := true, named := ["internal/strconv.uint64pow10", "math/bits.deBruijn32tab", "math/bits.deBruijn64tab", "exequatur/hash.begin", "exequatur/hash.rounds", "internal/bytealg.MaxLen", "strconv.ErrSyntax", "strconv.ErrRange"], apart := false, laid := [("math/bits.deBruijn32tab", laid_math_bits_deBruijn32tab), ("math/bits.deBruijn64tab", laid_math_bits_deBruijn64tab), ("internal/strconv.uint64pow10", laid_internal_strconv_uint64pow10), ("strconv.ErrRange", laid_strconv_ErrRange), ("strconv.ErrSyntax", laid_strconv_ErrSyntax), ("exequatur/hash.rounds", laid_exequatur_hash_rounds), ("exequatur/hash.begin", laid_exequatur_hash_begin)], narrowed := true }
def GrantOldUptoSaid : Prop := grantOldUptoRow.holds Tryz.pinned (OpenSpec.upto grantOldSpec)

/-- 'exequaturlaw20.GrantSpends', WHERE WHAT IT READS IS OF BULK AT MOST 1048576: true; the input reads as it did. -/
def grantSpendsUptoRow : OpenClaim := { program := "ytpoblffgclmmlaagreatdoor", sum := "0ae5866ce5cb18230ee2855a26c5f782185ce162860a89e8748e09355f60cfd5", func := "exequatur/exequaturlaw20.GrantSpends", spec := "grantSpends", inPlace := ["internal/abi.NoEscape", "internal/bytealg.MakeNoZero", "maps.clone", "internal/bytealg.IndexByteString", "internal/bytealg.IndexString"], unfollowed := true, recurses := true, named := ["internal/strconv.uint64pow10", "math/bits.deBruijn32tab", "math/bits.deBruijn64tab", "exequatur/hash.begin", "exequatur/hash.rounds", "internal/bytealg.MaxLen", "strconv.ErrSyntax", "strconv.ErrRange"], apart := false, laid := [("math/bits.deBruijn32tab", laid_math_bits_deBruijn32tab), ("math/bits.deBruijn64tab", laid_math_bits_deBruijn64tab), ("internal/strconv.uint64pow10", laid_internal_strconv_uint64pow10), ("strconv.ErrRange", laid_strconv_ErrRange), ("strconv.ErrSyntax", laid_strconv_ErrSyntax), ("exequatur/hash.rounds", laid_exequatur_hash_rounds), ("exequatur/hash.begin", laid_exequatur_hash_begin)], narrowed := true }
def GrantSpendsUptoSaid : Prop := grantSpendsUptoRow.holds Tryz.pinned (OpenSpec.upto grantSpendsSpec)

/-- 'exequaturlaw20.GrantFinds', WHERE WHAT IT READS IS OF BULK AT MOST 1048576: true; the input reads as it did. -/
def grantFindsUptoRow : OpenClaim := { program := "ytpoblffgclmmlaagreatdoor", sum := "0ae5866ce5cb18230ee2855a26c5f782185ce162860a89e8748e09355f60cfd5", func := "exequatur/exequaturlaw20.GrantFinds", spec := "grantFinds", inPlace := ["internal/abi.NoEscape", "internal/bytealg.MakeNoZero", "maps.clone", "internal/bytealg.IndexByteString", "internal/bytealg.IndexString"], unfollowed := true, recurses := true, named := ["exequatur/hash.begin", "exequatur/hash.rounds", "internal/strconv.uint64pow10", "math/bits.deBruijn32tab", "math/bits.deBruijn64tab", "internal/bytealg.MaxLen", "strconv.ErrSyntax", "strconv.ErrRange"], apart := false, laid := [("math/bits.deBruijn32tab", laid_math_bits_deBruijn32tab), ("math/bits.deBruijn64tab", laid_math_bits_deBruijn64tab), ("internal/strconv.uint64pow10", laid_internal_strconv_uint64pow10), ("strconv.ErrRange", laid_strconv_ErrRange), ("strconv.ErrSyntax", laid_strconv_ErrSyntax), ("exequatur/hash.rounds", laid_exequatur_hash_rounds), ("exequatur/hash.begin", laid_exequatur_hash_begin)], narrowed := true }
def GrantFindsUptoSaid : Prop := grantFindsUptoRow.holds Tryz.pinned (OpenSpec.upto grantFindsSpec)

/-- 'exequaturlaw20.GrantSaves', WHERE WHAT IT READS IS OF BULK AT MOST 1048576: true; the input reads as it did. -/
def grantSavesUptoRow : OpenClaim := { program := "ytpoblffgclmmlaagreatdoor", sum := "0ae5866ce5cb18230ee2855a26c5f782185ce162860a89e8748e09355f60cfd5", func := "exequatur/exequaturlaw20.GrantSaves", spec := "grantSaves", inPlace := ["internal/abi.NoEscape", "internal/bytealg.MakeNoZero", "maps.clone", "internal/bytealg.IndexByteString", "internal/bytealg.IndexString"], unfollowed := true, recurses := true, named := ["internal/strconv.uint64pow10", "math/bits.deBruijn32tab", "math/bits.deBruijn64tab", "exequatur/hash.begin", "exequatur/hash.rounds", "internal/bytealg.MaxLen", "strconv.ErrSyntax", "strconv.ErrRange"], apart := false, laid := [("math/bits.deBruijn32tab", laid_math_bits_deBruijn32tab), ("math/bits.deBruijn64tab", laid_math_bits_deBruijn64tab), ("internal/strconv.uint64pow10", laid_internal_strconv_uint64pow10), ("strconv.ErrRange", laid_strconv_ErrRange), ("strconv.ErrSyntax", laid_strconv_ErrSyntax), ("exequatur/hash.rounds", laid_exequatur_hash_rounds), ("exequatur/hash.begin", laid_exequatur_hash_begin)], narrowed := true }
def GrantSavesUptoSaid : Prop := grantSavesUptoRow.holds Tryz.pinned (OpenSpec.upto grantSavesSpec)

/-- 'exequaturlaw20.GrantSweeps', WHERE WHAT IT READS IS OF BULK AT MOST 1048576: true; the input reads as it did. -/
def grantSweepsUptoRow : OpenClaim := { program := "ytpoblffgclmmlaagreatdoor", sum := "0ae5866ce5cb18230ee2855a26c5f782185ce162860a89e8748e09355f60cfd5", func := "exequatur/exequaturlaw20.GrantSweeps", spec := "grantSweeps", inPlace := ["internal/abi.NoEscape", "internal/bytealg.MakeNoZero", "maps.clone", "internal/bytealg.IndexByteString", "internal/bytealg.IndexString"], unfollowed := true, recurses := true, named := ["exequatur/hash.begin", "exequatur/hash.rounds", "internal/strconv.uint64pow10", "math/bits.deBruijn32tab", "math/bits.deBruijn64tab", "internal/bytealg.MaxLen", "strconv.ErrSyntax", "strconv.ErrRange"], apart := false, laid := [("math/bits.deBruijn32tab", laid_math_bits_deBruijn32tab), ("math/bits.deBruijn64tab", laid_math_bits_deBruijn64tab), ("internal/strconv.uint64pow10", laid_internal_strconv_uint64pow10), ("strconv.ErrRange", laid_strconv_ErrRange), ("strconv.ErrSyntax", laid_strconv_ErrSyntax), ("exequatur/hash.rounds", laid_exequatur_hash_rounds), ("exequatur/hash.begin", laid_exequatur_hash_begin)], narrowed := true }
def GrantSweepsUptoSaid : Prop := grantSweepsUptoRow.holds Tryz.pinned (OpenSpec.upto grantSweepsSpec)

/-- 'exequaturlaw20.GrantRedeems', WHERE WHAT IT READS IS OF BULK AT MOST 1048576: true; the input reads as it did. -/
def grantRedeemsUptoRow : OpenClaim := { program := "ytpoblffgclmmlaagreatdoor", sum := "0ae5866ce5cb18230ee2855a26c5f782185ce162860a89e8748e09355f60cfd5", func := "exequatur/exequaturlaw20.GrantRedeems", spec := "grantRedeems", inPlace := ["internal/abi.NoEscape", "internal/bytealg.MakeNoZero", "maps.clone", "internal/bytealg.IndexByteString", "internal/bytealg.IndexString"], unfollowed := true, recurses := true, named := ["internal/strconv.uint64pow10", "math/bits.deBruijn32tab", "math/bits.deBruijn64tab", "exequatur/hash.begin", "exequatur/hash.rounds", "internal/bytealg.MaxLen", "strconv.ErrSyntax", "strconv.ErrRange"], apart := false, laid := [("math/bits.deBruijn32tab", laid_math_bits_deBruijn32tab), ("math/bits.deBruijn64tab", laid_math_bits_deBruijn64tab), ("internal/strconv.uint64pow10", laid_internal_strconv_uint64pow10), ("strconv.ErrRange", laid_strconv_ErrRange), ("strconv.ErrSyntax", laid_strconv_ErrSyntax), ("exequatur/hash.rounds", laid_exequatur_hash_rounds), ("exequatur/hash.begin", laid_exequatur_hash_begin)], narrowed := true }
def GrantRedeemsUptoSaid : Prop := grantRedeemsUptoRow.holds Tryz.pinned (OpenSpec.upto grantRedeemsSpec)

end Rows
end Go.Proofs.YtpoblffgclmmlaaGreatDoor
