/-
  No cell of these rows narrows 'for every input' (looked for: loops, veiled, ifaces, maps, wideKeys, modest, calm, conditions, laid).
  DERIVED. THE GIVEN ROWS OF THIS SEAT. 22 by the template 'for every input the law returns true; each argument reads behind the call as it read before'; 0 by the template 'total and deterministic' (their statements: YtnpkblidlmkagaaTotals.lean).
  GIVEN WITH THE SEED: the statements are not yours to turn. If you find one false, say at which input.
  Laid BY PROGRAM, IN A SANDBOX (cutbox-rows.mjs): the forced cells as the released guide's own fill.sh prints them over the translation a0f7fb80adb40a56… (all of the seat's roots in one cut). By AI agents, Wed Nov 11 2026. No macro, syntax, notation, axiom, sorry.
-/
import Derived.Test.YtnpkblidlmkagaaChecked
import GoSem.Claim
import GoSem.ClaimJoined
import GoSem.ClaimMapViews
import Derived.JoinedTies
import Derived.KernelRfl
namespace Go.Proofs.Ytnpkblidlmkagaa
/- THE CELL 'sum', in the pinned program and in every row, IS THE sha256 OF THE DUMP (.gsa) THAT YtnpkblidlmkagaaProg.lean LOADS. Nothing in Lean hashes anything: it is a label: what it is worth is what the hold of that sum in a sandbox is worth. -/
noncomputable def Try.pinned : Pinned := { name := "ytnpkblidlmkagaa", sum := "a0f7fb80adb40a56025492675f26e3cf0d152d95e8796f6eab81001cac186344", checked := Try.checked }
namespace Rows
def none {H : Type} : Left H := { results := [], args := [] }

/-- 'diapasonlaw04.DDMakes': WHATEVER THE INPUT: true; the input reads as it did. -/
def dDMakesSpec : ChangeSpec := { name := "dDMakes", fn := fun _ => fun
  | [d1, d2] => { results := [.lit (.bool true)], args := [d1, d2] }
  | _ => none }
def dDMakesRow : OpenClaim := { program := "ytnpkblidlmkagaa", sum := "a0f7fb80adb40a56025492675f26e3cf0d152d95e8796f6eab81001cac186344", func := "diapason/diapasonlaw04.DDMakes", spec := "dDMakes", inPlace := ["math.Float64frombits", "math.Float64bits"], plainKeys := false, apart := false }
def DDMakesSaid : Prop := dDMakesRow.holds Try.pinned (OpenSpec.ofChange dDMakesSpec)

/-- ITS FALSE NEIGHBOUR: 'it returns false'. Refute it at one input. -/
def dDMakesWrong : ChangeSpec := { name := "dDMakes", fn := fun _ => fun
  | [d1, d2] => { results := [.lit (.bool false)], args := [d1, d2] }
  | _ => none }
def DDMakesWrongFalsely : Prop := dDMakesRow.holds Try.pinned (OpenSpec.ofChange dDMakesWrong)

/-- 'diapasonlaw04.DDFloats': WHATEVER THE INPUT: true; the input reads as it did. -/
def dDFloatsSpec : ChangeSpec := { name := "dDFloats", fn := fun _ => fun
  | [d] => { results := [.lit (.bool true)], args := [d] }
  | _ => none }
def dDFloatsRow : OpenClaim := { program := "ytnpkblidlmkagaa", sum := "a0f7fb80adb40a56025492675f26e3cf0d152d95e8796f6eab81001cac186344", func := "diapason/diapasonlaw04.DDFloats", spec := "dDFloats", inPlace := ["math.Float64frombits", "math.Float64bits"], plainKeys := false, apart := false }
def DDFloatsSaid : Prop := dDFloatsRow.holds Try.pinned (OpenSpec.ofChange dDFloatsSpec)

/-- ITS FALSE NEIGHBOUR: 'it returns false'. Refute it at one input. -/
def dDFloatsWrong : ChangeSpec := { name := "dDFloats", fn := fun _ => fun
  | [d] => { results := [.lit (.bool false)], args := [d] }
  | _ => none }
def DDFloatsWrongFalsely : Prop := dDFloatsRow.holds Try.pinned (OpenSpec.ofChange dDFloatsWrong)

/-- 'diapasonlaw04.DDMuls': WHATEVER THE INPUT: true; the input reads as it did. -/
def dDMulsSpec : ChangeSpec := { name := "dDMuls", fn := fun _ => fun
  | [d1, d2] => { results := [.lit (.bool true)], args := [d1, d2] }
  | _ => none }
def dDMulsRow : OpenClaim := { program := "ytnpkblidlmkagaa", sum := "a0f7fb80adb40a56025492675f26e3cf0d152d95e8796f6eab81001cac186344", func := "diapason/diapasonlaw04.DDMuls", spec := "dDMuls", inPlace := ["math.Float64frombits", "math.Float64bits"], plainKeys := false, apart := false }
def DDMulsSaid : Prop := dDMulsRow.holds Try.pinned (OpenSpec.ofChange dDMulsSpec)

/-- ITS FALSE NEIGHBOUR: 'it returns false'. Refute it at one input. -/
def dDMulsWrong : ChangeSpec := { name := "dDMuls", fn := fun _ => fun
  | [d1, d2] => { results := [.lit (.bool false)], args := [d1, d2] }
  | _ => none }
def DDMulsWrongFalsely : Prop := dDMulsRow.holds Try.pinned (OpenSpec.ofChange dDMulsWrong)

/-- 'diapasonlaw04.DDAdds': WHATEVER THE INPUT: true; the input reads as it did. -/
def dDAddsSpec : ChangeSpec := { name := "dDAdds", fn := fun _ => fun
  | [d1, d2] => { results := [.lit (.bool true)], args := [d1, d2] }
  | _ => none }
def dDAddsRow : OpenClaim := { program := "ytnpkblidlmkagaa", sum := "a0f7fb80adb40a56025492675f26e3cf0d152d95e8796f6eab81001cac186344", func := "diapason/diapasonlaw04.DDAdds", spec := "dDAdds", inPlace := ["math.Float64frombits", "math.Float64bits"], plainKeys := false, apart := false }
def DDAddsSaid : Prop := dDAddsRow.holds Try.pinned (OpenSpec.ofChange dDAddsSpec)

/-- ITS FALSE NEIGHBOUR: 'it returns false'. Refute it at one input. -/
def dDAddsWrong : ChangeSpec := { name := "dDAdds", fn := fun _ => fun
  | [d1, d2] => { results := [.lit (.bool false)], args := [d1, d2] }
  | _ => none }
def DDAddsWrongFalsely : Prop := dDAddsRow.holds Try.pinned (OpenSpec.ofChange dDAddsWrong)

/-- 'diapasonlaw04.DDQuos': WHATEVER THE INPUT: true; the input reads as it did. -/
def dDQuosSpec : ChangeSpec := { name := "dDQuos", fn := fun _ => fun
  | [d1, d2] => { results := [.lit (.bool true)], args := [d1, d2] }
  | _ => none }
def dDQuosRow : OpenClaim := { program := "ytnpkblidlmkagaa", sum := "a0f7fb80adb40a56025492675f26e3cf0d152d95e8796f6eab81001cac186344", func := "diapason/diapasonlaw04.DDQuos", spec := "dDQuos", inPlace := ["math.Float64frombits", "math.Float64bits"], plainKeys := false, apart := false }
def DDQuosSaid : Prop := dDQuosRow.holds Try.pinned (OpenSpec.ofChange dDQuosSpec)

/-- ITS FALSE NEIGHBOUR: 'it returns false'. Refute it at one input. -/
def dDQuosWrong : ChangeSpec := { name := "dDQuos", fn := fun _ => fun
  | [d1, d2] => { results := [.lit (.bool false)], args := [d1, d2] }
  | _ => none }
def DDQuosWrongFalsely : Prop := dDQuosRow.holds Try.pinned (OpenSpec.ofChange dDQuosWrong)

/-- 'diapasonlaw05.TrigOctants': WHATEVER THE INPUT: true; the input reads as it did. -/
def trigOctantsSpec : ChangeSpec := { name := "trigOctants", fn := fun _ => fun
  | [d1, d2] => { results := [.lit (.bool true)], args := [d1, d2] }
  | _ => none }
def trigOctantsRow : OpenClaim := { program := "ytnpkblidlmkagaa", sum := "a0f7fb80adb40a56025492675f26e3cf0d152d95e8796f6eab81001cac186344", func := "diapason/diapasonlaw05.TrigOctants", spec := "trigOctants", plainKeys := false, apart := false }
def TrigOctantsSaid : Prop := trigOctantsRow.holds Try.pinned (OpenSpec.ofChange trigOctantsSpec)

/-- ITS FALSE NEIGHBOUR: 'it returns false'. Refute it at one input. -/
def trigOctantsWrong : ChangeSpec := { name := "trigOctants", fn := fun _ => fun
  | [d1, d2] => { results := [.lit (.bool false)], args := [d1, d2] }
  | _ => none }
def TrigOctantsWrongFalsely : Prop := trigOctantsRow.holds Try.pinned (OpenSpec.ofChange trigOctantsWrong)

/-- 'diapasonlaw05.TrigTurned': WHATEVER THE INPUT: true; the input reads as it did. -/
def trigTurnedSpec : ChangeSpec := { name := "trigTurned", fn := fun _ => fun
  | [d1, d2] => { results := [.lit (.bool true)], args := [d1, d2] }
  | _ => none }
def trigTurnedRow : OpenClaim := { program := "ytnpkblidlmkagaa", sum := "a0f7fb80adb40a56025492675f26e3cf0d152d95e8796f6eab81001cac186344", func := "diapason/diapasonlaw05.TrigTurned", spec := "trigTurned", plainKeys := false, apart := false }
def TrigTurnedSaid : Prop := trigTurnedRow.holds Try.pinned (OpenSpec.ofChange trigTurnedSpec)

/-- ITS FALSE NEIGHBOUR: 'it returns false'. Refute it at one input. -/
def trigTurnedWrong : ChangeSpec := { name := "trigTurned", fn := fun _ => fun
  | [d1, d2] => { results := [.lit (.bool false)], args := [d1, d2] }
  | _ => none }
def TrigTurnedWrongFalsely : Prop := trigTurnedRow.holds Try.pinned (OpenSpec.ofChange trigTurnedWrong)

/-- 'diapasonlaw05.TrigExact': WHATEVER THE INPUT: true; the input reads as it did. -/
def trigExactSpec : ChangeSpec := { name := "trigExact", fn := fun _ => fun
  | [d1, d2] => { results := [.lit (.bool true)], args := [d1, d2] }
  | _ => none }
def trigExactRow : OpenClaim := { program := "ytnpkblidlmkagaa", sum := "a0f7fb80adb40a56025492675f26e3cf0d152d95e8796f6eab81001cac186344", func := "diapason/diapasonlaw05.TrigExact", spec := "trigExact", inPlace := ["math.Float64bits"], plainKeys := false, apart := false }
def TrigExactSaid : Prop := trigExactRow.holds Try.pinned (OpenSpec.ofChange trigExactSpec)

/-- ITS FALSE NEIGHBOUR: 'it returns false'. Refute it at one input. -/
def trigExactWrong : ChangeSpec := { name := "trigExact", fn := fun _ => fun
  | [d1, d2] => { results := [.lit (.bool false)], args := [d1, d2] }
  | _ => none }
def TrigExactWrongFalsely : Prop := trigExactRow.holds Try.pinned (OpenSpec.ofChange trigExactWrong)

/-- 'diapasonlaw05.TrigTurns': WHATEVER THE INPUT: true; the input reads as it did. -/
def trigTurnsSpec : ChangeSpec := { name := "trigTurns", fn := fun _ => fun
  | [d1, d2] => { results := [.lit (.bool true)], args := [d1, d2] }
  | _ => none }
def trigTurnsRow : OpenClaim := { program := "ytnpkblidlmkagaa", sum := "a0f7fb80adb40a56025492675f26e3cf0d152d95e8796f6eab81001cac186344", func := "diapason/diapasonlaw05.TrigTurns", spec := "trigTurns", inPlace := ["math.Float64bits"], plainKeys := false, apart := false }
def TrigTurnsSaid : Prop := trigTurnsRow.holds Try.pinned (OpenSpec.ofChange trigTurnsSpec)

/-- ITS FALSE NEIGHBOUR: 'it returns false'. Refute it at one input. -/
def trigTurnsWrong : ChangeSpec := { name := "trigTurns", fn := fun _ => fun
  | [d1, d2] => { results := [.lit (.bool false)], args := [d1, d2] }
  | _ => none }
def TrigTurnsWrongFalsely : Prop := trigTurnsRow.holds Try.pinned (OpenSpec.ofChange trigTurnsWrong)

/-- 'diapasonlaw05.TrigCircle': WHATEVER THE INPUT: true; the input reads as it did. -/
def trigCircleSpec : ChangeSpec := { name := "trigCircle", fn := fun _ => fun
  | [d1, d2] => { results := [.lit (.bool true)], args := [d1, d2] }
  | _ => none }
def trigCircleRow : OpenClaim := { program := "ytnpkblidlmkagaa", sum := "a0f7fb80adb40a56025492675f26e3cf0d152d95e8796f6eab81001cac186344", func := "diapason/diapasonlaw05.TrigCircle", spec := "trigCircle", inPlace := ["math.Float64bits", "math.Float64frombits"], plainKeys := false, apart := false }
def TrigCircleSaid : Prop := trigCircleRow.holds Try.pinned (OpenSpec.ofChange trigCircleSpec)

/-- ITS FALSE NEIGHBOUR: 'it returns false'. Refute it at one input. -/
def trigCircleWrong : ChangeSpec := { name := "trigCircle", fn := fun _ => fun
  | [d1, d2] => { results := [.lit (.bool false)], args := [d1, d2] }
  | _ => none }
def TrigCircleWrongFalsely : Prop := trigCircleRow.holds Try.pinned (OpenSpec.ofChange trigCircleWrong)

/-- 'diapasonlaw05.TrigAdds': WHATEVER THE INPUT: true; the input reads as it did. -/
def trigAddsSpec : ChangeSpec := { name := "trigAdds", fn := fun _ => fun
  | [d1, d2, d3] => { results := [.lit (.bool true)], args := [d1, d2, d3] }
  | _ => none }
def trigAddsRow : OpenClaim := { program := "ytnpkblidlmkagaa", sum := "a0f7fb80adb40a56025492675f26e3cf0d152d95e8796f6eab81001cac186344", func := "diapason/diapasonlaw05.TrigAdds", spec := "trigAdds", inPlace := ["math.Float64bits", "math.Float64frombits"], plainKeys := false, apart := false }
def TrigAddsSaid : Prop := trigAddsRow.holds Try.pinned (OpenSpec.ofChange trigAddsSpec)

/-- ITS FALSE NEIGHBOUR: 'it returns false'. Refute it at one input. -/
def trigAddsWrong : ChangeSpec := { name := "trigAdds", fn := fun _ => fun
  | [d1, d2, d3] => { results := [.lit (.bool false)], args := [d1, d2, d3] }
  | _ => none }
def TrigAddsWrongFalsely : Prop := trigAddsRow.holds Try.pinned (OpenSpec.ofChange trigAddsWrong)

/-- 'diapasonlaw03.EftSums': WHATEVER THE INPUT: true; the input reads as it did. -/
def eftSumsSpec : ChangeSpec := { name := "eftSums", fn := fun _ => fun
  | [d1, d2] => { results := [.lit (.bool true)], args := [d1, d2] }
  | _ => none }
def eftSumsRow : OpenClaim := { program := "ytnpkblidlmkagaa", sum := "a0f7fb80adb40a56025492675f26e3cf0d152d95e8796f6eab81001cac186344", func := "diapason/diapasonlaw03.EftSums", spec := "eftSums", inPlace := ["math.Float64frombits", "math.Float64bits"], plainKeys := false, apart := false }
def EftSumsSaid : Prop := eftSumsRow.holds Try.pinned (OpenSpec.ofChange eftSumsSpec)

/-- ITS FALSE NEIGHBOUR: 'it returns false'. Refute it at one input. -/
def eftSumsWrong : ChangeSpec := { name := "eftSums", fn := fun _ => fun
  | [d1, d2] => { results := [.lit (.bool false)], args := [d1, d2] }
  | _ => none }
def EftSumsWrongFalsely : Prop := eftSumsRow.holds Try.pinned (OpenSpec.ofChange eftSumsWrong)

/-- 'diapasonlaw03.EftMild': WHATEVER THE INPUT: true; the input reads as it did. -/
def eftMildSpec : ChangeSpec := { name := "eftMild", fn := fun _ => fun
  | [d] => { results := [.lit (.bool true)], args := [d] }
  | _ => none }
def eftMildRow : OpenClaim := { program := "ytnpkblidlmkagaa", sum := "a0f7fb80adb40a56025492675f26e3cf0d152d95e8796f6eab81001cac186344", func := "diapason/diapasonlaw03.EftMild", spec := "eftMild", inPlace := ["math.Float64bits", "math.Float64frombits"], plainKeys := false, apart := false }
def EftMildSaid : Prop := eftMildRow.holds Try.pinned (OpenSpec.ofChange eftMildSpec)

/-- ITS FALSE NEIGHBOUR: 'it returns false'. Refute it at one input. -/
def eftMildWrong : ChangeSpec := { name := "eftMild", fn := fun _ => fun
  | [d] => { results := [.lit (.bool false)], args := [d] }
  | _ => none }
def EftMildWrongFalsely : Prop := eftMildRow.holds Try.pinned (OpenSpec.ofChange eftMildWrong)

/-- 'diapasonlaw03.EftTops': WHATEVER THE INPUT: true; the input reads as it did. -/
def eftTopsSpec : ChangeSpec := { name := "eftTops", fn := fun _ => fun
  | [d] => { results := [.lit (.bool true)], args := [d] }
  | _ => none }
def eftTopsRow : OpenClaim := { program := "ytnpkblidlmkagaa", sum := "a0f7fb80adb40a56025492675f26e3cf0d152d95e8796f6eab81001cac186344", func := "diapason/diapasonlaw03.EftTops", spec := "eftTops", inPlace := ["math.Float64frombits", "math.Float64bits"], plainKeys := false, apart := false }
def EftTopsSaid : Prop := eftTopsRow.holds Try.pinned (OpenSpec.ofChange eftTopsSpec)

/-- ITS FALSE NEIGHBOUR: 'it returns false'. Refute it at one input. -/
def eftTopsWrong : ChangeSpec := { name := "eftTops", fn := fun _ => fun
  | [d] => { results := [.lit (.bool false)], args := [d] }
  | _ => none }
def EftTopsWrongFalsely : Prop := eftTopsRow.holds Try.pinned (OpenSpec.ofChange eftTopsWrong)

/-- 'diapasonlaw03.EftSplits': WHATEVER THE INPUT: true; the input reads as it did. -/
def eftSplitsSpec : ChangeSpec := { name := "eftSplits", fn := fun _ => fun
  | [d] => { results := [.lit (.bool true)], args := [d] }
  | _ => none }
def eftSplitsRow : OpenClaim := { program := "ytnpkblidlmkagaa", sum := "a0f7fb80adb40a56025492675f26e3cf0d152d95e8796f6eab81001cac186344", func := "diapason/diapasonlaw03.EftSplits", spec := "eftSplits", inPlace := ["math.Float64frombits", "math.Float64bits"], plainKeys := false, apart := false }
def EftSplitsSaid : Prop := eftSplitsRow.holds Try.pinned (OpenSpec.ofChange eftSplitsSpec)

/-- ITS FALSE NEIGHBOUR: 'it returns false'. Refute it at one input. -/
def eftSplitsWrong : ChangeSpec := { name := "eftSplits", fn := fun _ => fun
  | [d] => { results := [.lit (.bool false)], args := [d] }
  | _ => none }
def EftSplitsWrongFalsely : Prop := eftSplitsRow.holds Try.pinned (OpenSpec.ofChange eftSplitsWrong)

/-- 'diapasonlaw03.EftProds': WHATEVER THE INPUT: true; the input reads as it did. -/
def eftProdsSpec : ChangeSpec := { name := "eftProds", fn := fun _ => fun
  | [d1, d2] => { results := [.lit (.bool true)], args := [d1, d2] }
  | _ => none }
def eftProdsRow : OpenClaim := { program := "ytnpkblidlmkagaa", sum := "a0f7fb80adb40a56025492675f26e3cf0d152d95e8796f6eab81001cac186344", func := "diapason/diapasonlaw03.EftProds", spec := "eftProds", inPlace := ["math.Float64frombits", "math.Float64bits"], plainKeys := false, apart := false }
def EftProdsSaid : Prop := eftProdsRow.holds Try.pinned (OpenSpec.ofChange eftProdsSpec)

/-- ITS FALSE NEIGHBOUR: 'it returns false'. Refute it at one input. -/
def eftProdsWrong : ChangeSpec := { name := "eftProds", fn := fun _ => fun
  | [d1, d2] => { results := [.lit (.bool false)], args := [d1, d2] }
  | _ => none }
def EftProdsWrongFalsely : Prop := eftProdsRow.holds Try.pinned (OpenSpec.ofChange eftProdsWrong)

/-- 'diapasonlaw03.EftTurned': WHATEVER THE INPUT: true; the input reads as it did. -/
def eftTurnedSpec : ChangeSpec := { name := "eftTurned", fn := fun _ => fun
  | [d1, d2] => { results := [.lit (.bool true)], args := [d1, d2] }
  | _ => none }
def eftTurnedRow : OpenClaim := { program := "ytnpkblidlmkagaa", sum := "a0f7fb80adb40a56025492675f26e3cf0d152d95e8796f6eab81001cac186344", func := "diapason/diapasonlaw03.EftTurned", spec := "eftTurned", inPlace := ["math.Float64frombits", "math.Float64bits"], plainKeys := false, apart := false }
def EftTurnedSaid : Prop := eftTurnedRow.holds Try.pinned (OpenSpec.ofChange eftTurnedSpec)

/-- ITS FALSE NEIGHBOUR: 'it returns false'. Refute it at one input. -/
def eftTurnedWrong : ChangeSpec := { name := "eftTurned", fn := fun _ => fun
  | [d1, d2] => { results := [.lit (.bool false)], args := [d1, d2] }
  | _ => none }
def EftTurnedWrongFalsely : Prop := eftTurnedRow.holds Try.pinned (OpenSpec.ofChange eftTurnedWrong)

/-- 'diapasonlaw15.CacheTables': WHATEVER THE INPUT: true; the input reads as it did. -/
def cacheTablesSpec : ChangeSpec := { name := "cacheTables", fn := fun _ => fun
  | [d1, d2, d3] => { results := [.lit (.bool true)], args := [d1, d2, d3] }
  | _ => none }
def cacheTablesRow : OpenClaim := { program := "ytnpkblidlmkagaa", sum := "a0f7fb80adb40a56025492675f26e3cf0d152d95e8796f6eab81001cac186344", func := "diapason/diapasonlaw15.CacheTables", spec := "cacheTables", inPlace := ["slices.overlaps[diapason/cache.Key]"], plainKeys := false, apart := false }
def CacheTablesSaid : Prop := cacheTablesRow.holds Try.pinned (OpenSpec.ofChange cacheTablesSpec)

/-- ITS FALSE NEIGHBOUR: 'it returns false'. Refute it at one input. -/
def cacheTablesWrong : ChangeSpec := { name := "cacheTables", fn := fun _ => fun
  | [d1, d2, d3] => { results := [.lit (.bool false)], args := [d1, d2, d3] }
  | _ => none }
def CacheTablesWrongFalsely : Prop := cacheTablesRow.holds Try.pinned (OpenSpec.ofChange cacheTablesWrong)

/-- 'diapasonlaw15.CacheRoom': WHATEVER THE INPUT: true; the input reads as it did. -/
def cacheRoomSpec : ChangeSpec := { name := "cacheRoom", fn := fun _ => fun
  | [d1, d2] => { results := [.lit (.bool true)], args := [d1, d2] }
  | _ => none }
def cacheRoomRow : OpenClaim := { program := "ytnpkblidlmkagaa", sum := "a0f7fb80adb40a56025492675f26e3cf0d152d95e8796f6eab81001cac186344", func := "diapason/diapasonlaw15.CacheRoom", spec := "cacheRoom", inPlace := ["slices.overlaps[diapason/cache.Key]"], plainKeys := false, apart := false }
def CacheRoomSaid : Prop := cacheRoomRow.holds Try.pinned (OpenSpec.ofChange cacheRoomSpec)

/-- ITS FALSE NEIGHBOUR: 'it returns false'. Refute it at one input. -/
def cacheRoomWrong : ChangeSpec := { name := "cacheRoom", fn := fun _ => fun
  | [d1, d2] => { results := [.lit (.bool false)], args := [d1, d2] }
  | _ => none }
def CacheRoomWrongFalsely : Prop := cacheRoomRow.holds Try.pinned (OpenSpec.ofChange cacheRoomWrong)

/-- 'diapasonlaw15.CacheRoots': WHATEVER THE INPUT: true; the input reads as it did. -/
def cacheRootsSpec : ChangeSpec := { name := "cacheRoots", fn := fun _ => fun
  | [d1, d2, d3] => { results := [.lit (.bool true)], args := [d1, d2, d3] }
  | _ => none }
def cacheRootsRow : OpenClaim := { program := "ytnpkblidlmkagaa", sum := "a0f7fb80adb40a56025492675f26e3cf0d152d95e8796f6eab81001cac186344", func := "diapason/diapasonlaw15.CacheRoots", spec := "cacheRoots", inPlace := ["slices.overlaps[diapason/cache.Key]"], plainKeys := false, apart := false }
def CacheRootsSaid : Prop := cacheRootsRow.holds Try.pinned (OpenSpec.ofChange cacheRootsSpec)

/-- ITS FALSE NEIGHBOUR: 'it returns false'. Refute it at one input. -/
def cacheRootsWrong : ChangeSpec := { name := "cacheRoots", fn := fun _ => fun
  | [d1, d2, d3] => { results := [.lit (.bool false)], args := [d1, d2, d3] }
  | _ => none }
def CacheRootsWrongFalsely : Prop := cacheRootsRow.holds Try.pinned (OpenSpec.ofChange cacheRootsWrong)

/-- 'diapasonlaw15.CacheKeeps': WHATEVER THE INPUT: true; the input reads as it did. -/
def cacheKeepsSpec : ChangeSpec := { name := "cacheKeeps", fn := fun _ => fun
  | [d1, d2] => { results := [.lit (.bool true)], args := [d1, d2] }
  | _ => none }
def cacheKeepsRow : OpenClaim := { program := "ytnpkblidlmkagaa", sum := "a0f7fb80adb40a56025492675f26e3cf0d152d95e8796f6eab81001cac186344", func := "diapason/diapasonlaw15.CacheKeeps", spec := "cacheKeeps", inPlace := ["slices.overlaps[diapason/cache.Key]"], plainKeys := false, apart := false }
def CacheKeepsSaid : Prop := cacheKeepsRow.holds Try.pinned (OpenSpec.ofChange cacheKeepsSpec)

/-- ITS FALSE NEIGHBOUR: 'it returns false'. Refute it at one input. -/
def cacheKeepsWrong : ChangeSpec := { name := "cacheKeeps", fn := fun _ => fun
  | [d1, d2] => { results := [.lit (.bool false)], args := [d1, d2] }
  | _ => none }
def CacheKeepsWrongFalsely : Prop := cacheKeepsRow.holds Try.pinned (OpenSpec.ofChange cacheKeepsWrong)

/-- 'diapasonlaw15.CacheTwins': WHATEVER THE INPUT: true; the input reads as it did. -/
def cacheTwinsSpec : ChangeSpec := { name := "cacheTwins", fn := fun _ => fun
  | [d1, d2] => { results := [.lit (.bool true)], args := [d1, d2] }
  | _ => none }
def cacheTwinsRow : OpenClaim := { program := "ytnpkblidlmkagaa", sum := "a0f7fb80adb40a56025492675f26e3cf0d152d95e8796f6eab81001cac186344", func := "diapason/diapasonlaw15.CacheTwins", spec := "cacheTwins", inPlace := ["slices.overlaps[diapason/cache.Key]"], plainKeys := false, apart := false }
def CacheTwinsSaid : Prop := cacheTwinsRow.holds Try.pinned (OpenSpec.ofChange cacheTwinsSpec)

/-- ITS FALSE NEIGHBOUR: 'it returns false'. Refute it at one input. -/
def cacheTwinsWrong : ChangeSpec := { name := "cacheTwins", fn := fun _ => fun
  | [d1, d2] => { results := [.lit (.bool false)], args := [d1, d2] }
  | _ => none }
def CacheTwinsWrongFalsely : Prop := cacheTwinsRow.holds Try.pinned (OpenSpec.ofChange cacheTwinsWrong)

/- THE SECOND FORM. 'bulk': how many values and letters a reading holds, each counted each time it is reached (what is shared counts as often as it is met; a slice's spare places count too). A statement '..UptoSaid' is the law's where the arguments, and the package variables that the reading takes, are together of bulk at most 1048576: NARROWER than '..Said'. Prove '..Said' where nothing that the law and all that it calls make is longer than what came in: it says more and counts as full. Else prove '..UptoSaid'. A law counts once. -/
mutual
def uptoBulk {H : Type} : DataW H → Nat
  | .lit (.string bytes) => bytes.length + 1
  | .lit _ => 1
  | .nil => 1
  | .ptr d => uptoBulk d + 1
  | .slice elems spare => uptoBulkAll elems + uptoBulkAll spare + 1
  | .agg parts => uptoBulkAll parts + 1
  | .iface _ d => uptoBulk d + 1
  | .map entries => uptoBulkEntries entries + 1
  | .held _ => 1
def uptoBulkAll {H : Type} : List (DataW H) → Nat
  | [] => 0
  | d :: r => uptoBulk d + uptoBulkAll r
def uptoBulkEntries {H : Type} : List (Lit × DataW H) → Nat
  | [] => 0
  | x :: r => uptoBulkEntry x + uptoBulkEntries r
def uptoBulkEntry {H : Type} : Lit × DataW H → Nat
  | (.string bytes, d) => bytes.length + uptoBulk d + 1
  | (_, d) => uptoBulk d + 1
 end
def uptoSmall : (H : Type) → List (DataW H) → Bool := fun _ ds => decide (uptoBulkAll ds ≤ 1048576)
def OpenSpec.upto (s : _root_.Go.ChangeSpec) : _root_.Go.OpenSpec := { _root_.Go.OpenSpec.ofChange s with cond := some uptoSmall }

/-- 'diapasonlaw04.DDMakes', WHERE WHAT IT READS IS OF BULK AT MOST 1048576: true; the input reads as it did. -/
def dDMakesUptoRow : OpenClaim := { program := "ytnpkblidlmkagaa", sum := "a0f7fb80adb40a56025492675f26e3cf0d152d95e8796f6eab81001cac186344", func := "diapason/diapasonlaw04.DDMakes", spec := "dDMakes", inPlace := ["math.Float64frombits", "math.Float64bits"], plainKeys := false, apart := false, narrowed := true }
def DDMakesUptoSaid : Prop := dDMakesUptoRow.holds Try.pinned (OpenSpec.upto dDMakesSpec)

/-- 'diapasonlaw04.DDFloats', WHERE WHAT IT READS IS OF BULK AT MOST 1048576: true; the input reads as it did. -/
def dDFloatsUptoRow : OpenClaim := { program := "ytnpkblidlmkagaa", sum := "a0f7fb80adb40a56025492675f26e3cf0d152d95e8796f6eab81001cac186344", func := "diapason/diapasonlaw04.DDFloats", spec := "dDFloats", inPlace := ["math.Float64frombits", "math.Float64bits"], plainKeys := false, apart := false, narrowed := true }
def DDFloatsUptoSaid : Prop := dDFloatsUptoRow.holds Try.pinned (OpenSpec.upto dDFloatsSpec)

/-- 'diapasonlaw04.DDMuls', WHERE WHAT IT READS IS OF BULK AT MOST 1048576: true; the input reads as it did. -/
def dDMulsUptoRow : OpenClaim := { program := "ytnpkblidlmkagaa", sum := "a0f7fb80adb40a56025492675f26e3cf0d152d95e8796f6eab81001cac186344", func := "diapason/diapasonlaw04.DDMuls", spec := "dDMuls", inPlace := ["math.Float64frombits", "math.Float64bits"], plainKeys := false, apart := false, narrowed := true }
def DDMulsUptoSaid : Prop := dDMulsUptoRow.holds Try.pinned (OpenSpec.upto dDMulsSpec)

/-- 'diapasonlaw04.DDAdds', WHERE WHAT IT READS IS OF BULK AT MOST 1048576: true; the input reads as it did. -/
def dDAddsUptoRow : OpenClaim := { program := "ytnpkblidlmkagaa", sum := "a0f7fb80adb40a56025492675f26e3cf0d152d95e8796f6eab81001cac186344", func := "diapason/diapasonlaw04.DDAdds", spec := "dDAdds", inPlace := ["math.Float64frombits", "math.Float64bits"], plainKeys := false, apart := false, narrowed := true }
def DDAddsUptoSaid : Prop := dDAddsUptoRow.holds Try.pinned (OpenSpec.upto dDAddsSpec)

/-- 'diapasonlaw04.DDQuos', WHERE WHAT IT READS IS OF BULK AT MOST 1048576: true; the input reads as it did. -/
def dDQuosUptoRow : OpenClaim := { program := "ytnpkblidlmkagaa", sum := "a0f7fb80adb40a56025492675f26e3cf0d152d95e8796f6eab81001cac186344", func := "diapason/diapasonlaw04.DDQuos", spec := "dDQuos", inPlace := ["math.Float64frombits", "math.Float64bits"], plainKeys := false, apart := false, narrowed := true }
def DDQuosUptoSaid : Prop := dDQuosUptoRow.holds Try.pinned (OpenSpec.upto dDQuosSpec)

/-- 'diapasonlaw05.TrigOctants', WHERE WHAT IT READS IS OF BULK AT MOST 1048576: true; the input reads as it did. -/
def trigOctantsUptoRow : OpenClaim := { program := "ytnpkblidlmkagaa", sum := "a0f7fb80adb40a56025492675f26e3cf0d152d95e8796f6eab81001cac186344", func := "diapason/diapasonlaw05.TrigOctants", spec := "trigOctants", plainKeys := false, apart := false, narrowed := true }
def TrigOctantsUptoSaid : Prop := trigOctantsUptoRow.holds Try.pinned (OpenSpec.upto trigOctantsSpec)

/-- 'diapasonlaw05.TrigTurned', WHERE WHAT IT READS IS OF BULK AT MOST 1048576: true; the input reads as it did. -/
def trigTurnedUptoRow : OpenClaim := { program := "ytnpkblidlmkagaa", sum := "a0f7fb80adb40a56025492675f26e3cf0d152d95e8796f6eab81001cac186344", func := "diapason/diapasonlaw05.TrigTurned", spec := "trigTurned", plainKeys := false, apart := false, narrowed := true }
def TrigTurnedUptoSaid : Prop := trigTurnedUptoRow.holds Try.pinned (OpenSpec.upto trigTurnedSpec)

/-- 'diapasonlaw05.TrigExact', WHERE WHAT IT READS IS OF BULK AT MOST 1048576: true; the input reads as it did. -/
def trigExactUptoRow : OpenClaim := { program := "ytnpkblidlmkagaa", sum := "a0f7fb80adb40a56025492675f26e3cf0d152d95e8796f6eab81001cac186344", func := "diapason/diapasonlaw05.TrigExact", spec := "trigExact", inPlace := ["math.Float64bits"], plainKeys := false, apart := false, narrowed := true }
def TrigExactUptoSaid : Prop := trigExactUptoRow.holds Try.pinned (OpenSpec.upto trigExactSpec)

/-- 'diapasonlaw05.TrigTurns', WHERE WHAT IT READS IS OF BULK AT MOST 1048576: true; the input reads as it did. -/
def trigTurnsUptoRow : OpenClaim := { program := "ytnpkblidlmkagaa", sum := "a0f7fb80adb40a56025492675f26e3cf0d152d95e8796f6eab81001cac186344", func := "diapason/diapasonlaw05.TrigTurns", spec := "trigTurns", inPlace := ["math.Float64bits"], plainKeys := false, apart := false, narrowed := true }
def TrigTurnsUptoSaid : Prop := trigTurnsUptoRow.holds Try.pinned (OpenSpec.upto trigTurnsSpec)

/-- 'diapasonlaw05.TrigCircle', WHERE WHAT IT READS IS OF BULK AT MOST 1048576: true; the input reads as it did. -/
def trigCircleUptoRow : OpenClaim := { program := "ytnpkblidlmkagaa", sum := "a0f7fb80adb40a56025492675f26e3cf0d152d95e8796f6eab81001cac186344", func := "diapason/diapasonlaw05.TrigCircle", spec := "trigCircle", inPlace := ["math.Float64bits", "math.Float64frombits"], plainKeys := false, apart := false, narrowed := true }
def TrigCircleUptoSaid : Prop := trigCircleUptoRow.holds Try.pinned (OpenSpec.upto trigCircleSpec)

/-- 'diapasonlaw05.TrigAdds', WHERE WHAT IT READS IS OF BULK AT MOST 1048576: true; the input reads as it did. -/
def trigAddsUptoRow : OpenClaim := { program := "ytnpkblidlmkagaa", sum := "a0f7fb80adb40a56025492675f26e3cf0d152d95e8796f6eab81001cac186344", func := "diapason/diapasonlaw05.TrigAdds", spec := "trigAdds", inPlace := ["math.Float64bits", "math.Float64frombits"], plainKeys := false, apart := false, narrowed := true }
def TrigAddsUptoSaid : Prop := trigAddsUptoRow.holds Try.pinned (OpenSpec.upto trigAddsSpec)

/-- 'diapasonlaw03.EftSums', WHERE WHAT IT READS IS OF BULK AT MOST 1048576: true; the input reads as it did. -/
def eftSumsUptoRow : OpenClaim := { program := "ytnpkblidlmkagaa", sum := "a0f7fb80adb40a56025492675f26e3cf0d152d95e8796f6eab81001cac186344", func := "diapason/diapasonlaw03.EftSums", spec := "eftSums", inPlace := ["math.Float64frombits", "math.Float64bits"], plainKeys := false, apart := false, narrowed := true }
def EftSumsUptoSaid : Prop := eftSumsUptoRow.holds Try.pinned (OpenSpec.upto eftSumsSpec)

/-- 'diapasonlaw03.EftMild', WHERE WHAT IT READS IS OF BULK AT MOST 1048576: true; the input reads as it did. -/
def eftMildUptoRow : OpenClaim := { program := "ytnpkblidlmkagaa", sum := "a0f7fb80adb40a56025492675f26e3cf0d152d95e8796f6eab81001cac186344", func := "diapason/diapasonlaw03.EftMild", spec := "eftMild", inPlace := ["math.Float64bits", "math.Float64frombits"], plainKeys := false, apart := false, narrowed := true }
def EftMildUptoSaid : Prop := eftMildUptoRow.holds Try.pinned (OpenSpec.upto eftMildSpec)

/-- 'diapasonlaw03.EftTops', WHERE WHAT IT READS IS OF BULK AT MOST 1048576: true; the input reads as it did. -/
def eftTopsUptoRow : OpenClaim := { program := "ytnpkblidlmkagaa", sum := "a0f7fb80adb40a56025492675f26e3cf0d152d95e8796f6eab81001cac186344", func := "diapason/diapasonlaw03.EftTops", spec := "eftTops", inPlace := ["math.Float64frombits", "math.Float64bits"], plainKeys := false, apart := false, narrowed := true }
def EftTopsUptoSaid : Prop := eftTopsUptoRow.holds Try.pinned (OpenSpec.upto eftTopsSpec)

/-- 'diapasonlaw03.EftSplits', WHERE WHAT IT READS IS OF BULK AT MOST 1048576: true; the input reads as it did. -/
def eftSplitsUptoRow : OpenClaim := { program := "ytnpkblidlmkagaa", sum := "a0f7fb80adb40a56025492675f26e3cf0d152d95e8796f6eab81001cac186344", func := "diapason/diapasonlaw03.EftSplits", spec := "eftSplits", inPlace := ["math.Float64frombits", "math.Float64bits"], plainKeys := false, apart := false, narrowed := true }
def EftSplitsUptoSaid : Prop := eftSplitsUptoRow.holds Try.pinned (OpenSpec.upto eftSplitsSpec)

/-- 'diapasonlaw03.EftProds', WHERE WHAT IT READS IS OF BULK AT MOST 1048576: true; the input reads as it did. -/
def eftProdsUptoRow : OpenClaim := { program := "ytnpkblidlmkagaa", sum := "a0f7fb80adb40a56025492675f26e3cf0d152d95e8796f6eab81001cac186344", func := "diapason/diapasonlaw03.EftProds", spec := "eftProds", inPlace := ["math.Float64frombits", "math.Float64bits"], plainKeys := false, apart := false, narrowed := true }
def EftProdsUptoSaid : Prop := eftProdsUptoRow.holds Try.pinned (OpenSpec.upto eftProdsSpec)

/-- 'diapasonlaw03.EftTurned', WHERE WHAT IT READS IS OF BULK AT MOST 1048576: true; the input reads as it did. -/
def eftTurnedUptoRow : OpenClaim := { program := "ytnpkblidlmkagaa", sum := "a0f7fb80adb40a56025492675f26e3cf0d152d95e8796f6eab81001cac186344", func := "diapason/diapasonlaw03.EftTurned", spec := "eftTurned", inPlace := ["math.Float64frombits", "math.Float64bits"], plainKeys := false, apart := false, narrowed := true }
def EftTurnedUptoSaid : Prop := eftTurnedUptoRow.holds Try.pinned (OpenSpec.upto eftTurnedSpec)

/-- 'diapasonlaw15.CacheTables', WHERE WHAT IT READS IS OF BULK AT MOST 1048576: true; the input reads as it did. -/
def cacheTablesUptoRow : OpenClaim := { program := "ytnpkblidlmkagaa", sum := "a0f7fb80adb40a56025492675f26e3cf0d152d95e8796f6eab81001cac186344", func := "diapason/diapasonlaw15.CacheTables", spec := "cacheTables", inPlace := ["slices.overlaps[diapason/cache.Key]"], plainKeys := false, apart := false, narrowed := true }
def CacheTablesUptoSaid : Prop := cacheTablesUptoRow.holds Try.pinned (OpenSpec.upto cacheTablesSpec)

/-- 'diapasonlaw15.CacheRoom', WHERE WHAT IT READS IS OF BULK AT MOST 1048576: true; the input reads as it did. -/
def cacheRoomUptoRow : OpenClaim := { program := "ytnpkblidlmkagaa", sum := "a0f7fb80adb40a56025492675f26e3cf0d152d95e8796f6eab81001cac186344", func := "diapason/diapasonlaw15.CacheRoom", spec := "cacheRoom", inPlace := ["slices.overlaps[diapason/cache.Key]"], plainKeys := false, apart := false, narrowed := true }
def CacheRoomUptoSaid : Prop := cacheRoomUptoRow.holds Try.pinned (OpenSpec.upto cacheRoomSpec)

/-- 'diapasonlaw15.CacheRoots', WHERE WHAT IT READS IS OF BULK AT MOST 1048576: true; the input reads as it did. -/
def cacheRootsUptoRow : OpenClaim := { program := "ytnpkblidlmkagaa", sum := "a0f7fb80adb40a56025492675f26e3cf0d152d95e8796f6eab81001cac186344", func := "diapason/diapasonlaw15.CacheRoots", spec := "cacheRoots", inPlace := ["slices.overlaps[diapason/cache.Key]"], plainKeys := false, apart := false, narrowed := true }
def CacheRootsUptoSaid : Prop := cacheRootsUptoRow.holds Try.pinned (OpenSpec.upto cacheRootsSpec)

/-- 'diapasonlaw15.CacheKeeps', WHERE WHAT IT READS IS OF BULK AT MOST 1048576: true; the input reads as it did. -/
def cacheKeepsUptoRow : OpenClaim := { program := "ytnpkblidlmkagaa", sum := "a0f7fb80adb40a56025492675f26e3cf0d152d95e8796f6eab81001cac186344", func := "diapason/diapasonlaw15.CacheKeeps", spec := "cacheKeeps", inPlace := ["slices.overlaps[diapason/cache.Key]"], plainKeys := false, apart := false, narrowed := true }
def CacheKeepsUptoSaid : Prop := cacheKeepsUptoRow.holds Try.pinned (OpenSpec.upto cacheKeepsSpec)

/-- 'diapasonlaw15.CacheTwins', WHERE WHAT IT READS IS OF BULK AT MOST 1048576: true; the input reads as it did. -/
def cacheTwinsUptoRow : OpenClaim := { program := "ytnpkblidlmkagaa", sum := "a0f7fb80adb40a56025492675f26e3cf0d152d95e8796f6eab81001cac186344", func := "diapason/diapasonlaw15.CacheTwins", spec := "cacheTwins", inPlace := ["slices.overlaps[diapason/cache.Key]"], plainKeys := false, apart := false, narrowed := true }
def CacheTwinsUptoSaid : Prop := cacheTwinsUptoRow.holds Try.pinned (OpenSpec.upto cacheTwinsSpec)

end Rows
end Go.Proofs.Ytnpkblidlmkagaa
